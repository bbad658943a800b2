/-
  SlidesAll.
-/
import Derived.Test.YtjkogihfdnjdhaaH
import Derived.Test.YtjkogihfdnjdhaaK
import Derived.Deep.AppendLies
import Derived.Test.YtjkogihfdnjdhaaB
import Derived.Maps.AppendAt
set_option linter.unusedVariables false
namespace Go.Proofs.Ytjkogihfdnjdhaa
open Go Go.RowKit Go.Park

def mayRow (h : PHall) (k m : Nat) : List (Int × Int) := (selTo (fun j => slideMayB h k j) m).map (fun x => ((k : Int), x))
def mayTo (h : PHall) : Nat → List (Int × Int)
  | 0 => []
  | k+1 => mayTo h k ++ mayRow h k h.cells.length
def slidesAllF (h : PHall) : List (Int × Int) := mayTo h h.cells.length

theorem mayRow_len (h : PHall) (k m : Nat) : (mayRow h k m).length ≤ m := by
  unfold mayRow; rw [List.length_map]; exact selTo_length _ _
theorem mayRow_yes {h : PHall} {k j : Nat} (e : slideMayB h k j = true) : mayRow h k (j + 1) = mayRow h k j ++ [((k : Int), (j : Int))] := by
  unfold mayRow
  rw [selTo_yes (p := fun j => slideMayB h k j) (k := j) e, List.map_append]
  rfl
theorem mayRow_no {h : PHall} {k j : Nat} (e : slideMayB h k j = false) : mayRow h k (j + 1) = mayRow h k j := by
  unfold mayRow
  rw [selTo_no (p := fun j => slideMayB h k j) (k := j) e]
theorem mayRow_bad {h : PHall} (hv : validB h = false) (k m : Nat) : mayRow h k m = [] := by
  unfold mayRow
  rw [selTo_none (fun j _ => by simp [slideMayB, hv])]
  rfl
theorem mayTo_bad {h : PHall} (hv : validB h = false) (k : Nat) : mayTo h k = [] := by
  induction k with
  | zero => rfl
  | succ k ih => simp [mayTo, ih, mayRow_bad hv]
theorem mayTo_len (h : PHall) (k : Nat) : (mayTo h k).length ≤ h.cells.length * k := by
  induction k with
  | zero => simp [mayTo]
  | succ k ih =>
    have := mayRow_len h k h.cells.length
    simp only [mayTo, List.length_append, Nat.mul_add, Nat.mul_one]
    omega
theorem may_small (h : PHall) (k j : Nat) (hk : k ≤ h.cells.length) (hj : j ≤ h.cells.length) : (mayTo h k ++ mayRow h k j).length ≤ 200 := by
  cases hv : validB h
  · rw [mayTo_bad hv, mayRow_bad hv]; simp
  · have h1 := (valid_len hv).2
    have h2 := mayTo_len h k
    have h3 := mayRow_len h k j
    have h4 : h.cells.length * k ≤ 12 * 12 := Nat.mul_le_mul h1 (by omega)
    rw [List.length_append]
    omega
theorem below_app2 {B : Nat} {W wr w1 : World} {v : Value} {o : Obj} (hb : Below B W wr) (hl : B ≤ wr.heap.size) (ho : Blk v B wr.heap.size) (hg : (wr.alloc o).grownBy w1 v.ownBlock) : Below B W w1 :=
  below_app hb hl ho hg


/-! impl.SlidesAll goes over the cells beside -/
def beRow (h : PHall) (k : Nat) (B : List Int) (t : Nat) : List (Int × Int) := ((B.take t).filter (fun x => slideMayB h k x)).map (fun x => ((k : Int), x))
theorem beRow_yes {h : PHall} {k t : Nat} {B : List Int} (ht : t < B.length) (e : slideMayB h k (gi B t) = true) : beRow h k B (t + 1) = beRow h k B t ++ [((k : Int), gi B t)] := by
  unfold beRow
  rw [List.take_add_one, List.filter_append, List.map_append, gi_of_lt ht]
  simp [e]
theorem beRow_no {h : PHall} {k t : Nat} {B : List Int} (ht : t < B.length) (e : slideMayB h k (gi B t) = false) : beRow h k B (t + 1) = beRow h k B t := by
  unfold beRow
  rw [List.take_add_one, List.filter_append, List.map_append, gi_of_lt ht]
  simp [e]
theorem sel_filter (p : Nat → Bool) (f : Int → Bool) (n : Nat) : (selTo p n).filter f = selTo (fun j => p j && f j) n := by
  induction n with
  | zero => rfl
  | succ n ih =>
    simp only [selTo]
    by_cases hp : p n = true <;> by_cases hf : f (n : Int) = true <;> simp [hp, hf, List.filter_append, ih]
theorem beRow_all (h : PHall) (k : Nat) : beRow h k (besideF h k) (besideF h k).length = mayRow h k h.cells.length := by
  unfold beRow mayRow
  rw [List.take_length]
  by_cases hv : validB h = true ∧ hasCellB h k = true
  · simp only [besideF, if_pos hv]
    rw [sel_filter]
    congr 1
    refine selTo_congr fun j _ => ?_
    cases hm : slideMayB h k j
    · simp
    · simp only [slideMayB, Bool.and_eq_true, decide_eq_true_eq] at hm
      simp [hm.2.2.2.2.2]
  · simp only [besideF, if_neg hv]
    rw [selTo_none]
    · rfl
    · intro j _
      cases hm : slideMayB h k j
      · rfl
      · simp only [slideMayB, Bool.and_eq_true] at hm
        exact absurd ⟨hm.1, hm.2.1⟩ hv
theorem be_small (h : PHall) (k t : Nat) (hk : k ≤ h.cells.length) : (mayTo h k ++ beRow h k (besideF h k) t).length ≤ 200 := by
  cases hv : validB h
  · rw [mayTo_bad hv]; simp [besideF, hv, beRow]
  · have h1 := (valid_len hv).2
    have h2 := mayTo_len h k
    have h3 : (besideF h k).length ≤ h.cells.length := by
      unfold besideF; split
      · exact selTo_length _ _
      · simp
    have h4 : h.cells.length * k ≤ 12 * 12 := Nat.mul_le_mul h1 (by omega)
    have h5 : (beRow h k (besideF h k) t).length ≤ (besideF h k).length := by
      unfold beRow
      rw [List.length_map]
      refine Nat.le_trans (List.length_filter_le _ _) ?_
      rw [List.length_take]; omega
    rw [List.length_append]
    omega
def ApartRow (wr : World) (q : Value) (ao : Option Addr) (B : List Int) : Prop :=
  ∀ t, t < B.length → ∃ g, ao = some ⟨g, 0, none⟩ ∧ wr.cell? ⟨g, t, none⟩ = some (.int .i64 (gi B t)) ∧ q.ownBlock ≠ some g
theorem ApartRow.keep {wr wa : World} {q : Value} {ao : Option Addr} {B : List Int} (h : ApartRow wr q ao B) (hb : Below wr.heap.size wr wa) : ApartRow wa q ao B := by
  intro t ht
  obtain ⟨g, e, h1, h2⟩ := h t ht
  exact ⟨g, e, (hb.cell (p := ⟨g, t, none⟩) (cell_lt h1)).trans h1, h2⟩
theorem ApartRow.app {wa w2 : World} {q v' : Value} {ao : Option Addr} {B : List Int} {o : Obj} (h : ApartRow wa q ao B)
    (hg : (wa.alloc o).grownBy w2 q.ownBlock) (hv : v'.ownBlock = q.ownBlock ∨ v'.ownBlock = some (wa.alloc o).heap.size) : ApartRow w2 v' ao B := by
  intro t ht
  obtain ⟨g, e, h1, h2⟩ := (h.keep (below_new wa o)) t ht
  refine ⟨g, e, ?_, ?_⟩
  · rw [hg.cell_far _ (cell_lt h1) (Ne.symm h2)]; exact h1
  · rcases hv with hv | hv
    · rw [hv]; exact h2
    · rw [hv]; intro e2
      have := cell_lt h1
      simp only [Option.some.injEq] at e2
      simp only at this
      omega
theorem apartRow_of {w0 w1 : World} {q : Value} {ao : Option Addr} {c : Nat} {lo : Nat} {B : List Int} (h : OwnInts w0.heap.size w1 (.slice ao B.length c) B) (hq : Blk q lo w0.heap.size) : ApartRow w1 q ao B := by
  intro t ht
  obtain ⟨g, cap, e, h1, h2⟩ := h.head (by intro hb; rw [hb] at ht; simp at ht)
  cases e
  refine ⟨g, rfl, own_cell h ht, ?_⟩
  intro hh
  have := (hq g hh).2
  omega
theorem ownSlides_nil (lo : Nat) (w : World) : OwnSlides lo w (.slice none 0 0) [] := ⟨by simp [lim], World.ownsRow_nil _ _ _ _⟩


end Go.Proofs.Ytjkogihfdnjdhaa
