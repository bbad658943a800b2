/-
  Slices of slides in memory, and the laws' helpers for them.
-/
import Derived.Test.YtjdgbdakkdljmaaDoorA
import Derived.Deep.RegionHeld3
import Derived.Deep.AppendLies
import Derived.Deep.DeepMust
set_option linter.unusedVariables false
namespace Go.Proofs.YtjdgbdakkdljmaaDoor
open Go Go.RowKit Go.Park

def gs (l : List (Int × Int)) (j : Nat) : Int × Int := l.getD j (0, 0)
theorem gs_of_lt {l : List (Int × Int)} {j : Nat} (h : j < l.length) : l[j]? = some (gs l j) := by simp [gs, List.getD, h]
theorem gs_get {l : List (Int × Int)} {j : Nat} (h : j < l.length) : gs l j = l[j] := by simp [gs, List.getD, h]
theorem ext_gs {l m : List (Int × Int)} (hl : l.length = m.length) (h : ∀ j, j < l.length → gs l j = gs m j) : l = m := by
  apply List.ext_getElem hl
  intro i h1 h2
  rw [← gs_get h1, ← gs_get h2]; exact h i h1

/-- the cells of slides -/
def flat : List (Int × Int) → List Value
  | [] => []
  | s :: l => .int .i64 s.1 :: .int .i64 s.2 :: flat l
theorem flat_length (l : List (Int × Int)) : (flat l).length = l.length * 2 := by
  induction l with
  | nil => rfl
  | cons s l ih => simp [flat, ih]; omega
theorem flat_append (l m : List (Int × Int)) : flat (l ++ m) = flat l ++ flat m := by
  induction l with
  | nil => rfl
  | cons s l ih => simp [flat, ih]
theorem flat_get (l : List (Int × Int)) : ∀ j, j < l.length → (flat l)[j * 2]? = some (.int .i64 (gs l j).1) ∧ (flat l)[j * 2 + 1]? = some (.int .i64 (gs l j).2) := by
  induction l with
  | nil => intro j hj; simp at hj
  | cons s l ih =>
    intro j hj
    cases j with
    | zero => simp [flat, gs]
    | succ j =>
      have h := ih j (by simpa using hj)
      have e1 : (j + 1) * 2 = j * 2 + 1 + 1 := by omega
      have e2 : gs (s :: l) (j + 1) = gs l j := by simp [gs, List.getD]
      rw [e1, e2]
      simpa [flat] using h

theorem flat_ext' {l : List (Int × Int)} {cur : List Value} (hs : cur.length = l.length * 2) (h : ∀ j, j < l.length → cur[j * 2]? = some (.int .i64 (gs l j).1) ∧ cur[j * 2 + 1]? = some (.int .i64 (gs l j).2)) : cur = flat l := by
  apply List.ext_getElem?
  intro i
  by_cases hi : i < l.length * 2
  · have h1 := h (i / 2) (by omega)
    have h2 := flat_get l (i / 2) (by omega)
    by_cases e : i % 2 = 0
    · rw [show i = i / 2 * 2 from by omega, h1.1, h2.1]
    · rw [show i = i / 2 * 2 + 1 from by omega, h1.2, h2.2]
  · rw [List.getElem?_eq_none (by omega), List.getElem?_eq_none (by rw [flat_length]; omega)]

/-- from an address (or nil) on lie these slides -/
def SCellsAt (w : World) (ao : Option Addr) (n : Nat) (f : Nat → Int × Int) : Prop :=
  ∀ j, j < n → ∃ b off, ao = some ⟨b, off, none⟩ ∧ w.cell? ⟨b, off + j * 2, none⟩ = some (.int .i64 (f j).1) ∧ w.cell? ⟨b, off + j * 2 + 1, none⟩ = some (.int .i64 (f j).2)
def SlidesAt (w : World) (v : Value) (l : List (Int × Int)) : Prop :=
  ∃ ao c, v = .slice ao l.length c ∧ l.length ≤ lim ∧ (l.length ≤ c ∧ c ≤ maxLen) ∧ SCellsAt w ao l.length (gs l)
theorem SCellsAt.keep {w w' : World} {ao : Option Addr} {n : Nat} {f : Nat → Int × Int} (h : SCellsAt w ao n f) (hb : Below w.heap.size w w') : SCellsAt w' ao n f := by
  intro j hj
  obtain ⟨b, off, e, h1, h2⟩ := h j hj
  exact ⟨b, off, e, by rw [hb.cell (by exact cell_lt h1)]; exact h1, by rw [hb.cell (by exact cell_lt h2)]; exact h2⟩
theorem SlidesAt.keep {w w' : World} {v : Value} {l : List (Int × Int)} (h : SlidesAt w v l) (hb : Below w.heap.size w w') : SlidesAt w' v l := by
  obtain ⟨ao, c, e, hn, hm, hc⟩ := h
  exact ⟨ao, c, e, hn, hm, hc.keep hb⟩
def RawSlides (w : World) (v : Value) (l : List (Int × Int)) : Prop := ∃ ao c, v = .slice ao l.length c ∧ l.length ≤ c ∧ c ≤ maxLen ∧ SCellsAt w ao l.length (gs l)
theorem rawSlides_at {w : World} {v : Value} {l : List (Int × Int)} (hr : RawSlides w v l) (hl : l.length ≤ lim) : SlidesAt w v l := by
  obtain ⟨ao, c, rfl, h1, h2, h3⟩ := hr
  exact ⟨_, _, rfl, hl, ⟨h1, h2⟩, h3⟩

/-- slides of the call's own -/
def OwnSlides (lo : Nat) (w : World) (v : Value) (l : List (Int × Int)) : Prop := l.length ≤ lim ∧ w.ownsRow lo 40 2 v l.length (flat l)
theorem OwnSlides.at {lo : Nat} {w : World} {v : Value} {l : List (Int × Int)} (h : OwnSlides lo w v l) : SlidesAt w v l := by
  obtain ⟨hl, ho⟩ := h
  have ho2 := ho.2
  rcases ho2 with ⟨rfl, h0⟩ | ⟨g, cap, cur, rfl, hb, hg, hnc, hcm, hcs, htake⟩
  · refine ⟨none, 0, by rw [h0], hl, by rw [h0]; simp, fun j hj => by omega⟩
  · refine ⟨_, cap, rfl, hl, ⟨hnc, hcm⟩, fun j hj => ⟨g, 0, rfl, ?_, ?_⟩⟩
    · rw [Nat.zero_add, ho.cellAt _ (by omega), (flat_get l j hj).1]
    · rw [Nat.zero_add, ho.cellAt _ (by omega), (flat_get l j hj).2]
theorem OwnSlides.keep {lo : Nat} {w w' : World} {v : Value} {l : List (Int × Int)} (h : OwnSlides lo w v l) (hb : Below w.heap.size w w') : OwnSlides lo w' v l := ⟨h.1, own_keep h.2 hb⟩
theorem OwnSlides.base {lo lo' : Nat} {w : World} {v : Value} {l : List (Int × Int)} (h : OwnSlides lo w v l) (hl : lo' ≤ lo) : OwnSlides lo' w v l := ⟨h.1, own_base h.2 hl⟩
theorem OwnSlides.blk {lo : Nat} {w : World} {v : Value} {l : List (Int × Int)} (h : OwnSlides lo w v l) : Blk v lo w.heap.size := blk_of_own h.2
theorem OwnSlides.keepG {lo lo1 hi1 lo2 hi2 : Nat} {w w' : World} {u v : Value} {l : List (Int × Int)} (h : OwnSlides lo w v l) (hg : w.grownBy w' u.ownBlock) (hu : Blk u lo1 hi1) (hv : Blk v lo2 hi2) (hd : hi1 ≤ lo2 ∨ hi2 ≤ lo1) : OwnSlides lo w' v l :=
  ⟨h.1, own_keepG h.2 hg hu hv hd⟩
theorem OwnSlides.slice {lo : Nat} {w : World} {v : Value} {l : List (Int × Int)} (h : OwnSlides lo w v l) : ∃ ao c, v = .slice ao l.length c := by
  obtain ⟨ao, c, e, _⟩ := h.at
  exact ⟨ao, c, e⟩

/-! toSlide, eqSlide -/



end Go.Proofs.YtjdgbdakkdljmaaDoor
