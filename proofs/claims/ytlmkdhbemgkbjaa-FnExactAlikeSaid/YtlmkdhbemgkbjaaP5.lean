/-
  The texts N2 Y Z Y2 K3 in one.
-/
import Derived.Test.YtlmkdhbemgkbjaaP3
import Derived.Test.YtlmkdhbemgkbjaaP4
import Derived.Maps.AppendAt
import Derived.BigRegion
import Derived.Deep.CutRange
import Derived.Deep.LoopGhost
import Derived.Deep.DrawnRows
section
/-
  Shortest ways: the walks over the steps.
-/
set_option linter.unusedVariables false
namespace Go.Proofs.Ytlmkdhbemgkbjaa
open Go Go.RowKit Go.Park

/-- two values that share no block -/
def Sep (u v : Value) : Prop := ∀ g, u.ownBlock = some g → v.ownBlock = some g → False
theorem Sep.symm {u v : Value} (h : Sep u v) : Sep v u := fun g a b => h g b a
theorem sep_ne {u v : Value} (h : Sep u v) : u.ownBlock = none ∨ u.ownBlock ≠ v.ownBlock := by
  cases hu : u.ownBlock with
  | none => exact .inl rfl
  | some g => right; intro e; exact h g hu e.symm
theorem OwnInts.keepS {lo : Nat} {w w' : World} {u v : Value} {l : List Int} (h : OwnInts lo w u l) (hg : w.grownBy w' v.ownBlock) (hs : Sep u v) : OwnInts lo w' u l := ⟨h.1, h.2.kept hg (sep_ne hs)⟩
theorem OwnInts.setS {lo : Nat} {w : World} {u : Value} {l : List Int} {g n c : Nat} (h : OwnInts lo w u l) (hs : Sep u (.slice (some ⟨g, 0, none⟩) n c)) (j : Nat) (x : Value) : OwnInts lo (w.setCell ⟨g, j, none⟩ x) u l :=
  h.keepS (v := .slice (some ⟨g, 0, none⟩) n c) (grown_set (g := g) (grown_refl w (some g)) j x) hs
theorem sep_new {w w' : World} {lo : Nat} {u v : Value} {l m : List Int} (hu : OwnInts lo w u l) (hv : OwnInts w.heap.size w' v m) : Sep u v := fun g a b => by
  have h1 := (hu.blk g a).2
  have h2 := (hv.blk g b).1
  omega
theorem sep_app {w : World} {lo : Nat} {u v v' : Value} {l : List Int} {o : Obj} (hu : OwnInts lo w u l) (hs : Sep u v) (hv : v'.ownBlock = v.ownBlock ∨ v'.ownBlock = some (w.alloc o).heap.size) : Sep u v' := fun g a b => by
  rcases hv with hv | hv
  · exact hs g a (by rw [← hv]; exact b)
  · have h1 := (hu.blk g a).2
    rw [b] at hv
    simp at hv
    omega
theorem ownInts_one (w : World) (x : Int) : OwnInts w.heap.size (w.alloc (.cells #[.int .i64 x] 3)) (.slice (some ⟨w.heap.size, 0, none⟩) 1 1) [x] :=
  ⟨by simp [lim], World.ownsRow_lit w #[.int .i64 x] 1 (Nat.le_refl _) (by unfold maxLen; omega) rfl⟩
theorem below_setS {B : Nat} {W w : World} {g : Nat} (h : Below B W w) (hg : B ≤ g) (j : Nat) (x : Value) : Below B W (w.setCell ⟨g, j, none⟩ x) := h.setCell (by exact hg) _

def Fill (L : List Int) (n k : Nat) : Prop := L.length = n ∧ ∀ j, j < k → gi L j = -1
theorem fill_set {L : List Int} {n k : Nat} (h : Fill L n k) (hk : k < n) : Fill (L.set k (-1)) n (k + 1) := by
  refine ⟨by simpa using h.1, fun j hj => ?_⟩
  rw [gi_upd (by rw [h.1]; exact hk)]
  split
  · rfl
  · exact h.2 j (by omega)
theorem fill_all {L : List Int} {n : Nat} (h : Fill L n n) : L = List.replicate n (-1) := by
  refine ext_gi (by rw [h.1]; simp) fun j hj => ?_
  rw [h.1] at hj
  rw [h.2 j hj, gi_replicate hj]

/-- what the inner rounds keep -/
structure Vis (h : PHall) (tgt but : Int) (k : Nat) (y d : Int) (st q : List Int) : Prop where
  bfs : Bfs h tgt but ((k : Int) + 1) st q
  lt : k < q.length
  at_ : gi q k = y
  dist : gi st y.toNat = d
theorem Vis.next {h : PHall} {tgt but : Int} {k : Nat} {y d x : Int} {st q : List Int} (v : Vis h tgt but k y d st q) (hd : d ≤ k) (hx : x ∈ besideF h y) (hb : x ≠ but) (hn : gi st x.toNat < 0) :
    Vis h tgt but k y d (st.set x.toNat (d + 1)) (q ++ [x]) := by
  have e := v.at_
  subst e
  obtain ⟨b2, e2⟩ := bfs_visit v.bfs v.lt v.dist (by omega) hx hb hn
  exact ⟨b2, by rw [List.length_append]; have := v.lt; omega, gi_append_left v.lt, e2⟩



end Go.Proofs.Ytlmkdhbemgkbjaa
end

section
/-
  WayCells.
-/
set_option linter.unusedVariables false
namespace Go.Proofs.Ytlmkdhbemgkbjaa
open Go Go.RowKit Go.Park

theorem wayGo_step {h : PHall} {st : List Int} {c y : Int} {m : Nat} (hd : downF h st c = some y) : wayGo h st (m + 1) c = y :: wayGo h st m y := by simp [wayGo, hd]
theorem way_bad {h : PHall} {a b but : Int} (hb : wayOk h a b but = false) : wayF h a b but = [] := by simp [wayF, hb]
theorem way_none {h : PHall} {a b but : Int} (hb : gi (stepsF h b but) a.toNat < 0) : wayF h a b but = [] := by
  unfold wayF; rw [if_neg]; intro e; have := e.2; omega
theorem way_some {h : PHall} {a b but : Int} (hok : wayOk h a b but = true) (hb : ¬ gi (stepsF h b but) a.toNat < 0) : wayF h a b but = a :: wayGo h (stepsF h b but) (gi (stepsF h b but) a.toNat).toNat a := by
  unfold wayF; rw [if_pos ⟨hok, by omega⟩]
/-- the way that has been gone and the way that is left -/
structure OnWay (h : PHall) (a b but : Int) (st : List Int) (m : Nat) (c : Int) (P : List Int) : Prop where
  cell : 0 ≤ c ∧ c < h.cells.length
  left : gi st c.toNat = m
  all : P ++ wayGo h st m c = wayF h a b but
  small : P.length + m ≤ 14
theorem onway_start {h : PHall} {a b but : Int} (hok : wayOk h a b but = true) (hb : ¬ gi (stepsF h b but) a.toNat < 0) (hs : gi (stepsF h b but) a.toNat ≤ 12) :
    OnWay h a b but (stepsF h b but) (gi (stepsF h b but) a.toNat).toNat a [a] :=
  ⟨(wayOk_iff.1 hok).2.1, by omega, by rw [way_some hok hb]; rfl, by simp; omega⟩
theorem onway_next {h : PHall} {a b but c y : Int} {st : List Int} {m : Nat} {P : List Int} (o : OnWay h a b but st (m + 1) c P) (hd : downF h st c = some y) (hy : 0 ≤ y ∧ y < h.cells.length) (hl : gi st y.toNat = gi st c.toNat - 1) :
    OnWay h a b but st m y (P ++ [y]) := by
  refine ⟨hy, by rw [hl, o.left]; omega, ?_, by rw [List.length_append]; have := o.small; simp; omega⟩
  rw [← o.all, wayGo_step hd, List.append_assoc]; rfl
theorem onway_end {h : PHall} {a b but c : Int} {st : List Int} {P : List Int} (o : OnWay h a b but st 0 c P) : P = wayF h a b but := by rw [← o.all]; simp [wayGo]





end Go.Proofs.Ytlmkdhbemgkbjaa
end

section
/-
  HoleSlides.
-/
set_option linter.unusedVariables false
set_option linter.unusedSimpArgs false
namespace Go.Proofs.Ytlmkdhbemgkbjaa
open Go Go.RowKit Go.Park
attribute [local go_sem ↓] Go.wp_at_zero Go.wp_at_succ

theorem takeD {P : Program} {md : Region.Mode} {ops : Array Oper} {Q : Exit → Act → World → Prop} {S : World → Prop} {fuel : Nat} {listed : Array Bool} {a : Act} {w : World} (i : Nat) {oi : Oper} (d : Option Tmp) (v : Value) (hi : ops[i]? = some oi) (hd : oi.dst = d)
    (hs : Region.noSelect ops = true) (hf : Region.free md ops listed i = true) (hr : (Region.ready md ops listed).contains i = true)
    (hQ : ∀ c a w, Q (.panic c) (a.put d v) w → Q (.panic c) a w) (hy : YieldsIf P ops S oi v a) (hS : S w)
    (h : wpAnyH P md ops Q S fuel (listed.setIfInBounds i true) (a.put d v) w) : wpAnyH P md ops Q S (fuel + 1) listed a w := by
  subst hd
  exact wpAnyH_take hi hs hf hr hQ hy hS h

theorem hole_bad {h : PHall} {way : List Int} (hb : holeOk h way = false) : holeF h way = [] := by simp [holeF, hb]
theorem hole_good {h : PHall} {way : List Int} (hb : holeOk h way = true) : holeF h way = (holeS h.cells way (way.length - 1)).1 := by simp [holeF, hb]
theorem holeOk_no {h : PHall} {way : List Int} (hb : validB h = false ∨ way = [] ∨ hasCellB h (gi way 0) = false ∨ gi h.cells (gi way 0).toNat ≠ 0 ∨ wayTo h way (way.length - 1) = false) : holeOk h way = false := by
  unfold holeOk
  rcases hb with h1 | h1 | h1 | h1 | h1 <;> simp [h1]
theorem gives_slides_mk {l : List (Int × Int)} {v u : Value} {w w' : World} (hv : u = v) (ho : OwnSlides w.heap.size w' v l) (hb : Below w.heap.size w w') : GivesSlides l w (.returned u) w' := ⟨v, by rw [hv], ho, hb⟩






end Go.Proofs.Ytlmkdhbemgkbjaa
end

section
/-
  WayCells of the reference.
-/
set_option linter.unusedVariables false
namespace Go.Proofs.Ytlmkdhbemgkbjaa
open Go Go.RowKit Go.Park




end Go.Proofs.Ytlmkdhbemgkbjaa
end

section
/-
  HallPut.
-/
set_option linter.unusedVariables false
namespace Go.Proofs.Ytlmkdhbemgkbjaa
open Go Go.RowKit Go.Park

def putH (h : PHall) (x : Nat) (id : Int) : PHall := ⟨h.wide, h.deep, h.cells.set x id⟩
def hallPutF (h : PHall) (c id : Int) : PHall × Bool :=
  if validB h = true then
    (if 1 ≤ id ∧ hasCellB h c = true ∧ gi h.cells c.toNat = 0 then (if validB (putH h c.toNat id) = true then (putH h c.toNat id, true) else (h, false)) else (h, false))
  else (zeroHall, false)



end Go.Proofs.Ytlmkdhbemgkbjaa
end
