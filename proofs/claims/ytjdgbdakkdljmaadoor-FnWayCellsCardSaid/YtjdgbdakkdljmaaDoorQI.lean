/-
  The contracts of further functions, as facts on abstract values.
-/
import Derived.Test.YtjdgbdakkdljmaaDoorQE
import Derived.Test.YtjdgbdakkdljmaaDoorI1
import Derived.Test.YtjdgbdakkdljmaaDoorJ
import Derived.Test.YtjdgbdakkdljmaaDoorP
set_option linter.unusedVariables false
set_option linter.unusedSimpArgs false
namespace Go.Proofs.YtjdgbdakkdljmaaDoor
open Go Go.RowKit Go.Park Go.Sym

theorem post_pair {w w' : World} {e : Ending} {a b : Value} (h : Gives (.tuple #[a, b]) w e w') : ∃ v bs, e = .returned v ∧ FnPost w w' (.tup [.v a, .v b]) v bs :=
  ⟨_, [], h.1, ⟨h.2, by simp, by simp, by
    simp only [relO, relOL]
    exact ⟨[a, b], rfl, a, [b], [], [], rfl, rfl, ⟨rfl, rfl⟩, b, [], [], [], rfl, rfl, ⟨rfl, rfl⟩, rfl, rfl⟩⟩⟩
theorem specHallEmpty_fn (x y : Int) : FnS Tryd.prog 72 [.int x, .int y] (hallV (hallEmptyF x y)) := by
  refine ⟨⟨_, Tryd.func72, by kernel_rfl, rfl⟩, fun w vs hp hx => ?_⟩
  simp only [relL, relV] at hx
  obtain ⟨v, _, rfl, rfl, u, _, rfl, rfl, rfl⟩ := hx
  exact (specHallEmpty_any w x y).mono fun e w' hg => post_hall hg
theorem hallTurn_fn (h : PHall) (hl : h.cells.length ≤ lim) : FnS Tryd.prog 25 [hallV h] (hallV (hallTurnF h)) := by
  refine ⟨⟨_, Tryd.func25, by kernel_rfl, rfl⟩, fun w vs hp hx => ?_⟩
  simp only [relL] at hx
  obtain ⟨v, _, rfl, h1, rfl⟩ := hx
  exact (hallTurn_any w v h (hall_of_rel h1 hl)).mono fun e w' hg => post_hall hg
theorem specHallTurn_fn (h : PHall) (hl : h.cells.length ≤ lim) : FnS Tryd.prog 27 [hallV h] (hallV (hallTurnF h)) := by
  refine ⟨⟨_, Tryd.func27, by kernel_rfl, rfl⟩, fun w vs hp hx => ?_⟩
  simp only [relL] at hx
  obtain ⟨v, _, rfl, h1, rfl⟩ := hx
  exact (specHallTurn_any w v h (hall_of_rel h1 hl)).mono fun e w' hg => post_hall hg
theorem slidesBack_fn (l : List (Int × Int)) (hl : l.length ≤ lim) : FnS Tryd.prog 40 [slcV l] (slcV (backF l)) := by
  refine ⟨⟨_, Tryd.func40, by kernel_rfl, rfl⟩, fun w vs hp hx => ?_⟩
  simp only [relL] at hx
  obtain ⟨v, _, rfl, h1, rfl⟩ := hx
  exact (slidesBack_any w v l (slides_of_rel h1 hl)).mono fun e w' hg => post_slc hg
theorem slidesAll_fn (h : PHall) (hl : h.cells.length ≤ lim) : FnS Tryd.prog 29 [hallV h] (slcV (slidesAllF h)) := by
  refine ⟨⟨_, Tryd.func29, by kernel_rfl, rfl⟩, fun w vs hp hx => ?_⟩
  simp only [relL] at hx
  obtain ⟨v, _, rfl, h1, rfl⟩ := hx
  exact (slidesAll_any w v h (hall_of_rel h1 hl)).mono fun e w' hg => post_slc hg
theorem specSlidesAll_fn (h : PHall) (hl : h.cells.length ≤ lim) : FnS Tryd.prog 33 [hallV h] (slcV (slidesAllF h)) := by
  refine ⟨⟨_, Tryd.func33, by kernel_rfl, rfl⟩, fun w vs hp hx => ?_⟩
  simp only [relL] at hx
  obtain ⟨v, _, rfl, h1, rfl⟩ := hx
  exact (specSlidesAll_any w v h (hall_of_rel h1 hl)).mono fun e w' hg => post_slc hg
theorem parityOf_fn (h : PHall) (hl : h.cells.length ≤ lim) : FnS Tryd.prog 42 [hallV h] (.int (parityF h)) := by
  refine ⟨⟨_, Tryd.func42, by kernel_rfl, rfl⟩, fun w vs hp hx => ?_⟩
  simp only [relL] at hx
  obtain ⟨v, _, rfl, h1, rfl⟩ := hx
  exact (parityOf_any w v h (hall_of_rel h1 hl)).mono fun e w' hg => post_v hg
theorem specParityOf_fn (h : PHall) (hl : h.cells.length ≤ lim) : FnS Tryd.prog 43 [hallV h] (.int (parityF h)) := by
  refine ⟨⟨_, Tryd.func43, by kernel_rfl, rfl⟩, fun w vs hp hx => ?_⟩
  simp only [relL] at hx
  obtain ⟨v, _, rfl, h1, rfl⟩ := hx
  exact (specParityOf_any w v h (hall_of_rel h1 hl)).mono fun e w' hg => post_v hg
theorem hallText_fn (h : PHall) (hl : h.cells.length ≤ lim) : FnS Tryd.prog 54 [hallV h] (.str (textF h)) := by
  refine ⟨⟨_, Tryd.func54, by kernel_rfl, rfl⟩, fun w vs hp hx => ?_⟩
  simp only [relL] at hx
  obtain ⟨v, _, rfl, h1, rfl⟩ := hx
  exact (hallText_any w v h (hall_of_rel h1 hl)).mono fun e w' hg => post_v hg
end Go.Proofs.YtjdgbdakkdljmaaDoor
