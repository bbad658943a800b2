/-
  The contracts of further functions, as facts on abstract values.
-/
import Derived.Test.YtmkdafgcggpahaaDoorQE
import Derived.Test.YtmkdafgcggpahaaDoorI1
import Derived.Test.YtmkdafgcggpahaaDoorJ
import Derived.Test.YtmkdafgcggpahaaDoorP
set_option linter.unusedVariables false
set_option linter.unusedSimpArgs false
namespace Go.Proofs.YtmkdafgcggpahaaDoor
open Go Go.RowKit Go.Park Go.Sym

theorem post_pair {w w' : World} {e : Ending} {a b : Value} (h : Gives (.tuple #[a, b]) w e w') : ∃ v bs, e = .returned v ∧ FnPost w w' (.tup [.v a, .v b]) v bs :=
  ⟨_, [], h.1, ⟨h.2, by simp, by simp, by
    simp only [relO, relOL]
    exact ⟨[a, b], rfl, a, [b], [], [], rfl, rfl, ⟨rfl, rfl⟩, b, [], [], [], rfl, rfl, ⟨rfl, rfl⟩, rfl, rfl⟩⟩⟩
theorem cellAt_fn (h : PHall) (hl : h.cells.length ≤ lim) (c r : Int) : FnS Tryd.prog 20 [hallV h, .int c, .int r] (.int (cellAtF h c r)) := by
  refine ⟨⟨_, Tryd.func20, by kernel_rfl, rfl⟩, fun w vs hp hx => ?_⟩
  simp only [relL, relV] at hx
  obtain ⟨v, _, rfl, h1, u, _, rfl, rfl, u2, _, rfl, rfl, rfl⟩ := hx
  exact (cellAt_any w v h c r (hall_of_rel (by simp only [relV, relL]; exact h1) hl)).mono fun e w' hg => post_v hg
theorem specCellAt_fn (h : PHall) (hl : h.cells.length ≤ lim) (c r : Int) : FnS Tryd.prog 21 [hallV h, .int c, .int r] (.int (cellAtF h c r)) := by
  refine ⟨⟨_, Tryd.func21, by kernel_rfl, rfl⟩, fun w vs hp hx => ?_⟩
  simp only [relL, relV] at hx
  obtain ⟨v, _, rfl, h1, u, _, rfl, rfl, u2, _, rfl, rfl, rfl⟩ := hx
  exact (specCellAt_any w v h c r (hall_of_rel (by simp only [relV, relL]; exact h1) hl)).mono fun e w' hg => post_v hg
theorem cellPlace_fn (h : PHall) (hl : h.cells.length ≤ lim) (c : Int) : FnS Tryd.prog 22 [hallV h, .int c] (.tup [.int (placeF h c).1, .int (placeF h c).2]) := by
  refine ⟨⟨_, Tryd.func22, by kernel_rfl, rfl⟩, fun w vs hp hx => ?_⟩
  simp only [relL, relV] at hx
  obtain ⟨v, _, rfl, h1, u, _, rfl, rfl, rfl⟩ := hx
  exact (cellPlace_any w v h c (hall_of_rel (by simp only [relV, relL]; exact h1) hl)).mono fun e w' hg => post_pair hg
theorem specCellPlace_fn (h : PHall) (hl : h.cells.length ≤ lim) (c : Int) : FnS Tryd.prog 24 [hallV h, .int c] (.tup [.int (placeF h c).1, .int (placeF h c).2]) := by
  refine ⟨⟨_, Tryd.func24, by kernel_rfl, rfl⟩, fun w vs hp hx => ?_⟩
  simp only [relL, relV] at hx
  obtain ⟨v, _, rfl, h1, u, _, rfl, rfl, rfl⟩ := hx
  exact (specCellPlace_any w v h c (hall_of_rel (by simp only [relV, relL]; exact h1) hl)).mono fun e w' hg => post_pair hg
theorem hallEmpty_fn (x y : Int) : FnS Tryd.prog 55 [.int x, .int y] (hallV (hallEmptyF x y)) := by
  refine ⟨⟨_, Tryd.func55, by kernel_rfl, rfl⟩, fun w vs hp hx => ?_⟩
  simp only [relL, relV] at hx
  obtain ⟨v, _, rfl, rfl, u, _, rfl, rfl, rfl⟩ := hx
  exact (hallEmpty_any w x y).mono fun e w' hg => post_hall hg
theorem specHallEmpty_fn (x y : Int) : FnS Tryd.prog 56 [.int x, .int y] (hallV (hallEmptyF x y)) := by
  refine ⟨⟨_, Tryd.func56, by kernel_rfl, rfl⟩, fun w vs hp hx => ?_⟩
  simp only [relL, relV] at hx
  obtain ⟨v, _, rfl, rfl, u, _, rfl, rfl, rfl⟩ := hx
  exact (specHallEmpty_any w x y).mono fun e w' hg => post_hall hg
theorem hallTake_fn (h : PHall) (hl : h.cells.length ≤ lim) (c : Int) : FnS Tryd.prog 43 [hallV h, .int c] (.tup [hallV (hallTakeF h c).1, .int (hallTakeF h c).2]) := by
  refine ⟨⟨_, Tryd.func43, by kernel_rfl, rfl⟩, fun w vs hp hx => ?_⟩
  simp only [relL, relV] at hx
  obtain ⟨v, _, rfl, h1, u, _, rfl, rfl, rfl⟩ := hx
  exact (hallTake_any w v h c (hall_of_rel (by simp only [relV, relL]; exact h1) hl)).mono fun e w' hg => post_hv hg
theorem specHallTake_fn (h : PHall) (hl : h.cells.length ≤ lim) (c : Int) : FnS Tryd.prog 44 [hallV h, .int c] (.tup [hallV (hallTakeF h c).1, .int (hallTakeF h c).2]) := by
  refine ⟨⟨_, Tryd.func44, by kernel_rfl, rfl⟩, fun w vs hp hx => ?_⟩
  simp only [relL, relV] at hx
  obtain ⟨v, _, rfl, h1, u, _, rfl, rfl, rfl⟩ := hx
  exact (specHallTake_any w v h c (hall_of_rel (by simp only [relV, relL]; exact h1) hl)).mono fun e w' hg => post_hv hg
theorem slidesBack_fn (l : List (Int × Int)) (hl : l.length ≤ lim) : FnS Tryd.prog 33 [slcV l] (slcV (backF l)) := by
  refine ⟨⟨_, Tryd.func33, by kernel_rfl, rfl⟩, fun w vs hp hx => ?_⟩
  simp only [relL] at hx
  obtain ⟨v, _, rfl, h1, rfl⟩ := hx
  exact (slidesBack_any w v l (slides_of_rel h1 hl)).mono fun e w' hg => post_slc hg
theorem specSlidesBack_fn (l : List (Int × Int)) (hl : l.length ≤ lim) : FnS Tryd.prog 35 [slcV l] (slcV (backF l)) := by
  refine ⟨⟨_, Tryd.func35, by kernel_rfl, rfl⟩, fun w vs hp hx => ?_⟩
  simp only [relL] at hx
  obtain ⟨v, _, rfl, h1, rfl⟩ := hx
  exact (specSlidesBack_any w v l (slides_of_rel h1 hl)).mono fun e w' hg => post_slc hg
theorem slidesAll_fn (h : PHall) (hl : h.cells.length ≤ lim) : FnS Tryd.prog 31 [hallV h] (slcV (slidesAllF h)) := by
  refine ⟨⟨_, Tryd.func31, by kernel_rfl, rfl⟩, fun w vs hp hx => ?_⟩
  simp only [relL] at hx
  obtain ⟨v, _, rfl, h1, rfl⟩ := hx
  exact (slidesAll_any w v h (hall_of_rel h1 hl)).mono fun e w' hg => post_slc hg
theorem specSlidesAll_fn (h : PHall) (hl : h.cells.length ≤ lim) : FnS Tryd.prog 69 [hallV h] (slcV (slidesAllF h)) := by
  refine ⟨⟨_, Tryd.func69, by kernel_rfl, rfl⟩, fun w vs hp hx => ?_⟩
  simp only [relL] at hx
  obtain ⟨v, _, rfl, h1, rfl⟩ := hx
  exact (specSlidesAll_any w v h (hall_of_rel h1 hl)).mono fun e w' hg => post_slc hg
theorem hallText_fn (h : PHall) (hl : h.cells.length ≤ lim) : FnS Tryd.prog 63 [hallV h] (.str (textF h)) := by
  refine ⟨⟨_, Tryd.func63, by kernel_rfl, rfl⟩, fun w vs hp hx => ?_⟩
  simp only [relL] at hx
  obtain ⟨v, _, rfl, h1, rfl⟩ := hx
  exact (hallText_any w v h (hall_of_rel h1 hl)).mono fun e w' hg => post_v hg
end Go.Proofs.YtmkdafgcggpahaaDoor
