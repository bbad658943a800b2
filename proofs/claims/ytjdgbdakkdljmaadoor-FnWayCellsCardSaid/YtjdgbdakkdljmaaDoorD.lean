/-
  spec.HallFind, CellAt, CellPlace.
-/
import Derived.Test.YtjdgbdakkdljmaaDoorC
set_option linter.unusedVariables false
namespace Go.Proofs.YtjdgbdakkdljmaaDoor
open Go Go.RowKit Go.Park

/-- what a hall's validity comes to, as contracts of both functions -/
theorem valid_calls {h : PHall} {b : Bool} (hb : validB h = b) : ∀ (w' : World) (v : Value), HallAt w' v h → Calls Tryd.prog 21 #[v] w' (Gives (.bool b) w') := fun w' v hh => by rw [← hb]; exact hallValid_any w' _ h hh
theorem specValid_calls {h : PHall} {b : Bool} (hb : validB h = b) : ∀ (w' : World) (v : Value), HallAt w' v h → Calls Tryd.prog 28 #[v] w' (Gives (.bool b) w') := fun w' v hh => by rw [← hb]; exact specHallValid_any w' _ h hh
theorem valid_size {h : PHall} (hb : validB h = true) : (2 ≤ h.wide ∧ h.wide ≤ 4) ∧ (2 ≤ h.deep ∧ h.deep ≤ 3) ∧ (h.cells.length : Int) = h.wide * h.deep := by
  simp only [validB, Bool.and_eq_true] at hb
  exact sizeB_true.1 hb.1
theorem valid_len {h : PHall} (hb : validB h = true) : 4 ≤ h.cells.length ∧ h.cells.length ≤ 12 := by
  obtain ⟨⟨a, b⟩, ⟨c, d⟩, e⟩ := valid_size hb
  have h1 : h.wide * h.deep ≤ 4 * 3 := Int.mul_le_mul b d (by omega) (by omega)
  have h2 : 2 * 2 ≤ h.wide * h.deep := Int.mul_le_mul a c (by omega) (by omega)
  omega
theorem valid_mul {h : PHall} (hb : validB h = true) : 4 ≤ h.wide * h.deep ∧ h.wide * h.deep ≤ 12 := by
  have h1 := valid_len hb
  have h2 := (valid_size hb).2.2
  omega


def cellAtF (h : PHall) (c r : Int) : Int := if validB h = true ∧ 0 ≤ c ∧ c < h.wide ∧ 0 ≤ r ∧ r < h.deep then r * h.wide + c else -1

theorem row_small {x r c : Int} (h1 : 2 ≤ x ∧ x ≤ 4) (h2 : 0 ≤ r ∧ r ≤ 3) (h3 : 0 ≤ c ∧ c ≤ 4) : 0 ≤ r * x ∧ r * x ≤ 12 ∧ 0 ≤ r * x + c ∧ r * x + c ≤ 16 := by
  have e1 : 0 ≤ r * x := Int.mul_nonneg (by omega) (by omega)
  have e2 : r * x ≤ 3 * 4 := Int.mul_le_mul h2.2 h1.2 (by omega) (by omega)
  omega



end Go.Proofs.YtjdgbdakkdljmaaDoor
