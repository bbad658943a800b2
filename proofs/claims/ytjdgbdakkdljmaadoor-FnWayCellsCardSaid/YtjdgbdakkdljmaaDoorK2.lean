/-
  HallTake.
-/
import Derived.Test.YtjdgbdakkdljmaaDoorK
import Derived.BigRegion
set_option linter.unusedVariables false
namespace Go.Proofs.YtjdgbdakkdljmaaDoor
open Go Go.RowKit Go.Park

/-- a call returns a hall of its own and a value -/
def GivesHallV (h : PHall) (x : Value) (w : World) (e : Ending) (w' : World) : Prop :=
  ∃ cv, e = .returned (.tuple #[.agg #[.int .i64 h.wide, .int .i64 h.deep, cv], x]) ∧ OwnInts w.heap.size w' cv h.cells ∧ Below w.heap.size w w'
def zeroHall : PHall := ⟨0, 0, []⟩
def hallTakeF (h : PHall) (c : Int) : PHall × Int :=
  if validB h = true then (if hasCellB h c = true then (⟨h.wide, h.deep, h.cells.set c.toNat 0⟩, gi h.cells c.toNat) else (h, 0)) else (zeroHall, 0)
theorem valid_ne {h : PHall} (hv : validB h = true) : h.cells ≠ [] := by
  have := (valid_len hv).1
  intro e
  rw [e] at this
  simp at this


theorem hasCell_gives {h : PHall} {c : Int} {r : Bool} (hr : hasCellB h c = r) : ∀ w' : World, Calls Tryd.prog 73 #[.int .i64 c, .int .i64 0, .int .i64 ((h.cells.length : Int) - 1)] w' (Gives (.bool r) w') := fun w' => tells_gives (l1In_has hr w')


end Go.Proofs.YtjdgbdakkdljmaaDoor
