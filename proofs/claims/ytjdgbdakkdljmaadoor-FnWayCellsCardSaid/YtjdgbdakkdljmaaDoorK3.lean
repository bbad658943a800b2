/-
  HallPut.
-/
import Derived.Test.YtjdgbdakkdljmaaDoorK2
set_option linter.unusedVariables false
namespace Go.Proofs.YtjdgbdakkdljmaaDoor
open Go Go.RowKit Go.Park

def putH (h : PHall) (x : Nat) (id : Int) : PHall := ⟨h.wide, h.deep, h.cells.set x id⟩
def hallPutF (h : PHall) (c id : Int) : PHall × Bool :=
  if validB h = true then
    (if 1 ≤ id ∧ hasCellB h c = true ∧ gi h.cells c.toNat = 0 then (if validB (putH h c.toNat id) = true then (putH h c.toNat id, true) else (h, false)) else (h, false))
  else (zeroHall, false)



end Go.Proofs.YtjdgbdakkdljmaaDoor
