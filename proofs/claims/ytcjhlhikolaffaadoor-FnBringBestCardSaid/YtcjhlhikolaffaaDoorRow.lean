/-
  How a law's arguments are opened: what comes in as data is read as halls, slides and numbers.
-/
import Derived.Test.YtcjhlhikolaffaaDoorRows
import Derived.Test.YtcjhlhikolaffaaDoorA
import Derived.ProofKit
import Derived.OpenShut
import Derived.ChangeOld
import Derived.Lib.SmallJoins
set_option linter.unusedVariables false
set_option maxRecDepth 100000
namespace Go.Proofs.YtcjhlhikolaffaaDoor
open Go Go.RowKit Go.Park
open Go.ChangeShapes Go.WideShapes Go.ChangeAt

theorem Tryd.own : ownKnob Tryd.prog.godebug = none := by kernel_rfl
theorem Tryd.laidOut : laidOutB Tryd.prog = true := by kernel_rfl
section
variable {H : Type} {enc : TypeId × Value → H} {W : World} {base : Nat} {spare : Nat → Bool} {held : Bool}

theorem lt_of_trod {t : TypeId} {v : Value} {d : DataW H} {p : List MemPlace} (k0 : DataW.Trod enc Tryd.prog W 0 spare held t v d p) : ∀ x ∈ p, x.block < W.heap.size := by
  obtain ⟨m, hm⟩ := k0
  exact DataW.trod_lt m _ _ _ hm
end

end Go.Proofs.YtcjhlhikolaffaaDoor
