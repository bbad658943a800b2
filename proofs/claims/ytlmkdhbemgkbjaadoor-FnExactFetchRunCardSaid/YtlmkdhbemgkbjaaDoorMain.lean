/-
  Closed facts of this seat's cards: which main its program has; that nothing looks.
-/
import Derived.Test.YtlmkdhbemgkbjaaDoorCards
set_option maxRecDepth 100000
namespace Go.Proofs.YtlmkdhbemgkbjaaDoor
open Go
def mainIsB : Bool × String := (true, "ede278acf37601a815d1dd2ed8e206bede28397bcc2fa90bb3a58a38c4c41be1")
theorem mainFact : Tryd.pinned.checked.prog.mainIs = some (mainIsB.1, mainIsB.2.toList) := by kernel_rfl
theorem noLooks : false = Tryd.pinned.checked.prog.looks [] := by kernel_rfl
end Go.Proofs.YtlmkdhbemgkbjaaDoor
