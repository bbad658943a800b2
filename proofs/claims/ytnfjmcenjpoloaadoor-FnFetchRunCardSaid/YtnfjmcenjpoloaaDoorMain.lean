/-
  Closed facts of this seat's cards: which main its program has; that nothing looks.
-/
import Derived.Test.YtnfjmcenjpoloaaDoorCards
set_option maxRecDepth 100000
namespace Go.Proofs.YtnfjmcenjpoloaaDoor
open Go
def mainIsB : Bool × String := (true, "3432a7440a8016e197d95d06dfac8f9bd625ae5cb5e069beaab4a105a3843320")
theorem mainFact : Tryd.pinned.checked.prog.mainIs = some (mainIsB.1, mainIsB.2.toList) := by kernel_rfl
theorem noLooks : false = Tryd.pinned.checked.prog.looks [] := by kernel_rfl
end Go.Proofs.YtnfjmcenjpoloaaDoor
