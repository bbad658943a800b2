/-
  Closed facts of this seat's cards: which main its program has; that nothing looks.
-/
import Derived.Test.YtmkdafgcggpahaaDoorCards
set_option maxRecDepth 100000
namespace Go.Proofs.YtmkdafgcggpahaaDoor
open Go
def mainIsB : Bool × String := (true, "183c6039e94343597abad65a678dfe7ab664f20e51fdc3ab499f890404975da0")
theorem mainFact : Tryd.pinned.checked.prog.mainIs = some (mainIsB.1, mainIsB.2.toList) := by kernel_rfl
theorem noLooks : false = Tryd.pinned.checked.prog.looks [] := by kernel_rfl
end Go.Proofs.YtmkdafgcggpahaaDoor
