/-
  Closed facts of this seat's cards: which main its program has; that nothing looks.
-/
import Derived.Test.YtcjhlhikolaffaaDoorCards
set_option maxRecDepth 100000
namespace Go.Proofs.YtcjhlhikolaffaaDoor
open Go
def mainIsB : Bool × String := (true, "c97014f68e76c9bee1cf1c060a80fa87c7108b1da98671c5a888dc0ca14298e4")
theorem mainFact : Tryd.pinned.checked.prog.mainIs = some (mainIsB.1, mainIsB.2.toList) := by kernel_rfl
theorem noLooks : false = Tryd.pinned.checked.prog.looks [] := by kernel_rfl
end Go.Proofs.YtcjhlhikolaffaaDoor
