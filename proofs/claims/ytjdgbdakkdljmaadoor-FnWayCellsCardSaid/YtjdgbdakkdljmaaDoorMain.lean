/-
  Closed facts of this seat's cards: which main its program has; that nothing looks.
-/
import Derived.Test.YtjdgbdakkdljmaaDoorCards
set_option maxRecDepth 100000
namespace Go.Proofs.YtjdgbdakkdljmaaDoor
open Go
def mainIsB : Bool × String := (true, "95bd73474bbfca7220134a5bcb344c632dd53cc0a5fc55e53307baf8364cf53d")
theorem mainFact : Tryd.pinned.checked.prog.mainIs = some (mainIsB.1, mainIsB.2.toList) := by kernel_rfl
theorem noLooks : false = Tryd.pinned.checked.prog.looks [] := by kernel_rfl
end Go.Proofs.YtjdgbdakkdljmaaDoor
