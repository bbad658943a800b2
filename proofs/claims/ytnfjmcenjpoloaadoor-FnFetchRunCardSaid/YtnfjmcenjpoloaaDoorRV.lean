/-
  What is laid in this seat, as the search asks for it.
-/
import Derived.Test.YtnfjmcenjpoloaaDoorRT
import Derived.Test.YtnfjmcenjpoloaaDoorRow3
set_option linter.unusedVariables false
set_option maxRecDepth 100000
namespace Go.Proofs.YtnfjmcenjpoloaaDoor
open Go Go.RowKit Go.Park Go.Sym Go.Graph
open Go.ChangeShapes Go.WideShapes Go.ChangeAt
theorem tab_laid {W : World} (h : laidMetH Tryd.prog laidL W) : TabW 3 bruijn W := by
  rw [MakeChecks.laidMetH_plain _ _ _ (by kernel_rfl)] at h
  exact tab_of_laid h
end Go.Proofs.YtnfjmcenjpoloaaDoor
