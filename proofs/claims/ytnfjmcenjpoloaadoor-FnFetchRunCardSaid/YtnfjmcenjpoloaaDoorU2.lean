/-
  HoleSlides of the reference on abstract values.
-/
import Derived.Test.YtnfjmcenjpoloaaDoorU1
set_option linter.unusedVariables false
set_option linter.unusedSimpArgs false
set_option maxRecDepth 100000
namespace Go.Proofs.YtnfjmcenjpoloaaDoor
open Go Go.RowKit Go.Park Go.Sym

end Go.Proofs.YtnfjmcenjpoloaaDoor
