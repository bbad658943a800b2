/-
  HoleSlides of the reference on abstract values.
-/
import Derived.Test.YtcjhlhikolaffaaDoorU1
set_option linter.unusedVariables false
set_option linter.unusedSimpArgs false
set_option maxRecDepth 100000
namespace Go.Proofs.YtcjhlhikolaffaaDoor
open Go Go.RowKit Go.Park Go.Sym

end Go.Proofs.YtcjhlhikolaffaaDoor
