/-
  HoleSlides on abstract values.
-/
import Derived.Test.YtlmkdhbemgkbjaaDoorP6
set_option linter.unusedVariables false
set_option linter.unusedSimpArgs false
set_option maxRecDepth 100000
namespace Go.Proofs.YtlmkdhbemgkbjaaDoor
open Go Go.RowKit Go.Park Go.Sym


end Go.Proofs.YtlmkdhbemgkbjaaDoor
