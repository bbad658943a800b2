/-
  WayCells of the reference.
-/
import Derived.Test.YtmkdafgcggpahaaDoorY
set_option linter.unusedVariables false
namespace Go.Proofs.YtmkdafgcggpahaaDoor
open Go Go.RowKit Go.Park




end Go.Proofs.YtmkdafgcggpahaaDoor
