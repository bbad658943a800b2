/-
  HoleSlides of the reference on abstract values.
-/
import Derived.Test.YtlmkdhbemgkbjaaDoorU1
set_option linter.unusedVariables false
set_option linter.unusedSimpArgs false
set_option maxRecDepth 100000
namespace Go.Proofs.YtlmkdhbemgkbjaaDoor
open Go Go.RowKit Go.Park Go.Sym

theorem hasCell_in {h : PHall} {c : Int} : hasCellB h c = inR c 0 ((h.cells.length : Int) - 1) := rfl

def wayB (h : PHall) (way : List Int) : Bool := wayTo h way (way.length - 1) && (validB h && (decide (way ≠ []) && hasCellB h (gi way 0)))
end Go.Proofs.YtlmkdhbemgkbjaaDoor
