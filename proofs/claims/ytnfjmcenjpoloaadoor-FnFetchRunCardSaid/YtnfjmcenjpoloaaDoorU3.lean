/-
  HoleSlides in the old tongue.
-/
import Derived.Test.YtnfjmcenjpoloaaDoorU2
import Derived.Test.YtnfjmcenjpoloaaDoorRow
set_option linter.unusedVariables false
namespace Go.Proofs.YtnfjmcenjpoloaaDoor
open Go Go.RowKit Go.Park Go.Sym
theorem holeF_len {h : PHall} {way : List Int} : (holeF h way).length ≤ way.length := by
  unfold holeF
  split
  · rename_i ho
    have hne := (hole_ok ho).2.1
    have : 0 < way.length := List.length_pos_iff.2 hne
    have := (hole_all ho (way.length - 1) (by omega)).many
    omega
  · simp
end Go.Proofs.YtnfjmcenjpoloaaDoor
