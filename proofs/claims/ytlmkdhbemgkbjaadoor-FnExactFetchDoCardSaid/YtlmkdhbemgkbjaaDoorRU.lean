/-
  What is laid in this seat.
-/
import Derived.Test.YtlmkdhbemgkbjaaDoorRT
set_option linter.unusedVariables false
set_option maxRecDepth 100000
namespace Go.Proofs.YtlmkdhbemgkbjaaDoor
open Go Go.RowKit Go.Park Go.Sym Go.Graph
open Go.ChangeShapes Go.WideShapes Go.ChangeAt
abbrev laidL : List (String × DataW Unit) := [("math/bits.deBruijn32tab", Rows.laid_math_bits_deBruijn32tab), ("math/bits.deBruijn64tab", Rows.laid_math_bits_deBruijn64tab)]
theorem door_met (os : Os) (args : Array Value) : laidMetH Tryd.prog laidL ((World.doorLaid Tryd.prog 400 os).forCall (fun _ _ => 0) ⟨#[], args, []⟩).memory :=
  laidMetH_of_parts (laidMet_of_run' 8 (by kernel_rfl) (by kernel_rfl)) (by kernel_rfl)
theorem tab_laid {W : World} (h : laidMetH Tryd.prog laidL W) : TabW 3 bruijn W := by
  rw [MakeChecks.laidMetH_plain _ _ _ (by kernel_rfl)] at h
  exact tab_of_laid h
end Go.Proofs.YtlmkdhbemgkbjaaDoor
