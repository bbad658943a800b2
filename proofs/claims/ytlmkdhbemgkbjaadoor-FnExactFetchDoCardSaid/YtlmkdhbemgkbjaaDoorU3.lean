/-
  HoleSlides in the old tongue.
-/
import Derived.Test.YtlmkdhbemgkbjaaDoorU2
import Derived.Test.YtlmkdhbemgkbjaaDoorRow
set_option linter.unusedVariables false
namespace Go.Proofs.YtlmkdhbemgkbjaaDoor
open Go Go.RowKit Go.Park Go.Sym
theorem rawInts_at {w : World} {v : Value} {l : List Int} (hr : RawInts w v l) (hl : l.length ≤ lim) : IntsAt w v l := by
  obtain ⟨ao, c, rfl, h1, h2, h3⟩ := hr
  exact ⟨_, _, rfl, hl, ⟨h1, h2⟩, h3⟩
theorem holeF_len {h : PHall} {way : List Int} : (holeF h way).length ≤ way.length := by
  unfold holeF
  split
  · rename_i ho
    have hne := (hole_ok ho).2.1
    have : 0 < way.length := List.length_pos_iff.2 hne
    have := (hole_all ho (way.length - 1) (by omega)).many
    omega
  · simp
end Go.Proofs.YtlmkdhbemgkbjaaDoor
