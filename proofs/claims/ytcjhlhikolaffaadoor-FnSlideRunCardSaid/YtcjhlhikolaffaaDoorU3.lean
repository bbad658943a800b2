/-
  HoleSlides in the old tongue.
-/
import Derived.Test.YtcjhlhikolaffaaDoorU2
import Derived.Test.YtcjhlhikolaffaaDoorRow
set_option linter.unusedVariables false
namespace Go.Proofs.YtcjhlhikolaffaaDoor
open Go Go.RowKit Go.Park Go.Sym
theorem rawInts_at {w : World} {v : Value} {l : List Int} (hr : RawInts w v l) (hl : l.length ≤ lim) : IntsAt w v l := by
  obtain ⟨ao, c, rfl, h1, h2, h3⟩ := hr
  exact ⟨_, _, rfl, hl, ⟨h1, h2⟩, h3⟩
theorem holeF_len {h : PHall} {way : List Int} : (holeF h way).length ≤ way.length := by
  unfold holeF
  split
  · rename_i ho
    have hne := (hole_ok ho).2.1
    have : 0 < way.length := List.length_pos_iff.2 hne
    have := (hole_all ho (way.length - 1) (by omega)).many
    omega
  · simp
theorem holeSlides_any (w : World) (v vw : Value) (h : PHall) (way : List Int) (hv : HallAt w v h) (hw : IntsAt w vw way) :
    Calls Tryd.prog 85 #[v, vw] w (GivesSlides (holeF h way) w) := by
  have hl : h.cells.length ≤ lim := by obtain ⟨_, _, _, _, _, h1, _⟩ := hv; exact h1
  have hl2 : way.length ≤ lim := by obtain ⟨_, _, _, h1, _⟩ := hw; exact h1
  exact ((holeSlides_fn h hl way hl2).2 w [v, vw] (by simp only [pureL]; exact ⟨pure_hall h, pure_ints way, trivial⟩) (by simp only [relL]; exact ⟨v, _, rfl, rel_of_hall hv, vw, _, rfl, rel_of_at hw, rfl⟩)).mono fun e w' hh => gives_slc_of (Nat.le_trans holeF_len hl2) hh
theorem specHoleSlides_any (w : World) (v vw : Value) (h : PHall) (way : List Int) (hv : HallAt w v h) (hw : IntsAt w vw way) :
    Calls Tryd.prog 87 #[v, vw] w (GivesSlides (holeF h way) w) := by
  have hl : h.cells.length ≤ lim := by obtain ⟨_, _, _, _, _, h1, _⟩ := hv; exact h1
  have hl2 : way.length ≤ lim := by obtain ⟨_, _, _, h1, _⟩ := hw; exact h1
  exact ((specHoleSlides_fn h hl way hl2).2 w [v, vw] (by simp only [pureL]; exact ⟨pure_hall h, pure_ints way, trivial⟩) (by simp only [relL]; exact ⟨v, _, rfl, rel_of_hall hv, vw, _, rfl, rel_of_at hw, rfl⟩)).mono fun e w' hh => gives_slc_of (Nat.le_trans holeF_len hl2) hh
end Go.Proofs.YtcjhlhikolaffaaDoor
