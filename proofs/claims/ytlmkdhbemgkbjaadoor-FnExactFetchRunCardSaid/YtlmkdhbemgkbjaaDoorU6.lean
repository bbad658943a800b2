/-
  The nearest free cell's way; ClearGate.
-/
import Derived.Test.YtlmkdhbemgkbjaaDoorU4
import Derived.Test.YtlmkdhbemgkbjaaDoorU5
set_option linter.unusedVariables false
set_option linter.unusedSimpArgs false
set_option maxRecDepth 100000
namespace Go.Proofs.YtlmkdhbemgkbjaaDoor
open Go Go.RowKit Go.Park Go.Sym

/-- the best of the ways from the first k free cells -/
def nearS (h : PHall) (tgt but : Int) (free : List Int) : Nat → List Int
  | 0 => []
  | k+1 => if 0 < (wayF h (gi free k) tgt but).length ∧ ((nearS h tgt but free k).length = 0 ∨ (wayF h (gi free k) tgt but).length < (nearS h tgt but free k).length) then wayF h (gi free k) tgt but else nearS h tgt but free k
def nearF (h : PHall) (tgt but : Int) : List Int := nearS h tgt but (hallFreeF h) (hallFreeF h).length
theorem near_yes {h : PHall} {tgt but : Int} {free : List Int} {k : Nat} (h1 : 0 < (wayF h (gi free k) tgt but).length) (h2 : (nearS h tgt but free k).length = 0 ∨ (wayF h (gi free k) tgt but).length < (nearS h tgt but free k).length) : nearS h tgt but free (k+1) = wayF h (gi free k) tgt but := by
  simp only [nearS]; rw [if_pos ⟨h1, h2⟩]
theorem near_no {h : PHall} {tgt but : Int} {free : List Int} {k : Nat} (hn : ¬ (0 < (wayF h (gi free k) tgt but).length ∧ ((nearS h tgt but free k).length = 0 ∨ (wayF h (gi free k) tgt but).length < (nearS h tgt but free k).length))) : nearS h tgt but free (k+1) = nearS h tgt but free k := by
  simp only [nearS]; rw [if_neg hn]
theorem near_len (h : PHall) (tgt but : Int) (free : List Int) : ∀ k, (nearS h tgt but free k).length ≤ 12
  | 0 => by simp [nearS]
  | k+1 => by
    simp only [nearS]
    split
    · exact way_len _ _ _ _
    · exact near_len h tgt but free k
theorem free_len (h : PHall) : (hallFreeF h).length ≤ h.cells.length := by
  unfold hallFreeF
  split
  · exact selTo_length _ _
  · simp
/-! ClearGate -/
def clearF (h : PHall) : List (Int × Int) × Bool := if validB h = true ∧ 0 < (nearF h 0 (-1)).length then (holeF h (nearF h 0 (-1)), true) else ([], false)
theorem near_clear_len (h : PHall) (tgt but : Int) : (nearF h tgt but).length ≤ 12 := near_len _ _ _ _ _
theorem clearF_len (h : PHall) : (clearF h).1.length ≤ 12 := by
  unfold clearF
  split
  · exact Nat.le_trans holeF_len (near_clear_len _ _ _)
  · simp
theorem clearF_lim (h : PHall) : (clearF h).1.length ≤ lim := by
  have := clearF_len h
  have := lim_eq
  omega
theorem free_cell {h : PHall} {k : Nat} (hk : k < (hallFreeF h).length) : validB h = true ∧ 0 ≤ gi (hallFreeF h) k ∧ gi (hallFreeF h) k < h.cells.length ∧ gi h.cells (gi (hallFreeF h) k).toNat = 0 := by
  unfold hallFreeF at hk ⊢
  by_cases hv : validB h = true
  · rw [if_pos hv] at hk ⊢
    obtain ⟨j, h1, h2, h3⟩ := selTo_mem.1 (gi_mem hk)
    rw [h3]
    exact ⟨hv, by omega, by omega, by simpa using h2⟩
  · rw [if_neg hv] at hk; simp at hk
theorem near_pos {h : PHall} {k : Nat} (hk : k < (hallFreeF h).length) : 0 < (nearS h 0 (-1) (hallFreeF h) (k+1)).length := by
  obtain ⟨hv, h0, h1, _⟩ := free_cell hk
  have hw := (way_good (h := h) (a := gi (hallFreeF h) k) (b := 0) (but := -1) (wayOk_iff.2 ⟨hv, ⟨h0, h1⟩, ⟨by omega, by omega⟩, ⟨by omega, by omega⟩, by omega, by omega⟩)).pos
  simp only [nearS]
  split
  · exact hw
  · rename_i hn
    have : ¬ (nearS h 0 (-1) (hallFreeF h) k).length = 0 := fun e => hn ⟨hw, .inl e⟩
    omega
end Go.Proofs.YtlmkdhbemgkbjaaDoor
