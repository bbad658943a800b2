/-
  The nearest free cell's way; ClearGate.
-/
import Derived.Test.YtnfjmcenjpoloaaDoorU4
import Derived.Test.YtnfjmcenjpoloaaDoorU5
set_option linter.unusedVariables false
set_option linter.unusedSimpArgs false
set_option maxRecDepth 100000
namespace Go.Proofs.YtnfjmcenjpoloaaDoor
open Go Go.RowKit Go.Park Go.Sym

/-- the best of the ways from the first k free cells -/
def nearS (h : PHall) (tgt but : Int) (free : List Int) : Nat → List Int
  | 0 => []
  | k+1 => if 0 < (wayF h (gi free k) tgt but).length ∧ ((nearS h tgt but free k).length = 0 ∨ (wayF h (gi free k) tgt but).length < (nearS h tgt but free k).length) then wayF h (gi free k) tgt but else nearS h tgt but free k
def nearF (h : PHall) (tgt but : Int) : List Int := nearS h tgt but (hallFreeF h) (hallFreeF h).length
theorem near_yes {h : PHall} {tgt but : Int} {free : List Int} {k : Nat} (h1 : 0 < (wayF h (gi free k) tgt but).length) (h2 : (nearS h tgt but free k).length = 0 ∨ (wayF h (gi free k) tgt but).length < (nearS h tgt but free k).length) : nearS h tgt but free (k+1) = wayF h (gi free k) tgt but := by
  simp only [nearS]; rw [if_pos ⟨h1, h2⟩]
theorem near_no {h : PHall} {tgt but : Int} {free : List Int} {k : Nat} (hn : ¬ (0 < (wayF h (gi free k) tgt but).length ∧ ((nearS h tgt but free k).length = 0 ∨ (wayF h (gi free k) tgt but).length < (nearS h tgt but free k).length))) : nearS h tgt but free (k+1) = nearS h tgt but free k := by
  simp only [nearS]; rw [if_neg hn]
theorem near_len (h : PHall) (tgt but : Int) (free : List Int) : ∀ k, (nearS h tgt but free k).length ≤ 12
  | 0 => by simp [nearS]
  | k+1 => by
    simp only [nearS]
    split
    · exact way_len _ _ _ _
    · exact near_len h tgt but free k
theorem free_len (h : PHall) : (hallFreeF h).length ≤ h.cells.length := by
  unfold hallFreeF
  split
  · exact selTo_length _ _
  · simp
/-! ClearGate -/
theorem near_clear_len (h : PHall) (tgt but : Int) : (nearF h tgt but).length ≤ 12 := near_len _ _ _ _ _
theorem free_cell {h : PHall} {k : Nat} (hk : k < (hallFreeF h).length) : validB h = true ∧ 0 ≤ gi (hallFreeF h) k ∧ gi (hallFreeF h) k < h.cells.length ∧ gi h.cells (gi (hallFreeF h) k).toNat = 0 := by
  unfold hallFreeF at hk ⊢
  by_cases hv : validB h = true
  · rw [if_pos hv] at hk ⊢
    obtain ⟨j, h1, h2, h3⟩ := selTo_mem.1 (gi_mem hk)
    rw [h3]
    exact ⟨hv, by omega, by omega, by simpa using h2⟩
  · rw [if_neg hv] at hk; simp at hk
end Go.Proofs.YtnfjmcenjpoloaaDoor
