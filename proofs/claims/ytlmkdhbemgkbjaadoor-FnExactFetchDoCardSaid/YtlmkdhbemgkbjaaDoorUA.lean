/-
  BringPlan of the reference and of the program.
-/
import Derived.Test.YtlmkdhbemgkbjaaDoorU9
import Derived.Test.YtlmkdhbemgkbjaaDoorU8
set_option linter.unusedVariables false
set_option linter.unusedSimpArgs false
set_option maxRecDepth 100000
namespace Go.Proofs.YtlmkdhbemgkbjaaDoor
open Go Go.RowKit Go.Park Go.Sym

theorem find_ok {h : PHall} {id : Int} (hf : ¬ hallFindF h id < 0) : validB h = true ∧ 1 ≤ id ∧ hallFindF h id < h.cells.length ∧ gi h.cells (hallFindF h id).toNat = id := by
  unfold hallFindF at hf ⊢
  by_cases hc : validB h = true ∧ 1 ≤ id
  · rw [if_pos hc] at hf ⊢
    have key : ∀ n, idxTo h.cells id n ≠ -1 → 0 ≤ idxTo h.cells id n ∧ idxTo h.cells id n < n ∧ gi h.cells (idxTo h.cells id n).toNat = id := by
      intro n
      induction n with
      | zero => intro h; simp [idxTo] at h
      | succ n ih =>
        intro hn
        by_cases h1 : idxTo h.cells id n = -1
        · by_cases h2 : gi h.cells n = id
          · have : idxTo h.cells id (n+1) = n := by simp [idxTo, h1, h2]
            rw [this]
            exact ⟨by omega, by omega, by simpa using h2⟩
          · exact absurd (idxTo_no h1 h2) hn
        · have : idxTo h.cells id (n+1) = idxTo h.cells id n := by simp [idxTo, h1]
          rw [this]
          obtain ⟨a, b, c⟩ := ih h1
          exact ⟨a, by omega, c⟩
    obtain ⟨a, b, c⟩ := key h.cells.length (by omega)
    exact ⟨hc.1, hc.2, b, c⟩
  · rw [if_neg hc] at hf; omega
theorem planned_start {h : PHall} {id : Int} (hf : ¬ hallFindF h id < 0) (hfr : 0 < hallFindF h id → hallFreeF h ≠ []) : Planned h (hallFindF h id) 12 h (hallFindF h id) [] := by
  obtain ⟨hv, h1, h2, h3⟩ := find_ok hf
  have := (valid_len hv).2
  exact ⟨hv, rfl, rfl, rfl, by omega, by omega, by omega, h2, fun _ => by rw [h3]; omega, hfr, rfl, by simp⟩
theorem run_step {h : PHall} {a : Int} (hv : validB h = true) (hS : StepOk h a) : slideRunF h (stepL h a) = (stS h (stepL h a) (stepL h a).length, ((stepL h a).length : Int)) := slideRun_done hv (by have := hS.short; omega) hS.done
theorem bringPlan_len (h : PHall) (id : Int) : (bringPlanF h id).1.length ≤ lim := by
  unfold bringPlanF
  split
  · simp
  · rename_i hn
    have hf : ¬ hallFindF h id < 0 := fun e => hn (.inl e)
    obtain ⟨hv, h1, h2, h3⟩ := find_ok hf
    have := plan_len 12 h (hallFindF h id) hv h2 (fun _ => by rw [h3]; omega) (fun h0 e => hn (.inr ⟨h0, e⟩))
    have := lim_eq
    show (planG 12 h (hallFindF h id)).length ≤ lim
    omega
end Go.Proofs.YtlmkdhbemgkbjaaDoor
