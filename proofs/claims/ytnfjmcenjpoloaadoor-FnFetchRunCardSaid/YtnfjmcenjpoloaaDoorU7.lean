/-
  StoreDo and StoreRun.
-/
import Derived.Test.YtnfjmcenjpoloaaDoorU6
set_option linter.unusedVariables false
set_option linter.unusedSimpArgs false
set_option maxRecDepth 100000
namespace Go.Proofs.YtnfjmcenjpoloaaDoor
open Go Go.RowKit Go.Park Go.Sym

theorem gs_left {l m : List (Int × Int)} {j : Nat} (h : j < l.length) : gs (l ++ m) j = gs l j := by
  unfold gs
  simp [List.getD, List.getElem?_append_left h]
theorem gs_end {l : List (Int × Int)} {s : Int × Int} : gs (l ++ [s]) l.length = s := by simp [gs, List.getD]
theorem stS_left {h : PHall} {l m : List (Int × Int)} : ∀ {j : Nat}, j ≤ l.length → stS h (l ++ m) j = stS h l j
  | 0, _ => rfl
  | j+1, hj => by
    simp only [stS]
    rw [stS_left (j := j) (by omega), gs_left (by omega)]
theorem done_snoc {h : PHall} {l : List (Int × Int)} {s : Int × Int} (hd : doneS h l l.length) (hs : (slideDoF (stS h l l.length) s.1 s.2).2 = true) : doneS h (l ++ [s]) (l ++ [s]).length := by
  intro j hj
  simp at hj
  by_cases e : j = l.length
  · subst e; rw [stS_left (Nat.le_refl _), gs_end]; exact hs
  · rw [stS_left (by omega), gs_left (by omega)]; exact hd j (by omega)
theorem hole_run {h : PHall} {way : List Int} (ho : holeOk h way = true) : ∀ k, k < way.length → doneS h (holeS h.cells way k).1 (holeS h.cells way k).1.length ∧ stS h (holeS h.cells way k).1 (holeS h.cells way k).1.length = ⟨h.wide, h.deep, (holeS h.cells way k).2⟩
  | 0, _ => ⟨fun j hj => by simp [holeS] at hj, rfl⟩
  | k+1, hk => by
    obtain ⟨h1, h2⟩ := hole_run ho k (by omega)
    have hs := hole_slide ho hk
    by_cases hz : gi (holeS h.cells way k).2 (gi way (k+1)).toNat = 0
    · rw [holeS_no hz]; exact ⟨h1, h2⟩
    · have hs2 := hs
      rw [holeS_yes hz] at hs ⊢
      dsimp only at hs ⊢
      have ht : (slideDoF (stS h (holeS h.cells way k).1 (holeS h.cells way k).1.length) (gi way (k+1)) (gi way k)).2 = true := by rw [h2, hs]; simp [hz]
      refine ⟨done_snoc h1 ht, ?_⟩
      rw [List.length_append]
      show (slideDoF (stS h (_ ++ [_]) (holeS h.cells way k).1.length) _ _).1 = _
      rw [stS_left (Nat.le_refl _), gs_end, h2, hs]
theorem slideRun_done {h : PHall} {l : List (Int × Int)} (hv : validB h = true) (hl : l.length ≤ 60) (hd : doneS h l l.length) : slideRunF h l = (stS h l l.length, (l.length : Int)) := by
  unfold slideRunF
  rw [if_pos ⟨hv, hl⟩, runF_end hd]
end Go.Proofs.YtnfjmcenjpoloaaDoor
