/-
  Fetching.
-/
import Derived.Test.YtnfjmcenjpoloaaDoorRG
set_option linter.unusedVariables false
set_option linter.unusedSimpArgs false
set_option maxRecDepth 100000
namespace Go.Proofs.YtnfjmcenjpoloaaDoor
open Go Go.RowKit Go.Park Go.Sym Go.Graph

theorem fetchF_yes {h : PHall} {id : Int} (hv : validB h = true) (hb : (bestF h id).2 = true) : fetchF h id = (⟨(stS h (bestF h id).1 (bestF h id).1.length).wide, (stS h (bestF h id).1 (bestF h id).1.length).deep, (stS h (bestF h id).1 (bestF h id).1.length).cells.set 0 0⟩, ((bestF h id).1.length : Int)) ∧ validB (stS h (bestF h id).1 (bestF h id).1.length) = true ∧ (stS h (bestF h id).1 (bestF h id).1.length).cells.length = h.cells.length ∧ hallTakeF (stS h (bestF h id).1 (bestF h id).1.length) 0 = (⟨(stS h (bestF h id).1 (bestF h id).1.length).wide, (stS h (bestF h id).1 (bestF h id).1.length).deep, (stS h (bestF h id).1 (bestF h id).1.length).cells.set 0 0⟩, gi (stS h (bestF h id).1 (bestF h id).1.length).cells 0) := by
  obtain ⟨s1, s2, _⟩ := stS_ok (l := (bestF h id).1) hv (bestF h id).1.length
  have h4 := (valid_len s1).1
  have ht : hallTakeF (stS h (bestF h id).1 (bestF h id).1.length) 0 = (⟨(stS h (bestF h id).1 (bestF h id).1.length).wide, (stS h (bestF h id).1 (bestF h id).1.length).deep, (stS h (bestF h id).1 (bestF h id).1.length).cells.set 0 0⟩, gi (stS h (bestF h id).1 (bestF h id).1.length).cells 0) := by
    unfold hallTakeF
    rw [if_pos s1, if_pos (hasCell_iff.2 (by omega))]; rfl
  refine ⟨?_, s1, s2, ht⟩
  unfold fetchF
  rw [if_pos hv, if_pos hb, ht]
theorem fetch_bound (h : PHall) (id : Int) : (fetchF h id).2 ≤ 60 ∧ -1 ≤ (fetchF h id).2 := by
  have := best_len h id
  unfold fetchF
  split
  · split
    · show (((bestF h id).1.length : Nat) : Int) ≤ 60 ∧ -1 ≤ (((bestF h id).1.length : Nat) : Int); omega
    · show (-1 : Int) ≤ 60 ∧ (-1 : Int) ≤ -1; omega
  · show (-1 : Int) ≤ 60 ∧ (-1 : Int) ≤ -1; omega
set_option maxHeartbeats 2000000 in
theorem fetchDo_fn (h : PHall) (hl : h.cells.length ≤ lim) (id : Int) : FnG Tryd.prog 3 bruijn 20 [hallV h, .int id] (.tup [hallV (fetchF h id).1, .int (fetchF h id).2]) := by
  have hl' : h.cells.length ≤ 1073741824 := hl
  have hbl := best_len h id
  refine fng_go2 tabOk Tryd.func20 rfl (by kernel_rfl) Tryd.ntmps20 Tryd.results20 (by decide) ?_
  repeat first | refine Ua ?_ | refine Ub ?_ | refine Uc ?_ | refine Ud ?_ | refine Ue ?_ | refine Ug ⟨by kernel_rfl, ?_⟩ | refine Ug ?_ | refine Uh ?_ | refine Ui ?_ | refine Uj ?_ | refine Uk rfl ?_ | refine Ul rfl ?_ | refine Um ?_ | refine Un ?_ | refine Uo ?_ | refine Up rfl ?_ | refine Uq ?_ | refine Ur ?_ | refine Us ?_ | refine Ut ?_ | refine Uu ?_ | refine Ux ?_ | refine Uv rfl rfl rfl rfl ?_ | refine Uw rfl rfl rfl ?_ | refine U0 (by first | (apply st_call (hfn := hallValid_fn h hl ); exact rfl; exact fz) | exact z0 | fail) ?_ | refine U1 z1 ?_ | refine U9 zs ?_
  refine ax_cond rfl (fun hb => ?_) (fun hb => ?_)
  · have hF : fetchF h id = (zeroHall, -1) := by simp at hb; simp [fetchF, hb]
    rw [hF]
    repeat first | refine Ua ?_ | refine Ub ?_ | refine Uc ?_ | refine Ud ?_ | refine Ue ?_ | refine Ug ⟨by kernel_rfl, ?_⟩ | refine Ug ?_ | refine Uh ?_ | refine Ui ?_ | refine Uj ?_ | refine Uk rfl ?_ | refine Ul rfl ?_ | refine Um ?_ | refine Un ?_ | refine Uo ?_ | refine Up rfl ?_ | refine Uq ?_ | refine Ur ?_ | refine Us ?_ | refine Ut ?_ | refine Uu ?_ | refine Ux ?_ | refine Uv rfl rfl rfl rfl ?_ | refine Uw rfl rfl rfl ?_ | refine U0 z0 ?_ | refine U1 z1 ?_ | refine U9 zs ?_
    exact ⟨.inl rfl, Rx⟩
  have hv : validB h = true := by simpa using hb
  repeat first | refine Ua ?_ | refine Ub ?_ | refine Uc ?_ | refine Ud ?_ | refine Ue ?_ | refine Ug ⟨by kernel_rfl, ?_⟩ | refine Ug ?_ | refine Uh ?_ | refine Ui ?_ | refine Uj ?_ | refine Uk rfl ?_ | refine Ul rfl ?_ | refine Um ?_ | refine Un ?_ | refine Uo ?_ | refine Up rfl ?_ | refine Uq ?_ | refine Ur ?_ | refine Us ?_ | refine Ut ?_ | refine Uu ?_ | refine Ux ?_ | refine Uv rfl rfl rfl rfl ?_ | refine Uw rfl rfl rfl ?_ | refine U0 z0 ?_ | refine U1 (by first | (apply st_callg_sv (hfn := bringBest_fn h hl id ); exact rfl; exact fz; iterate 3 exact rfl) | exact z1 | fail) ?_ | refine U9 zs ?_
  refine ax_cond rfl (fun hb1 => ?_) (fun hb1 => ?_)
  · have hF : fetchF h id = (h, -1) := by simp at hb1; simp [fetchF, hv, hb1]
    rw [hF]
    repeat first | refine Ua ?_ | refine Ub ?_ | refine Uc ?_ | refine Ud ?_ | refine Ue ?_ | refine Ug ⟨by kernel_rfl, ?_⟩ | refine Ug ?_ | refine Uh ?_ | refine Ui ?_ | refine Uj ?_ | refine Uk rfl ?_ | refine Ul rfl ?_ | refine Um ?_ | refine Un ?_ | refine Uo ?_ | refine Up rfl ?_ | refine Uq ?_ | refine Ur ?_ | refine Us ?_ | refine Ut ?_ | refine Uu ?_ | refine Ux ?_ | refine Uv rfl rfl rfl rfl ?_ | refine Uw rfl rfl rfl ?_ | refine U0 z0 ?_ | refine U1 (by first | (apply st_call_h (hfn := copyHall_fn h hl (valid_ne hv) ); exact rfl; exact fz; iterate 2 exact rfl) | exact z1 | fail) ?_ | refine U9 zs ?_
    exact ⟨.inl rfl, Rx⟩
  have hc2 : (bestF h id).2 = true := by simpa using hb1
  obtain ⟨hF, s1, s2, _⟩ := fetchF_yes hv hc2
  have h4 := (valid_len s1).1
  rw [hF]
  repeat first | refine Ua ?_ | refine Ub ?_ | refine Uc ?_ | refine Ud ?_ | refine Ue ?_ | refine Ug ⟨by kernel_rfl, ?_⟩ | refine Ug ?_ | refine Uh ?_ | refine Ui ?_ | refine Uj ?_ | refine Uk rfl ?_ | refine Ul rfl ?_ | refine Um ?_ | refine Un ?_ | refine Uo ?_ | refine Up rfl ?_ | refine Uq ?_ | refine Ur ?_ | refine Us ?_ | refine Ut ?_ | refine Uu ?_ | refine Ux ?_ | refine Uv rfl rfl rfl rfl ?_ | refine Uw rfl rfl rfl ?_ | refine U0 z0 ?_ | refine U1 (by first | (apply st_call_h (hfn := doAll_fn h hl hv (bestF h id).1 (by have := lim_eq; omega) ); exact rfl; exact fz; iterate 2 exact rfl) | exact z1 | fail) ?_ | refine U9 zs ?_
  exact ⟨.inl rfl, Rx⟩
set_option maxHeartbeats 2000000 in
theorem specFetchDo_fn (h : PHall) (hl : h.cells.length ≤ lim) (id : Int) : FnS Tryd.prog 21 [hallV h, .int id] (.tup [hallV (fetchF h id).1, .int (fetchF h id).2]) := by
  have hl' : h.cells.length ≤ 1073741824 := hl
  have hbl := best_len h id
  refine fn_go2 tabOk Tryd.func21 rfl (by kernel_rfl) Tryd.ntmps21 Tryd.results21 (by decide) ?_
  repeat first | refine Ua ?_ | refine Ub ?_ | refine Uc ?_ | refine Ud ?_ | refine Ue ?_ | refine Ug ⟨by kernel_rfl, ?_⟩ | refine Ug ?_ | refine Uh ?_ | refine Ui ?_ | refine Uj ?_ | refine Uk rfl ?_ | refine Ul rfl ?_ | refine Um ?_ | refine Un ?_ | refine Uo ?_ | refine Up rfl ?_ | refine Uq ?_ | refine Ur ?_ | refine Us ?_ | refine Ut ?_ | refine Uu ?_ | refine Ux ?_ | refine Uv rfl rfl rfl rfl ?_ | refine Uw rfl rfl rfl ?_ | refine U0 (by first | (apply st_call (hfn := specHallValid_fn h hl ); exact rfl; exact fz) | exact z0 | fail) ?_ | refine U1 z1 ?_ | refine U9 zs ?_
  refine ax_cond rfl (fun hb => ?_) (fun hb => ?_)
  · have hF : fetchF h id = (zeroHall, -1) := by simp at hb; simp [fetchF, hb]
    rw [hF]
    repeat first | refine Ua ?_ | refine Ub ?_ | refine Uc ?_ | refine Ud ?_ | refine Ue ?_ | refine Ug ⟨by kernel_rfl, ?_⟩ | refine Ug ?_ | refine Uh ?_ | refine Ui ?_ | refine Uj ?_ | refine Uk rfl ?_ | refine Ul rfl ?_ | refine Um ?_ | refine Un ?_ | refine Uo ?_ | refine Up rfl ?_ | refine Uq ?_ | refine Ur ?_ | refine Us ?_ | refine Ut ?_ | refine Uu ?_ | refine Ux ?_ | refine Uv rfl rfl rfl rfl ?_ | refine Uw rfl rfl rfl ?_ | refine U0 z0 ?_ | refine U1 z1 ?_ | refine U9 zs ?_
    exact ⟨.inl rfl, Rx⟩
  have hv : validB h = true := by simpa using hb
  repeat first | refine Ua ?_ | refine Ub ?_ | refine Uc ?_ | refine Ud ?_ | refine Ue ?_ | refine Ug ⟨by kernel_rfl, ?_⟩ | refine Ug ?_ | refine Uh ?_ | refine Ui ?_ | refine Uj ?_ | refine Uk rfl ?_ | refine Ul rfl ?_ | refine Um ?_ | refine Un ?_ | refine Uo ?_ | refine Up rfl ?_ | refine Uq ?_ | refine Ur ?_ | refine Us ?_ | refine Ut ?_ | refine Uu ?_ | refine Ux ?_ | refine Uv rfl rfl rfl rfl ?_ | refine Uw rfl rfl rfl ?_ | refine U0 z0 ?_ | refine U1 (by first | (apply st_call_sv (hfn := specBringBest_fn h hl id ); exact rfl; exact fz; iterate 2 exact rfl) | exact z1 | fail) ?_ | refine U9 zs ?_
  refine ax_cond rfl (fun hb1 => ?_) (fun hb1 => ?_)
  · have hF : fetchF h id = (h, -1) := by simp at hb1; simp [fetchF, hv, hb1]
    rw [hF]
    repeat first | refine Ua ?_ | refine Ub ?_ | refine Uc ?_ | refine Ud ?_ | refine Ue ?_ | refine Ug ⟨by kernel_rfl, ?_⟩ | refine Ug ?_ | refine Uh ?_ | refine Ui ?_ | refine Uj ?_ | refine Uk rfl ?_ | refine Ul rfl ?_ | refine Um ?_ | refine Un ?_ | refine Uo ?_ | refine Up rfl ?_ | refine Uq ?_ | refine Ur ?_ | refine Us ?_ | refine Ut ?_ | refine Uu ?_ | refine Ux ?_ | refine Uv rfl rfl rfl rfl ?_ | refine Uw rfl rfl rfl ?_ | refine U0 z0 ?_ | refine U1 (by first | (apply st_call_h (hfn := l1Hall_fn h hl (valid_ne hv) ); exact rfl; exact fz; iterate 2 exact rfl) | exact z1 | fail) ?_ | refine U9 zs ?_
    exact ⟨.inl rfl, Rx⟩
  have hc2 : (bestF h id).2 = true := by simpa using hb1
  obtain ⟨hF, s1, s2, ht⟩ := fetchF_yes hv hc2
  have hR := specSlideRun_fn h hl (bestF h id).1 (by have := lim_eq; omega)
  rw [slideRun_done hv hbl (best_done h id)] at hR
  have hT := specHallTake_fn (stS h (bestF h id).1 (bestF h id).1.length) (by omega) 0
  rw [ht] at hT
  rw [hF]
  repeat first | refine Ua ?_ | refine Ub ?_ | refine Uc ?_ | refine Ud ?_ | refine Ue ?_ | refine Ug ⟨by kernel_rfl, ?_⟩ | refine Ug ?_ | refine Uh ?_ | refine Ui ?_ | refine Uj ?_ | refine Uk rfl ?_ | refine Ul rfl ?_ | refine Um ?_ | refine Un ?_ | refine Uo ?_ | refine Up rfl ?_ | refine Uq ?_ | refine Ur ?_ | refine Us ?_ | refine Ut ?_ | refine Uu ?_ | refine Ux ?_ | refine Uv rfl rfl rfl rfl ?_ | refine Uw rfl rfl rfl ?_ | refine U0 z0 ?_ | refine U1 (by first | (apply st_call_hv (hfn := hR ); exact rfl; exact fz; iterate 2 exact rfl) | (apply st_call_hv (hfn := hT ); exact rfl; exact fz; iterate 2 exact rfl) | exact z1 | fail) ?_ | refine U9 zs ?_
  exact ⟨.inl rfl, Rx⟩
set_option maxHeartbeats 2000000 in
theorem fetchRun_fn (h : PHall) (hl : h.cells.length ≤ lim) (l : List Int) (hw : l.length ≤ lim) : FnG Tryd.prog 3 bruijn 28 [hallV h, intsV l] (.tup [hallV (fetchRunF h l).1, .int (fetchRunF h l).2.1, .int (fetchRunF h l).2.2]) := by
  have hl' : h.cells.length ≤ 1073741824 := hl
  have hw' : l.length ≤ 1073741824 := hw
  refine fng_go2 tabOk Tryd.func28 rfl (by kernel_rfl) Tryd.ntmps28 Tryd.results28 (by decide) ?_
  repeat first | refine Ua ?_ | refine Ub ?_ | refine Uc ?_ | refine Ud ?_ | refine Ue ?_ | refine Ug ⟨by kernel_rfl, ?_⟩ | refine Ug ?_ | refine Uh ?_ | refine Ui ?_ | refine Uj ?_ | refine Uk rfl ?_ | refine Ul rfl ?_ | refine Um ?_ | refine Un ?_ | refine Uo ?_ | refine Up rfl ?_ | refine Uq ?_ | refine Ur ?_ | refine Us ?_ | refine Ut ?_ | refine Uu ?_ | refine Ux ?_ | refine Uv rfl rfl rfl rfl ?_ | refine Uw rfl rfl rfl ?_ | refine U0 (by first | (apply st_call (hfn := hallValid_fn h hl ); exact rfl; exact fz) | exact z0 | fail) ?_ | refine U1 z1 ?_ | refine U9 zs ?_
  refine ax_cond rfl (fun hb => ?_) (fun hb => ?_)
  · have hF : fetchRunF h l = (zeroHall, 0, 0) := by simp at hb; simp [fetchRunF, hb]
    rw [hF]
    repeat first | refine Ua ?_ | refine Ub ?_ | refine Uc ?_ | refine Ud ?_ | refine Ue ?_ | refine Ug ⟨by kernel_rfl, ?_⟩ | refine Ug ?_ | refine Uh ?_ | refine Ui ?_ | refine Uj ?_ | refine Uk rfl ?_ | refine Ul rfl ?_ | refine Um ?_ | refine Un ?_ | refine Uo ?_ | refine Up rfl ?_ | refine Uq ?_ | refine Ur ?_ | refine Us ?_ | refine Ut ?_ | refine Uu ?_ | refine Ux ?_ | refine Uv rfl rfl rfl rfl ?_ | refine Uw rfl rfl rfl ?_ | refine U0 z0 ?_ | refine U1 z1 ?_ | refine U9 zs ?_
    exact ⟨.inl rfl, Rx⟩
  have hv : validB h = true := by simpa using hb
  have hF : fetchRunF h l = ((runG fetchF h l).1, ((runG fetchF h l).2.1 : Int), (runG fetchF h l).2.2) := by simp [fetchRunF, hv]
  rw [hF]
  repeat first | refine Ua ?_ | refine Ub ?_ | refine Uc ?_ | refine Ud ?_ | refine Ue ?_ | refine Ug ⟨by kernel_rfl, ?_⟩ | refine Ug ?_ | refine Uh ?_ | refine Ui ?_ | refine Uj ?_ | refine Uk rfl ?_ | refine Ul rfl ?_ | refine Um ?_ | refine Un ?_ | refine Uo ?_ | refine Up rfl ?_ | refine Uq ?_ | refine Ur ?_ | refine Us ?_ | refine Ut ?_ | refine Uu ?_ | refine Ux ?_ | refine Uv rfl rfl rfl rfl ?_ | refine Uw rfl rfl rfl ?_ | refine U0 z0 ?_ | refine U1 (by first | (apply st_call_h (hfn := copyHall_fn h hl (valid_ne hv) ); exact rfl; exact fz; iterate 2 exact rfl) | exact z1 | fail) ?_ | refine U9 zs ?_
  refine ax_loop (fun k : Nat => mkS [(21, .int (k : Int)), (20, .int (l.length : Int)), (19, intsV l), (1, intsV l), (8, .int (sumG fetchF h l k)), tabE, (7, .ptr 4 0 0), (4, .ptr 2 0 0)] ⟨5, [(2, some zeroRow), (3, some (intsRow (stG fetchF h l k).cells)), (4, some (boxRow (stG fetchF h l k).wide (stG fetchF h l k).deep 3 0))]⟩) (fun k => k ≤ l.length ∧ fineG fetchF h l k) (fun k => l.length - k) (0) (⟨Nat.zero_le _, fun j hj => by omega⟩) (Lw (ρ := [])) ?_
  rintro k ⟨hk, hd⟩
  obtain ⟨s1, s2⟩ := stG_ok (fun h x hv => fetchF_ok hv x) (l := l) hv k
  have hsum := fetch_sum k hd
  repeat first | refine Ua ?_ | refine Ub ?_ | refine Uc ?_ | refine Ud ?_ | refine Ue ?_ | refine Ug ⟨by kernel_rfl, ?_⟩ | refine Ug ?_ | refine Uh ?_ | refine Ui ?_ | refine Uj ?_ | refine Uk rfl ?_ | refine Ul rfl ?_ | refine Um ?_ | refine Un ?_ | refine Uo ?_ | refine Up rfl ?_ | refine Uq ?_ | refine Ur ?_ | refine Us ?_ | refine Ut ?_ | refine Uu ?_ | refine Ux ?_ | refine Uv rfl rfl rfl rfl ?_ | refine Uw rfl rfl rfl ?_ | refine U0 z0 ?_ | refine U1 z1 ?_ | refine U9 zs ?_
  refine ax_cond rfl (fun hb2 => ?_) (fun hb2 => ?_)
  · have hlt : k < l.length := by simp at hb2; exact hb2
    have hle2 : (fetchF (stG fetchF h l k) (gi l k)).2 ≤ 60 ∧ -1 ≤ (fetchF (stG fetchF h l k) (gi l k)).2 := fetch_bound _ _
    repeat first | refine Ua ?_ | refine Ub ?_ | refine Uc ?_ | refine Ud ?_ | refine Ue ?_ | refine Ug ⟨by kernel_rfl, ?_⟩ | refine Ug ?_ | refine Uh ?_ | refine Ui ?_ | refine Uj ?_ | refine Uk rfl ?_ | refine Ul rfl ?_ | refine Um ?_ | refine Un ?_ | refine Uo ?_ | refine Up rfl ?_ | refine Uq ?_ | refine Ur ?_ | refine Us ?_ | refine Ut ?_ | refine Uu ?_ | refine Ux ?_ | refine Uv rfl rfl rfl rfl ?_ | refine Uw rfl rfl rfl ?_ | refine U0 z0 ?_ | refine U1 (by first | (apply st_callg_hv (hfn := fetchDo_fn (stG fetchF h l k) (by omega) (gi l k) ); exact rfl; exact fz; iterate 3 exact rfl) | exact z1 | fail) ?_ | refine U9 zs ?_
    refine ax_cond rfl (fun hb3 => ?_) (fun hb3 => ?_)
    · have hR := runG_stop hd hlt (by simpa using hb3)
      rw [hR]
      repeat first | refine Ua ?_ | refine Ub ?_ | refine Uc ?_ | refine Ud ?_ | refine Ue ?_ | refine Ug ⟨by kernel_rfl, ?_⟩ | refine Ug ?_ | refine Uh ?_ | refine Ui ?_ | refine Uj ?_ | refine Uk rfl ?_ | refine Ul rfl ?_ | refine Um ?_ | refine Un ?_ | refine Uo ?_ | refine Up rfl ?_ | refine Uq ?_ | refine Ur ?_ | refine Us ?_ | refine Ut ?_ | refine Uu ?_ | refine Ux ?_ | refine Uv rfl rfl rfl rfl ?_ | refine Uw rfl rfl rfl ?_ | refine U0 z0 ?_ | refine U1 z1 ?_ | refine U9 zs ?_
      exact ⟨.inl rfl, Rx⟩
    · have ho : ¬ (fetchF (stG fetchF h l k) (gi l k)).2 < 0 := by simpa using hb3
      repeat first | refine Ua ?_ | refine Ub ?_ | refine Uc ?_ | refine Ud ?_ | refine Ue ?_ | refine Ug ⟨by kernel_rfl, ?_⟩ | refine Ug ?_ | refine Uh ?_ | refine Ui ?_ | refine Uj ?_ | refine Uk rfl ?_ | refine Ul rfl ?_ | refine Um ?_ | refine Un ?_ | refine Uo ?_ | refine Up rfl ?_ | refine Uq ?_ | refine Ur ?_ | refine Us ?_ | refine Ut ?_ | refine Uu ?_ | refine Ux ?_ | refine Uv rfl rfl rfl rfl ?_ | refine Uw rfl rfl rfl ?_ | refine U0 z0 ?_ | refine U1 z1 ?_ | refine U9 zs ?_
      refine round_next (k + 1) (⟨hlt, fun j hj => by by_cases e : j = k; (subst e; exact ho); exact hd j (by omega)⟩) (by omega) (Lw (ρ := [(3, 5)]))
  · have hkn : k = l.length := by simp at hb2; omega
    subst hkn
    rw [runG_end hd]
    repeat first | refine Ua ?_ | refine Ub ?_ | refine Uc ?_ | refine Ud ?_ | refine Ue ?_ | refine Ug ⟨by kernel_rfl, ?_⟩ | refine Ug ?_ | refine Uh ?_ | refine Ui ?_ | refine Uj ?_ | refine Uk rfl ?_ | refine Ul rfl ?_ | refine Um ?_ | refine Un ?_ | refine Uo ?_ | refine Up rfl ?_ | refine Uq ?_ | refine Ur ?_ | refine Us ?_ | refine Ut ?_ | refine Uu ?_ | refine Ux ?_ | refine Uv rfl rfl rfl rfl ?_ | refine Uw rfl rfl rfl ?_ | refine U0 z0 ?_ | refine U1 z1 ?_ | refine U9 zs ?_
    exact ⟨.inl rfl, Rx⟩
set_option maxHeartbeats 2000000 in
theorem specFetchRun_fn (h : PHall) (hl : h.cells.length ≤ lim) (l : List Int) (hw : l.length ≤ lim) : FnS Tryd.prog 29 [hallV h, intsV l] (.tup [hallV (fetchRunF h l).1, .int (fetchRunF h l).2.1, .int (fetchRunF h l).2.2]) := by
  have hl' : h.cells.length ≤ 1073741824 := hl
  have hw' : l.length ≤ 1073741824 := hw
  refine fn_go2 tabOk Tryd.func29 rfl (by kernel_rfl) Tryd.ntmps29 Tryd.results29 (by decide) ?_
  repeat first | refine Ua ?_ | refine Ub ?_ | refine Uc ?_ | refine Ud ?_ | refine Ue ?_ | refine Ug ⟨by kernel_rfl, ?_⟩ | refine Ug ?_ | refine Uh ?_ | refine Ui ?_ | refine Uj ?_ | refine Uk rfl ?_ | refine Ul rfl ?_ | refine Um ?_ | refine Un ?_ | refine Uo ?_ | refine Up rfl ?_ | refine Uq ?_ | refine Ur ?_ | refine Us ?_ | refine Ut ?_ | refine Uu ?_ | refine Ux ?_ | refine Uv rfl rfl rfl rfl ?_ | refine Uw rfl rfl rfl ?_ | refine U0 (by first | (apply st_call (hfn := specHallValid_fn h hl ); exact rfl; exact fz) | exact z0 | fail) ?_ | refine U1 z1 ?_ | refine U9 zs ?_
  refine ax_cond rfl (fun hb => ?_) (fun hb => ?_)
  · have hF : fetchRunF h l = (zeroHall, 0, 0) := by simp at hb; simp [fetchRunF, hb]
    rw [hF]
    repeat first | refine Ua ?_ | refine Ub ?_ | refine Uc ?_ | refine Ud ?_ | refine Ue ?_ | refine Ug ⟨by kernel_rfl, ?_⟩ | refine Ug ?_ | refine Uh ?_ | refine Ui ?_ | refine Uj ?_ | refine Uk rfl ?_ | refine Ul rfl ?_ | refine Um ?_ | refine Un ?_ | refine Uo ?_ | refine Up rfl ?_ | refine Uq ?_ | refine Ur ?_ | refine Us ?_ | refine Ut ?_ | refine Uu ?_ | refine Ux ?_ | refine Uv rfl rfl rfl rfl ?_ | refine Uw rfl rfl rfl ?_ | refine U0 z0 ?_ | refine U1 z1 ?_ | refine U9 zs ?_
    exact ⟨.inl rfl, Rx⟩
  have hv : validB h = true := by simpa using hb
  have hF : fetchRunF h l = ((runG fetchF h l).1, ((runG fetchF h l).2.1 : Int), (runG fetchF h l).2.2) := by simp [fetchRunF, hv]
  rw [hF]
  repeat first | refine Ua ?_ | refine Ub ?_ | refine Uc ?_ | refine Ud ?_ | refine Ue ?_ | refine Ug ⟨by kernel_rfl, ?_⟩ | refine Ug ?_ | refine Uh ?_ | refine Ui ?_ | refine Uj ?_ | refine Uk rfl ?_ | refine Ul rfl ?_ | refine Um ?_ | refine Un ?_ | refine Uo ?_ | refine Up rfl ?_ | refine Uq ?_ | refine Ur ?_ | refine Us ?_ | refine Ut ?_ | refine Uu ?_ | refine Ux ?_ | refine Uv rfl rfl rfl rfl ?_ | refine Uw rfl rfl rfl ?_ | refine U0 z0 ?_ | refine U1 (by first | (apply st_call_h (hfn := l1Hall_fn h hl (valid_ne hv) ); exact rfl; exact fz; iterate 2 exact rfl) | exact z1 | fail) ?_ | refine U9 zs ?_
  refine ax_loop (fun k : Nat => mkS [(9, .int (k : Int)), (8, .ptr 4 0 0), (7, .int (sumG fetchF h l k)), (4, .ptr 2 0 0), (1, intsV l)] ⟨5, [(2, some zeroRow), (3, some (intsRow (stG fetchF h l k).cells)), (4, some (boxRow (stG fetchF h l k).wide (stG fetchF h l k).deep 3 0))]⟩) (fun k => k ≤ l.length ∧ fineG fetchF h l k) (fun k => l.length - k) (0) (⟨Nat.zero_le _, fun j hj => by omega⟩) (Lw (ρ := [])) ?_
  rintro k ⟨hk, hd⟩
  obtain ⟨s1, s2⟩ := stG_ok (fun h x hv => fetchF_ok hv x) (l := l) hv k
  have hsum := fetch_sum k hd
  repeat first | refine Ua ?_ | refine Ub ?_ | refine Uc ?_ | refine Ud ?_ | refine Ue ?_ | refine Ug ⟨by kernel_rfl, ?_⟩ | refine Ug ?_ | refine Uh ?_ | refine Ui ?_ | refine Uj ?_ | refine Uk rfl ?_ | refine Ul rfl ?_ | refine Um ?_ | refine Un ?_ | refine Uo ?_ | refine Up rfl ?_ | refine Uq ?_ | refine Ur ?_ | refine Us ?_ | refine Ut ?_ | refine Uu ?_ | refine Ux ?_ | refine Uv rfl rfl rfl rfl ?_ | refine Uw rfl rfl rfl ?_ | refine U0 z0 ?_ | refine U1 z1 ?_ | refine U9 zs ?_
  refine ax_cond rfl (fun hb2 => ?_) (fun hb2 => ?_)
  · have hlt : k < l.length := by simp at hb2; exact hb2
    have hle2 : (fetchF (stG fetchF h l k) (gi l k)).2 ≤ 60 ∧ -1 ≤ (fetchF (stG fetchF h l k) (gi l k)).2 := fetch_bound _ _
    repeat first | refine Ua ?_ | refine Ub ?_ | refine Uc ?_ | refine Ud ?_ | refine Ue ?_ | refine Ug ⟨by kernel_rfl, ?_⟩ | refine Ug ?_ | refine Uh ?_ | refine Ui ?_ | refine Uj ?_ | refine Uk rfl ?_ | refine Ul rfl ?_ | refine Um ?_ | refine Un ?_ | refine Uo ?_ | refine Up rfl ?_ | refine Uq ?_ | refine Ur ?_ | refine Us ?_ | refine Ut ?_ | refine Uu ?_ | refine Ux ?_ | refine Uv rfl rfl rfl rfl ?_ | refine Uw rfl rfl rfl ?_ | refine U0 z0 ?_ | refine U1 (by first | (apply st_call_hv (hfn := specFetchDo_fn (stG fetchF h l k) (by omega) (gi l k) ); exact rfl; exact fz; iterate 2 exact rfl) | exact z1 | fail) ?_ | refine U9 zs ?_
    refine ax_cond rfl (fun hb3 => ?_) (fun hb3 => ?_)
    · have hR := runG_stop hd hlt (by simpa using hb3)
      rw [hR]
      repeat first | refine Ua ?_ | refine Ub ?_ | refine Uc ?_ | refine Ud ?_ | refine Ue ?_ | refine Ug ⟨by kernel_rfl, ?_⟩ | refine Ug ?_ | refine Uh ?_ | refine Ui ?_ | refine Uj ?_ | refine Uk rfl ?_ | refine Ul rfl ?_ | refine Um ?_ | refine Un ?_ | refine Uo ?_ | refine Up rfl ?_ | refine Uq ?_ | refine Ur ?_ | refine Us ?_ | refine Ut ?_ | refine Uu ?_ | refine Ux ?_ | refine Uv rfl rfl rfl rfl ?_ | refine Uw rfl rfl rfl ?_ | refine U0 z0 ?_ | refine U1 z1 ?_ | refine U9 zs ?_
      exact ⟨.inl rfl, Rx⟩
    · have ho : ¬ (fetchF (stG fetchF h l k) (gi l k)).2 < 0 := by simpa using hb3
      repeat first | refine Ua ?_ | refine Ub ?_ | refine Uc ?_ | refine Ud ?_ | refine Ue ?_ | refine Ug ⟨by kernel_rfl, ?_⟩ | refine Ug ?_ | refine Uh ?_ | refine Ui ?_ | refine Uj ?_ | refine Uk rfl ?_ | refine Ul rfl ?_ | refine Um ?_ | refine Un ?_ | refine Uo ?_ | refine Up rfl ?_ | refine Uq ?_ | refine Ur ?_ | refine Us ?_ | refine Ut ?_ | refine Uu ?_ | refine Ux ?_ | refine Uv rfl rfl rfl rfl ?_ | refine Uw rfl rfl rfl ?_ | refine U0 z0 ?_ | refine U1 z1 ?_ | refine U9 zs ?_
      refine round_next (k + 1) (⟨hlt, fun j hj => by by_cases e : j = k; (subst e; exact ho); exact hd j (by omega)⟩) (by omega) (Lw (ρ := [(3, 5)]))
  · have hkn : k = l.length := by simp at hb2; omega
    subst hkn
    rw [runG_end hd]
    repeat first | refine Ua ?_ | refine Ub ?_ | refine Uc ?_ | refine Ud ?_ | refine Ue ?_ | refine Ug ⟨by kernel_rfl, ?_⟩ | refine Ug ?_ | refine Uh ?_ | refine Ui ?_ | refine Uj ?_ | refine Uk rfl ?_ | refine Ul rfl ?_ | refine Um ?_ | refine Un ?_ | refine Uo ?_ | refine Up rfl ?_ | refine Uq ?_ | refine Ur ?_ | refine Us ?_ | refine Ut ?_ | refine Uu ?_ | refine Ux ?_ | refine Uv rfl rfl rfl rfl ?_ | refine Uw rfl rfl rfl ?_ | refine U0 z0 ?_ | refine U1 z1 ?_ | refine U9 zs ?_
    exact ⟨.inl rfl, Rx⟩
end Go.Proofs.YtnfjmcenjpoloaaDoor
