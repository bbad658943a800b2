/-
  Halls that are alike.
-/
import Derived.Test.YtnfjmcenjpoloaaDoorW4
import Derived.Test.YtnfjmcenjpoloaaDoorP7
set_option linter.unusedVariables false
set_option linter.unusedSimpArgs false
set_option maxRecDepth 100000
namespace Go.Proofs.YtnfjmcenjpoloaaDoor
open Go Go.RowKit Go.Park Go.Sym

theorem al_ext {a b : List Int} (hl : a.length = b.length) (h : ∀ j, j < a.length → gi a j = gi b j) : a = b := by
  apply List.ext_getElem?
  intro i
  by_cases hi : i < a.length
  · have e := h i hi
    simp only [gi, List.getD_eq_getElem?_getD, List.getElem?_eq_getElem hi, List.getElem?_eq_getElem (show i < b.length by omega), Option.getD_some] at e
    rw [List.getElem?_eq_getElem hi, List.getElem?_eq_getElem (by omega), e]
  · rw [List.getElem?_eq_none (by omega), List.getElem?_eq_none (by omega)]
theorem al_pos {l : List Int} (h0 : ∀ k, k < l.length → 0 ≤ gi l k) : ∀ k, k ≤ l.length → (selTo (fun j => decide (gi l j = 0)) k).length + (posTo l k).length = k
  | 0, _ => by simp [selTo, posTo]
  | k+1, hk => by
    have ih := al_pos h0 k (by omega)
    have := h0 k (by omega)
    rw [posTo_succ (by omega)]
    by_cases e : gi l k = 0
    · rw [selTo_yes (by simp [e]), if_neg (by omega)]
      simp; omega
    · rw [selTo_no (by simp [e]), if_pos (by omega)]
      simp; omega
theorem al_cars {h : PHall} (hv : validB h = true) : (hallFreeF h).length + (carsF h).length = h.cells.length := by
  have hp : (carsF h).Perm (posTo h.cells h.cells.length) := by unfold carsF; rw [if_pos hv]; exact (carsTo_both _ _ (Nat.le_refl _)).1
  rw [hp.length_eq]
  unfold hallFreeF
  rw [if_pos hv]
  exact al_pos (fun k hk => ((valid_iff.1 hv).2.rng k hk).1) _ (Nat.le_refl _)
/-- two halls alike -/
def alikeF (a b : PHall) : Bool :=
  if validB a = true ∧ validB b = true ∧ a.wide = b.wide ∧ a.deep = b.deep ∧ carsF a = carsF b then
    (if (hallFreeF a).length = 0 then decide (a.cells = b.cells) else if (hallFreeF a).length = 1 then decide (parityF a = parityF b) else true)
  else false
theorem alike_no {a b : PHall} (h : ¬ (validB a = true ∧ validB b = true ∧ a.wide = b.wide ∧ a.deep = b.deep ∧ carsF a = carsF b)) : alikeF a b = false := by
  unfold alikeF; rw [if_neg h]
theorem alike_yes {a b : PHall} (h : validB a = true ∧ validB b = true ∧ a.wide = b.wide ∧ a.deep = b.deep ∧ carsF a = carsF b) : alikeF a b = if (hallFreeF a).length = 0 then decide (a.cells = b.cells) else if (hallFreeF a).length = 1 then decide (parityF a = parityF b) else true := by
  unfold alikeF; rw [if_pos h]
theorem alike_free {a b : PHall} (h : validB a = true ∧ validB b = true ∧ a.wide = b.wide ∧ a.deep = b.deep ∧ carsF a = carsF b) : a.cells.length = b.cells.length ∧ (hallFreeF a).length = (hallFreeF b).length := by
  obtain ⟨h1, h2, h3, h4, h5⟩ := h
  have e1 := al_cars h1
  have e2 := al_cars h2
  have e3 := (valid_iff.1 h1).1.2.2
  have e4 := (valid_iff.1 h2).1.2.2
  rw [h3, h4] at e3
  rw [h5] at e1
  omega
/-- the reference's words -/
theorem alike_spec {a b : PHall} (h : validB a = true ∧ validB b = true ∧ a.wide = b.wide ∧ a.deep = b.deep ∧ carsF a = carsF b) : alikeF a b = (decide (a.cells = b.cells) || (decide ((carsF a).length < a.cells.length) && decide (parityF a = parityF b))) := by
  obtain ⟨f1, f2⟩ := alike_free h
  have e1 := al_cars h.1
  rw [alike_yes h]
  by_cases hc : a.cells = b.cells
  · have hab : a = b := by
      obtain ⟨_, _, h3, h4, _⟩ := h
      cases a; cases b; simp_all
    subst hab
    simp
  · by_cases h0 : (hallFreeF a).length = 0
    · rw [if_pos h0, decide_eq_false hc, decide_eq_false (show ¬ (carsF a).length < a.cells.length by omega)]; rfl
    · rw [if_neg h0, decide_eq_false hc, decide_eq_true (show (carsF a).length < a.cells.length by omega)]
      by_cases h1 : (hallFreeF a).length = 1
      · rw [if_pos h1]; simp
      · have p1 : parityF a = -1 := by unfold parityF; rw [if_neg h1]
        have p2 : parityF b = -1 := by unfold parityF; rw [if_neg (by omega)]
        rw [if_neg h1, p1, p2]; simp
set_option maxHeartbeats 1000000 in
theorem equal_fn (a b : List Int) (ha : a.length ≤ lim) (hb : b.length ≤ lim) : FnS Tryd.prog 58 [intsV a, intsV b] (.bool (decide (a = b))) := by
  have ha' : a.length ≤ 1073741824 := ha
  have hb' : b.length ≤ 1073741824 := hb
  refine fn_go2 tabOk Tryd.func58 rfl (by kernel_rfl) Tryd.ntmps58 Tryd.results58 (by decide) ?_
  repeat first | refine Ua ?_ | refine Ub ?_ | refine Uc ?_ | refine Ud ?_ | refine Ue ?_ | refine Ug ⟨by kernel_rfl, ?_⟩ | refine Ug ?_ | refine Uh ?_ | refine Ui ?_ | refine Uj ?_ | refine Uk rfl ?_ | refine Ul rfl ?_ | refine Um ?_ | refine Un ?_ | refine Uo ?_ | refine Up rfl ?_ | refine Uq ?_ | refine Ur ?_ | refine Us ?_ | refine Ut ?_ | refine Uu ?_ | refine Ux ?_ | refine Uv rfl rfl rfl rfl ?_ | refine Uw rfl rfl rfl ?_ | refine U0 z0 ?_ | refine U1 z1 ?_ | refine U9 zs ?_
  refine ax_cond rfl (fun hl => ?_) (fun hl => ?_)
  · have hF : decide (a = b) = false := decide_eq_false (fun e => by subst e; simp at hl)
    repeat first | refine Ua ?_ | refine Ub ?_ | refine Uc ?_ | refine Ud ?_ | refine Ue ?_ | refine Ug ⟨by kernel_rfl, ?_⟩ | refine Ug ?_ | refine Uh ?_ | refine Ui ?_ | refine Uj ?_ | refine Uk rfl ?_ | refine Ul rfl ?_ | refine Um ?_ | refine Un ?_ | refine Uo ?_ | refine Up rfl ?_ | refine Uq ?_ | refine Ur ?_ | refine Us ?_ | refine Ut ?_ | refine Uu ?_ | refine Ux ?_ | refine Uv rfl rfl rfl rfl ?_ | refine Uw rfl rfl rfl ?_ | refine U0 z0 ?_ | refine U1 z1 ?_ | refine U9 zs ?_
    exact ⟨.inl rfl, _, _, (by repeat first | exact .nil | apply ResL.cons | exact .tmp rfl | exact .agg rfl rfl rfl rfl rfl (Nat.le_of_ble_eq_true rfl) rfl | exact .cell rfl rfl rfl rfl rfl (Nat.le_of_ble_eq_true rfl) rfl), (by first | exact .one (by first | exact .one (.v (by first | rfl | (rw [hF]))) | exact .one (.own rfl rfl rfl rfl rfl rfl (by first | rfl | (rw [hF])) (by first | exact scal_ints _ | exact scal_slc _)) | exact .one (.nil (by decide) (by first | rfl | (rw [hF]))) | exact .agg (.cons (.v (by first | rfl | (rw [hF]))) (.cons (.v (by first | rfl | (rw [hF]))) (.cons (.own rfl rfl rfl rfl rfl rfl (by first | rfl | (rw [hF])) (scal_ints _)) .nil))) | exact .agg (.cons (.v (by first | rfl | (rw [hF]))) (.cons (.v (by first | rfl | (rw [hF]))) (.cons (.nil (by decide) (by first | rfl | (rw [hF]))) .nil))) | exact .agg (.cons (.v (by first | rfl | (rw [hF]))) (.cons (.v (by first | rfl | (rw [hF]))) .nil))) | exact .two (by repeat first | exact .nil | apply ExpL.cons | exact (by first | exact .one (.v (by first | rfl | (rw [hF]))) | exact .one (.own rfl rfl rfl rfl rfl rfl (by first | rfl | (rw [hF])) (by first | exact scal_ints _ | exact scal_slc _)) | exact .one (.nil (by decide) (by first | rfl | (rw [hF]))) | exact .agg (.cons (.v (by first | rfl | (rw [hF]))) (.cons (.v (by first | rfl | (rw [hF]))) (.cons (.own rfl rfl rfl rfl rfl rfl (by first | rfl | (rw [hF])) (scal_ints _)) .nil))) | exact .agg (.cons (.v (by first | rfl | (rw [hF]))) (.cons (.v (by first | rfl | (rw [hF]))) (.cons (.nil (by decide) (by first | rfl | (rw [hF]))) .nil))) | exact .agg (.cons (.v (by first | rfl | (rw [hF]))) (.cons (.v (by first | rfl | (rw [hF]))) .nil))))), (by decide)⟩
  have hlen : a.length = b.length := by
    have : (a.length : Int) = (b.length : Int) := by simpa using hl
    omega
  repeat first | refine Ua ?_ | refine Ub ?_ | refine Uc ?_ | refine Ud ?_ | refine Ue ?_ | refine Ug ⟨by kernel_rfl, ?_⟩ | refine Ug ?_ | refine Uh ?_ | refine Ui ?_ | refine Uj ?_ | refine Uk rfl ?_ | refine Ul rfl ?_ | refine Um ?_ | refine Un ?_ | refine Uo ?_ | refine Up rfl ?_ | refine Uq ?_ | refine Ur ?_ | refine Us ?_ | refine Ut ?_ | refine Uu ?_ | refine Ux ?_ | refine Uv rfl rfl rfl rfl ?_ | refine Uw rfl rfl rfl ?_ | refine U0 z0 ?_ | refine U1 z1 ?_ | refine U9 zs ?_
  refine ax_loop (fun k : Nat => mkS [(13, .int (k : Int)), (12, .int (a.length : Int)), (11, intsV a), (0, intsV a), (1, intsV b)] ⟨1, []⟩) (fun k => k ≤ a.length ∧ ∀ j, j < k → gi a j = gi b j) (fun k => a.length - k) (0) (⟨Nat.zero_le _, fun j hj => by omega⟩) (Lw (ρ := [])) ?_
  rintro k ⟨hk, hj⟩
  repeat first | refine Ua ?_ | refine Ub ?_ | refine Uc ?_ | refine Ud ?_ | refine Ue ?_ | refine Ug ⟨by kernel_rfl, ?_⟩ | refine Ug ?_ | refine Uh ?_ | refine Ui ?_ | refine Uj ?_ | refine Uk rfl ?_ | refine Ul rfl ?_ | refine Um ?_ | refine Un ?_ | refine Uo ?_ | refine Up rfl ?_ | refine Uq ?_ | refine Ur ?_ | refine Us ?_ | refine Ut ?_ | refine Uu ?_ | refine Ux ?_ | refine Uv rfl rfl rfl rfl ?_ | refine Uw rfl rfl rfl ?_ | refine U0 z0 ?_ | refine U1 z1 ?_ | refine U9 zs ?_
  refine ax_cond rfl (fun h1 => ?_) (fun h1 => ?_)
  · have hlt : k < a.length := by simpa using h1
    repeat first | refine Ua ?_ | refine Ub ?_ | refine Uc ?_ | refine Ud ?_ | refine Ue ?_ | refine Ug ⟨by kernel_rfl, ?_⟩ | refine Ug ?_ | refine Uh ?_ | refine Ui ?_ | refine Uj ?_ | refine Uk rfl ?_ | refine Ul rfl ?_ | refine Um ?_ | refine Un ?_ | refine Uo ?_ | refine Up rfl ?_ | refine Uq ?_ | refine Ur ?_ | refine Us ?_ | refine Ut ?_ | refine Uu ?_ | refine Ux ?_ | refine Uv rfl rfl rfl rfl ?_ | refine Uw rfl rfl rfl ?_ | refine U0 z0 ?_ | refine U1 z1 ?_ | refine U9 zs ?_
    refine ax_cond rfl (fun h2 => ?_) (fun h2 => ?_)
    · have hF : decide (a = b) = false := decide_eq_false (fun e => by subst e; simp at h2)
      repeat first | refine Ua ?_ | refine Ub ?_ | refine Uc ?_ | refine Ud ?_ | refine Ue ?_ | refine Ug ⟨by kernel_rfl, ?_⟩ | refine Ug ?_ | refine Uh ?_ | refine Ui ?_ | refine Uj ?_ | refine Uk rfl ?_ | refine Ul rfl ?_ | refine Um ?_ | refine Un ?_ | refine Uo ?_ | refine Up rfl ?_ | refine Uq ?_ | refine Ur ?_ | refine Us ?_ | refine Ut ?_ | refine Uu ?_ | refine Ux ?_ | refine Uv rfl rfl rfl rfl ?_ | refine Uw rfl rfl rfl ?_ | refine U0 z0 ?_ | refine U1 z1 ?_ | refine U9 zs ?_
      exact ⟨.inl rfl, _, _, (by repeat first | exact .nil | apply ResL.cons | exact .tmp rfl | exact .agg rfl rfl rfl rfl rfl (Nat.le_of_ble_eq_true rfl) rfl | exact .cell rfl rfl rfl rfl rfl (Nat.le_of_ble_eq_true rfl) rfl), (by first | exact .one (by first | exact .one (.v (by first | rfl | (rw [hF]))) | exact .one (.own rfl rfl rfl rfl rfl rfl (by first | rfl | (rw [hF])) (by first | exact scal_ints _ | exact scal_slc _)) | exact .one (.nil (by decide) (by first | rfl | (rw [hF]))) | exact .agg (.cons (.v (by first | rfl | (rw [hF]))) (.cons (.v (by first | rfl | (rw [hF]))) (.cons (.own rfl rfl rfl rfl rfl rfl (by first | rfl | (rw [hF])) (scal_ints _)) .nil))) | exact .agg (.cons (.v (by first | rfl | (rw [hF]))) (.cons (.v (by first | rfl | (rw [hF]))) (.cons (.nil (by decide) (by first | rfl | (rw [hF]))) .nil))) | exact .agg (.cons (.v (by first | rfl | (rw [hF]))) (.cons (.v (by first | rfl | (rw [hF]))) .nil))) | exact .two (by repeat first | exact .nil | apply ExpL.cons | exact (by first | exact .one (.v (by first | rfl | (rw [hF]))) | exact .one (.own rfl rfl rfl rfl rfl rfl (by first | rfl | (rw [hF])) (by first | exact scal_ints _ | exact scal_slc _)) | exact .one (.nil (by decide) (by first | rfl | (rw [hF]))) | exact .agg (.cons (.v (by first | rfl | (rw [hF]))) (.cons (.v (by first | rfl | (rw [hF]))) (.cons (.own rfl rfl rfl rfl rfl rfl (by first | rfl | (rw [hF])) (scal_ints _)) .nil))) | exact .agg (.cons (.v (by first | rfl | (rw [hF]))) (.cons (.v (by first | rfl | (rw [hF]))) (.cons (.nil (by decide) (by first | rfl | (rw [hF]))) .nil))) | exact .agg (.cons (.v (by first | rfl | (rw [hF]))) (.cons (.v (by first | rfl | (rw [hF]))) .nil))))), (by decide)⟩
    · have he : gi a k = gi b k := by simpa using h2
      repeat first | refine Ua ?_ | refine Ub ?_ | refine Uc ?_ | refine Ud ?_ | refine Ue ?_ | refine Ug ⟨by kernel_rfl, ?_⟩ | refine Ug ?_ | refine Uh ?_ | refine Ui ?_ | refine Uj ?_ | refine Uk rfl ?_ | refine Ul rfl ?_ | refine Um ?_ | refine Un ?_ | refine Uo ?_ | refine Up rfl ?_ | refine Uq ?_ | refine Ur ?_ | refine Us ?_ | refine Ut ?_ | refine Uu ?_ | refine Ux ?_ | refine Uv rfl rfl rfl rfl ?_ | refine Uw rfl rfl rfl ?_ | refine U0 z0 ?_ | refine U1 z1 ?_ | refine U9 zs ?_
      refine round_next (k + 1) (⟨hlt, fun j hj' => by by_cases e : j = k; (subst e; exact he); exact hj j (by omega)⟩) (by omega) (Lw (ρ := []))
  · have hkn : k = a.length := by simp at h1; omega
    have hF : decide (a = b) = true := decide_eq_true (al_ext hlen (fun j hj' => hj j (by omega)))
    repeat first | refine Ua ?_ | refine Ub ?_ | refine Uc ?_ | refine Ud ?_ | refine Ue ?_ | refine Ug ⟨by kernel_rfl, ?_⟩ | refine Ug ?_ | refine Uh ?_ | refine Ui ?_ | refine Uj ?_ | refine Uk rfl ?_ | refine Ul rfl ?_ | refine Um ?_ | refine Un ?_ | refine Uo ?_ | refine Up rfl ?_ | refine Uq ?_ | refine Ur ?_ | refine Us ?_ | refine Ut ?_ | refine Uu ?_ | refine Ux ?_ | refine Uv rfl rfl rfl rfl ?_ | refine Uw rfl rfl rfl ?_ | refine U0 z0 ?_ | refine U1 z1 ?_ | refine U9 zs ?_
    exact ⟨.inl rfl, _, _, (by repeat first | exact .nil | apply ResL.cons | exact .tmp rfl | exact .agg rfl rfl rfl rfl rfl (Nat.le_of_ble_eq_true rfl) rfl | exact .cell rfl rfl rfl rfl rfl (Nat.le_of_ble_eq_true rfl) rfl), (by first | exact .one (by first | exact .one (.v (by first | rfl | (rw [hF]))) | exact .one (.own rfl rfl rfl rfl rfl rfl (by first | rfl | (rw [hF])) (by first | exact scal_ints _ | exact scal_slc _)) | exact .one (.nil (by decide) (by first | rfl | (rw [hF]))) | exact .agg (.cons (.v (by first | rfl | (rw [hF]))) (.cons (.v (by first | rfl | (rw [hF]))) (.cons (.own rfl rfl rfl rfl rfl rfl (by first | rfl | (rw [hF])) (scal_ints _)) .nil))) | exact .agg (.cons (.v (by first | rfl | (rw [hF]))) (.cons (.v (by first | rfl | (rw [hF]))) (.cons (.nil (by decide) (by first | rfl | (rw [hF]))) .nil))) | exact .agg (.cons (.v (by first | rfl | (rw [hF]))) (.cons (.v (by first | rfl | (rw [hF]))) .nil))) | exact .two (by repeat first | exact .nil | apply ExpL.cons | exact (by first | exact .one (.v (by first | rfl | (rw [hF]))) | exact .one (.own rfl rfl rfl rfl rfl rfl (by first | rfl | (rw [hF])) (by first | exact scal_ints _ | exact scal_slc _)) | exact .one (.nil (by decide) (by first | rfl | (rw [hF]))) | exact .agg (.cons (.v (by first | rfl | (rw [hF]))) (.cons (.v (by first | rfl | (rw [hF]))) (.cons (.own rfl rfl rfl rfl rfl rfl (by first | rfl | (rw [hF])) (scal_ints _)) .nil))) | exact .agg (.cons (.v (by first | rfl | (rw [hF]))) (.cons (.v (by first | rfl | (rw [hF]))) (.cons (.nil (by decide) (by first | rfl | (rw [hF]))) .nil))) | exact .agg (.cons (.v (by first | rfl | (rw [hF]))) (.cons (.v (by first | rfl | (rw [hF]))) .nil))))), (by decide)⟩
set_option maxHeartbeats 2000000 in
theorem alike_fn (a b : PHall) (ha : a.cells.length ≤ lim) (hb : b.cells.length ≤ lim) : FnS Tryd.prog 12 [hallV a, hallV b] (.bool (alikeF a b)) := by
  have ha' : a.cells.length ≤ 1073741824 := ha
  have hb' : b.cells.length ≤ 1073741824 := hb
  have hca := carsF_len a
  have hcb := carsF_len b
  have hV := hallValid_fn a ha
  have hV2 := hallValid_fn b hb
  have hE := equal_fn (carsF a) (carsF b) (by have := lim_eq; omega) (by have := lim_eq; omega)
  have hE2 := equal_fn a.cells b.cells ha hb
  by_cases hyes : validB a = true ∧ validB b = true ∧ a.wide = b.wide ∧ a.deep = b.deep ∧ carsF a = carsF b
  · rw [alike_yes hyes]
    obtain ⟨h1, h2, h3, h4, h5⟩ := hyes
    rw [h1] at hV
    rw [h2] at hV2
    rw [decide_eq_true h5] at hE
    have hP := parityOf_fn a ha
    have hP2 := parityOf_fn b hb
    by_cases c0 : (hallFreeF a).length = 0
    · rw [if_pos c0]
      refine fn_go2 tabOk Tryd.func12 rfl (by kernel_rfl) Tryd.ntmps12 Tryd.results12 (by decide) ?_
      repeat first | refine Ua ?_ | refine Ub ?_ | refine Uc ?_ | refine Ud ?_ | refine Ue ?_ | refine Ug ⟨by kernel_rfl, ?_⟩ | refine Ug ?_ | refine Uh ?_ | refine Ui ?_ | refine Uj ?_ | refine Uk rfl ?_ | refine Ul rfl ?_ | refine Um ?_ | refine Un ?_ | refine Uo ?_ | refine Up rfl ?_ | refine Uq ?_ | refine Ur ?_ | refine Us ?_ | refine Ut ?_ | refine Uu ?_ | refine Ux ?_ | refine Af (h := ?_) | refine At (h := ?_) | refine Uv rfl rfl rfl rfl ?_ | refine Uw rfl rfl rfl ?_ | refine U0 (by first | (apply st_call (hfn := hV ); exact rfl; exact fz) | (apply st_call (hfn := hV2 ); exact rfl; exact fz) | (apply st_call (hfn := hE ); exact rfl; exact fz) | (apply st_call (hfn := hE2 ); exact rfl; exact fz) | exact z0 | fail) ?_ | refine U1 (by first | (apply st_call_s (hfn := hallCars_fn a ha ); exact rfl; exact fz; iterate 2 exact rfl) | (apply st_call_s (hfn := hallCars_fn b hb ); exact rfl; exact fz; iterate 2 exact rfl) | (apply st_call_s (hfn := hallFree_fn a ha ); exact rfl; exact fz; iterate 2 exact rfl) | exact z1 | fail) ?_ | refine U9 zs ?_ | refine Kf (h := ?_) | refine Kt (h := ?_)
      exact ⟨.inl rfl, Rx⟩
    · rw [if_neg c0]
      by_cases c1 : (hallFreeF a).length = 1
      · rw [if_pos c1]
        refine fn_go2 tabOk Tryd.func12 rfl (by kernel_rfl) Tryd.ntmps12 Tryd.results12 (by decide) ?_
        repeat first | refine Ua ?_ | refine Ub ?_ | refine Uc ?_ | refine Ud ?_ | refine Ue ?_ | refine Ug ⟨by kernel_rfl, ?_⟩ | refine Ug ?_ | refine Uh ?_ | refine Ui ?_ | refine Uj ?_ | refine Uk rfl ?_ | refine Ul rfl ?_ | refine Um ?_ | refine Un ?_ | refine Uo ?_ | refine Up rfl ?_ | refine Uq ?_ | refine Ur ?_ | refine Us ?_ | refine Ut ?_ | refine Uu ?_ | refine Ux ?_ | refine Af (h := ?_) | refine At (h := ?_) | refine Uv rfl rfl rfl rfl ?_ | refine Uw rfl rfl rfl ?_ | refine U0 (by first | (apply st_call (hfn := hV ); exact rfl; exact fz) | (apply st_call (hfn := hV2 ); exact rfl; exact fz) | (apply st_call (hfn := hE ); exact rfl; exact fz) | (apply st_call (hfn := hP ); exact rfl; exact fz) | (apply st_call (hfn := hP2 ); exact rfl; exact fz) | exact z0 | fail) ?_ | refine U1 (by first | (apply st_call_s (hfn := hallCars_fn a ha ); exact rfl; exact fz; iterate 2 exact rfl) | (apply st_call_s (hfn := hallCars_fn b hb ); exact rfl; exact fz; iterate 2 exact rfl) | (apply st_call_s (hfn := hallFree_fn a ha ); exact rfl; exact fz; iterate 2 exact rfl) | exact z1 | fail) ?_ | refine U9 zs ?_ | refine Kf (h := ?_) | refine Kt (h := ?_)
        exact ⟨.inl rfl, Rx⟩
      · rw [if_neg c1]
        refine fn_go2 tabOk Tryd.func12 rfl (by kernel_rfl) Tryd.ntmps12 Tryd.results12 (by decide) ?_
        repeat first | refine Ua ?_ | refine Ub ?_ | refine Uc ?_ | refine Ud ?_ | refine Ue ?_ | refine Ug ⟨by kernel_rfl, ?_⟩ | refine Ug ?_ | refine Uh ?_ | refine Ui ?_ | refine Uj ?_ | refine Uk rfl ?_ | refine Ul rfl ?_ | refine Um ?_ | refine Un ?_ | refine Uo ?_ | refine Up rfl ?_ | refine Uq ?_ | refine Ur ?_ | refine Us ?_ | refine Ut ?_ | refine Uu ?_ | refine Ux ?_ | refine Af (h := ?_) | refine At (h := ?_) | refine Uv rfl rfl rfl rfl ?_ | refine Uw rfl rfl rfl ?_ | refine U0 (by first | (apply st_call (hfn := hV ); exact rfl; exact fz) | (apply st_call (hfn := hV2 ); exact rfl; exact fz) | (apply st_call (hfn := hE ); exact rfl; exact fz) | exact z0 | fail) ?_ | refine U1 (by first | (apply st_call_s (hfn := hallCars_fn a ha ); exact rfl; exact fz; iterate 2 exact rfl) | (apply st_call_s (hfn := hallCars_fn b hb ); exact rfl; exact fz; iterate 2 exact rfl) | (apply st_call_s (hfn := hallFree_fn a ha ); exact rfl; exact fz; iterate 2 exact rfl) | exact z1 | fail) ?_ | refine U9 zs ?_ | refine Kf (h := ?_) | refine Kt (h := ?_)
        exact ⟨.inl rfl, Rx⟩
  · rw [alike_no hyes]
    cases h1 : validB a with
    | false =>
      rw [h1] at hV
      refine fn_go2 tabOk Tryd.func12 rfl (by kernel_rfl) Tryd.ntmps12 Tryd.results12 (by decide) ?_
      repeat first | refine Ua ?_ | refine Ub ?_ | refine Uc ?_ | refine Ud ?_ | refine Ue ?_ | refine Ug ⟨by kernel_rfl, ?_⟩ | refine Ug ?_ | refine Uh ?_ | refine Ui ?_ | refine Uj ?_ | refine Uk rfl ?_ | refine Ul rfl ?_ | refine Um ?_ | refine Un ?_ | refine Uo ?_ | refine Up rfl ?_ | refine Uq ?_ | refine Ur ?_ | refine Us ?_ | refine Ut ?_ | refine Uu ?_ | refine Ux ?_ | refine Af (h := ?_) | refine At (h := ?_) | refine Uv rfl rfl rfl rfl ?_ | refine Uw rfl rfl rfl ?_ | refine U0 (by first | (apply st_call (hfn := hV ); exact rfl; exact fz) | (apply st_call (hfn := hV2 ); exact rfl; exact fz) | (apply st_call (hfn := hE ); exact rfl; exact fz) | exact z0 | fail) ?_ | refine U1 (by first | (apply st_call_s (hfn := hallCars_fn a ha ); exact rfl; exact fz; iterate 2 exact rfl) | (apply st_call_s (hfn := hallCars_fn b hb ); exact rfl; exact fz; iterate 2 exact rfl) | (apply st_call_s (hfn := hallFree_fn a ha ); exact rfl; exact fz; iterate 2 exact rfl) | exact z1 | fail) ?_ | refine U9 zs ?_ | refine Kf (h := ?_) | refine Kt (h := ?_)
      exact ⟨.inl rfl, Rx⟩
    | true =>
      rw [h1] at hV
      cases h2 : validB b with
      | false =>
        rw [h2] at hV2
        refine fn_go2 tabOk Tryd.func12 rfl (by kernel_rfl) Tryd.ntmps12 Tryd.results12 (by decide) ?_
        repeat first | refine Ua ?_ | refine Ub ?_ | refine Uc ?_ | refine Ud ?_ | refine Ue ?_ | refine Ug ⟨by kernel_rfl, ?_⟩ | refine Ug ?_ | refine Uh ?_ | refine Ui ?_ | refine Uj ?_ | refine Uk rfl ?_ | refine Ul rfl ?_ | refine Um ?_ | refine Un ?_ | refine Uo ?_ | refine Up rfl ?_ | refine Uq ?_ | refine Ur ?_ | refine Us ?_ | refine Ut ?_ | refine Uu ?_ | refine Ux ?_ | refine Af (h := ?_) | refine At (h := ?_) | refine Uv rfl rfl rfl rfl ?_ | refine Uw rfl rfl rfl ?_ | refine U0 (by first | (apply st_call (hfn := hV ); exact rfl; exact fz) | (apply st_call (hfn := hV2 ); exact rfl; exact fz) | (apply st_call (hfn := hE ); exact rfl; exact fz) | exact z0 | fail) ?_ | refine U1 (by first | (apply st_call_s (hfn := hallCars_fn a ha ); exact rfl; exact fz; iterate 2 exact rfl) | (apply st_call_s (hfn := hallCars_fn b hb ); exact rfl; exact fz; iterate 2 exact rfl) | (apply st_call_s (hfn := hallFree_fn a ha ); exact rfl; exact fz; iterate 2 exact rfl) | exact z1 | fail) ?_ | refine U9 zs ?_ | refine Kf (h := ?_) | refine Kt (h := ?_)
        exact ⟨.inl rfl, Rx⟩
      | true =>
        rw [h2] at hV2
        by_cases h3 : a.wide = b.wide
        · by_cases h4 : a.deep = b.deep
          · have h5 : ¬ carsF a = carsF b := fun e => hyes ⟨h1, h2, h3, h4, e⟩
            rw [decide_eq_false h5] at hE
            refine fn_go2 tabOk Tryd.func12 rfl (by kernel_rfl) Tryd.ntmps12 Tryd.results12 (by decide) ?_
            repeat first | refine Ua ?_ | refine Ub ?_ | refine Uc ?_ | refine Ud ?_ | refine Ue ?_ | refine Ug ⟨by kernel_rfl, ?_⟩ | refine Ug ?_ | refine Uh ?_ | refine Ui ?_ | refine Uj ?_ | refine Uk rfl ?_ | refine Ul rfl ?_ | refine Um ?_ | refine Un ?_ | refine Uo ?_ | refine Up rfl ?_ | refine Uq ?_ | refine Ur ?_ | refine Us ?_ | refine Ut ?_ | refine Uu ?_ | refine Ux ?_ | refine Af (h := ?_) | refine At (h := ?_) | refine Uv rfl rfl rfl rfl ?_ | refine Uw rfl rfl rfl ?_ | refine U0 (by first | (apply st_call (hfn := hV ); exact rfl; exact fz) | (apply st_call (hfn := hV2 ); exact rfl; exact fz) | (apply st_call (hfn := hE ); exact rfl; exact fz) | exact z0 | fail) ?_ | refine U1 (by first | (apply st_call_s (hfn := hallCars_fn a ha ); exact rfl; exact fz; iterate 2 exact rfl) | (apply st_call_s (hfn := hallCars_fn b hb ); exact rfl; exact fz; iterate 2 exact rfl) | (apply st_call_s (hfn := hallFree_fn a ha ); exact rfl; exact fz; iterate 2 exact rfl) | exact z1 | fail) ?_ | refine U9 zs ?_ | refine Kf (h := ?_) | refine Kt (h := ?_)
            exact ⟨.inl rfl, Rx⟩
          · refine fn_go2 tabOk Tryd.func12 rfl (by kernel_rfl) Tryd.ntmps12 Tryd.results12 (by decide) ?_
            repeat first | refine Ua ?_ | refine Ub ?_ | refine Uc ?_ | refine Ud ?_ | refine Ue ?_ | refine Ug ⟨by kernel_rfl, ?_⟩ | refine Ug ?_ | refine Uh ?_ | refine Ui ?_ | refine Uj ?_ | refine Uk rfl ?_ | refine Ul rfl ?_ | refine Um ?_ | refine Un ?_ | refine Uo ?_ | refine Up rfl ?_ | refine Uq ?_ | refine Ur ?_ | refine Us ?_ | refine Ut ?_ | refine Uu ?_ | refine Ux ?_ | refine Af (h := ?_) | refine At (h := ?_) | refine Uv rfl rfl rfl rfl ?_ | refine Uw rfl rfl rfl ?_ | refine U0 (by first | (apply st_call (hfn := hV ); exact rfl; exact fz) | (apply st_call (hfn := hV2 ); exact rfl; exact fz) | (apply st_call (hfn := hE ); exact rfl; exact fz) | exact z0 | fail) ?_ | refine U1 (by first | (apply st_call_s (hfn := hallCars_fn a ha ); exact rfl; exact fz; iterate 2 exact rfl) | (apply st_call_s (hfn := hallCars_fn b hb ); exact rfl; exact fz; iterate 2 exact rfl) | (apply st_call_s (hfn := hallFree_fn a ha ); exact rfl; exact fz; iterate 2 exact rfl) | exact z1 | fail) ?_ | refine U9 zs ?_ | refine Kf (h := ?_) | refine Kt (h := ?_)
            exact ⟨.inl rfl, Rx⟩
        · refine fn_go2 tabOk Tryd.func12 rfl (by kernel_rfl) Tryd.ntmps12 Tryd.results12 (by decide) ?_
          repeat first | refine Ua ?_ | refine Ub ?_ | refine Uc ?_ | refine Ud ?_ | refine Ue ?_ | refine Ug ⟨by kernel_rfl, ?_⟩ | refine Ug ?_ | refine Uh ?_ | refine Ui ?_ | refine Uj ?_ | refine Uk rfl ?_ | refine Ul rfl ?_ | refine Um ?_ | refine Un ?_ | refine Uo ?_ | refine Up rfl ?_ | refine Uq ?_ | refine Ur ?_ | refine Us ?_ | refine Ut ?_ | refine Uu ?_ | refine Ux ?_ | refine Af (h := ?_) | refine At (h := ?_) | refine Uv rfl rfl rfl rfl ?_ | refine Uw rfl rfl rfl ?_ | refine U0 (by first | (apply st_call (hfn := hV ); exact rfl; exact fz) | (apply st_call (hfn := hV2 ); exact rfl; exact fz) | (apply st_call (hfn := hE ); exact rfl; exact fz) | exact z0 | fail) ?_ | refine U1 (by first | (apply st_call_s (hfn := hallCars_fn a ha ); exact rfl; exact fz; iterate 2 exact rfl) | (apply st_call_s (hfn := hallCars_fn b hb ); exact rfl; exact fz; iterate 2 exact rfl) | (apply st_call_s (hfn := hallFree_fn a ha ); exact rfl; exact fz; iterate 2 exact rfl) | exact z1 | fail) ?_ | refine U9 zs ?_ | refine Kf (h := ?_) | refine Kt (h := ?_)
          exact ⟨.inl rfl, Rx⟩
/-- the first k cells alike -/
def sameTo (a b : List Int) : Nat → Bool
  | 0 => true
  | k+1 => sameTo a b k && decide (gi a k = gi b k)
theorem sameTo_iff {a b : List Int} : ∀ k, sameTo a b k = true ↔ ∀ j, j < k → gi a j = gi b j
  | 0 => by simp [sameTo]
  | k+1 => by
    simp only [sameTo, Bool.and_eq_true, sameTo_iff k, decide_eq_true_eq]
    exact ⟨fun h j hj => by by_cases e : j = k; (subst e; exact h.2); exact h.1 j (by omega), fun h => ⟨fun j hj => h j (by omega), h k (by omega)⟩⟩
theorem sameTo_all {a b : List Int} (hl : a.length = b.length) : sameTo a b a.length = decide (a = b) := by
  by_cases e : a = b
  · rw [decide_eq_true e, sameTo_iff]; intro j _; rw [e]
  · rw [decide_eq_false e]
    cases h : sameTo a b a.length with
    | false => rfl
    | true => exact absurd (al_ext hl (fun j hj => (sameTo_iff _).1 h j hj)) e
set_option maxHeartbeats 2000000 in
theorem specAlike_fn (a b : PHall) (ha : a.cells.length ≤ lim) (hb : b.cells.length ≤ lim) : FnS Tryd.prog 13 [hallV a, hallV b] (.bool (alikeF a b)) := by
  have ha' : a.cells.length ≤ 1073741824 := ha
  have hb' : b.cells.length ≤ 1073741824 := hb
  have hca := carsF_len a
  have hcb := carsF_len b
  have hV := specHallValid_fn a ha
  have hV2 := specHallValid_fn b hb
  have hca2 := hca
  cases h1 : validB a with
  | false =>
    rw [h1] at hV
    rw [alike_no (fun e => by rw [h1] at e; cases e.1)]
    refine fn_go2 tabOk Tryd.func13 rfl (by kernel_rfl) Tryd.ntmps13 Tryd.results13 (by decide) ?_
    repeat first | refine Ua ?_ | refine Ub ?_ | refine Uc ?_ | refine Ud ?_ | refine Ue ?_ | refine Ug ⟨by kernel_rfl, ?_⟩ | refine Ug ?_ | refine Uh ?_ | refine Ui ?_ | refine Uj ?_ | refine Uk rfl ?_ | refine Ul rfl ?_ | refine Um ?_ | refine Un ?_ | refine Uo ?_ | refine Up rfl ?_ | refine Uq ?_ | refine Ur ?_ | refine Us ?_ | refine Ut ?_ | refine Uu ?_ | refine Ux ?_ | refine Af (h := ?_) | refine At (h := ?_) | refine Uv rfl rfl rfl rfl ?_ | refine Uw rfl rfl rfl ?_ | refine U0 (by first | (apply st_call (hfn := hV ); exact rfl; exact fz) | (apply st_call (hfn := hV2 ); exact rfl; exact fz) | exact z0 | fail) ?_ | refine U1 (by first | (apply st_call_s (hfn := specHallCars_fn a ha ); exact rfl; exact fz; iterate 2 exact rfl) | (apply st_call_s (hfn := specHallCars_fn b hb ); exact rfl; exact fz; iterate 2 exact rfl) | exact z1 | fail) ?_ | refine U9 zs ?_ | refine Kf (h := ?_) | refine Kt (h := ?_)
    exact ⟨.inl rfl, Rx⟩
  | true =>
    rw [h1] at hV
    cases h2 : validB b with
    | false =>
      rw [h2] at hV2
      rw [alike_no (fun e => by rw [h2] at e; cases e.2.1)]
      refine fn_go2 tabOk Tryd.func13 rfl (by kernel_rfl) Tryd.ntmps13 Tryd.results13 (by decide) ?_
      repeat first | refine Ua ?_ | refine Ub ?_ | refine Uc ?_ | refine Ud ?_ | refine Ue ?_ | refine Ug ⟨by kernel_rfl, ?_⟩ | refine Ug ?_ | refine Uh ?_ | refine Ui ?_ | refine Uj ?_ | refine Uk rfl ?_ | refine Ul rfl ?_ | refine Um ?_ | refine Un ?_ | refine Uo ?_ | refine Up rfl ?_ | refine Uq ?_ | refine Ur ?_ | refine Us ?_ | refine Ut ?_ | refine Uu ?_ | refine Ux ?_ | refine Af (h := ?_) | refine At (h := ?_) | refine Uv rfl rfl rfl rfl ?_ | refine Uw rfl rfl rfl ?_ | refine U0 (by first | (apply st_call (hfn := hV ); exact rfl; exact fz) | (apply st_call (hfn := hV2 ); exact rfl; exact fz) | exact z0 | fail) ?_ | refine U1 (by first | (apply st_call_s (hfn := specHallCars_fn a ha ); exact rfl; exact fz; iterate 2 exact rfl) | (apply st_call_s (hfn := specHallCars_fn b hb ); exact rfl; exact fz; iterate 2 exact rfl) | exact z1 | fail) ?_ | refine U9 zs ?_ | refine Kf (h := ?_) | refine Kt (h := ?_)
      exact ⟨.inl rfl, Rx⟩
    | true =>
      rw [h2] at hV2
      by_cases h3 : a.wide = b.wide
      · by_cases h4 : a.deep = b.deep
        · by_cases hn : (carsF a).length = (carsF b).length
          · refine fn_go2 tabOk Tryd.func13 rfl (by kernel_rfl) Tryd.ntmps13 Tryd.results13 (by decide) ?_
            repeat first | refine Ua ?_ | refine Ub ?_ | refine Uc ?_ | refine Ud ?_ | refine Ue ?_ | refine Ug ⟨by kernel_rfl, ?_⟩ | refine Ug ?_ | refine Uh ?_ | refine Ui ?_ | refine Uj ?_ | refine Uk rfl ?_ | refine Ul rfl ?_ | refine Um ?_ | refine Un ?_ | refine Uo ?_ | refine Up rfl ?_ | refine Uq ?_ | refine Ur ?_ | refine Us ?_ | refine Ut ?_ | refine Uu ?_ | refine Ux ?_ | refine Af (h := ?_) | refine At (h := ?_) | refine Uv rfl rfl rfl rfl ?_ | refine Uw rfl rfl rfl ?_ | refine U0 (by first | (apply st_call (hfn := hV ); exact rfl; exact fz) | (apply st_call (hfn := hV2 ); exact rfl; exact fz) | exact z0 | fail) ?_ | refine U1 (by first | (apply st_call_s (hfn := specHallCars_fn a ha ); exact rfl; exact fz; iterate 2 exact rfl) | (apply st_call_s (hfn := specHallCars_fn b hb ); exact rfl; exact fz; iterate 2 exact rfl) | exact z1 | fail) ?_ | refine U9 zs ?_ | refine Kf (h := ?_) | refine Kt (h := ?_)
            refine ax_loop (fun k : Nat => mkS [(8, .int (k : Int)), (7, .bool true), (6, .own 4 0), (5, .own 3 0), (3, .ptr 2 0 0), (2, .ptr 1 0 0)] ⟨5, [(1, some (hallRow a)), (2, some (hallRow b)), (3, some (intsRow (carsF a))), (4, some (intsRow (carsF b)))]⟩) (fun k => k ≤ (carsF a).length ∧ ∀ j, j < k → gi (carsF a) j = gi (carsF b) j) (fun k => (carsF a).length - k) (0) (⟨Nat.zero_le _, fun j hj => by omega⟩) (Lw (ρ := [])) ?_
            rintro k ⟨hk, hj⟩
            repeat first | refine Ua ?_ | refine Ub ?_ | refine Uc ?_ | refine Ud ?_ | refine Ue ?_ | refine Ug ⟨by kernel_rfl, ?_⟩ | refine Ug ?_ | refine Uh ?_ | refine Ui ?_ | refine Uj ?_ | refine Uk rfl ?_ | refine Ul rfl ?_ | refine Um ?_ | refine Un ?_ | refine Uo ?_ | refine Up rfl ?_ | refine Uq ?_ | refine Ur ?_ | refine Us ?_ | refine Ut ?_ | refine Uu ?_ | refine Ux ?_ | refine Uv rfl rfl rfl rfl ?_ | refine Uw rfl rfl rfl ?_ | refine U0 z0 ?_ | refine U1 z1 ?_ | refine U9 zs ?_
            refine ax_cond rfl (fun hb1 => ?_) (fun hb1 => ?_)
            · have hlt : k < (carsF a).length := by simpa using hb1
              repeat first | refine Ua ?_ | refine Ub ?_ | refine Uc ?_ | refine Ud ?_ | refine Ue ?_ | refine Ug ⟨by kernel_rfl, ?_⟩ | refine Ug ?_ | refine Uh ?_ | refine Ui ?_ | refine Uj ?_ | refine Uk rfl ?_ | refine Ul rfl ?_ | refine Um ?_ | refine Un ?_ | refine Uo ?_ | refine Up rfl ?_ | refine Uq ?_ | refine Ur ?_ | refine Us ?_ | refine Ut ?_ | refine Uu ?_ | refine Ux ?_ | refine Uv rfl rfl rfl rfl ?_ | refine Uw rfl rfl rfl ?_ | refine U0 z0 ?_ | refine U1 z1 ?_ | refine U9 zs ?_
              refine ax_cond rfl (fun hb2 => ?_) (fun hb2 => ?_)
              · rw [alike_no (fun e => by have h5 := e.2.2.2.2; rw [h5] at hb2; simp at hb2)]
                repeat first | refine Ua ?_ | refine Ub ?_ | refine Uc ?_ | refine Ud ?_ | refine Ue ?_ | refine Ug ⟨by kernel_rfl, ?_⟩ | refine Ug ?_ | refine Uh ?_ | refine Ui ?_ | refine Uj ?_ | refine Uk rfl ?_ | refine Ul rfl ?_ | refine Um ?_ | refine Un ?_ | refine Uo ?_ | refine Up rfl ?_ | refine Uq ?_ | refine Ur ?_ | refine Us ?_ | refine Ut ?_ | refine Uu ?_ | refine Ux ?_ | refine Uv rfl rfl rfl rfl ?_ | refine Uw rfl rfl rfl ?_ | refine U0 z0 ?_ | refine U1 z1 ?_ | refine U9 zs ?_
                exact ⟨.inl rfl, Rx⟩
              · have he : gi (carsF a) k = gi (carsF b) k := by simpa using hb2
                repeat first | refine Ua ?_ | refine Ub ?_ | refine Uc ?_ | refine Ud ?_ | refine Ue ?_ | refine Ug ⟨by kernel_rfl, ?_⟩ | refine Ug ?_ | refine Uh ?_ | refine Ui ?_ | refine Uj ?_ | refine Uk rfl ?_ | refine Ul rfl ?_ | refine Um ?_ | refine Un ?_ | refine Uo ?_ | refine Up rfl ?_ | refine Uq ?_ | refine Ur ?_ | refine Us ?_ | refine Ut ?_ | refine Uu ?_ | refine Ux ?_ | refine Uv rfl rfl rfl rfl ?_ | refine Uw rfl rfl rfl ?_ | refine U0 z0 ?_ | refine U1 z1 ?_ | refine U9 zs ?_
                refine round_next (k + 1) (⟨hlt, fun j hj' => by by_cases e : j = k; (subst e; exact he); exact hj j (by omega)⟩) (by omega) (Lw (ρ := []))
            · have hkn : k = (carsF a).length := by simp at hb1; omega
              have h5 : carsF a = carsF b := al_ext hn (fun j hj' => hj j (by omega))
              have hyes : validB a = true ∧ validB b = true ∧ a.wide = b.wide ∧ a.deep = b.deep ∧ carsF a = carsF b := ⟨h1, h2, h3, h4, h5⟩
              obtain ⟨f1, f2⟩ := alike_free hyes
              rw [alike_spec hyes]
              have hP := specParityOf_fn a ha
              have hP2 := specParityOf_fn b hb
              repeat first | refine Ua ?_ | refine Ub ?_ | refine Uc ?_ | refine Ud ?_ | refine Ue ?_ | refine Ug ⟨by kernel_rfl, ?_⟩ | refine Ug ?_ | refine Uh ?_ | refine Ui ?_ | refine Uj ?_ | refine Uk rfl ?_ | refine Ul rfl ?_ | refine Um ?_ | refine Un ?_ | refine Uo ?_ | refine Up rfl ?_ | refine Uq ?_ | refine Ur ?_ | refine Us ?_ | refine Ut ?_ | refine Uu ?_ | refine Ux ?_ | refine Uv rfl rfl rfl rfl ?_ | refine Uw rfl rfl rfl ?_ | refine U0 z0 ?_ | refine U1 z1 ?_ | refine U9 zs ?_
              refine ax_loop (fun m : Nat => mkS [(9, .int (m : Int)), (7, .bool (sameTo a.cells b.cells m)), (5, .own 3 0), (3, .ptr 2 0 0), (2, .ptr 1 0 0)] ⟨5, [(1, some (hallRow a)), (2, some (hallRow b)), (3, some (intsRow (carsF a)))]⟩) (fun m => m ≤ a.cells.length) (fun m => a.cells.length - m) (0) (Nat.zero_le _) (Lw (ρ := [])) ?_
              intro m hm
              repeat first | refine Ua ?_ | refine Ub ?_ | refine Uc ?_ | refine Ud ?_ | refine Ue ?_ | refine Ug ⟨by kernel_rfl, ?_⟩ | refine Ug ?_ | refine Uh ?_ | refine Ui ?_ | refine Uj ?_ | refine Uk rfl ?_ | refine Ul rfl ?_ | refine Um ?_ | refine Un ?_ | refine Uo ?_ | refine Up rfl ?_ | refine Uq ?_ | refine Ur ?_ | refine Us ?_ | refine Ut ?_ | refine Uu ?_ | refine Ux ?_ | refine Uv rfl rfl rfl rfl ?_ | refine Uw rfl rfl rfl ?_ | refine U0 z0 ?_ | refine U1 z1 ?_ | refine U9 zs ?_
              refine ax_cond rfl (fun hb3 => ?_) (fun hb3 => ?_)
              · have hlt : m < a.cells.length := by simpa using hb3
                cases hs : sameTo a.cells b.cells m
                · repeat first | refine Ua ?_ | refine Ub ?_ | refine Uc ?_ | refine Ud ?_ | refine Ue ?_ | refine Ug ⟨by kernel_rfl, ?_⟩ | refine Ug ?_ | refine Uh ?_ | refine Ui ?_ | refine Uj ?_ | refine Uk rfl ?_ | refine Ul rfl ?_ | refine Um ?_ | refine Un ?_ | refine Uo ?_ | refine Up rfl ?_ | refine Uq ?_ | refine Ur ?_ | refine Us ?_ | refine Ut ?_ | refine Uu ?_ | refine Ux ?_ | refine Af (h := ?_) | refine At (h := ?_) | refine Uv rfl rfl rfl rfl ?_ | refine Uw rfl rfl rfl ?_ | refine U0 z0 ?_ | refine U1 z1 ?_ | refine U9 zs ?_ | refine Kf (h := ?_) | refine Kt (h := ?_)
                  refine round_next (m + 1) (hlt) (by omega) (weak_of [] (by repeat first | exact .nil | refine LeEs.cons ?_ ?_ | exact .v (by first | rfl | (simp [sameTo, hs])) | exact .own rfl rfl rfl rfl rfl | exact .ptr rfl rfl rfl rfl rfl rfl | exact .nil rfl rfl rfl | exact .sl (by first | rfl | (simp [sameTo, hs])) | exact .both rfl rfl | exact .frz rfl rfl rfl rfl rfl (by first | rfl | (simp [sameTo, hs])) rfl | exact .tab rfl | exact .any _) (by repeat first | exact .nil | refine LeHs.keep rfl ⟨rfl, rfl, rfl, .inl ⟨rfl, by first | rfl | (simp [sameTo, hs])⟩⟩ ?_ | refine LeHs.keep rfl ⟨rfl, rfl, rfl, .inr ⟨(by first | exact .inl rfl | exact .inr rfl), by repeat first | exact .nil | refine LeVL.cons ?_ ?_ | exact .v (by first | rfl | (simp [sameTo, hs])) | exact .own rfl rfl rfl rfl rfl | exact .sl (by first | rfl | (simp [sameTo, hs])) | exact .both rfl rfl | exact .frz rfl rfl rfl rfl rfl (by first | rfl | (simp [sameTo, hs])) rfl⟩⟩ ?_ | refine LeHs.fresh rfl rfl rfl (Nat.succ_pos _) rfl ?_) rfl rfl)
                · repeat first | refine Ua ?_ | refine Ub ?_ | refine Uc ?_ | refine Ud ?_ | refine Ue ?_ | refine Ug ⟨by kernel_rfl, ?_⟩ | refine Ug ?_ | refine Uh ?_ | refine Ui ?_ | refine Uj ?_ | refine Uk rfl ?_ | refine Ul rfl ?_ | refine Um ?_ | refine Un ?_ | refine Uo ?_ | refine Up rfl ?_ | refine Uq ?_ | refine Ur ?_ | refine Us ?_ | refine Ut ?_ | refine Uu ?_ | refine Ux ?_ | refine Af (h := ?_) | refine At (h := ?_) | refine Uv rfl rfl rfl rfl ?_ | refine Uw rfl rfl rfl ?_ | refine U0 z0 ?_ | refine U1 z1 ?_ | refine U9 zs ?_ | refine Kf (h := ?_) | refine Kt (h := ?_)
                  refine round_next (m + 1) (hlt) (by omega) (weak_of [] (by repeat first | exact .nil | refine LeEs.cons ?_ ?_ | exact .v (by first | rfl | (simp [sameTo, hs])) | exact .own rfl rfl rfl rfl rfl | exact .ptr rfl rfl rfl rfl rfl rfl | exact .nil rfl rfl rfl | exact .sl (by first | rfl | (simp [sameTo, hs])) | exact .both rfl rfl | exact .frz rfl rfl rfl rfl rfl (by first | rfl | (simp [sameTo, hs])) rfl | exact .tab rfl | exact .any _) (by repeat first | exact .nil | refine LeHs.keep rfl ⟨rfl, rfl, rfl, .inl ⟨rfl, by first | rfl | (simp [sameTo, hs])⟩⟩ ?_ | refine LeHs.keep rfl ⟨rfl, rfl, rfl, .inr ⟨(by first | exact .inl rfl | exact .inr rfl), by repeat first | exact .nil | refine LeVL.cons ?_ ?_ | exact .v (by first | rfl | (simp [sameTo, hs])) | exact .own rfl rfl rfl rfl rfl | exact .sl (by first | rfl | (simp [sameTo, hs])) | exact .both rfl rfl | exact .frz rfl rfl rfl rfl rfl (by first | rfl | (simp [sameTo, hs])) rfl⟩⟩ ?_ | refine LeHs.fresh rfl rfl rfl (Nat.succ_pos _) rfl ?_) rfl rfl)
              · have hmn : m = a.cells.length := by simp at hb3; omega
                subst hmn
                rw [sameTo_all f1]
                by_cases hc : a.cells = b.cells
                · rw [decide_eq_true hc]
                  repeat first | refine Ua ?_ | refine Ub ?_ | refine Uc ?_ | refine Ud ?_ | refine Ue ?_ | refine Ug ⟨by kernel_rfl, ?_⟩ | refine Ug ?_ | refine Uh ?_ | refine Ui ?_ | refine Uj ?_ | refine Uk rfl ?_ | refine Ul rfl ?_ | refine Um ?_ | refine Un ?_ | refine Uo ?_ | refine Up rfl ?_ | refine Uq ?_ | refine Ur ?_ | refine Us ?_ | refine Ut ?_ | refine Uu ?_ | refine Ux ?_ | refine Af (h := ?_) | refine At (h := ?_) | refine Uv rfl rfl rfl rfl ?_ | refine Uw rfl rfl rfl ?_ | refine U0 z0 ?_ | refine U1 z1 ?_ | refine U9 zs ?_ | refine Kf (h := ?_) | refine Kt (h := ?_)
                  exact ⟨.inl rfl, Rx⟩
                · rw [decide_eq_false hc]
                  by_cases hl2 : (carsF a).length < a.cells.length
                  · rw [decide_eq_true hl2]
                    repeat first | refine Ua ?_ | refine Ub ?_ | refine Uc ?_ | refine Ud ?_ | refine Ue ?_ | refine Ug ⟨by kernel_rfl, ?_⟩ | refine Ug ?_ | refine Uh ?_ | refine Ui ?_ | refine Uj ?_ | refine Uk rfl ?_ | refine Ul rfl ?_ | refine Um ?_ | refine Un ?_ | refine Uo ?_ | refine Up rfl ?_ | refine Uq ?_ | refine Ur ?_ | refine Us ?_ | refine Ut ?_ | refine Uu ?_ | refine Ux ?_ | refine Af (h := ?_) | refine At (h := ?_) | refine Uv rfl rfl rfl rfl ?_ | refine Uw rfl rfl rfl ?_ | refine U0 (by first | (apply st_call (hfn := hP ); exact rfl; exact fz) | (apply st_call (hfn := hP2 ); exact rfl; exact fz) | exact z0 | fail) ?_ | refine U1 z1 ?_ | refine U9 zs ?_ | refine Kf (h := ?_) | refine Kt (h := ?_)
                    exact ⟨.inl rfl, Rx⟩
                  · rw [decide_eq_false hl2]
                    repeat first | refine Ua ?_ | refine Ub ?_ | refine Uc ?_ | refine Ud ?_ | refine Ue ?_ | refine Ug ⟨by kernel_rfl, ?_⟩ | refine Ug ?_ | refine Uh ?_ | refine Ui ?_ | refine Uj ?_ | refine Uk rfl ?_ | refine Ul rfl ?_ | refine Um ?_ | refine Un ?_ | refine Uo ?_ | refine Up rfl ?_ | refine Uq ?_ | refine Ur ?_ | refine Us ?_ | refine Ut ?_ | refine Uu ?_ | refine Ux ?_ | refine Af (h := ?_) | refine At (h := ?_) | refine Uv rfl rfl rfl rfl ?_ | refine Uw rfl rfl rfl ?_ | refine U0 z0 ?_ | refine U1 z1 ?_ | refine U9 zs ?_ | refine Kf (h := ?_) | refine Kt (h := ?_)
                    exact ⟨.inl rfl, Rx⟩
          · rw [alike_no (fun e => hn (by rw [e.2.2.2.2]))]
            refine fn_go2 tabOk Tryd.func13 rfl (by kernel_rfl) Tryd.ntmps13 Tryd.results13 (by decide) ?_
            repeat first | refine Ua ?_ | refine Ub ?_ | refine Uc ?_ | refine Ud ?_ | refine Ue ?_ | refine Ug ⟨by kernel_rfl, ?_⟩ | refine Ug ?_ | refine Uh ?_ | refine Ui ?_ | refine Uj ?_ | refine Uk rfl ?_ | refine Ul rfl ?_ | refine Um ?_ | refine Un ?_ | refine Uo ?_ | refine Up rfl ?_ | refine Uq ?_ | refine Ur ?_ | refine Us ?_ | refine Ut ?_ | refine Uu ?_ | refine Ux ?_ | refine Af (h := ?_) | refine At (h := ?_) | refine Uv rfl rfl rfl rfl ?_ | refine Uw rfl rfl rfl ?_ | refine U0 (by first | (apply st_call (hfn := hV ); exact rfl; exact fz) | (apply st_call (hfn := hV2 ); exact rfl; exact fz) | exact z0 | fail) ?_ | refine U1 (by first | (apply st_call_s (hfn := specHallCars_fn a ha ); exact rfl; exact fz; iterate 2 exact rfl) | (apply st_call_s (hfn := specHallCars_fn b hb ); exact rfl; exact fz; iterate 2 exact rfl) | exact z1 | fail) ?_ | refine U9 zs ?_ | refine Kf (h := ?_) | refine Kt (h := ?_)
            exact ⟨.inl rfl, Rx⟩
        · rw [alike_no (fun e => h4 e.2.2.2.1)]
          refine fn_go2 tabOk Tryd.func13 rfl (by kernel_rfl) Tryd.ntmps13 Tryd.results13 (by decide) ?_
          repeat first | refine Ua ?_ | refine Ub ?_ | refine Uc ?_ | refine Ud ?_ | refine Ue ?_ | refine Ug ⟨by kernel_rfl, ?_⟩ | refine Ug ?_ | refine Uh ?_ | refine Ui ?_ | refine Uj ?_ | refine Uk rfl ?_ | refine Ul rfl ?_ | refine Um ?_ | refine Un ?_ | refine Uo ?_ | refine Up rfl ?_ | refine Uq ?_ | refine Ur ?_ | refine Us ?_ | refine Ut ?_ | refine Uu ?_ | refine Ux ?_ | refine Af (h := ?_) | refine At (h := ?_) | refine Uv rfl rfl rfl rfl ?_ | refine Uw rfl rfl rfl ?_ | refine U0 (by first | (apply st_call (hfn := hV ); exact rfl; exact fz) | (apply st_call (hfn := hV2 ); exact rfl; exact fz) | exact z0 | fail) ?_ | refine U1 (by first | (apply st_call_s (hfn := specHallCars_fn a ha ); exact rfl; exact fz; iterate 2 exact rfl) | (apply st_call_s (hfn := specHallCars_fn b hb ); exact rfl; exact fz; iterate 2 exact rfl) | exact z1 | fail) ?_ | refine U9 zs ?_ | refine Kf (h := ?_) | refine Kt (h := ?_)
          exact ⟨.inl rfl, Rx⟩
      · rw [alike_no (fun e => h3 e.2.2.1)]
        refine fn_go2 tabOk Tryd.func13 rfl (by kernel_rfl) Tryd.ntmps13 Tryd.results13 (by decide) ?_
        repeat first | refine Ua ?_ | refine Ub ?_ | refine Uc ?_ | refine Ud ?_ | refine Ue ?_ | refine Ug ⟨by kernel_rfl, ?_⟩ | refine Ug ?_ | refine Uh ?_ | refine Ui ?_ | refine Uj ?_ | refine Uk rfl ?_ | refine Ul rfl ?_ | refine Um ?_ | refine Un ?_ | refine Uo ?_ | refine Up rfl ?_ | refine Uq ?_ | refine Ur ?_ | refine Us ?_ | refine Ut ?_ | refine Uu ?_ | refine Ux ?_ | refine Af (h := ?_) | refine At (h := ?_) | refine Uv rfl rfl rfl rfl ?_ | refine Uw rfl rfl rfl ?_ | refine U0 (by first | (apply st_call (hfn := hV ); exact rfl; exact fz) | (apply st_call (hfn := hV2 ); exact rfl; exact fz) | exact z0 | fail) ?_ | refine U1 (by first | (apply st_call_s (hfn := specHallCars_fn a ha ); exact rfl; exact fz; iterate 2 exact rfl) | (apply st_call_s (hfn := specHallCars_fn b hb ); exact rfl; exact fz; iterate 2 exact rfl) | exact z1 | fail) ?_ | refine U9 zs ?_ | refine Kf (h := ?_) | refine Kt (h := ?_)
        exact ⟨.inl rfl, Rx⟩
end Go.Proofs.YtnfjmcenjpoloaaDoor
