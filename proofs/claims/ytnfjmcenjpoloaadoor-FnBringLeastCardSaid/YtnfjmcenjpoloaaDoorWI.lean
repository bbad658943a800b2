/-
  FnBringLeast, where the car cannot be brought.
-/
import Derived.Test.YtnfjmcenjpoloaaDoorWG
import Derived.Test.YtnfjmcenjpoloaaDoorRH
set_option linter.unusedVariables false
set_option linter.unusedSimpArgs false
set_option maxRecDepth 100000
namespace Go.Proofs.YtnfjmcenjpoloaaDoor
open Go Go.RowKit Go.Park Go.Sym
set_option maxHeartbeats 4000000 in
theorem drawBringLeast_fn (v0 : Value) (bs : List Int) (hB : OkB bs) : ∃ i : PHall × Int, i.1.cells.length ≤ 13 ∧ FnS Tryd.prog 31 [codeV v0 bs] (.tup [hallV i.1, .int i.2]) := by
  have hC := cut_bytes hB
  obtain ⟨⟨h, id, q⟩, ⟨g1, g2, g3⟩, hH⟩ := l20Crowd_fn (rdV v0) _ hC 0 (by omega) 9 (by omega)
  dsimp only at g1 g2 g3 hH
  have hlim := lim_eq
  refine fnx_go1 (Good := fun i : PHall × Int => i.1.cells.length ≤ 13) (res := fun i => .tup [hallV i.1, .int i.2]) tabOk Tryd.func31 rfl (by kernel_rfl) Tryd.ntmps31 Tryd.results31 (by decide) ?_
  repeat first | refine Ua ?_ | refine Ub ?_ | refine Uc ?_ | refine Ud ?_ | refine Ue ?_ | refine Ug ⟨by kernel_rfl, ?_⟩ | refine Ug ?_ | refine Uh ?_ | refine Ui ?_ | refine Uj ?_ | refine Uk rfl ?_ | refine Ul rfl ?_ | refine Um ?_ | refine Un ?_ | refine Uo ?_ | refine Up rfl ?_ | refine Uq ?_ | refine Ur ?_ | refine Us ?_ | refine Ut ?_ | refine Uu ?_ | refine Ux ?_ | refine Uv rfl rfl rfl rfl ?_ | refine Uw rfl rfl rfl ?_ | refine U0 z0 ?_ | refine U1 (by first | (apply st_open; iterate 4 exact rfl) | exact z1 | fail) ?_ | refine U9 zs ?_ | refine U2 (by first | (apply st_recv_hv (hfn := hH ); (iterate 4 exact rfl); exact fz; iterate 3 exact rfl) | fail) ?_
  exact ⟨⟨(h, id), g1, .inl rfl, Rx⟩⟩
theorem run_least {h : PHall} {l : List (Int × Int)} (hv : validB h = true) (hd : (slideRunF h l).2 = l.length) (h0 : l.length ≤ 60) (hp : 0 < gi (slideRunF h l).1.cells 0) : leastF h (gi (slideRunF h l).1.cells 0) ≤ l.length := by
  obtain ⟨n, hn, e1, e2⟩ := runF_is l h
  have e3 : slideRunF h l = (stS h l n, (n : Int)) := by unfold slideRunF; rw [if_pos ⟨hv, h0⟩, e1]
  rw [e3] at hd hp ⊢
  have hnl : n = l.length := by
    have : (n : Int) = l.length := hd
    omega
  subst hnl
  dsimp only at hp ⊢
  obtain ⟨s1, s2, _⟩ := stS_ok (l := l) hv l.length
  have h4 := (valid_len s1).1
  exact (least_le e2 (find_is s1 (by omega) (j := 0) (by omega) rfl)).2
set_option maxHeartbeats 8000000 in
theorem fnBringLeast_lo (v0 : Value) (bs : List Int) (v1 : Value) (ms : List Int) (h : PHall) (id : Int) (hh : PHall) (sl : List (Int × Int)) (g1 : h.cells.length ≤ 13) (k1 : hh.cells.length ≤ 13) (k2 : sl.length ≤ 61) (hH : FnS Tryd.prog 31 [codeV v0 bs] (.tup [hallV h, .int id])) (hD : FnS Tryd.prog 14 [codeV v1 ms] (.tup [hallV hh, slcV sl]))
    (hN : leastF h id < 0) : FnG Tryd.prog 3 bruijn 6 [codeV v0 bs, codeV v1 ms] (.bool true) := by
  have hlim := lim_eq
  have hl : h.cells.length ≤ lim := by omega
  have hhl : hh.cells.length ≤ lim := by omega
  have hL := bringLeast_fn h hl id
  have hL2 := specBringLeast_fn h hl id
  have hE := slideRun_fn hh hhl sl (by omega)
  have hV := specHallValid_fn hh hhl
  have hel : (slideRunF hh sl).1.cells.length ≤ hh.cells.length := slideRunF_len
  have hP := bringPlan_fn h hl id
  have hlow := least_low h id
  have hN1 : leastF h id = -1 := by omega
  have hpl : bringPlanF h id = ([], false) := by
    rcases best_cases h id with ⟨_, e, _⟩ | ⟨c, _, _, hb, _, _⟩
    · exact e
    · rw [least_is hb] at hN; omega
  rw [hpl] at hP
  rw [hN1] at hL hL2
  dsimp only at hP
  cases hvh : validB hh with
  | false =>
    rw [hvh] at hV
    generalize (slideRunF hh sl).2 = d at *
    generalize (slideRunF hh sl).1 = X at *
    refine fng_go2 tabOk Tryd.func6 rfl (by kernel_rfl) Tryd.ntmps6 Tryd.results6 (by decide) ?_
    repeat first | refine Ua ?_ | refine Ub ?_ | refine Uc ?_ | refine Ud ?_ | refine Ue ?_ | refine Ug ⟨by kernel_rfl, ?_⟩ | refine Ug ?_ | refine Uh ?_ | refine Ui ?_ | refine Uj ?_ | refine Uk rfl ?_ | refine Ul rfl ?_ | refine Um ?_ | refine Un ?_ | refine Uo ?_ | refine Up rfl ?_ | refine Uq ?_ | refine Ur ?_ | refine Us ?_ | refine Ut ?_ | refine Uu ?_ | refine Ux ?_ | refine Uv rfl rfl rfl rfl ?_ | refine Uw rfl rfl rfl ?_ | refine U0 z0 ?_ | refine U1 z1 ?_ | refine U9 zs ?_
    refine rh_split rfl rfl (fun hb0 => ?_) (fun hb0 => ?_)
    · repeat first | refine Ua ?_ | refine Ub ?_ | refine Uc ?_ | refine Ud ?_ | refine Ue ?_ | refine Ug ⟨by kernel_rfl, ?_⟩ | refine Ug ?_ | refine Uh ?_ | refine Ui ?_ | refine Uj ?_ | refine Uk rfl ?_ | refine Ul rfl ?_ | refine Um ?_ | refine Un ?_ | refine Uo ?_ | refine Up rfl ?_ | refine Uq ?_ | refine Ur ?_ | refine Us ?_ | refine Ut ?_ | refine Uu ?_ | refine Ux ?_ | refine Uv rfl rfl rfl rfl ?_ | refine Uw rfl rfl rfl ?_ | refine U0 z0 ?_ | refine U1 z1 ?_ | refine U9 zs ?_
      exact ⟨.inl rfl, Rx⟩
    · repeat first | refine Ua ?_ | refine Ub ?_ | refine Uc ?_ | refine Ud ?_ | refine Ue ?_ | refine Ug ⟨by kernel_rfl, ?_⟩ | refine Ug ?_ | refine Uh ?_ | refine Ui ?_ | refine Uj ?_ | refine Uk rfl ?_ | refine Ul rfl ?_ | refine Um ?_ | refine Un ?_ | refine Uo ?_ | refine Up rfl ?_ | refine Uq ?_ | refine Ur ?_ | refine Us ?_ | refine Ut ?_ | refine Uu ?_ | refine Ux ?_ | refine Uv rfl rfl rfl rfl ?_ | refine Uw rfl rfl rfl ?_ | refine U0 z0 ?_ | refine U1 z1 ?_ | refine U9 zs ?_
      refine ax_cond rfl (fun hb1 => ?_) (fun hb1 => ?_)
      · repeat first | refine Ua ?_ | refine Ub ?_ | refine Uc ?_ | refine Ud ?_ | refine Ue ?_ | refine Ug ⟨by kernel_rfl, ?_⟩ | refine Ug ?_ | refine Uh ?_ | refine Ui ?_ | refine Uj ?_ | refine Uk rfl ?_ | refine Ul rfl ?_ | refine Um ?_ | refine Un ?_ | refine Uo ?_ | refine Up rfl ?_ | refine Uq ?_ | refine Ur ?_ | refine Us ?_ | refine Ut ?_ | refine Uu ?_ | refine Ux ?_ | refine Uv rfl rfl rfl rfl ?_ | refine Uw rfl rfl rfl ?_ | refine U0 z0 ?_ | refine U1 z1 ?_ | refine U9 zs ?_
        exact ⟨.inl rfl, Rx⟩
      repeat first | refine Ua ?_ | refine Ub ?_ | refine Uc ?_ | refine Ud ?_ | refine Ue ?_ | refine Ug ⟨by kernel_rfl, ?_⟩ | refine Ug ?_ | refine Uh ?_ | refine Ui ?_ | refine Uj ?_ | refine Uk rfl ?_ | refine Ul rfl ?_ | refine Um ?_ | refine Un ?_ | refine Uo ?_ | refine Up rfl ?_ | refine Uq ?_ | refine Ur ?_ | refine Us ?_ | refine Ut ?_ | refine Uu ?_ | refine Ux ?_ | refine Af (h := ?_) | refine At (h := ?_) | refine Uv rfl rfl rfl rfl ?_ | refine Uw rfl rfl rfl ?_ | refine U0 (by first | (apply st_callg (hfn := hL ); exact rfl; exact fz; exact rfl) | (apply st_call (hfn := hL2 ); exact rfl; exact fz) | (apply st_call (hfn := hV ); exact rfl; exact fz) | (apply st_call (hfn := alive_fn ); exact rfl; exact fz) | exact z0 | fail) ?_ | refine U1 (by first | (apply st_call_hv (hfn := hH ); exact rfl; exact fz; iterate 2 exact rfl) | (apply st_call_hv (hfn := hE ); exact rfl; exact fz; iterate 2 exact rfl) | (apply st_call_sv (hfn := hP ); exact rfl; exact fz; iterate 2 exact rfl) | exact z1 | fail) ?_ | refine U9 zs ?_ | refine U2 (by first | (apply st_call_hs (hfn := hD ); exact rfl; exact fz; iterate 3 exact rfl) | fail) ?_ | refine Kf (h := ?_) | refine Kt (h := ?_)
      exact ⟨.inl rfl, Rx⟩
  | true =>
    rw [hvh] at hV
    by_cases hdn : (slideRunF hh sl).2 = sl.length
    · by_cases h60' : sl.length ≤ 60
      · have hXl : 4 ≤ (slideRunF hh sl).1.cells.length := by
          obtain ⟨n', hn', e1', e2'⟩ := runF_is sl hh
          have e3 : slideRunF hh sl = (stS hh sl n', (n' : Int)) := by unfold slideRunF; rw [if_pos ⟨hvh, h60'⟩, e1']
          rw [e3]
          exact (valid_len (stS_ok (l := sl) hvh n').1).1
        by_cases hp0 : 0 < gi (slideRunF hh sl).1.cells 0
        · have hrl := run_least hvh hdn h60' hp0
          have hLe := bringLeast_fn hh hhl (gi (slideRunF hh sl).1.cells 0)
          generalize leastF hh (gi (slideRunF hh sl).1.cells 0) = lh at *
          generalize (slideRunF hh sl).2 = d at *
          generalize (slideRunF hh sl).1 = X at *
          refine fng_go2 tabOk Tryd.func6 rfl (by kernel_rfl) Tryd.ntmps6 Tryd.results6 (by decide) ?_
          repeat first | refine Ua ?_ | refine Ub ?_ | refine Uc ?_ | refine Ud ?_ | refine Ue ?_ | refine Ug ⟨by kernel_rfl, ?_⟩ | refine Ug ?_ | refine Uh ?_ | refine Ui ?_ | refine Uj ?_ | refine Uk rfl ?_ | refine Ul rfl ?_ | refine Um ?_ | refine Un ?_ | refine Uo ?_ | refine Up rfl ?_ | refine Uq ?_ | refine Ur ?_ | refine Us ?_ | refine Ut ?_ | refine Uu ?_ | refine Ux ?_ | refine Uv rfl rfl rfl rfl ?_ | refine Uw rfl rfl rfl ?_ | refine U0 z0 ?_ | refine U1 z1 ?_ | refine U9 zs ?_
          refine rh_split rfl rfl (fun hb0 => ?_) (fun hb0 => ?_)
          · repeat first | refine Ua ?_ | refine Ub ?_ | refine Uc ?_ | refine Ud ?_ | refine Ue ?_ | refine Ug ⟨by kernel_rfl, ?_⟩ | refine Ug ?_ | refine Uh ?_ | refine Ui ?_ | refine Uj ?_ | refine Uk rfl ?_ | refine Ul rfl ?_ | refine Um ?_ | refine Un ?_ | refine Uo ?_ | refine Up rfl ?_ | refine Uq ?_ | refine Ur ?_ | refine Us ?_ | refine Ut ?_ | refine Uu ?_ | refine Ux ?_ | refine Uv rfl rfl rfl rfl ?_ | refine Uw rfl rfl rfl ?_ | refine U0 z0 ?_ | refine U1 z1 ?_ | refine U9 zs ?_
            exact ⟨.inl rfl, Rx⟩
          · repeat first | refine Ua ?_ | refine Ub ?_ | refine Uc ?_ | refine Ud ?_ | refine Ue ?_ | refine Ug ⟨by kernel_rfl, ?_⟩ | refine Ug ?_ | refine Uh ?_ | refine Ui ?_ | refine Uj ?_ | refine Uk rfl ?_ | refine Ul rfl ?_ | refine Um ?_ | refine Un ?_ | refine Uo ?_ | refine Up rfl ?_ | refine Uq ?_ | refine Ur ?_ | refine Us ?_ | refine Ut ?_ | refine Uu ?_ | refine Ux ?_ | refine Uv rfl rfl rfl rfl ?_ | refine Uw rfl rfl rfl ?_ | refine U0 z0 ?_ | refine U1 z1 ?_ | refine U9 zs ?_
            refine ax_cond rfl (fun hb1 => ?_) (fun hb1 => ?_)
            · repeat first | refine Ua ?_ | refine Ub ?_ | refine Uc ?_ | refine Ud ?_ | refine Ue ?_ | refine Ug ⟨by kernel_rfl, ?_⟩ | refine Ug ?_ | refine Uh ?_ | refine Ui ?_ | refine Uj ?_ | refine Uk rfl ?_ | refine Ul rfl ?_ | refine Um ?_ | refine Un ?_ | refine Uo ?_ | refine Up rfl ?_ | refine Uq ?_ | refine Ur ?_ | refine Us ?_ | refine Ut ?_ | refine Uu ?_ | refine Ux ?_ | refine Uv rfl rfl rfl rfl ?_ | refine Uw rfl rfl rfl ?_ | refine U0 z0 ?_ | refine U1 z1 ?_ | refine U9 zs ?_
              exact ⟨.inl rfl, Rx⟩
            repeat first | refine Ua ?_ | refine Ub ?_ | refine Uc ?_ | refine Ud ?_ | refine Ue ?_ | refine Ug ⟨by kernel_rfl, ?_⟩ | refine Ug ?_ | refine Uh ?_ | refine Ui ?_ | refine Uj ?_ | refine Uk rfl ?_ | refine Ul rfl ?_ | refine Um ?_ | refine Un ?_ | refine Uo ?_ | refine Up rfl ?_ | refine Uq ?_ | refine Ur ?_ | refine Us ?_ | refine Ut ?_ | refine Uu ?_ | refine Ux ?_ | refine Af (h := ?_) | refine At (h := ?_) | refine Uv rfl rfl rfl rfl ?_ | refine Uw rfl rfl rfl ?_ | refine U0 (by first | (apply st_callg (hfn := hL ); exact rfl; exact fz; exact rfl) | (apply st_call (hfn := hL2 ); exact rfl; exact fz) | (apply st_call (hfn := hV ); exact rfl; exact fz) | (apply st_call (hfn := alive_fn ); exact rfl; exact fz) | (apply st_callg (hfn := hLe ); exact rfl; exact fz; exact rfl) | exact z0 | fail) ?_ | refine U1 (by first | (apply st_call_hv (hfn := hH ); exact rfl; exact fz; iterate 2 exact rfl) | (apply st_call_hv (hfn := hE ); exact rfl; exact fz; iterate 2 exact rfl) | (apply st_call_sv (hfn := hP ); exact rfl; exact fz; iterate 2 exact rfl) | exact z1 | fail) ?_ | refine U9 zs ?_ | refine U2 (by first | (apply st_call_hs (hfn := hD ); exact rfl; exact fz; iterate 3 exact rfl) | fail) ?_ | refine Kf (h := ?_) | refine Kt (h := ?_)
            exact ⟨.inl rfl, Rx⟩
        · generalize (slideRunF hh sl).2 = d at *
          generalize (slideRunF hh sl).1 = X at *
          refine fng_go2 tabOk Tryd.func6 rfl (by kernel_rfl) Tryd.ntmps6 Tryd.results6 (by decide) ?_
          repeat first | refine Ua ?_ | refine Ub ?_ | refine Uc ?_ | refine Ud ?_ | refine Ue ?_ | refine Ug ⟨by kernel_rfl, ?_⟩ | refine Ug ?_ | refine Uh ?_ | refine Ui ?_ | refine Uj ?_ | refine Uk rfl ?_ | refine Ul rfl ?_ | refine Um ?_ | refine Un ?_ | refine Uo ?_ | refine Up rfl ?_ | refine Uq ?_ | refine Ur ?_ | refine Us ?_ | refine Ut ?_ | refine Uu ?_ | refine Ux ?_ | refine Uv rfl rfl rfl rfl ?_ | refine Uw rfl rfl rfl ?_ | refine U0 z0 ?_ | refine U1 z1 ?_ | refine U9 zs ?_
          refine rh_split rfl rfl (fun hb0 => ?_) (fun hb0 => ?_)
          · repeat first | refine Ua ?_ | refine Ub ?_ | refine Uc ?_ | refine Ud ?_ | refine Ue ?_ | refine Ug ⟨by kernel_rfl, ?_⟩ | refine Ug ?_ | refine Uh ?_ | refine Ui ?_ | refine Uj ?_ | refine Uk rfl ?_ | refine Ul rfl ?_ | refine Um ?_ | refine Un ?_ | refine Uo ?_ | refine Up rfl ?_ | refine Uq ?_ | refine Ur ?_ | refine Us ?_ | refine Ut ?_ | refine Uu ?_ | refine Ux ?_ | refine Uv rfl rfl rfl rfl ?_ | refine Uw rfl rfl rfl ?_ | refine U0 z0 ?_ | refine U1 z1 ?_ | refine U9 zs ?_
            exact ⟨.inl rfl, Rx⟩
          · repeat first | refine Ua ?_ | refine Ub ?_ | refine Uc ?_ | refine Ud ?_ | refine Ue ?_ | refine Ug ⟨by kernel_rfl, ?_⟩ | refine Ug ?_ | refine Uh ?_ | refine Ui ?_ | refine Uj ?_ | refine Uk rfl ?_ | refine Ul rfl ?_ | refine Um ?_ | refine Un ?_ | refine Uo ?_ | refine Up rfl ?_ | refine Uq ?_ | refine Ur ?_ | refine Us ?_ | refine Ut ?_ | refine Uu ?_ | refine Ux ?_ | refine Uv rfl rfl rfl rfl ?_ | refine Uw rfl rfl rfl ?_ | refine U0 z0 ?_ | refine U1 z1 ?_ | refine U9 zs ?_
            refine ax_cond rfl (fun hb1 => ?_) (fun hb1 => ?_)
            · repeat first | refine Ua ?_ | refine Ub ?_ | refine Uc ?_ | refine Ud ?_ | refine Ue ?_ | refine Ug ⟨by kernel_rfl, ?_⟩ | refine Ug ?_ | refine Uh ?_ | refine Ui ?_ | refine Uj ?_ | refine Uk rfl ?_ | refine Ul rfl ?_ | refine Um ?_ | refine Un ?_ | refine Uo ?_ | refine Up rfl ?_ | refine Uq ?_ | refine Ur ?_ | refine Us ?_ | refine Ut ?_ | refine Uu ?_ | refine Ux ?_ | refine Uv rfl rfl rfl rfl ?_ | refine Uw rfl rfl rfl ?_ | refine U0 z0 ?_ | refine U1 z1 ?_ | refine U9 zs ?_
              exact ⟨.inl rfl, Rx⟩
            repeat first | refine Ua ?_ | refine Ub ?_ | refine Uc ?_ | refine Ud ?_ | refine Ue ?_ | refine Ug ⟨by kernel_rfl, ?_⟩ | refine Ug ?_ | refine Uh ?_ | refine Ui ?_ | refine Uj ?_ | refine Uk rfl ?_ | refine Ul rfl ?_ | refine Um ?_ | refine Un ?_ | refine Uo ?_ | refine Up rfl ?_ | refine Uq ?_ | refine Ur ?_ | refine Us ?_ | refine Ut ?_ | refine Uu ?_ | refine Ux ?_ | refine Af (h := ?_) | refine At (h := ?_) | refine Uv rfl rfl rfl rfl ?_ | refine Uw rfl rfl rfl ?_ | refine U0 (by first | (apply st_callg (hfn := hL ); exact rfl; exact fz; exact rfl) | (apply st_call (hfn := hL2 ); exact rfl; exact fz) | (apply st_call (hfn := hV ); exact rfl; exact fz) | (apply st_call (hfn := alive_fn ); exact rfl; exact fz) | exact z0 | fail) ?_ | refine U1 (by first | (apply st_call_hv (hfn := hH ); exact rfl; exact fz; iterate 2 exact rfl) | (apply st_call_hv (hfn := hE ); exact rfl; exact fz; iterate 2 exact rfl) | (apply st_call_sv (hfn := hP ); exact rfl; exact fz; iterate 2 exact rfl) | exact z1 | fail) ?_ | refine U9 zs ?_ | refine U2 (by first | (apply st_call_hs (hfn := hD ); exact rfl; exact fz; iterate 3 exact rfl) | fail) ?_ | refine Kf (h := ?_) | refine Kt (h := ?_)
            exact ⟨.inl rfl, Rx⟩
      · have hz : slideRunF hh sl = (zeroHall, 0) := by unfold slideRunF; rw [if_neg (fun e => h60' e.2)]
        rw [hz] at hdn
        have : (0 : Int) = sl.length := hdn
        omega
    · generalize (slideRunF hh sl).2 = d at *
      generalize (slideRunF hh sl).1 = X at *
      refine fng_go2 tabOk Tryd.func6 rfl (by kernel_rfl) Tryd.ntmps6 Tryd.results6 (by decide) ?_
      repeat first | refine Ua ?_ | refine Ub ?_ | refine Uc ?_ | refine Ud ?_ | refine Ue ?_ | refine Ug ⟨by kernel_rfl, ?_⟩ | refine Ug ?_ | refine Uh ?_ | refine Ui ?_ | refine Uj ?_ | refine Uk rfl ?_ | refine Ul rfl ?_ | refine Um ?_ | refine Un ?_ | refine Uo ?_ | refine Up rfl ?_ | refine Uq ?_ | refine Ur ?_ | refine Us ?_ | refine Ut ?_ | refine Uu ?_ | refine Ux ?_ | refine Uv rfl rfl rfl rfl ?_ | refine Uw rfl rfl rfl ?_ | refine U0 z0 ?_ | refine U1 z1 ?_ | refine U9 zs ?_
      refine rh_split rfl rfl (fun hb0 => ?_) (fun hb0 => ?_)
      · repeat first | refine Ua ?_ | refine Ub ?_ | refine Uc ?_ | refine Ud ?_ | refine Ue ?_ | refine Ug ⟨by kernel_rfl, ?_⟩ | refine Ug ?_ | refine Uh ?_ | refine Ui ?_ | refine Uj ?_ | refine Uk rfl ?_ | refine Ul rfl ?_ | refine Um ?_ | refine Un ?_ | refine Uo ?_ | refine Up rfl ?_ | refine Uq ?_ | refine Ur ?_ | refine Us ?_ | refine Ut ?_ | refine Uu ?_ | refine Ux ?_ | refine Uv rfl rfl rfl rfl ?_ | refine Uw rfl rfl rfl ?_ | refine U0 z0 ?_ | refine U1 z1 ?_ | refine U9 zs ?_
        exact ⟨.inl rfl, Rx⟩
      · repeat first | refine Ua ?_ | refine Ub ?_ | refine Uc ?_ | refine Ud ?_ | refine Ue ?_ | refine Ug ⟨by kernel_rfl, ?_⟩ | refine Ug ?_ | refine Uh ?_ | refine Ui ?_ | refine Uj ?_ | refine Uk rfl ?_ | refine Ul rfl ?_ | refine Um ?_ | refine Un ?_ | refine Uo ?_ | refine Up rfl ?_ | refine Uq ?_ | refine Ur ?_ | refine Us ?_ | refine Ut ?_ | refine Uu ?_ | refine Ux ?_ | refine Uv rfl rfl rfl rfl ?_ | refine Uw rfl rfl rfl ?_ | refine U0 z0 ?_ | refine U1 z1 ?_ | refine U9 zs ?_
        refine ax_cond rfl (fun hb1 => ?_) (fun hb1 => ?_)
        · repeat first | refine Ua ?_ | refine Ub ?_ | refine Uc ?_ | refine Ud ?_ | refine Ue ?_ | refine Ug ⟨by kernel_rfl, ?_⟩ | refine Ug ?_ | refine Uh ?_ | refine Ui ?_ | refine Uj ?_ | refine Uk rfl ?_ | refine Ul rfl ?_ | refine Um ?_ | refine Un ?_ | refine Uo ?_ | refine Up rfl ?_ | refine Uq ?_ | refine Ur ?_ | refine Us ?_ | refine Ut ?_ | refine Uu ?_ | refine Ux ?_ | refine Uv rfl rfl rfl rfl ?_ | refine Uw rfl rfl rfl ?_ | refine U0 z0 ?_ | refine U1 z1 ?_ | refine U9 zs ?_
          exact ⟨.inl rfl, Rx⟩
        repeat first | refine Ua ?_ | refine Ub ?_ | refine Uc ?_ | refine Ud ?_ | refine Ue ?_ | refine Ug ⟨by kernel_rfl, ?_⟩ | refine Ug ?_ | refine Uh ?_ | refine Ui ?_ | refine Uj ?_ | refine Uk rfl ?_ | refine Ul rfl ?_ | refine Um ?_ | refine Un ?_ | refine Uo ?_ | refine Up rfl ?_ | refine Uq ?_ | refine Ur ?_ | refine Us ?_ | refine Ut ?_ | refine Uu ?_ | refine Ux ?_ | refine Af (h := ?_) | refine At (h := ?_) | refine Uv rfl rfl rfl rfl ?_ | refine Uw rfl rfl rfl ?_ | refine U0 (by first | (apply st_callg (hfn := hL ); exact rfl; exact fz; exact rfl) | (apply st_call (hfn := hL2 ); exact rfl; exact fz) | (apply st_call (hfn := hV ); exact rfl; exact fz) | (apply st_call (hfn := alive_fn ); exact rfl; exact fz) | exact z0 | fail) ?_ | refine U1 (by first | (apply st_call_hv (hfn := hH ); exact rfl; exact fz; iterate 2 exact rfl) | (apply st_call_hv (hfn := hE ); exact rfl; exact fz; iterate 2 exact rfl) | (apply st_call_sv (hfn := hP ); exact rfl; exact fz; iterate 2 exact rfl) | exact z1 | fail) ?_ | refine U9 zs ?_ | refine U2 (by first | (apply st_call_hs (hfn := hD ); exact rfl; exact fz; iterate 3 exact rfl) | fail) ?_ | refine Kf (h := ?_) | refine Kt (h := ?_)
        exact ⟨.inl rfl, Rx⟩
end Go.Proofs.YtnfjmcenjpoloaaDoor
