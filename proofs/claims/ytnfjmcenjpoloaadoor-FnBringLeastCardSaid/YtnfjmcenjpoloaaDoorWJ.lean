/-
  FnBringLeast, where the car can be brought.
-/
import Derived.Test.YtnfjmcenjpoloaaDoorWI
set_option linter.unusedVariables false
set_option linter.unusedSimpArgs false
set_option maxRecDepth 100000
namespace Go.Proofs.YtnfjmcenjpoloaaDoor
open Go Go.RowKit Go.Park Go.Sym
set_option maxHeartbeats 8000000 in
theorem fnBringLeast_hi (v0 : Value) (bs : List Int) (v1 : Value) (ms : List Int) (h : PHall) (id : Int) (hh : PHall) (sl : List (Int × Int)) (g1 : h.cells.length ≤ 13) (k1 : hh.cells.length ≤ 13) (k2 : sl.length ≤ 61) (hH : FnS Tryd.prog 31 [codeV v0 bs] (.tup [hallV h, .int id])) (hD : FnS Tryd.prog 14 [codeV v1 ms] (.tup [hallV hh, slcV sl]))
    (hN : 0 ≤ leastF h id) : FnG Tryd.prog 3 bruijn 6 [codeV v0 bs, codeV v1 ms] (.bool true) := by
  have hlim := lim_eq
  have hl : h.cells.length ≤ lim := by omega
  have hhl : hh.cells.length ≤ lim := by omega
  have hL := bringLeast_fn h hl id
  have hL2 := specBringLeast_fn h hl id
  have hE := slideRun_fn hh hhl sl (by omega)
  have hV := specHallValid_fn hh hhl
  have hel : (slideRunF hh sl).1.cells.length ≤ hh.cells.length := slideRunF_len
  have hP := bringPlan_fn h hl id
  obtain ⟨c, hc, hpl, hG, hle, hge⟩ := least_plan hN
  obtain ⟨hv, _, hcl, _⟩ := find_at hc
  have hsh := hG.short
  rw [hpl] at hP
  generalize planG 12 h c = pl at *
  dsimp only at hP
  have h60 : leastF h id ≤ 60 := by omega
  have h4 := (valid_len hv).1
  have hA := hallFind_fn h hl id
  rw [hc] at hA
  have hAp := cellsApart_fn h hl (c : Int) 0
  have hap : apartAt h c 0 = apartF h.wide c 0 := by
    unfold apartAt
    rw [if_pos ⟨hv, hasCell_iff.2 (by omega), hasCell_iff.2 (by omega)⟩]
  rw [hap] at hAp
  have hls : (slidesAllF h).length ≤ 200 := by have := may_small h h.cells.length 0 (Nat.le_refl _) (Nat.zero_le _); simp [mayRow, selTo] at this; exact this
  have hS := slidesAll_fn h hl
  have near : ∀ k, k < (slidesAllF h).length → ∃ y : Int, leastF h id - 1 ≤ y ∧ y ≤ leastF h id + 1 ∧ ∃ X : PHall, X.cells.length ≤ 13 ∧ FnS Tryd.prog 35 [hallV h, .agg [.int (gs (slidesAllF h) k).1, .int (gs (slidesAllF h) k).2]] (.tup [hallV X, .bool true]) ∧ FnG Tryd.prog 3 bruijn 26 [hallV X, .int id] (.int y) := by
    intro k hlt
    have hm : gs (slidesAllF h) k ∈ slidesAllF h := by
      have : gs (slidesAllF h) k = (slidesAllF h)[k] := by simp [gs, List.getD, hlt]
      rw [this]; exact List.getElem_mem hlt
    have hm := mem_all.1 hm
    have hd : (slideDoF h (gs (slidesAllF h) k).1 (gs (slidesAllF h) k).2).2 = true := by unfold slideDoF; rw [if_pos hv, if_pos hm]
    obtain ⟨m, _, _, e⟩ := may_of_do hd
    have hnr := least_near (id := id) m hN
    have hel2 : (slidH h (gs (slidesAllF h) k).1.toNat (gs (slidesAllF h) k).2.toNat).cells.length ≤ 13 := by rw [slid_len]; exact g1
    have hD2 := slideDo_fn h hl (gs (slidesAllF h) k).1 (gs (slidesAllF h) k).2
    rw [e, hd] at hD2
    exact ⟨_, by omega, hnr.2, _, hel2, hD2, bringLeast_fn _ (by omega) id⟩
  generalize leastF h id = n at *
  generalize hap0 : apartF h.wide c 0 = ap at *
  cases hvh : validB hh with
  | false =>
    rw [hvh] at hV
    generalize (slideRunF hh sl).2 = d at *
    generalize (slideRunF hh sl).1 = X at *
    refine fng_go2 tabOk Tryd.func6 rfl (by kernel_rfl) Tryd.ntmps6 Tryd.results6 (by decide) ?_
    repeat first | refine Ua ?_ | refine Ub ?_ | refine Uc ?_ | refine Ud ?_ | refine Ue ?_ | refine Ug ⟨by kernel_rfl, ?_⟩ | refine Ug ?_ | refine Uh ?_ | refine Ui ?_ | refine Uj ?_ | refine Uk rfl ?_ | refine Ul rfl ?_ | refine Um ?_ | refine Un ?_ | refine Uo ?_ | refine Up rfl ?_ | refine Uq ?_ | refine Ur ?_ | refine Us ?_ | refine Ut ?_ | refine Uu ?_ | refine Ux ?_ | refine Uv rfl rfl rfl rfl ?_ | refine Uw rfl rfl rfl ?_ | refine U0 z0 ?_ | refine U1 z1 ?_ | refine U9 zs ?_
    refine rh_split rfl rfl (fun hb0 => ?_) (fun hb0 => ?_)
    · repeat first | refine Ua ?_ | refine Ub ?_ | refine Uc ?_ | refine Ud ?_ | refine Ue ?_ | refine Ug ⟨by kernel_rfl, ?_⟩ | refine Ug ?_ | refine Uh ?_ | refine Ui ?_ | refine Uj ?_ | refine Uk rfl ?_ | refine Ul rfl ?_ | refine Um ?_ | refine Un ?_ | refine Uo ?_ | refine Up rfl ?_ | refine Uq ?_ | refine Ur ?_ | refine Us ?_ | refine Ut ?_ | refine Uu ?_ | refine Ux ?_ | refine Uv rfl rfl rfl rfl ?_ | refine Uw rfl rfl rfl ?_ | refine U0 z0 ?_ | refine U1 z1 ?_ | refine U9 zs ?_
      exact ⟨.inl rfl, Rx⟩
    · repeat first | refine Ua ?_ | refine Ub ?_ | refine Uc ?_ | refine Ud ?_ | refine Ue ?_ | refine Ug ⟨by kernel_rfl, ?_⟩ | refine Ug ?_ | refine Uh ?_ | refine Ui ?_ | refine Uj ?_ | refine Uk rfl ?_ | refine Ul rfl ?_ | refine Um ?_ | refine Un ?_ | refine Uo ?_ | refine Up rfl ?_ | refine Uq ?_ | refine Ur ?_ | refine Us ?_ | refine Ut ?_ | refine Uu ?_ | refine Ux ?_ | refine Uv rfl rfl rfl rfl ?_ | refine Uw rfl rfl rfl ?_ | refine U0 z0 ?_ | refine U1 z1 ?_ | refine U9 zs ?_
      refine ax_cond rfl (fun hb1 => ?_) (fun hb1 => ?_)
      · repeat first | refine Ua ?_ | refine Ub ?_ | refine Uc ?_ | refine Ud ?_ | refine Ue ?_ | refine Ug ⟨by kernel_rfl, ?_⟩ | refine Ug ?_ | refine Uh ?_ | refine Ui ?_ | refine Uj ?_ | refine Uk rfl ?_ | refine Ul rfl ?_ | refine Um ?_ | refine Un ?_ | refine Uo ?_ | refine Up rfl ?_ | refine Uq ?_ | refine Ur ?_ | refine Us ?_ | refine Ut ?_ | refine Uu ?_ | refine Ux ?_ | refine Uv rfl rfl rfl rfl ?_ | refine Uw rfl rfl rfl ?_ | refine U0 z0 ?_ | refine U1 z1 ?_ | refine U9 zs ?_
        exact ⟨.inl rfl, Rx⟩
      repeat first | refine Ua ?_ | refine Ub ?_ | refine Uc ?_ | refine Ud ?_ | refine Ue ?_ | refine Ug ⟨by kernel_rfl, ?_⟩ | refine Ug ?_ | refine Uh ?_ | refine Ui ?_ | refine Uj ?_ | refine Uk rfl ?_ | refine Ul rfl ?_ | refine Um ?_ | refine Un ?_ | refine Uo ?_ | refine Up rfl ?_ | refine Uq ?_ | refine Ur ?_ | refine Us ?_ | refine Ut ?_ | refine Uu ?_ | refine Ux ?_ | refine Af (h := ?_) | refine At (h := ?_) | refine Uv rfl rfl rfl rfl ?_ | refine Uw rfl rfl rfl ?_ | refine U0 (by first | (apply st_callg (hfn := hL ); exact rfl; exact fz; exact rfl) | (apply st_call (hfn := hL2 ); exact rfl; exact fz) | (apply st_call (hfn := hV ); exact rfl; exact fz) | exact z0 | fail) ?_ | refine U1 (by first | (apply st_call_hv (hfn := hH ); exact rfl; exact fz; iterate 2 exact rfl) | (apply st_call_hv (hfn := hE ); exact rfl; exact fz; iterate 2 exact rfl) | (apply st_call_sv (hfn := hP ); exact rfl; exact fz; iterate 2 exact rfl) | (apply st_call_s (hfn := hS ); exact rfl; exact fz; iterate 2 exact rfl) | exact z1 | fail) ?_ | refine U9 zs ?_ | refine U2 (by first | (apply st_call_hs (hfn := hD ); exact rfl; exact fz; iterate 3 exact rfl) | fail) ?_ | refine Kf (h := ?_) | refine Kt (h := ?_)
      refine ax_loop (fun k : Nat => mkS [(15, .int (k : Int)), (14, .own 9 0), (13, .bool true), (12, .own 8 0), (7, .int n), (6, .int id), (5, .ptr 2 0 0), tabE] ⟨10, [(1, some (intsRow h.cells)), (2, some (boxRow h.wide h.deep 1 0)), (8, some (slcRow pl)), (9, some (slcRow (slidesAllF h)))]⟩) (fun k => k ≤ (slidesAllF h).length) (fun k => (slidesAllF h).length - k) (0) (Nat.zero_le _) (Lw (ρ := [])) ?_
      intro k hk
      repeat first | refine Ua ?_ | refine Ub ?_ | refine Uc ?_ | refine Ud ?_ | refine Ue ?_ | refine Ug ⟨by kernel_rfl, ?_⟩ | refine Ug ?_ | refine Uh ?_ | refine Ui ?_ | refine Uj ?_ | refine Uk rfl ?_ | refine Ul rfl ?_ | refine Um ?_ | refine Un ?_ | refine Uo ?_ | refine Up rfl ?_ | refine Uq ?_ | refine Ur ?_ | refine Us ?_ | refine Ut ?_ | refine Uu ?_ | refine Ux ?_ | refine Uv rfl rfl rfl rfl ?_ | refine Uw rfl rfl rfl ?_ | refine U0 z0 ?_ | refine U1 z1 ?_ | refine U9 zs ?_
      refine ax_cond rfl (fun hb2 => ?_) (fun hb2 => ?_)
      · have hlt : k < (slidesAllF h).length := by simpa using hb2
        obtain ⟨y, y1, y2, X2, x1, x2, x3⟩ := near k hlt
        repeat first | refine Ua ?_ | refine Ub ?_ | refine Uc ?_ | refine Ud ?_ | refine Ue ?_ | refine Ug ⟨by kernel_rfl, ?_⟩ | refine Ug ?_ | refine Uh ?_ | refine Ui ?_ | refine Uj ?_ | refine Uk rfl ?_ | refine Ul rfl ?_ | refine Um ?_ | refine Un ?_ | refine Uo ?_ | refine Up rfl ?_ | refine Uq ?_ | refine Ur ?_ | refine Us ?_ | refine Ut ?_ | refine Uu ?_ | refine Ux ?_ | refine Af (h := ?_) | refine At (h := ?_) | refine Uv rfl rfl rfl rfl ?_ | refine Uw rfl rfl rfl ?_ | refine U0 (by first | (apply st_callg (hfn := x3 ); exact rfl; exact fz; exact rfl) | exact z0 | fail) ?_ | refine U1 (by first | (apply st_call_hv (hfn := x2 ); exact rfl; exact fz; iterate 2 exact rfl) | exact z1 | fail) ?_ | refine U9 zs ?_ | refine Kf (h := ?_) | refine Kt (h := ?_)
        refine round_next (k + 1) (hlt) (by omega) (Lw (ρ := []))
      · repeat first | refine Ua ?_ | refine Ub ?_ | refine Uc ?_ | refine Ud ?_ | refine Ue ?_ | refine Ug ⟨by kernel_rfl, ?_⟩ | refine Ug ?_ | refine Uh ?_ | refine Ui ?_ | refine Uj ?_ | refine Uk rfl ?_ | refine Ul rfl ?_ | refine Um ?_ | refine Un ?_ | refine Uo ?_ | refine Up rfl ?_ | refine Uq ?_ | refine Ur ?_ | refine Us ?_ | refine Ut ?_ | refine Uu ?_ | refine Ux ?_ | refine Af (h := ?_) | refine At (h := ?_) | refine Uv rfl rfl rfl rfl ?_ | refine Uw rfl rfl rfl ?_ | refine U0 (by first | (apply st_call (hfn := hA ); exact rfl; exact fz) | (apply st_call (hfn := hAp ); exact rfl; exact fz) | exact z0 | fail) ?_ | refine U1 z1 ?_ | refine U9 zs ?_ | refine Kf (h := ?_) | refine Kt (h := ?_)
        first | rw [show decide (ap ≤ n) = true from decide_eq_true hge] | rw [show decide (n ≥ ap) = true from decide_eq_true hge]
        exact ⟨.inl rfl, Rx⟩
  | true =>
    rw [hvh] at hV
    by_cases hdn : (slideRunF hh sl).2 = sl.length
    · by_cases h60' : sl.length ≤ 60
      · have hXl : 4 ≤ (slideRunF hh sl).1.cells.length := by
          obtain ⟨n', hn', e1', e2'⟩ := runF_is sl hh
          have e3 : slideRunF hh sl = (stS hh sl n', (n' : Int)) := by unfold slideRunF; rw [if_pos ⟨hvh, h60'⟩, e1']
          rw [e3]
          exact (valid_len (stS_ok (l := sl) hvh n').1).1
        by_cases hp0 : 0 < gi (slideRunF hh sl).1.cells 0
        · have hrl := run_least hvh hdn h60' hp0
          have hLe := bringLeast_fn hh hhl (gi (slideRunF hh sl).1.cells 0)
          generalize leastF hh (gi (slideRunF hh sl).1.cells 0) = lh at *
          generalize (slideRunF hh sl).2 = d at *
          generalize (slideRunF hh sl).1 = X at *
          refine fng_go2 tabOk Tryd.func6 rfl (by kernel_rfl) Tryd.ntmps6 Tryd.results6 (by decide) ?_
          repeat first | refine Ua ?_ | refine Ub ?_ | refine Uc ?_ | refine Ud ?_ | refine Ue ?_ | refine Ug ⟨by kernel_rfl, ?_⟩ | refine Ug ?_ | refine Uh ?_ | refine Ui ?_ | refine Uj ?_ | refine Uk rfl ?_ | refine Ul rfl ?_ | refine Um ?_ | refine Un ?_ | refine Uo ?_ | refine Up rfl ?_ | refine Uq ?_ | refine Ur ?_ | refine Us ?_ | refine Ut ?_ | refine Uu ?_ | refine Ux ?_ | refine Uv rfl rfl rfl rfl ?_ | refine Uw rfl rfl rfl ?_ | refine U0 z0 ?_ | refine U1 z1 ?_ | refine U9 zs ?_
          refine rh_split rfl rfl (fun hb0 => ?_) (fun hb0 => ?_)
          · repeat first | refine Ua ?_ | refine Ub ?_ | refine Uc ?_ | refine Ud ?_ | refine Ue ?_ | refine Ug ⟨by kernel_rfl, ?_⟩ | refine Ug ?_ | refine Uh ?_ | refine Ui ?_ | refine Uj ?_ | refine Uk rfl ?_ | refine Ul rfl ?_ | refine Um ?_ | refine Un ?_ | refine Uo ?_ | refine Up rfl ?_ | refine Uq ?_ | refine Ur ?_ | refine Us ?_ | refine Ut ?_ | refine Uu ?_ | refine Ux ?_ | refine Uv rfl rfl rfl rfl ?_ | refine Uw rfl rfl rfl ?_ | refine U0 z0 ?_ | refine U1 z1 ?_ | refine U9 zs ?_
            exact ⟨.inl rfl, Rx⟩
          · repeat first | refine Ua ?_ | refine Ub ?_ | refine Uc ?_ | refine Ud ?_ | refine Ue ?_ | refine Ug ⟨by kernel_rfl, ?_⟩ | refine Ug ?_ | refine Uh ?_ | refine Ui ?_ | refine Uj ?_ | refine Uk rfl ?_ | refine Ul rfl ?_ | refine Um ?_ | refine Un ?_ | refine Uo ?_ | refine Up rfl ?_ | refine Uq ?_ | refine Ur ?_ | refine Us ?_ | refine Ut ?_ | refine Uu ?_ | refine Ux ?_ | refine Uv rfl rfl rfl rfl ?_ | refine Uw rfl rfl rfl ?_ | refine U0 z0 ?_ | refine U1 z1 ?_ | refine U9 zs ?_
            refine ax_cond rfl (fun hb1 => ?_) (fun hb1 => ?_)
            · repeat first | refine Ua ?_ | refine Ub ?_ | refine Uc ?_ | refine Ud ?_ | refine Ue ?_ | refine Ug ⟨by kernel_rfl, ?_⟩ | refine Ug ?_ | refine Uh ?_ | refine Ui ?_ | refine Uj ?_ | refine Uk rfl ?_ | refine Ul rfl ?_ | refine Um ?_ | refine Un ?_ | refine Uo ?_ | refine Up rfl ?_ | refine Uq ?_ | refine Ur ?_ | refine Us ?_ | refine Ut ?_ | refine Uu ?_ | refine Ux ?_ | refine Uv rfl rfl rfl rfl ?_ | refine Uw rfl rfl rfl ?_ | refine U0 z0 ?_ | refine U1 z1 ?_ | refine U9 zs ?_
              exact ⟨.inl rfl, Rx⟩
            repeat first | refine Ua ?_ | refine Ub ?_ | refine Uc ?_ | refine Ud ?_ | refine Ue ?_ | refine Ug ⟨by kernel_rfl, ?_⟩ | refine Ug ?_ | refine Uh ?_ | refine Ui ?_ | refine Uj ?_ | refine Uk rfl ?_ | refine Ul rfl ?_ | refine Um ?_ | refine Un ?_ | refine Uo ?_ | refine Up rfl ?_ | refine Uq ?_ | refine Ur ?_ | refine Us ?_ | refine Ut ?_ | refine Uu ?_ | refine Ux ?_ | refine Af (h := ?_) | refine At (h := ?_) | refine Uv rfl rfl rfl rfl ?_ | refine Uw rfl rfl rfl ?_ | refine U0 (by first | (apply st_callg (hfn := hL ); exact rfl; exact fz; exact rfl) | (apply st_call (hfn := hL2 ); exact rfl; exact fz) | (apply st_call (hfn := hV ); exact rfl; exact fz) | (apply st_callg (hfn := hLe ); exact rfl; exact fz; exact rfl) | exact z0 | fail) ?_ | refine U1 (by first | (apply st_call_hv (hfn := hH ); exact rfl; exact fz; iterate 2 exact rfl) | (apply st_call_hv (hfn := hE ); exact rfl; exact fz; iterate 2 exact rfl) | (apply st_call_sv (hfn := hP ); exact rfl; exact fz; iterate 2 exact rfl) | (apply st_call_s (hfn := hS ); exact rfl; exact fz; iterate 2 exact rfl) | exact z1 | fail) ?_ | refine U9 zs ?_ | refine U2 (by first | (apply st_call_hs (hfn := hD ); exact rfl; exact fz; iterate 3 exact rfl) | fail) ?_ | refine Kf (h := ?_) | refine Kt (h := ?_)
            refine ax_loop (fun k : Nat => mkS [(15, .int (k : Int)), (14, .own 9 0), (13, .bool true), (12, .own 8 0), (7, .int n), (6, .int id), (5, .ptr 2 0 0), tabE] ⟨10, [(1, some (intsRow h.cells)), (2, some (boxRow h.wide h.deep 1 0)), (8, some (slcRow pl)), (9, some (slcRow (slidesAllF h)))]⟩) (fun k => k ≤ (slidesAllF h).length) (fun k => (slidesAllF h).length - k) (0) (Nat.zero_le _) (Lw (ρ := [])) ?_
            intro k hk
            repeat first | refine Ua ?_ | refine Ub ?_ | refine Uc ?_ | refine Ud ?_ | refine Ue ?_ | refine Ug ⟨by kernel_rfl, ?_⟩ | refine Ug ?_ | refine Uh ?_ | refine Ui ?_ | refine Uj ?_ | refine Uk rfl ?_ | refine Ul rfl ?_ | refine Um ?_ | refine Un ?_ | refine Uo ?_ | refine Up rfl ?_ | refine Uq ?_ | refine Ur ?_ | refine Us ?_ | refine Ut ?_ | refine Uu ?_ | refine Ux ?_ | refine Uv rfl rfl rfl rfl ?_ | refine Uw rfl rfl rfl ?_ | refine U0 z0 ?_ | refine U1 z1 ?_ | refine U9 zs ?_
            refine ax_cond rfl (fun hb2 => ?_) (fun hb2 => ?_)
            · have hlt : k < (slidesAllF h).length := by simpa using hb2
              obtain ⟨y, y1, y2, X2, x1, x2, x3⟩ := near k hlt
              repeat first | refine Ua ?_ | refine Ub ?_ | refine Uc ?_ | refine Ud ?_ | refine Ue ?_ | refine Ug ⟨by kernel_rfl, ?_⟩ | refine Ug ?_ | refine Uh ?_ | refine Ui ?_ | refine Uj ?_ | refine Uk rfl ?_ | refine Ul rfl ?_ | refine Um ?_ | refine Un ?_ | refine Uo ?_ | refine Up rfl ?_ | refine Uq ?_ | refine Ur ?_ | refine Us ?_ | refine Ut ?_ | refine Uu ?_ | refine Ux ?_ | refine Af (h := ?_) | refine At (h := ?_) | refine Uv rfl rfl rfl rfl ?_ | refine Uw rfl rfl rfl ?_ | refine U0 (by first | (apply st_callg (hfn := x3 ); exact rfl; exact fz; exact rfl) | exact z0 | fail) ?_ | refine U1 (by first | (apply st_call_hv (hfn := x2 ); exact rfl; exact fz; iterate 2 exact rfl) | exact z1 | fail) ?_ | refine U9 zs ?_ | refine Kf (h := ?_) | refine Kt (h := ?_)
              refine round_next (k + 1) (hlt) (by omega) (Lw (ρ := []))
            · repeat first | refine Ua ?_ | refine Ub ?_ | refine Uc ?_ | refine Ud ?_ | refine Ue ?_ | refine Ug ⟨by kernel_rfl, ?_⟩ | refine Ug ?_ | refine Uh ?_ | refine Ui ?_ | refine Uj ?_ | refine Uk rfl ?_ | refine Ul rfl ?_ | refine Um ?_ | refine Un ?_ | refine Uo ?_ | refine Up rfl ?_ | refine Uq ?_ | refine Ur ?_ | refine Us ?_ | refine Ut ?_ | refine Uu ?_ | refine Ux ?_ | refine Af (h := ?_) | refine At (h := ?_) | refine Uv rfl rfl rfl rfl ?_ | refine Uw rfl rfl rfl ?_ | refine U0 (by first | (apply st_call (hfn := hA ); exact rfl; exact fz) | (apply st_call (hfn := hAp ); exact rfl; exact fz) | exact z0 | fail) ?_ | refine U1 z1 ?_ | refine U9 zs ?_ | refine Kf (h := ?_) | refine Kt (h := ?_)
              first | rw [show decide (ap ≤ n) = true from decide_eq_true hge] | rw [show decide (n ≥ ap) = true from decide_eq_true hge]
              exact ⟨.inl rfl, Rx⟩
        · generalize (slideRunF hh sl).2 = d at *
          generalize (slideRunF hh sl).1 = X at *
          refine fng_go2 tabOk Tryd.func6 rfl (by kernel_rfl) Tryd.ntmps6 Tryd.results6 (by decide) ?_
          repeat first | refine Ua ?_ | refine Ub ?_ | refine Uc ?_ | refine Ud ?_ | refine Ue ?_ | refine Ug ⟨by kernel_rfl, ?_⟩ | refine Ug ?_ | refine Uh ?_ | refine Ui ?_ | refine Uj ?_ | refine Uk rfl ?_ | refine Ul rfl ?_ | refine Um ?_ | refine Un ?_ | refine Uo ?_ | refine Up rfl ?_ | refine Uq ?_ | refine Ur ?_ | refine Us ?_ | refine Ut ?_ | refine Uu ?_ | refine Ux ?_ | refine Uv rfl rfl rfl rfl ?_ | refine Uw rfl rfl rfl ?_ | refine U0 z0 ?_ | refine U1 z1 ?_ | refine U9 zs ?_
          refine rh_split rfl rfl (fun hb0 => ?_) (fun hb0 => ?_)
          · repeat first | refine Ua ?_ | refine Ub ?_ | refine Uc ?_ | refine Ud ?_ | refine Ue ?_ | refine Ug ⟨by kernel_rfl, ?_⟩ | refine Ug ?_ | refine Uh ?_ | refine Ui ?_ | refine Uj ?_ | refine Uk rfl ?_ | refine Ul rfl ?_ | refine Um ?_ | refine Un ?_ | refine Uo ?_ | refine Up rfl ?_ | refine Uq ?_ | refine Ur ?_ | refine Us ?_ | refine Ut ?_ | refine Uu ?_ | refine Ux ?_ | refine Uv rfl rfl rfl rfl ?_ | refine Uw rfl rfl rfl ?_ | refine U0 z0 ?_ | refine U1 z1 ?_ | refine U9 zs ?_
            exact ⟨.inl rfl, Rx⟩
          · repeat first | refine Ua ?_ | refine Ub ?_ | refine Uc ?_ | refine Ud ?_ | refine Ue ?_ | refine Ug ⟨by kernel_rfl, ?_⟩ | refine Ug ?_ | refine Uh ?_ | refine Ui ?_ | refine Uj ?_ | refine Uk rfl ?_ | refine Ul rfl ?_ | refine Um ?_ | refine Un ?_ | refine Uo ?_ | refine Up rfl ?_ | refine Uq ?_ | refine Ur ?_ | refine Us ?_ | refine Ut ?_ | refine Uu ?_ | refine Ux ?_ | refine Uv rfl rfl rfl rfl ?_ | refine Uw rfl rfl rfl ?_ | refine U0 z0 ?_ | refine U1 z1 ?_ | refine U9 zs ?_
            refine ax_cond rfl (fun hb1 => ?_) (fun hb1 => ?_)
            · repeat first | refine Ua ?_ | refine Ub ?_ | refine Uc ?_ | refine Ud ?_ | refine Ue ?_ | refine Ug ⟨by kernel_rfl, ?_⟩ | refine Ug ?_ | refine Uh ?_ | refine Ui ?_ | refine Uj ?_ | refine Uk rfl ?_ | refine Ul rfl ?_ | refine Um ?_ | refine Un ?_ | refine Uo ?_ | refine Up rfl ?_ | refine Uq ?_ | refine Ur ?_ | refine Us ?_ | refine Ut ?_ | refine Uu ?_ | refine Ux ?_ | refine Uv rfl rfl rfl rfl ?_ | refine Uw rfl rfl rfl ?_ | refine U0 z0 ?_ | refine U1 z1 ?_ | refine U9 zs ?_
              exact ⟨.inl rfl, Rx⟩
            repeat first | refine Ua ?_ | refine Ub ?_ | refine Uc ?_ | refine Ud ?_ | refine Ue ?_ | refine Ug ⟨by kernel_rfl, ?_⟩ | refine Ug ?_ | refine Uh ?_ | refine Ui ?_ | refine Uj ?_ | refine Uk rfl ?_ | refine Ul rfl ?_ | refine Um ?_ | refine Un ?_ | refine Uo ?_ | refine Up rfl ?_ | refine Uq ?_ | refine Ur ?_ | refine Us ?_ | refine Ut ?_ | refine Uu ?_ | refine Ux ?_ | refine Af (h := ?_) | refine At (h := ?_) | refine Uv rfl rfl rfl rfl ?_ | refine Uw rfl rfl rfl ?_ | refine U0 (by first | (apply st_callg (hfn := hL ); exact rfl; exact fz; exact rfl) | (apply st_call (hfn := hL2 ); exact rfl; exact fz) | (apply st_call (hfn := hV ); exact rfl; exact fz) | exact z0 | fail) ?_ | refine U1 (by first | (apply st_call_hv (hfn := hH ); exact rfl; exact fz; iterate 2 exact rfl) | (apply st_call_hv (hfn := hE ); exact rfl; exact fz; iterate 2 exact rfl) | (apply st_call_sv (hfn := hP ); exact rfl; exact fz; iterate 2 exact rfl) | (apply st_call_s (hfn := hS ); exact rfl; exact fz; iterate 2 exact rfl) | exact z1 | fail) ?_ | refine U9 zs ?_ | refine U2 (by first | (apply st_call_hs (hfn := hD ); exact rfl; exact fz; iterate 3 exact rfl) | fail) ?_ | refine Kf (h := ?_) | refine Kt (h := ?_)
            refine ax_loop (fun k : Nat => mkS [(15, .int (k : Int)), (14, .own 9 0), (13, .bool true), (12, .own 8 0), (7, .int n), (6, .int id), (5, .ptr 2 0 0), tabE] ⟨10, [(1, some (intsRow h.cells)), (2, some (boxRow h.wide h.deep 1 0)), (8, some (slcRow pl)), (9, some (slcRow (slidesAllF h)))]⟩) (fun k => k ≤ (slidesAllF h).length) (fun k => (slidesAllF h).length - k) (0) (Nat.zero_le _) (Lw (ρ := [])) ?_
            intro k hk
            repeat first | refine Ua ?_ | refine Ub ?_ | refine Uc ?_ | refine Ud ?_ | refine Ue ?_ | refine Ug ⟨by kernel_rfl, ?_⟩ | refine Ug ?_ | refine Uh ?_ | refine Ui ?_ | refine Uj ?_ | refine Uk rfl ?_ | refine Ul rfl ?_ | refine Um ?_ | refine Un ?_ | refine Uo ?_ | refine Up rfl ?_ | refine Uq ?_ | refine Ur ?_ | refine Us ?_ | refine Ut ?_ | refine Uu ?_ | refine Ux ?_ | refine Uv rfl rfl rfl rfl ?_ | refine Uw rfl rfl rfl ?_ | refine U0 z0 ?_ | refine U1 z1 ?_ | refine U9 zs ?_
            refine ax_cond rfl (fun hb2 => ?_) (fun hb2 => ?_)
            · have hlt : k < (slidesAllF h).length := by simpa using hb2
              obtain ⟨y, y1, y2, X2, x1, x2, x3⟩ := near k hlt
              repeat first | refine Ua ?_ | refine Ub ?_ | refine Uc ?_ | refine Ud ?_ | refine Ue ?_ | refine Ug ⟨by kernel_rfl, ?_⟩ | refine Ug ?_ | refine Uh ?_ | refine Ui ?_ | refine Uj ?_ | refine Uk rfl ?_ | refine Ul rfl ?_ | refine Um ?_ | refine Un ?_ | refine Uo ?_ | refine Up rfl ?_ | refine Uq ?_ | refine Ur ?_ | refine Us ?_ | refine Ut ?_ | refine Uu ?_ | refine Ux ?_ | refine Af (h := ?_) | refine At (h := ?_) | refine Uv rfl rfl rfl rfl ?_ | refine Uw rfl rfl rfl ?_ | refine U0 (by first | (apply st_callg (hfn := x3 ); exact rfl; exact fz; exact rfl) | exact z0 | fail) ?_ | refine U1 (by first | (apply st_call_hv (hfn := x2 ); exact rfl; exact fz; iterate 2 exact rfl) | exact z1 | fail) ?_ | refine U9 zs ?_ | refine Kf (h := ?_) | refine Kt (h := ?_)
              refine round_next (k + 1) (hlt) (by omega) (Lw (ρ := []))
            · repeat first | refine Ua ?_ | refine Ub ?_ | refine Uc ?_ | refine Ud ?_ | refine Ue ?_ | refine Ug ⟨by kernel_rfl, ?_⟩ | refine Ug ?_ | refine Uh ?_ | refine Ui ?_ | refine Uj ?_ | refine Uk rfl ?_ | refine Ul rfl ?_ | refine Um ?_ | refine Un ?_ | refine Uo ?_ | refine Up rfl ?_ | refine Uq ?_ | refine Ur ?_ | refine Us ?_ | refine Ut ?_ | refine Uu ?_ | refine Ux ?_ | refine Af (h := ?_) | refine At (h := ?_) | refine Uv rfl rfl rfl rfl ?_ | refine Uw rfl rfl rfl ?_ | refine U0 (by first | (apply st_call (hfn := hA ); exact rfl; exact fz) | (apply st_call (hfn := hAp ); exact rfl; exact fz) | exact z0 | fail) ?_ | refine U1 z1 ?_ | refine U9 zs ?_ | refine Kf (h := ?_) | refine Kt (h := ?_)
              first | rw [show decide (ap ≤ n) = true from decide_eq_true hge] | rw [show decide (n ≥ ap) = true from decide_eq_true hge]
              exact ⟨.inl rfl, Rx⟩
      · have hz : slideRunF hh sl = (zeroHall, 0) := by unfold slideRunF; rw [if_neg (fun e => h60' e.2)]
        rw [hz] at hdn
        have : (0 : Int) = sl.length := hdn
        omega
    · generalize (slideRunF hh sl).2 = d at *
      generalize (slideRunF hh sl).1 = X at *
      refine fng_go2 tabOk Tryd.func6 rfl (by kernel_rfl) Tryd.ntmps6 Tryd.results6 (by decide) ?_
      repeat first | refine Ua ?_ | refine Ub ?_ | refine Uc ?_ | refine Ud ?_ | refine Ue ?_ | refine Ug ⟨by kernel_rfl, ?_⟩ | refine Ug ?_ | refine Uh ?_ | refine Ui ?_ | refine Uj ?_ | refine Uk rfl ?_ | refine Ul rfl ?_ | refine Um ?_ | refine Un ?_ | refine Uo ?_ | refine Up rfl ?_ | refine Uq ?_ | refine Ur ?_ | refine Us ?_ | refine Ut ?_ | refine Uu ?_ | refine Ux ?_ | refine Uv rfl rfl rfl rfl ?_ | refine Uw rfl rfl rfl ?_ | refine U0 z0 ?_ | refine U1 z1 ?_ | refine U9 zs ?_
      refine rh_split rfl rfl (fun hb0 => ?_) (fun hb0 => ?_)
      · repeat first | refine Ua ?_ | refine Ub ?_ | refine Uc ?_ | refine Ud ?_ | refine Ue ?_ | refine Ug ⟨by kernel_rfl, ?_⟩ | refine Ug ?_ | refine Uh ?_ | refine Ui ?_ | refine Uj ?_ | refine Uk rfl ?_ | refine Ul rfl ?_ | refine Um ?_ | refine Un ?_ | refine Uo ?_ | refine Up rfl ?_ | refine Uq ?_ | refine Ur ?_ | refine Us ?_ | refine Ut ?_ | refine Uu ?_ | refine Ux ?_ | refine Uv rfl rfl rfl rfl ?_ | refine Uw rfl rfl rfl ?_ | refine U0 z0 ?_ | refine U1 z1 ?_ | refine U9 zs ?_
        exact ⟨.inl rfl, Rx⟩
      · repeat first | refine Ua ?_ | refine Ub ?_ | refine Uc ?_ | refine Ud ?_ | refine Ue ?_ | refine Ug ⟨by kernel_rfl, ?_⟩ | refine Ug ?_ | refine Uh ?_ | refine Ui ?_ | refine Uj ?_ | refine Uk rfl ?_ | refine Ul rfl ?_ | refine Um ?_ | refine Un ?_ | refine Uo ?_ | refine Up rfl ?_ | refine Uq ?_ | refine Ur ?_ | refine Us ?_ | refine Ut ?_ | refine Uu ?_ | refine Ux ?_ | refine Uv rfl rfl rfl rfl ?_ | refine Uw rfl rfl rfl ?_ | refine U0 z0 ?_ | refine U1 z1 ?_ | refine U9 zs ?_
        refine ax_cond rfl (fun hb1 => ?_) (fun hb1 => ?_)
        · repeat first | refine Ua ?_ | refine Ub ?_ | refine Uc ?_ | refine Ud ?_ | refine Ue ?_ | refine Ug ⟨by kernel_rfl, ?_⟩ | refine Ug ?_ | refine Uh ?_ | refine Ui ?_ | refine Uj ?_ | refine Uk rfl ?_ | refine Ul rfl ?_ | refine Um ?_ | refine Un ?_ | refine Uo ?_ | refine Up rfl ?_ | refine Uq ?_ | refine Ur ?_ | refine Us ?_ | refine Ut ?_ | refine Uu ?_ | refine Ux ?_ | refine Uv rfl rfl rfl rfl ?_ | refine Uw rfl rfl rfl ?_ | refine U0 z0 ?_ | refine U1 z1 ?_ | refine U9 zs ?_
          exact ⟨.inl rfl, Rx⟩
        repeat first | refine Ua ?_ | refine Ub ?_ | refine Uc ?_ | refine Ud ?_ | refine Ue ?_ | refine Ug ⟨by kernel_rfl, ?_⟩ | refine Ug ?_ | refine Uh ?_ | refine Ui ?_ | refine Uj ?_ | refine Uk rfl ?_ | refine Ul rfl ?_ | refine Um ?_ | refine Un ?_ | refine Uo ?_ | refine Up rfl ?_ | refine Uq ?_ | refine Ur ?_ | refine Us ?_ | refine Ut ?_ | refine Uu ?_ | refine Ux ?_ | refine Af (h := ?_) | refine At (h := ?_) | refine Uv rfl rfl rfl rfl ?_ | refine Uw rfl rfl rfl ?_ | refine U0 (by first | (apply st_callg (hfn := hL ); exact rfl; exact fz; exact rfl) | (apply st_call (hfn := hL2 ); exact rfl; exact fz) | (apply st_call (hfn := hV ); exact rfl; exact fz) | exact z0 | fail) ?_ | refine U1 (by first | (apply st_call_hv (hfn := hH ); exact rfl; exact fz; iterate 2 exact rfl) | (apply st_call_hv (hfn := hE ); exact rfl; exact fz; iterate 2 exact rfl) | (apply st_call_sv (hfn := hP ); exact rfl; exact fz; iterate 2 exact rfl) | (apply st_call_s (hfn := hS ); exact rfl; exact fz; iterate 2 exact rfl) | exact z1 | fail) ?_ | refine U9 zs ?_ | refine U2 (by first | (apply st_call_hs (hfn := hD ); exact rfl; exact fz; iterate 3 exact rfl) | fail) ?_ | refine Kf (h := ?_) | refine Kt (h := ?_)
        refine ax_loop (fun k : Nat => mkS [(15, .int (k : Int)), (14, .own 9 0), (13, .bool true), (12, .own 8 0), (7, .int n), (6, .int id), (5, .ptr 2 0 0), tabE] ⟨10, [(1, some (intsRow h.cells)), (2, some (boxRow h.wide h.deep 1 0)), (8, some (slcRow pl)), (9, some (slcRow (slidesAllF h)))]⟩) (fun k => k ≤ (slidesAllF h).length) (fun k => (slidesAllF h).length - k) (0) (Nat.zero_le _) (Lw (ρ := [])) ?_
        intro k hk
        repeat first | refine Ua ?_ | refine Ub ?_ | refine Uc ?_ | refine Ud ?_ | refine Ue ?_ | refine Ug ⟨by kernel_rfl, ?_⟩ | refine Ug ?_ | refine Uh ?_ | refine Ui ?_ | refine Uj ?_ | refine Uk rfl ?_ | refine Ul rfl ?_ | refine Um ?_ | refine Un ?_ | refine Uo ?_ | refine Up rfl ?_ | refine Uq ?_ | refine Ur ?_ | refine Us ?_ | refine Ut ?_ | refine Uu ?_ | refine Ux ?_ | refine Uv rfl rfl rfl rfl ?_ | refine Uw rfl rfl rfl ?_ | refine U0 z0 ?_ | refine U1 z1 ?_ | refine U9 zs ?_
        refine ax_cond rfl (fun hb2 => ?_) (fun hb2 => ?_)
        · have hlt : k < (slidesAllF h).length := by simpa using hb2
          obtain ⟨y, y1, y2, X2, x1, x2, x3⟩ := near k hlt
          repeat first | refine Ua ?_ | refine Ub ?_ | refine Uc ?_ | refine Ud ?_ | refine Ue ?_ | refine Ug ⟨by kernel_rfl, ?_⟩ | refine Ug ?_ | refine Uh ?_ | refine Ui ?_ | refine Uj ?_ | refine Uk rfl ?_ | refine Ul rfl ?_ | refine Um ?_ | refine Un ?_ | refine Uo ?_ | refine Up rfl ?_ | refine Uq ?_ | refine Ur ?_ | refine Us ?_ | refine Ut ?_ | refine Uu ?_ | refine Ux ?_ | refine Af (h := ?_) | refine At (h := ?_) | refine Uv rfl rfl rfl rfl ?_ | refine Uw rfl rfl rfl ?_ | refine U0 (by first | (apply st_callg (hfn := x3 ); exact rfl; exact fz; exact rfl) | exact z0 | fail) ?_ | refine U1 (by first | (apply st_call_hv (hfn := x2 ); exact rfl; exact fz; iterate 2 exact rfl) | exact z1 | fail) ?_ | refine U9 zs ?_ | refine Kf (h := ?_) | refine Kt (h := ?_)
          refine round_next (k + 1) (hlt) (by omega) (Lw (ρ := []))
        · repeat first | refine Ua ?_ | refine Ub ?_ | refine Uc ?_ | refine Ud ?_ | refine Ue ?_ | refine Ug ⟨by kernel_rfl, ?_⟩ | refine Ug ?_ | refine Uh ?_ | refine Ui ?_ | refine Uj ?_ | refine Uk rfl ?_ | refine Ul rfl ?_ | refine Um ?_ | refine Un ?_ | refine Uo ?_ | refine Up rfl ?_ | refine Uq ?_ | refine Ur ?_ | refine Us ?_ | refine Ut ?_ | refine Uu ?_ | refine Ux ?_ | refine Af (h := ?_) | refine At (h := ?_) | refine Uv rfl rfl rfl rfl ?_ | refine Uw rfl rfl rfl ?_ | refine U0 (by first | (apply st_call (hfn := hA ); exact rfl; exact fz) | (apply st_call (hfn := hAp ); exact rfl; exact fz) | exact z0 | fail) ?_ | refine U1 z1 ?_ | refine U9 zs ?_ | refine Kf (h := ?_) | refine Kt (h := ?_)
          first | rw [show decide (ap ≤ n) = true from decide_eq_true hge] | rw [show decide (n ≥ ap) = true from decide_eq_true hge]
          exact ⟨.inl rfl, Rx⟩
end Go.Proofs.YtnfjmcenjpoloaaDoor
