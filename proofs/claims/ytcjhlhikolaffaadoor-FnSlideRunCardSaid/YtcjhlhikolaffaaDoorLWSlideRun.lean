/-
  Proved: FnSlideRun returns true for every argument, and its argument reads afterwards as it read before (the card). No condition.
-/
import Derived.Test.YtcjhlhikolaffaaDoorRow3
import Derived.Test.YtcjhlhikolaffaaDoorMain
import Derived.Test.YtcjhlhikolaffaaDoorRS
import Derived.Test.YtcjhlhikolaffaaDoorWE
import Derived.Test.YtcjhlhikolaffaaDoorW5
import Derived.Test.YtcjhlhikolaffaaDoorWF
set_option linter.unusedVariables false
set_option linter.unusedSimpArgs false
set_option maxRecDepth 100000
namespace Go.Proofs.YtcjhlhikolaffaaDoor
open Go Go.RowKit Go.Park Go.Sym
open Go.ChangeShapes Go.WideShapes Go.ChangeAt

set_option maxHeartbeats 4000000 in
theorem drawSlideRun_fn (v0 : Value) (bs : List Int) (hB : OkB bs) : ∃ i : PHall × List (Int × Int), (i.1.cells.length ≤ 13 ∧ i.2.length ≤ 61) ∧ FnS Tryd.prog 14 [codeV v0 bs] (.tup [hallV i.1, slcV i.2]) := by
  have hC := cut_bytes hB
  obtain ⟨q0, ⟨d1, d2⟩, hO⟩ := odd_fn (rdV v0) _ hC 0 (by omega) 30 (by omega)
  obtain ⟨⟨h1, q1⟩, ⟨g1, g2, g3⟩, hH⟩ := l20Hall_fn (rdV v0) _ hC q0 (by omega) 0 (by omega)
  obtain ⟨⟨h2, out, q2⟩, ⟨k1, k2, k3, k4⟩, hS⟩ := l20Slides_fn (rdV v0) _ hC q0 (by omega) 9 (by omega)
  dsimp only at g1 g2 g3 hH k1 k2 k3 k4 hS
  have hlim := lim_eq
  refine fnx_go1 (Good := fun i : PHall × List (Int × Int) => i.1.cells.length ≤ 13 ∧ i.2.length ≤ 61) (res := fun i => .tup [hallV i.1, slcV i.2]) tabOk Tryd.func14 rfl (by kernel_rfl) Tryd.ntmps14 Tryd.results14 (by decide) ?_
  repeat first | refine Ua ?_ | refine Ub ?_ | refine Uc ?_ | refine Ud ?_ | refine Ue ?_ | refine Ug ⟨by kernel_rfl, ?_⟩ | refine Ug ?_ | refine Uh ?_ | refine Ui ?_ | refine Uj ?_ | refine Uk rfl ?_ | refine Ul rfl ?_ | refine Um ?_ | refine Un ?_ | refine Uo ?_ | refine Up rfl ?_ | refine Uq ?_ | refine Ur ?_ | refine Us ?_ | refine Ut ?_ | refine Uu ?_ | refine Ux ?_ | refine Uv rfl rfl rfl rfl ?_ | refine Uw rfl rfl rfl ?_ | refine U0 z0 ?_ | refine U1 (by first | (apply st_open; iterate 4 exact rfl) | (apply st_recv_v (hfn := hO ); (iterate 4 exact rfl); exact fz; iterate 2 exact rfl) | exact z1 | fail) ?_ | refine U9 zs ?_
  refine ax_cond rfl (fun hb => ?_) (fun hb => ?_)
  · repeat first | refine Ua ?_ | refine Ub ?_ | refine Uc ?_ | refine Ud ?_ | refine Ue ?_ | refine Ug ⟨by kernel_rfl, ?_⟩ | refine Ug ?_ | refine Uh ?_ | refine Ui ?_ | refine Uj ?_ | refine Uk rfl ?_ | refine Ul rfl ?_ | refine Um ?_ | refine Un ?_ | refine Uo ?_ | refine Up rfl ?_ | refine Uq ?_ | refine Ur ?_ | refine Us ?_ | refine Ut ?_ | refine Uu ?_ | refine Ux ?_ | refine Uv rfl rfl rfl rfl ?_ | refine Uw rfl rfl rfl ?_ | refine U0 z0 ?_ | refine U1 (by first | (apply st_make_s (m := 61) tabOk; (iterate 10 exact rfl); (show 16 * _ ≤ _; omega); (unfold maxLen; omega); exact rfl; exact rfl) | exact z1 | fail) ?_ | refine U9 zs ?_ | refine U2 (by first | (apply st_recv_h (hfn := hH ); (iterate 4 exact rfl); exact fz; iterate 3 exact rfl) | fail) ?_
    exact ⟨⟨(h1, List.replicate 61 (0, 0)), ⟨g1, by simp⟩, .inl rfl, Rx⟩⟩
  · repeat first | refine Ua ?_ | refine Ub ?_ | refine Uc ?_ | refine Ud ?_ | refine Ue ?_ | refine Ug ⟨by kernel_rfl, ?_⟩ | refine Ug ?_ | refine Uh ?_ | refine Ui ?_ | refine Uj ?_ | refine Uk rfl ?_ | refine Ul rfl ?_ | refine Um ?_ | refine Un ?_ | refine Uo ?_ | refine Up rfl ?_ | refine Uq ?_ | refine Ur ?_ | refine Us ?_ | refine Ut ?_ | refine Uu ?_ | refine Ux ?_ | refine Uv rfl rfl rfl rfl ?_ | refine Uw rfl rfl rfl ?_ | refine U0 z0 ?_ | refine U1 z1 ?_ | refine U9 zs ?_ | refine U3 (by first | (apply st_recv_hs (hfn := hS ); (iterate 4 exact rfl); exact fz; iterate 4 exact rfl) | fail) ?_
    exact ⟨⟨(h2, out), ⟨k1, by show out.length ≤ 61; omega⟩, .inl rfl, Rx⟩⟩
set_option maxHeartbeats 4000000 in
theorem fnSlideRun_fn (v0 : Value) (bs : List Int) (hB : OkB bs) : FnS Tryd.prog 3 [codeV v0 bs] (.bool true) := by
  obtain ⟨⟨h, l⟩, ⟨g1, g2⟩, hH⟩ := drawSlideRun_fn v0 bs hB
  dsimp only at g1 g2 hH
  have hlim := lim_eq
  have hl : h.cells.length ≤ lim := by omega
  have hP := slideRun_fn h hl l (by omega)
  have hP2 := specSlideRun_fn h hl l (by omega)
  have hV := specHallValid_fn h hl
  by_cases hv : validB h = true
  · rw [hv] at hV
    by_cases h60 : l.length ≤ 60
    · obtain ⟨n, hn, e1, e2⟩ := runF_is l h
      have e3 : slideRunF h l = (stS h l n, (n : Int)) := by unfold slideRunF; rw [if_pos ⟨hv, h60⟩, e1]
      rw [e3] at hP hP2
      dsimp only at hP hP2
      obtain ⟨t1, t2, t3⟩ := take_run hn e2
      obtain ⟨s1, s2, _⟩ := stS_ok (l := l) hv n
      obtain ⟨u1, u2⟩ := run_undo _ _ t2
      have hc := run_cars _ _ t2
      rw [t3] at u1 u2 hc
      have hS := sameHall_fn (stS h l n) (stS h l n) (by omega) (by omega)
      rw [sameH_self] at hS
      have hS2 := sameHall_fn h h hl hl
      rw [sameH_self] at hS2
      have hbl : (backF (l.take n)).length = n := by rw [back_len]; exact t1
      have hB2 := slidesBack_fn (l.take n) (by omega)
      have hR := slideRun_fn (stS h l n) (by omega) (backF (l.take n)) (by omega)
      rw [slideRun_done s1 (by omega) u1, u2, hbl] at hR
      dsimp only at hR
      have hV2 := hallValid_fn (stS h l n) (by omega)
      rw [s1] at hV2
      have hcl := carsF_len h
      have hC := hallCars_fn (stS h l n) (by omega)
      rw [hc] at hC
      have hI := sameInts_fn (carsF h) (carsF h) (by omega) (by omega)
      rw [decide_eq_true rfl] at hI
      refine fn_go1 tabOk Tryd.func3 rfl (by kernel_rfl) Tryd.ntmps3 Tryd.results3 (by decide) ?_
      repeat first | refine Ua ?_ | refine Ub ?_ | refine Uc ?_ | refine Ud ?_ | refine Ue ?_ | refine Ug ⟨by kernel_rfl, ?_⟩ | refine Ug ?_ | refine Uh ?_ | refine Ui ?_ | refine Uj ?_ | refine Uk rfl ?_ | refine Ul rfl ?_ | refine Um ?_ | refine Un ?_ | refine Uo ?_ | refine Up rfl ?_ | refine Uq ?_ | refine Ur ?_ | refine Us ?_ | refine Ut ?_ | refine Uu ?_ | refine Ux ?_ | refine Uv rfl rfl rfl rfl ?_ | refine Uw rfl rfl rfl ?_ | refine U0 z0 ?_ | refine U1 z1 ?_ | refine U9 zs ?_
      refine ax_cond rfl (fun hb0 => ?_) (fun hb0 => ?_)
      · repeat first | refine Ua ?_ | refine Ub ?_ | refine Uc ?_ | refine Ud ?_ | refine Ue ?_ | refine Ug ⟨by kernel_rfl, ?_⟩ | refine Ug ?_ | refine Uh ?_ | refine Ui ?_ | refine Uj ?_ | refine Uk rfl ?_ | refine Ul rfl ?_ | refine Um ?_ | refine Un ?_ | refine Uo ?_ | refine Up rfl ?_ | refine Uq ?_ | refine Ur ?_ | refine Us ?_ | refine Ut ?_ | refine Uu ?_ | refine Ux ?_ | refine Uv rfl rfl rfl rfl ?_ | refine Uw rfl rfl rfl ?_ | refine U0 z0 ?_ | refine U1 z1 ?_ | refine U9 zs ?_
        exact ⟨.inl rfl, Rx⟩
      repeat first | refine Ua ?_ | refine Ub ?_ | refine Uc ?_ | refine Ud ?_ | refine Ue ?_ | refine Ug ⟨by kernel_rfl, ?_⟩ | refine Ug ?_ | refine Uh ?_ | refine Ui ?_ | refine Uj ?_ | refine Uk rfl ?_ | refine Ul rfl ?_ | refine Um ?_ | refine Un ?_ | refine Uo ?_ | refine Up rfl ?_ | refine Uq ?_ | refine Ur ?_ | refine Us ?_ | refine Ut ?_ | refine Uu ?_ | refine Ux ?_ | refine Af (h := ?_) | refine At (h := ?_) | refine Uv rfl rfl rfl rfl ?_ | refine Uw rfl rfl rfl ?_ | refine U0 (by first | (apply st_call (hfn := hS ); exact rfl; exact fz) | (apply st_call (hfn := hV ); exact rfl; exact fz) | (apply does_upto_own tabOk; (iterate 10 exact rfl); (refine ⟨by omega, ?_⟩; show n * 2 ≤ (slc l).length; rw [slc_length]; omega)) | (apply st_call (hfn := hV2 ); exact rfl; exact fz) | (apply st_call (hfn := hI ); exact rfl; exact fz) | (apply st_call (hfn := hS2 ); exact rfl; exact fz) | exact z0 | fail) ?_ | refine U1 (by first | (apply st_call_hv (hfn := hP ); exact rfl; exact fz; iterate 2 exact rfl) | (apply st_call_hv (hfn := hP2 ); exact rfl; exact fz; iterate 2 exact rfl) | (apply st_call_s (hfn := hB2); exact rfl; (apply FrzA.cons; exact .one (.pre rfl rfl rfl rfl (slc_take2 _ _)); exact .nil); iterate 2 exact rfl) | (apply st_call_hv (hfn := hR ); exact rfl; exact fz; iterate 2 exact rfl) | (apply st_call_s (hfn := hC ); exact rfl; exact fz; iterate 2 exact rfl) | (apply st_call_s (hfn := hallCars_fn h hl ); exact rfl; exact fz; iterate 2 exact rfl) | exact z1 | fail) ?_ | refine U9 zs ?_ | refine U2 (by first | (apply st_call_hs (hfn := hH ); exact rfl; exact fz; iterate 3 exact rfl) | fail) ?_ | refine Kf (h := ?_) | refine Kt (h := ?_)
      rw [show decide ((n : Int) = (n : Int)) = true from decide_eq_true rfl]
      exact ⟨.inl rfl, Rx⟩
    · have e3 : slideRunF h l = (zeroHall, 0) := by unfold slideRunF; rw [if_neg (fun e => h60 e.2)]
      rw [e3] at hP hP2
      dsimp only at hP hP2
      have hz : zeroHall.cells.length ≤ lim := by simp [zeroHall, hlim]
      have hS := sameHall_fn zeroHall zeroHall hz hz
      rw [sameH_self] at hS
      refine fn_go1 tabOk Tryd.func3 rfl (by kernel_rfl) Tryd.ntmps3 Tryd.results3 (by decide) ?_
      repeat first | refine Ua ?_ | refine Ub ?_ | refine Uc ?_ | refine Ud ?_ | refine Ue ?_ | refine Ug ⟨by kernel_rfl, ?_⟩ | refine Ug ?_ | refine Uh ?_ | refine Ui ?_ | refine Uj ?_ | refine Uk rfl ?_ | refine Ul rfl ?_ | refine Um ?_ | refine Un ?_ | refine Uo ?_ | refine Up rfl ?_ | refine Uq ?_ | refine Ur ?_ | refine Us ?_ | refine Ut ?_ | refine Uu ?_ | refine Ux ?_ | refine Uv rfl rfl rfl rfl ?_ | refine Uw rfl rfl rfl ?_ | refine U0 z0 ?_ | refine U1 z1 ?_ | refine U9 zs ?_
      refine ax_cond rfl (fun hb0 => ?_) (fun hb0 => ?_)
      · repeat first | refine Ua ?_ | refine Ub ?_ | refine Uc ?_ | refine Ud ?_ | refine Ue ?_ | refine Ug ⟨by kernel_rfl, ?_⟩ | refine Ug ?_ | refine Uh ?_ | refine Ui ?_ | refine Uj ?_ | refine Uk rfl ?_ | refine Ul rfl ?_ | refine Um ?_ | refine Un ?_ | refine Uo ?_ | refine Up rfl ?_ | refine Uq ?_ | refine Ur ?_ | refine Us ?_ | refine Ut ?_ | refine Uu ?_ | refine Ux ?_ | refine Uv rfl rfl rfl rfl ?_ | refine Uw rfl rfl rfl ?_ | refine U0 z0 ?_ | refine U1 z1 ?_ | refine U9 zs ?_
        exact ⟨.inl rfl, Rx⟩
      repeat first | refine Ua ?_ | refine Ub ?_ | refine Uc ?_ | refine Ud ?_ | refine Ue ?_ | refine Ug ⟨by kernel_rfl, ?_⟩ | refine Ug ?_ | refine Uh ?_ | refine Ui ?_ | refine Uj ?_ | refine Uk rfl ?_ | refine Ul rfl ?_ | refine Um ?_ | refine Un ?_ | refine Uo ?_ | refine Up rfl ?_ | refine Uq ?_ | refine Ur ?_ | refine Us ?_ | refine Ut ?_ | refine Uu ?_ | refine Ux ?_ | refine Af (h := ?_) | refine At (h := ?_) | refine Uv rfl rfl rfl rfl ?_ | refine Uw rfl rfl rfl ?_ | refine U0 (by first | (apply st_call (hfn := hS ); exact rfl; exact fz) | (apply st_call (hfn := hV ); exact rfl; exact fz) | (apply st_call (hfn := alive_fn ); exact rfl; exact fz) | exact z0 | fail) ?_ | refine U1 (by first | (apply st_call_hv (hfn := hP ); exact rfl; exact fz; iterate 2 exact rfl) | (apply st_call_hv (hfn := hP2 ); exact rfl; exact fz; iterate 2 exact rfl) | exact z1 | fail) ?_ | refine U9 zs ?_ | refine U2 (by first | (apply st_call_hs (hfn := hH ); exact rfl; exact fz; iterate 3 exact rfl) | fail) ?_ | refine Kf (h := ?_) | refine Kt (h := ?_)
      exact ⟨.inl rfl, Rx⟩
  · have e3 : slideRunF h l = (zeroHall, 0) := by unfold slideRunF; rw [if_neg (fun e => hv e.1)]
    rw [e3] at hP hP2
    rw [show validB h = false by simpa using hv] at hV
    dsimp only at hP hP2
    have hz : zeroHall.cells.length ≤ lim := by simp [zeroHall, hlim]
    have hS := sameHall_fn zeroHall zeroHall hz hz
    rw [sameH_self] at hS
    refine fn_go1 tabOk Tryd.func3 rfl (by kernel_rfl) Tryd.ntmps3 Tryd.results3 (by decide) ?_
    repeat first | refine Ua ?_ | refine Ub ?_ | refine Uc ?_ | refine Ud ?_ | refine Ue ?_ | refine Ug ⟨by kernel_rfl, ?_⟩ | refine Ug ?_ | refine Uh ?_ | refine Ui ?_ | refine Uj ?_ | refine Uk rfl ?_ | refine Ul rfl ?_ | refine Um ?_ | refine Un ?_ | refine Uo ?_ | refine Up rfl ?_ | refine Uq ?_ | refine Ur ?_ | refine Us ?_ | refine Ut ?_ | refine Uu ?_ | refine Ux ?_ | refine Uv rfl rfl rfl rfl ?_ | refine Uw rfl rfl rfl ?_ | refine U0 z0 ?_ | refine U1 z1 ?_ | refine U9 zs ?_
    refine ax_cond rfl (fun hb0 => ?_) (fun hb0 => ?_)
    · repeat first | refine Ua ?_ | refine Ub ?_ | refine Uc ?_ | refine Ud ?_ | refine Ue ?_ | refine Ug ⟨by kernel_rfl, ?_⟩ | refine Ug ?_ | refine Uh ?_ | refine Ui ?_ | refine Uj ?_ | refine Uk rfl ?_ | refine Ul rfl ?_ | refine Um ?_ | refine Un ?_ | refine Uo ?_ | refine Up rfl ?_ | refine Uq ?_ | refine Ur ?_ | refine Us ?_ | refine Ut ?_ | refine Uu ?_ | refine Ux ?_ | refine Uv rfl rfl rfl rfl ?_ | refine Uw rfl rfl rfl ?_ | refine U0 z0 ?_ | refine U1 z1 ?_ | refine U9 zs ?_
      exact ⟨.inl rfl, Rx⟩
    repeat first | refine Ua ?_ | refine Ub ?_ | refine Uc ?_ | refine Ud ?_ | refine Ue ?_ | refine Ug ⟨by kernel_rfl, ?_⟩ | refine Ug ?_ | refine Uh ?_ | refine Ui ?_ | refine Uj ?_ | refine Uk rfl ?_ | refine Ul rfl ?_ | refine Um ?_ | refine Un ?_ | refine Uo ?_ | refine Up rfl ?_ | refine Uq ?_ | refine Ur ?_ | refine Us ?_ | refine Ut ?_ | refine Uu ?_ | refine Ux ?_ | refine Af (h := ?_) | refine At (h := ?_) | refine Uv rfl rfl rfl rfl ?_ | refine Uw rfl rfl rfl ?_ | refine U0 (by first | (apply st_call (hfn := hS ); exact rfl; exact fz) | (apply st_call (hfn := hV ); exact rfl; exact fz) | (apply st_call (hfn := alive_fn ); exact rfl; exact fz) | exact z0 | fail) ?_ | refine U1 (by first | (apply st_call_hv (hfn := hP ); exact rfl; exact fz; iterate 2 exact rfl) | (apply st_call_hv (hfn := hP2 ); exact rfl; exact fz; iterate 2 exact rfl) | exact z1 | fail) ?_ | refine U9 zs ?_ | refine U2 (by first | (apply st_call_hs (hfn := hH ); exact rfl; exact fz; iterate 3 exact rfl) | fail) ?_ | refine Kf (h := ?_) | refine Kt (h := ?_)
    exact ⟨.inl rfl, Rx⟩

theorem fnSlideRun_walk (w : World) (v0 : Value) (b0 : List Int) (q0 : RawBytes w v0 b0) : Calls Tryd.prog 3 #[v0] w (Gives (.bool true) w) := by
  refine ((fnSlideRun_fn v0 b0 q0.choose_spec.choose_spec.2.2.2.2).2 w [v0] (by simp only [pureL, pureV]; exact ⟨pure_byts b0, trivial⟩) (by simp only [relL]; exact ⟨_, _, rfl, rel_of_rawBytes q0, rfl⟩)).mono fun e w' hh => gives_v_of hh

set_option maxRecDepth 100000 in
theorem fnSlideRun_lifted (os : Os) (started : os.Started) (H : Type) (enc : TypeId × Value → H) :
    ReturnsInHanded {} Tryd.checked os 3 .any (fun w args => (Rows.fnSlideRunSpec.pre enc Tryd.prog Tryd.f3 Rows.fnSlideRunRow.domain false w args ∧ laidMetH Tryd.prog laidL w) ∧ sizedMet enc Tryd.prog Tryd.f3 (OpenSpec.ofChange Rows.fnSlideRunSpec) false w args)
      (Rows.fnSlideRunSpec.post enc Tryd.prog Tryd.f3 false true false false) := by
  refine returnsInHanded_of_change_and (C := Tryd.checked) (X := fun w _ => laidMetH Tryd.prog laidL w) (fun _ _ _ hh h => h.of_heap hh) Tryd.own started (by kernel_rfl) Tryd.func3
    (ChangeSpec.witness_shaped (enc := enc) (C := Tryd.checked) (os := os) (X := fun w _ => laidMetH Tryd.prog laidL w) false (World.doorLaid Tryd.prog 400 os) #[.slice none 0 0] 8 rfl (World.shaped_of_RefB (by kernel_rfl) (by kernel_rfl)) (by kernel_rfl) (by kernel_rfl) (by kernel_rfl) (door_met os _)) ?_
  intro W base args ds gs before hval0 hW _ _ _ _
  have hval : ∀ (j : Nat) t v, Tryd.f3.params[j]? = some t → args[j]? = some v → Value.okWide Tryd.prog W .any base t v := hval0
  have hW' := hW
  obtain ⟨p, q, hA0, hV, rfl, hfz, hnd⟩ := hW
  have hA : DataW.TrodAll enc Tryd.prog W 0 (fun _ => true) true Tryd.f3.params.toList args.toList ds p := hA0
  rw [Tryd.params3] at hA hval
  obtain ⟨v0, vs0, d0, ds0, p0, q0, hargs, rfl, rfl, h0, r0⟩ := trodAll_cons hA
  obtain ⟨rfl, rfl, rfl⟩ := trodAll_nil r0
  obtain rfl : args = #[v0] := by cases args; simp_all
  obtain ⟨rfl, rfl⟩ := trodVars_none hV
  have lt0 := lt_of_trod h0
  obtain ⟨b0, w0⟩ := open_raw_bytes_arg (fun _ => rfl) (hval 0 22 v0 rfl rfl) h0
  clear hA0 hval0
  refine (fnSlideRun_walk W v0 b0 w0).mono fun e W' ⟨he, bel⟩ => ?_
  subst he
  exact ⟨_, rfl, _, _, _, [], _, [], hW', trodAll_mk1 (shut_bool Tryd.underlying4 _), (trodAll_cons_mk (Below.trod Tryd.laidOut (by kernel_rfl) (of_decide_eq_true (by kernel_rfl)) h0 bel lt0) trodAll_mk0), rfl, bel.frame _, fun h => by cases h⟩

theorem fnSlideRun_over : Rows.fnSlideRunRow.holds Tryd.pinned (OpenSpec.ofChange Rows.fnSlideRunSpec) :=
  OpenClaim.holds_of_wide 3 Tryd.f3 rfl rfl rfl rfl rfl rfl rfl ⟨rfl, rfl, rfl, rfl, rfl⟩ rfl rfl rfl rfl rfl (by kernel_rfl) Tryd.func3 (by kernel_rfl)
    (of_decide_eq_true (by kernel_rfl)) (by unfold Func.isWrapper; rw [if_neg (of_decide_eq_false (by kernel_rfl))]; exact ⟨rfl, rfl⟩)
    (fun os started H enc _ => fnSlideRun_lifted os started H enc)

theorem fnSlideRun_holds : Rows.FnSlideRunCardSaid :=
  Claim7.holds_tied_plain_at .later [] [.data, .data, .data] true mainIsB false
    fnSlideRun_over (fun _ h => by cases h) (by kernel_rfl) (fun _ h => by cases h) fnSlideRun_row_tie rfl ⟨rfl, rfl⟩ mainFact rfl
    (fun f fn hf hfn => by
      obtain rfl : f = 3 := Option.some.inj ((show Tryd.prog.funcNamed "loop.example/parkinghouse/laws.FnSlideRun" = some 3 by kernel_rfl).symm.trans hf) |>.symm
      obtain rfl : fn = Tryd.f3 := (Option.some.inj (Tryd.func3.symm.trans hfn)).symm
      exact ⟨noLooks, fun j t ht => by
        rw [Tryd.params3] at ht
        have hm : t ∈ [22] := by simpa using Array.mem_of_getElem? ht
        have hall : ([22].all fun u => !Tryd.prog.wantsStandIn u) = true := by kernel_rfl
        exact (show Tryd.prog.wantsStandIn t = false by simpa using List.all_eq_true.1 hall t hm)⟩)
    (by kernel_rfl)

#print axioms fnSlideRun_holds

end Go.Proofs.YtcjhlhikolaffaaDoor
