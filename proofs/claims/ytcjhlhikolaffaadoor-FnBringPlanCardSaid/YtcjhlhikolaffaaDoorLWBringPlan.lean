/-
  Proved: FnBringPlan returns true for every argument, and its argument reads afterwards as it read before (the card). No condition.
-/
import Derived.Test.YtcjhlhikolaffaaDoorRow3
import Derived.Test.YtcjhlhikolaffaaDoorMain
import Derived.Test.YtcjhlhikolaffaaDoorRS
import Derived.Test.YtcjhlhikolaffaaDoorWE
import Derived.Test.YtcjhlhikolaffaaDoorW5
set_option linter.unusedVariables false
set_option linter.unusedSimpArgs false
set_option maxRecDepth 100000
namespace Go.Proofs.YtcjhlhikolaffaaDoor
open Go Go.RowKit Go.Park Go.Sym
open Go.ChangeShapes Go.WideShapes Go.ChangeAt

set_option maxHeartbeats 4000000 in
theorem drawBringPlan_fn (v0 : Value) (bs : List Int) (hB : OkB bs) : ∃ i : PHall × Int, i.1.cells.length ≤ 13 ∧ FnS Tryd.prog 42 [codeV v0 bs] (.tup [hallV i.1, .int i.2]) := by
  have hC := cut_bytes hB
  obtain ⟨⟨h, id, q⟩, ⟨g1, g2, g3⟩, hH⟩ := l20Crowd_fn (rdV v0) _ hC 0 (by omega) 9 (by omega)
  dsimp only at g1 g2 g3 hH
  have hlim := lim_eq
  refine fnx_go1 (Good := fun i : PHall × Int => i.1.cells.length ≤ 13) (res := fun i => .tup [hallV i.1, .int i.2]) tabOk Tryd.func42 rfl (by kernel_rfl) Tryd.ntmps42 Tryd.results42 (by decide) ?_
  repeat first | refine Ua ?_ | refine Ub ?_ | refine Uc ?_ | refine Ud ?_ | refine Ue ?_ | refine Ug ⟨by kernel_rfl, ?_⟩ | refine Ug ?_ | refine Uh ?_ | refine Ui ?_ | refine Uj ?_ | refine Uk rfl ?_ | refine Ul rfl ?_ | refine Um ?_ | refine Un ?_ | refine Uo ?_ | refine Up rfl ?_ | refine Uq ?_ | refine Ur ?_ | refine Us ?_ | refine Ut ?_ | refine Uu ?_ | refine Ux ?_ | refine Uv rfl rfl rfl rfl ?_ | refine Uw rfl rfl rfl ?_ | refine U0 z0 ?_ | refine U1 (by first | (apply st_open; iterate 4 exact rfl) | exact z1 | fail) ?_ | refine U9 zs ?_ | refine U2 (by first | (apply st_recv_hv (hfn := hH ); (iterate 4 exact rfl); exact fz; iterate 3 exact rfl) | fail) ?_
  exact ⟨⟨(h, id), g1, .inl rfl, Rx⟩⟩
set_option maxHeartbeats 4000000 in
theorem fnBringPlan_fn (v0 : Value) (bs : List Int) (hB : OkB bs) : FnS Tryd.prog 8 [codeV v0 bs] (.bool true) := by
  obtain ⟨⟨h, id⟩, g1, hH⟩ := drawBringPlan_fn v0 bs hB
  dsimp only at g1 hH
  have hlim := lim_eq
  have hl : h.cells.length ≤ lim := by omega
  have hP := bringPlan_fn h hl id
  have hP2 := specBringPlan_fn h hl id
  have hF := hallFree_fn h hl
  have hA := hallFind_fn h hl id
  rcases best_cases h id with ⟨_, e2, e3⟩ | ⟨c, hc, hfr, _, _, _⟩
  · rw [e2] at hP hP2
    dsimp only at hP hP2
    have hS := sameSlides_fn [] [] (by simp [hlim]) (by simp [hlim])
    rw [decide_eq_true rfl] at hS
    rcases e3 with hn | ⟨hn, hf⟩
    · have hn2 : decide (hallFindF h id < 0) = true := decide_eq_true hn
      refine fn_go1 tabOk Tryd.func8 rfl (by kernel_rfl) Tryd.ntmps8 Tryd.results8 (by decide) ?_
      repeat first | refine Ua ?_ | refine Ub ?_ | refine Uc ?_ | refine Ud ?_ | refine Ue ?_ | refine Ug ⟨by kernel_rfl, ?_⟩ | refine Ug ?_ | refine Uh ?_ | refine Ui ?_ | refine Uj ?_ | refine Uk rfl ?_ | refine Ul rfl ?_ | refine Um ?_ | refine Un ?_ | refine Uo ?_ | refine Up rfl ?_ | refine Uq ?_ | refine Ur ?_ | refine Us ?_ | refine Ut ?_ | refine Uu ?_ | refine Ux ?_ | refine Uv rfl rfl rfl rfl ?_ | refine Uw rfl rfl rfl ?_ | refine U0 z0 ?_ | refine U1 z1 ?_ | refine U9 zs ?_
      refine ax_cond rfl (fun hb0 => ?_) (fun hb0 => ?_)
      · repeat first | refine Ua ?_ | refine Ub ?_ | refine Uc ?_ | refine Ud ?_ | refine Ue ?_ | refine Ug ⟨by kernel_rfl, ?_⟩ | refine Ug ?_ | refine Uh ?_ | refine Ui ?_ | refine Uj ?_ | refine Uk rfl ?_ | refine Ul rfl ?_ | refine Um ?_ | refine Un ?_ | refine Uo ?_ | refine Up rfl ?_ | refine Uq ?_ | refine Ur ?_ | refine Us ?_ | refine Ut ?_ | refine Uu ?_ | refine Ux ?_ | refine Uv rfl rfl rfl rfl ?_ | refine Uw rfl rfl rfl ?_ | refine U0 z0 ?_ | refine U1 z1 ?_ | refine U9 zs ?_
        exact ⟨.inl rfl, Rx⟩
      repeat first | refine Ua ?_ | refine Ub ?_ | refine Uc ?_ | refine Ud ?_ | refine Ue ?_ | refine Ug ⟨by kernel_rfl, ?_⟩ | refine Ug ?_ | refine Uh ?_ | refine Ui ?_ | refine Uj ?_ | refine Uk rfl ?_ | refine Ul rfl ?_ | refine Um ?_ | refine Un ?_ | refine Uo ?_ | refine Up rfl ?_ | refine Uq ?_ | refine Ur ?_ | refine Us ?_ | refine Ut ?_ | refine Uu ?_ | refine Ux ?_ | refine Af (h := ?_) | refine At (h := ?_) | refine Uv rfl rfl rfl rfl ?_ | refine Uw rfl rfl rfl ?_ | refine U0 (by first | (apply st_call (hfn := hS ); exact rfl; exact fz) | (apply st_call (hfn := hA ); exact rfl; exact fz) | (apply st_call (hfn := alive_fn ); exact rfl; exact fz) | exact z0 | fail) ?_ | refine U1 (by first | (apply st_call_hv (hfn := hH ); exact rfl; exact fz; iterate 2 exact rfl) | (apply st_call_sv (hfn := hP ); exact rfl; exact fz; iterate 2 exact rfl) | (apply st_call_sv (hfn := hP2 ); exact rfl; exact fz; iterate 2 exact rfl) | exact z1 | fail) ?_ | refine U9 zs ?_ | refine Kf (h := ?_) | refine Kt (h := ?_)
      exact ⟨.inl rfl, Rx⟩
    · have hn2 : decide (hallFindF h id < 0) = false := decide_eq_false (by omega)
      have hn3 : decide (0 < hallFindF h id) = true := decide_eq_true hn
      rw [hf] at hF
      refine fn_go1 tabOk Tryd.func8 rfl (by kernel_rfl) Tryd.ntmps8 Tryd.results8 (by decide) ?_
      repeat first | refine Ua ?_ | refine Ub ?_ | refine Uc ?_ | refine Ud ?_ | refine Ue ?_ | refine Ug ⟨by kernel_rfl, ?_⟩ | refine Ug ?_ | refine Uh ?_ | refine Ui ?_ | refine Uj ?_ | refine Uk rfl ?_ | refine Ul rfl ?_ | refine Um ?_ | refine Un ?_ | refine Uo ?_ | refine Up rfl ?_ | refine Uq ?_ | refine Ur ?_ | refine Us ?_ | refine Ut ?_ | refine Uu ?_ | refine Ux ?_ | refine Uv rfl rfl rfl rfl ?_ | refine Uw rfl rfl rfl ?_ | refine U0 z0 ?_ | refine U1 z1 ?_ | refine U9 zs ?_
      refine ax_cond rfl (fun hb0 => ?_) (fun hb0 => ?_)
      · repeat first | refine Ua ?_ | refine Ub ?_ | refine Uc ?_ | refine Ud ?_ | refine Ue ?_ | refine Ug ⟨by kernel_rfl, ?_⟩ | refine Ug ?_ | refine Uh ?_ | refine Ui ?_ | refine Uj ?_ | refine Uk rfl ?_ | refine Ul rfl ?_ | refine Um ?_ | refine Un ?_ | refine Uo ?_ | refine Up rfl ?_ | refine Uq ?_ | refine Ur ?_ | refine Us ?_ | refine Ut ?_ | refine Uu ?_ | refine Ux ?_ | refine Uv rfl rfl rfl rfl ?_ | refine Uw rfl rfl rfl ?_ | refine U0 z0 ?_ | refine U1 z1 ?_ | refine U9 zs ?_
        exact ⟨.inl rfl, Rx⟩
      repeat first | refine Ua ?_ | refine Ub ?_ | refine Uc ?_ | refine Ud ?_ | refine Ue ?_ | refine Ug ⟨by kernel_rfl, ?_⟩ | refine Ug ?_ | refine Uh ?_ | refine Ui ?_ | refine Uj ?_ | refine Uk rfl ?_ | refine Ul rfl ?_ | refine Um ?_ | refine Un ?_ | refine Uo ?_ | refine Up rfl ?_ | refine Uq ?_ | refine Ur ?_ | refine Us ?_ | refine Ut ?_ | refine Uu ?_ | refine Ux ?_ | refine Af (h := ?_) | refine At (h := ?_) | refine Uv rfl rfl rfl rfl ?_ | refine Uw rfl rfl rfl ?_ | refine U0 (by first | (apply st_call (hfn := hS ); exact rfl; exact fz) | (apply st_call (hfn := hA ); exact rfl; exact fz) | (apply st_call (hfn := alive_fn ); exact rfl; exact fz) | exact z0 | fail) ?_ | refine U1 (by first | (apply st_call_hv (hfn := hH ); exact rfl; exact fz; iterate 2 exact rfl) | (apply st_call_sv (hfn := hP ); exact rfl; exact fz; iterate 2 exact rfl) | (apply st_call_sv (hfn := hP2 ); exact rfl; exact fz; iterate 2 exact rfl) | (apply st_call_s (hfn := hF ); exact rfl; exact fz; iterate 2 exact rfl) | exact z1 | fail) ?_ | refine U9 zs ?_ | refine Kf (h := ?_) | refine Kt (h := ?_)
      exact ⟨.inl rfl, Rx⟩
  · obtain ⟨e1, hG⟩ := bring_good hc hfr
    rw [e1] at hP hP2
    generalize planG 12 h c = l at hG hP hP2
    have hsh := hG.short
    dsimp only at hP hP2
    obtain ⟨hv, _, hcl, _⟩ := find_at hc
    have hS := sameSlides_fn l l (by omega) (by omega)
    rw [decide_eq_true rfl] at hS
    obtain ⟨s1, s2, _⟩ := stS_ok (l := l) hv l.length
    have hR := slideRun_fn h hl l (by omega)
    rw [slideRun_done hv (by omega) hG.done] at hR
    dsimp only at hR
    have hA2 := hallFind_fn (stS h l l.length) (by omega) id
    rw [hG.gate] at hA2
    rw [hc] at hA
    have h4 := (valid_len hv).1
    have hD := cellsApart_fn h hl (c : Int) 0
    have hap : apartAt h c 0 = apartF h.wide c 0 := by
      unfold apartAt
      rw [if_pos ⟨hv, hasCell_iff.2 (by omega), hasCell_iff.2 (by omega)⟩]
    rw [hap] at hD
    have hle := hG.least
    have hge : decide (apartF h.wide c 0 ≤ (l.length : Int)) = true := decide_eq_true hle
    refine fn_go1 tabOk Tryd.func8 rfl (by kernel_rfl) Tryd.ntmps8 Tryd.results8 (by decide) ?_
    repeat first | refine Ua ?_ | refine Ub ?_ | refine Uc ?_ | refine Ud ?_ | refine Ue ?_ | refine Ug ⟨by kernel_rfl, ?_⟩ | refine Ug ?_ | refine Uh ?_ | refine Ui ?_ | refine Uj ?_ | refine Uk rfl ?_ | refine Ul rfl ?_ | refine Um ?_ | refine Un ?_ | refine Uo ?_ | refine Up rfl ?_ | refine Uq ?_ | refine Ur ?_ | refine Us ?_ | refine Ut ?_ | refine Uu ?_ | refine Ux ?_ | refine Uv rfl rfl rfl rfl ?_ | refine Uw rfl rfl rfl ?_ | refine U0 z0 ?_ | refine U1 z1 ?_ | refine U9 zs ?_
    refine ax_cond rfl (fun hb0 => ?_) (fun hb0 => ?_)
    · repeat first | refine Ua ?_ | refine Ub ?_ | refine Uc ?_ | refine Ud ?_ | refine Ue ?_ | refine Ug ⟨by kernel_rfl, ?_⟩ | refine Ug ?_ | refine Uh ?_ | refine Ui ?_ | refine Uj ?_ | refine Uk rfl ?_ | refine Ul rfl ?_ | refine Um ?_ | refine Un ?_ | refine Uo ?_ | refine Up rfl ?_ | refine Uq ?_ | refine Ur ?_ | refine Us ?_ | refine Ut ?_ | refine Uu ?_ | refine Ux ?_ | refine Uv rfl rfl rfl rfl ?_ | refine Uw rfl rfl rfl ?_ | refine U0 z0 ?_ | refine U1 z1 ?_ | refine U9 zs ?_
      exact ⟨.inl rfl, Rx⟩
    repeat first | refine Ua ?_ | refine Ub ?_ | refine Uc ?_ | refine Ud ?_ | refine Ue ?_ | refine Ug ⟨by kernel_rfl, ?_⟩ | refine Ug ?_ | refine Uh ?_ | refine Ui ?_ | refine Uj ?_ | refine Uk rfl ?_ | refine Ul rfl ?_ | refine Um ?_ | refine Un ?_ | refine Uo ?_ | refine Up rfl ?_ | refine Uq ?_ | refine Ur ?_ | refine Us ?_ | refine Ut ?_ | refine Uu ?_ | refine Ux ?_ | refine Af (h := ?_) | refine At (h := ?_) | refine Uv rfl rfl rfl rfl ?_ | refine Uw rfl rfl rfl ?_ | refine U0 (by first | (apply st_call (hfn := hS ); exact rfl; exact fz) | (apply st_call (hfn := hA ); exact rfl; exact fz) | (apply st_call (hfn := hA2 ); exact rfl; exact fz) | (apply st_call (hfn := hD ); exact rfl; exact fz) | exact z0 | fail) ?_ | refine U1 (by first | (apply st_call_hv (hfn := hH ); exact rfl; exact fz; iterate 2 exact rfl) | (apply st_call_sv (hfn := hP ); exact rfl; exact fz; iterate 2 exact rfl) | (apply st_call_sv (hfn := hP2 ); exact rfl; exact fz; iterate 2 exact rfl) | (apply st_call_hv (hfn := hR ); exact rfl; exact fz; iterate 2 exact rfl) | exact z1 | fail) ?_ | refine U9 zs ?_ | refine Kf (h := ?_) | refine Kt (h := ?_)
    first | rw [hge] | rw [show decide ((l.length : Int) ≥ apartF h.wide c 0) = true from hge]
    exact ⟨.inl rfl, Rx⟩

theorem fnBringPlan_walk (w : World) (v0 : Value) (b0 : List Int) (q0 : RawBytes w v0 b0) : Calls Tryd.prog 8 #[v0] w (Gives (.bool true) w) := by
  refine ((fnBringPlan_fn v0 b0 q0.choose_spec.choose_spec.2.2.2.2).2 w [v0] (by simp only [pureL, pureV]; exact ⟨pure_byts b0, trivial⟩) (by simp only [relL]; exact ⟨_, _, rfl, rel_of_rawBytes q0, rfl⟩)).mono fun e w' hh => gives_v_of hh

set_option maxRecDepth 100000 in
theorem fnBringPlan_lifted (os : Os) (started : os.Started) (H : Type) (enc : TypeId × Value → H) :
    ReturnsInHanded {} Tryd.checked os 8 .any (fun w args => (Rows.fnBringPlanSpec.pre enc Tryd.prog Tryd.f8 Rows.fnBringPlanRow.domain false w args ∧ laidMetH Tryd.prog laidL w) ∧ sizedMet enc Tryd.prog Tryd.f8 (OpenSpec.ofChange Rows.fnBringPlanSpec) false w args)
      (Rows.fnBringPlanSpec.post enc Tryd.prog Tryd.f8 false true false false) := by
  refine returnsInHanded_of_change_and (C := Tryd.checked) (X := fun w _ => laidMetH Tryd.prog laidL w) (fun _ _ _ hh h => h.of_heap hh) Tryd.own started (by kernel_rfl) Tryd.func8
    (ChangeSpec.witness_shaped (enc := enc) (C := Tryd.checked) (os := os) (X := fun w _ => laidMetH Tryd.prog laidL w) false (World.doorLaid Tryd.prog 400 os) #[.slice none 0 0] 8 rfl (World.shaped_of_RefB (by kernel_rfl) (by kernel_rfl)) (by kernel_rfl) (by kernel_rfl) (by kernel_rfl) (door_met os _)) ?_
  intro W base args ds gs before hval0 hW _ _ _ _
  have hval : ∀ (j : Nat) t v, Tryd.f8.params[j]? = some t → args[j]? = some v → Value.okWide Tryd.prog W .any base t v := hval0
  have hW' := hW
  obtain ⟨p, q, hA0, hV, rfl, hfz, hnd⟩ := hW
  have hA : DataW.TrodAll enc Tryd.prog W 0 (fun _ => true) true Tryd.f8.params.toList args.toList ds p := hA0
  rw [Tryd.params8] at hA hval
  obtain ⟨v0, vs0, d0, ds0, p0, q0, hargs, rfl, rfl, h0, r0⟩ := trodAll_cons hA
  obtain ⟨rfl, rfl, rfl⟩ := trodAll_nil r0
  obtain rfl : args = #[v0] := by cases args; simp_all
  obtain ⟨rfl, rfl⟩ := trodVars_none hV
  have lt0 := lt_of_trod h0
  obtain ⟨b0, w0⟩ := open_raw_bytes_arg (fun _ => rfl) (hval 0 22 v0 rfl rfl) h0
  clear hA0 hval0
  refine (fnBringPlan_walk W v0 b0 w0).mono fun e W' ⟨he, bel⟩ => ?_
  subst he
  exact ⟨_, rfl, _, _, _, [], _, [], hW', trodAll_mk1 (shut_bool Tryd.underlying4 _), (trodAll_cons_mk (Below.trod Tryd.laidOut (by kernel_rfl) (of_decide_eq_true (by kernel_rfl)) h0 bel lt0) trodAll_mk0), rfl, bel.frame _, fun h => by cases h⟩

theorem fnBringPlan_over : Rows.fnBringPlanRow.holds Tryd.pinned (OpenSpec.ofChange Rows.fnBringPlanSpec) :=
  OpenClaim.holds_of_wide 8 Tryd.f8 rfl rfl rfl rfl rfl rfl rfl ⟨rfl, rfl, rfl, rfl, rfl⟩ rfl rfl rfl rfl rfl (by kernel_rfl) Tryd.func8 (by kernel_rfl)
    (of_decide_eq_true (by kernel_rfl)) (by unfold Func.isWrapper; rw [if_neg (of_decide_eq_false (by kernel_rfl))]; exact ⟨rfl, rfl⟩)
    (fun os started H enc _ => fnBringPlan_lifted os started H enc)

theorem fnBringPlan_holds : Rows.FnBringPlanCardSaid :=
  Claim7.holds_tied_plain_at .later [] [.data, .data, .data] true mainIsB false
    fnBringPlan_over (fun _ h => by cases h) (by kernel_rfl) (fun _ h => by cases h) fnBringPlan_row_tie rfl ⟨rfl, rfl⟩ mainFact rfl
    (fun f fn hf hfn => by
      obtain rfl : f = 8 := Option.some.inj ((show Tryd.prog.funcNamed "loop.example/parkinghouse/laws.FnBringPlan" = some 8 by kernel_rfl).symm.trans hf) |>.symm
      obtain rfl : fn = Tryd.f8 := (Option.some.inj (Tryd.func8.symm.trans hfn)).symm
      exact ⟨noLooks, fun j t ht => by
        rw [Tryd.params8] at ht
        have hm : t ∈ [22] := by simpa using Array.mem_of_getElem? ht
        have hall : ([22].all fun u => !Tryd.prog.wantsStandIn u) = true := by kernel_rfl
        exact (show Tryd.prog.wantsStandIn t = false by simpa using List.all_eq_true.1 hall t hm)⟩)
    (by kernel_rfl)

#print axioms fnBringPlan_holds

end Go.Proofs.YtcjhlhikolaffaaDoor
