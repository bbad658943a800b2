/-
  Proved: FnBringBest returns true for every argument, and its argument reads afterwards as it read before (the card). No condition.
-/
import Derived.Test.YtcjhlhikolaffaaDoorRow3
import Derived.Test.YtcjhlhikolaffaaDoorMain
import Derived.Test.YtcjhlhikolaffaaDoorRS
import Derived.Test.YtcjhlhikolaffaaDoorWE
import Derived.Test.YtcjhlhikolaffaaDoorW5
import Derived.Test.YtcjhlhikolaffaaDoorWF
import Derived.Test.YtcjhlhikolaffaaDoorRH
import Derived.Test.YtcjhlhikolaffaaDoorRV
set_option linter.unusedVariables false
set_option linter.unusedSimpArgs false
set_option maxRecDepth 100000
namespace Go.Proofs.YtcjhlhikolaffaaDoor
open Go Go.RowKit Go.Park Go.Sym
open Go.ChangeShapes Go.WideShapes Go.ChangeAt

set_option maxHeartbeats 4000000 in
theorem drawBringBest_fn (v0 : Value) (bs : List Int) (hB : OkB bs) : ∃ i : PHall × Int, i.1.cells.length ≤ 13 ∧ FnS Tryd.prog 56 [codeV v0 bs] (.tup [hallV i.1, .int i.2]) := by
  have hC := cut_bytes hB
  obtain ⟨⟨h, id, q⟩, ⟨g1, g2, g3⟩, hH⟩ := l20Crowd_fn (rdV v0) _ hC 0 (by omega) 9 (by omega)
  dsimp only at g1 g2 g3 hH
  have hlim := lim_eq
  refine fnx_go1 (Good := fun i : PHall × Int => i.1.cells.length ≤ 13) (res := fun i => .tup [hallV i.1, .int i.2]) tabOk Tryd.func56 rfl (by kernel_rfl) Tryd.ntmps56 Tryd.results56 (by decide) ?_
  repeat first | refine Ua ?_ | refine Ub ?_ | refine Uc ?_ | refine Ud ?_ | refine Ue ?_ | refine Ug ⟨by kernel_rfl, ?_⟩ | refine Ug ?_ | refine Uh ?_ | refine Ui ?_ | refine Uj ?_ | refine Uk rfl ?_ | refine Ul rfl ?_ | refine Um ?_ | refine Un ?_ | refine Uo ?_ | refine Up rfl ?_ | refine Uq ?_ | refine Ur ?_ | refine Us ?_ | refine Ut ?_ | refine Uu ?_ | refine Ux ?_ | refine Uv rfl rfl rfl rfl ?_ | refine Uw rfl rfl rfl ?_ | refine U0 z0 ?_ | refine U1 (by first | (apply st_open; iterate 4 exact rfl) | exact z1 | fail) ?_ | refine U9 zs ?_ | refine U2 (by first | (apply st_recv_hv (hfn := hH ); (iterate 4 exact rfl); exact fz; iterate 3 exact rfl) | fail) ?_
  exact ⟨⟨(h, id), g1, .inl rfl, Rx⟩⟩
set_option maxHeartbeats 4000000 in
theorem fnBringBest_fn (v0 : Value) (bs : List Int) (hB : OkB bs) : FnG Tryd.prog 3 bruijn 12 [codeV v0 bs] (.bool true) := by
  obtain ⟨⟨h, id⟩, g1, hH⟩ := drawBringBest_fn v0 bs hB
  dsimp only at g1 hH
  have hlim := lim_eq
  have hl : h.cells.length ≤ lim := by omega
  have hP := bringBest_fn h hl id
  have hP2 := specBringBest_fn h hl id
  have hL := bringLeast_fn h hl id
  rcases best_cases h id with ⟨e, _⟩ | ⟨c, hc, hfr, hb, g, hlen⟩
  · rw [e] at hP hP2
    rw [least_none e] at hL
    dsimp only at hP hP2
    have hS := sameSlides_fn [] [] (by simp [hlim]) (by simp [hlim])
    rw [decide_eq_true rfl] at hS
    refine fng_go1 tabOk Tryd.func12 rfl (by kernel_rfl) Tryd.ntmps12 Tryd.results12 (by decide) ?_
    repeat first | refine Ua ?_ | refine Ub ?_ | refine Uc ?_ | refine Ud ?_ | refine Ue ?_ | refine Ug ⟨by kernel_rfl, ?_⟩ | refine Ug ?_ | refine Uh ?_ | refine Ui ?_ | refine Uj ?_ | refine Uk rfl ?_ | refine Ul rfl ?_ | refine Um ?_ | refine Un ?_ | refine Uo ?_ | refine Up rfl ?_ | refine Uq ?_ | refine Ur ?_ | refine Us ?_ | refine Ut ?_ | refine Uu ?_ | refine Ux ?_ | refine Uv rfl rfl rfl rfl ?_ | refine Uw rfl rfl rfl ?_ | refine U0 z0 ?_ | refine U1 z1 ?_ | refine U9 zs ?_
    refine ax_cond rfl (fun hb0 => ?_) (fun hb0 => ?_)
    · repeat first | refine Ua ?_ | refine Ub ?_ | refine Uc ?_ | refine Ud ?_ | refine Ue ?_ | refine Ug ⟨by kernel_rfl, ?_⟩ | refine Ug ?_ | refine Uh ?_ | refine Ui ?_ | refine Uj ?_ | refine Uk rfl ?_ | refine Ul rfl ?_ | refine Um ?_ | refine Un ?_ | refine Uo ?_ | refine Up rfl ?_ | refine Uq ?_ | refine Ur ?_ | refine Us ?_ | refine Ut ?_ | refine Uu ?_ | refine Ux ?_ | refine Uv rfl rfl rfl rfl ?_ | refine Uw rfl rfl rfl ?_ | refine U0 z0 ?_ | refine U1 z1 ?_ | refine U9 zs ?_
      exact ⟨.inl rfl, Rx⟩
    repeat first | refine Ua ?_ | refine Ub ?_ | refine Uc ?_ | refine Ud ?_ | refine Ue ?_ | refine Ug ⟨by kernel_rfl, ?_⟩ | refine Ug ?_ | refine Uh ?_ | refine Ui ?_ | refine Uj ?_ | refine Uk rfl ?_ | refine Ul rfl ?_ | refine Um ?_ | refine Un ?_ | refine Uo ?_ | refine Up rfl ?_ | refine Uq ?_ | refine Ur ?_ | refine Us ?_ | refine Ut ?_ | refine Uu ?_ | refine Ux ?_ | refine Af (h := ?_) | refine At (h := ?_) | refine Uv rfl rfl rfl rfl ?_ | refine Uw rfl rfl rfl ?_ | refine U0 (by first | (apply st_call (hfn := hS ); exact rfl; exact fz) | (apply st_callg (hfn := hL ); exact rfl; exact fz; exact rfl) | (apply st_call (hfn := alive_fn ); exact rfl; exact fz) | exact z0 | fail) ?_ | refine U1 (by first | (apply st_call_hv (hfn := hH ); exact rfl; exact fz; iterate 2 exact rfl) | (apply st_callg_sv (hfn := hP ); exact rfl; exact fz; iterate 3 exact rfl) | (apply st_call_sv (hfn := hP2 ); exact rfl; exact fz; iterate 2 exact rfl) | exact z1 | fail) ?_ | refine U9 zs ?_ | refine Kf (h := ?_) | refine Kt (h := ?_)
    exact ⟨.inl rfl, Rx⟩
  · rw [least_is hb] at hL
    rw [hb] at hP hP2
    generalize (bestF h id).1 = l at *
    obtain ⟨hv, _⟩ := find_at hc
    have hS := sameSlides_fn l l (by omega) (by omega)
    rw [decide_eq_true rfl] at hS
    obtain ⟨s1, s2, _⟩ := stS_ok (l := l) hv l.length
    have hR := slideRun_fn h hl l (by omega)
    rw [slideRun_done hv (by omega) g.done] at hR
    dsimp only at hR
    have hA := hallFind_fn (stS h l l.length) (by omega) id
    rw [g.gate] at hA
    refine fng_go1 tabOk Tryd.func12 rfl (by kernel_rfl) Tryd.ntmps12 Tryd.results12 (by decide) ?_
    repeat first | refine Ua ?_ | refine Ub ?_ | refine Uc ?_ | refine Ud ?_ | refine Ue ?_ | refine Ug ⟨by kernel_rfl, ?_⟩ | refine Ug ?_ | refine Uh ?_ | refine Ui ?_ | refine Uj ?_ | refine Uk rfl ?_ | refine Ul rfl ?_ | refine Um ?_ | refine Un ?_ | refine Uo ?_ | refine Up rfl ?_ | refine Uq ?_ | refine Ur ?_ | refine Us ?_ | refine Ut ?_ | refine Uu ?_ | refine Ux ?_ | refine Uv rfl rfl rfl rfl ?_ | refine Uw rfl rfl rfl ?_ | refine U0 z0 ?_ | refine U1 z1 ?_ | refine U9 zs ?_
    refine ax_cond rfl (fun hb0 => ?_) (fun hb0 => ?_)
    · repeat first | refine Ua ?_ | refine Ub ?_ | refine Uc ?_ | refine Ud ?_ | refine Ue ?_ | refine Ug ⟨by kernel_rfl, ?_⟩ | refine Ug ?_ | refine Uh ?_ | refine Ui ?_ | refine Uj ?_ | refine Uk rfl ?_ | refine Ul rfl ?_ | refine Um ?_ | refine Un ?_ | refine Uo ?_ | refine Up rfl ?_ | refine Uq ?_ | refine Ur ?_ | refine Us ?_ | refine Ut ?_ | refine Uu ?_ | refine Ux ?_ | refine Uv rfl rfl rfl rfl ?_ | refine Uw rfl rfl rfl ?_ | refine U0 z0 ?_ | refine U1 z1 ?_ | refine U9 zs ?_
      exact ⟨.inl rfl, Rx⟩
    repeat first | refine Ua ?_ | refine Ub ?_ | refine Uc ?_ | refine Ud ?_ | refine Ue ?_ | refine Ug ⟨by kernel_rfl, ?_⟩ | refine Ug ?_ | refine Uh ?_ | refine Ui ?_ | refine Uj ?_ | refine Uk rfl ?_ | refine Ul rfl ?_ | refine Um ?_ | refine Un ?_ | refine Uo ?_ | refine Up rfl ?_ | refine Uq ?_ | refine Ur ?_ | refine Us ?_ | refine Ut ?_ | refine Uu ?_ | refine Ux ?_ | refine Af (h := ?_) | refine At (h := ?_) | refine Uv rfl rfl rfl rfl ?_ | refine Uw rfl rfl rfl ?_ | refine U0 (by first | (apply st_call (hfn := hS ); exact rfl; exact fz) | (apply st_callg (hfn := hL ); exact rfl; exact fz; exact rfl) | exact z0 | fail) ?_ | refine U1 (by first | (apply st_call_hv (hfn := hH ); exact rfl; exact fz; iterate 2 exact rfl) | (apply st_callg_sv (hfn := hP ); exact rfl; exact fz; iterate 3 exact rfl) | (apply st_call_sv (hfn := hP2 ); exact rfl; exact fz; iterate 2 exact rfl) | exact z1 | fail) ?_ | refine U9 zs ?_ | refine Kf (h := ?_) | refine Kt (h := ?_)
    refine ax_loop (fun k : Nat => mkS [(10, .int (k : Int)), (9, .int (l.length : Int)), (5, .own 3 0), (4, .int id), (3, .ptr 2 0 0), tabE] ⟨5, [(1, some (intsRow h.cells)), (2, some (boxRow h.wide h.deep 1 0)), (3, some (slcRow l))]⟩) (fun k => k ≤ l.length) (fun k => l.length - k) (0) (Nat.zero_le _) (Lw (ρ := [])) ?_
    intro k hk
    repeat first | refine Ua ?_ | refine Ub ?_ | refine Uc ?_ | refine Ud ?_ | refine Ue ?_ | refine Ug ⟨by kernel_rfl, ?_⟩ | refine Ug ?_ | refine Uh ?_ | refine Ui ?_ | refine Uj ?_ | refine Uk rfl ?_ | refine Ul rfl ?_ | refine Um ?_ | refine Un ?_ | refine Uo ?_ | refine Up rfl ?_ | refine Uq ?_ | refine Ur ?_ | refine Us ?_ | refine Ut ?_ | refine Uu ?_ | refine Ux ?_ | refine Uv rfl rfl rfl rfl ?_ | refine Uw rfl rfl rfl ?_ | refine U0 z0 ?_ | refine U1 z1 ?_ | refine U9 zs ?_
    refine ax_cond rfl (fun hb2 => ?_) (fun hb2 => ?_)
    · have hlt : k < l.length := by simpa using hb2
      obtain ⟨t1, t2, t3⟩ := take_run hk (fun j hj => g.done j (by omega))
      have hRk := slideRun_fn h hl (l.take k) (by omega)
      rw [slideRun_done hv (by omega) t2, t3, t1] at hRk
      dsimp only at hRk
      obtain ⟨k1, k2, _⟩ := stS_ok (l := l) hv k
      have hAk := hallFind_fn (stS h l k) (by omega) id
      have hne : decide (hallFindF (stS h l k) id = 0) = false := decide_eq_false (g.before k hlt)
      repeat first | refine Ua ?_ | refine Ub ?_ | refine Uc ?_ | refine Ud ?_ | refine Ue ?_ | refine Ug ⟨by kernel_rfl, ?_⟩ | refine Ug ?_ | refine Uh ?_ | refine Ui ?_ | refine Uj ?_ | refine Uk rfl ?_ | refine Ul rfl ?_ | refine Um ?_ | refine Un ?_ | refine Uo ?_ | refine Up rfl ?_ | refine Uq ?_ | refine Ur ?_ | refine Us ?_ | refine Ut ?_ | refine Uu ?_ | refine Ux ?_ | refine Uv rfl rfl rfl rfl ?_ | refine Uw rfl rfl rfl ?_ | refine U0 (by first | (apply does_upto_own tabOk; (iterate 10 exact rfl); (refine ⟨by omega, ?_⟩; show k * 2 ≤ (slc l).length; rw [slc_length]; omega)) | (apply st_call (hfn := hAk ); exact rfl; exact fz) | exact z0 | fail) ?_ | refine U1 (by first | (apply st_call_hv (hfn := hRk); exact rfl; (apply FrzA.cons; exact .agg (.cons (.v _) (.cons (.v _) (.cons (.own rfl rfl rfl rfl rfl) .nil))); apply FrzA.cons; exact .one (.pre rfl rfl rfl rfl (slc_take2 _ _)); exact .nil); iterate 2 exact rfl) | exact z1 | fail) ?_ | refine U9 zs ?_
      refine ax_cond rfl (fun hb3 => ?_) (fun hb3 => ?_)
      · exact absurd (of_decide_eq_true hb3) (g.before k hlt)
      · repeat first | refine Ua ?_ | refine Ub ?_ | refine Uc ?_ | refine Ud ?_ | refine Ue ?_ | refine Ug ⟨by kernel_rfl, ?_⟩ | refine Ug ?_ | refine Uh ?_ | refine Ui ?_ | refine Uj ?_ | refine Uk rfl ?_ | refine Ul rfl ?_ | refine Um ?_ | refine Un ?_ | refine Uo ?_ | refine Up rfl ?_ | refine Uq ?_ | refine Ur ?_ | refine Us ?_ | refine Ut ?_ | refine Uu ?_ | refine Ux ?_ | refine Uv rfl rfl rfl rfl ?_ | refine Uw rfl rfl rfl ?_ | refine U0 z0 ?_ | refine U1 z1 ?_ | refine U9 zs ?_
        refine round_next (k + 1) (hlt) (by omega) (Lw (ρ := []))
    · have hkn : k = l.length := by simp at hb2; omega
      subst hkn
      repeat first | refine Ua ?_ | refine Ub ?_ | refine Uc ?_ | refine Ud ?_ | refine Ue ?_ | refine Ug ⟨by kernel_rfl, ?_⟩ | refine Ug ?_ | refine Uh ?_ | refine Ui ?_ | refine Uj ?_ | refine Uk rfl ?_ | refine Ul rfl ?_ | refine Um ?_ | refine Un ?_ | refine Uo ?_ | refine Up rfl ?_ | refine Uq ?_ | refine Ur ?_ | refine Us ?_ | refine Ut ?_ | refine Uu ?_ | refine Ux ?_ | refine Af (h := ?_) | refine At (h := ?_) | refine Uv rfl rfl rfl rfl ?_ | refine Uw rfl rfl rfl ?_ | refine U0 (by first | (apply st_call (hfn := hA ); exact rfl; exact fz) | exact z0 | fail) ?_ | refine U1 (by first | (apply st_call_hv (hfn := hR ); exact rfl; exact fz; iterate 2 exact rfl) | exact z1 | fail) ?_ | refine U9 zs ?_ | refine Kf (h := ?_) | refine Kt (h := ?_)
      exact ⟨.inl rfl, Rx⟩

theorem fnBringBest_walk (w : World) (htab : TabW 3 bruijn w) (v0 : Value) (b0 : List Int) (q0 : RawBytes w v0 b0) : Calls Tryd.prog 12 #[v0] w (Gives (.bool true) w) := by
  refine ((fnBringBest_fn v0 b0 q0.choose_spec.choose_spec.2.2.2.2).2 w [v0] htab (by simp only [pureL, pureV]; exact ⟨pure_byts b0, trivial⟩) (by simp only [relL]; exact ⟨_, _, rfl, rel_of_rawBytes q0, rfl⟩)).mono fun e w' hh => gives_v_of hh

set_option maxRecDepth 100000 in
theorem fnBringBest_lifted (os : Os) (started : os.Started) (H : Type) (enc : TypeId × Value → H) :
    ReturnsInHanded {} Tryd.checked os 12 .any (fun w args => (Rows.fnBringBestSpec.pre enc Tryd.prog Tryd.f12 Rows.fnBringBestRow.domain false w args ∧ laidMetH Tryd.prog laidL w) ∧ sizedMet enc Tryd.prog Tryd.f12 (OpenSpec.ofChange Rows.fnBringBestSpec) false w args)
      (Rows.fnBringBestSpec.post enc Tryd.prog Tryd.f12 false true false false) := by
  refine returnsInHanded_of_change_and (C := Tryd.checked) (X := fun w _ => laidMetH Tryd.prog laidL w) (fun _ _ _ hh h => h.of_heap hh) Tryd.own started (by kernel_rfl) Tryd.func12
    (ChangeSpec.witness_shaped (enc := enc) (C := Tryd.checked) (os := os) (X := fun w _ => laidMetH Tryd.prog laidL w) false (World.doorLaid Tryd.prog 400 os) #[.slice none 0 0] 8 rfl (World.shaped_of_RefB (by kernel_rfl) (by kernel_rfl)) (by kernel_rfl) (by kernel_rfl) (by kernel_rfl) (door_met os _)) ?_
  intro W base args ds gs before hval0 hW _ _ hL _
  have htab := tab_laid hL
  have hval : ∀ (j : Nat) t v, Tryd.f12.params[j]? = some t → args[j]? = some v → Value.okWide Tryd.prog W .any base t v := hval0
  have hW' := hW
  obtain ⟨p, q, hA0, hV, rfl, hfz, hnd⟩ := hW
  have hA : DataW.TrodAll enc Tryd.prog W 0 (fun _ => true) true Tryd.f12.params.toList args.toList ds p := hA0
  rw [Tryd.params12] at hA hval
  obtain ⟨v0, vs0, d0, ds0, p0, q0, hargs, rfl, rfl, h0, r0⟩ := trodAll_cons hA
  obtain ⟨rfl, rfl, rfl⟩ := trodAll_nil r0
  obtain rfl : args = #[v0] := by cases args; simp_all
  obtain ⟨rfl, rfl⟩ := trodVars_none hV
  have lt0 := lt_of_trod h0
  obtain ⟨b0, w0⟩ := open_raw_bytes_arg (fun _ => rfl) (hval 0 22 v0 rfl rfl) h0
  clear hA0 hval0
  refine (fnBringBest_walk W htab v0 b0 w0).mono fun e W' ⟨he, bel⟩ => ?_
  subst he
  exact ⟨_, rfl, _, _, _, [], _, [], hW', trodAll_mk1 (shut_bool Tryd.underlying4 _), (trodAll_cons_mk (Below.trod Tryd.laidOut (by kernel_rfl) (of_decide_eq_true (by kernel_rfl)) h0 bel lt0) trodAll_mk0), rfl, bel.frame _, fun h => by cases h⟩

theorem fnBringBest_over : Rows.fnBringBestRow.holds Tryd.pinned (OpenSpec.ofChange Rows.fnBringBestSpec) :=
  OpenClaim.holds_of_wide 12 Tryd.f12 rfl rfl rfl rfl rfl rfl rfl ⟨rfl, rfl, rfl, rfl, rfl⟩ rfl rfl rfl rfl rfl (by kernel_rfl) Tryd.func12 (by kernel_rfl)
    (of_decide_eq_true (by kernel_rfl)) (by unfold Func.isWrapper; rw [if_neg (of_decide_eq_false (by kernel_rfl))]; exact ⟨rfl, rfl⟩)
    (fun os started H enc _ => fnBringBest_lifted os started H enc)

theorem fnBringBest_holds : Rows.FnBringBestCardSaid :=
  Claim7.holds_tied_plain_at .later [] [.data, .data, .data] true mainIsB false
    fnBringBest_over (fun _ h => by cases h) (by kernel_rfl) (fun _ h => by cases h) fnBringBest_row_tie rfl ⟨rfl, rfl⟩ mainFact rfl
    (fun f fn hf hfn => by
      obtain rfl : f = 12 := Option.some.inj ((show Tryd.prog.funcNamed "loop.example/parkinghouse/laws.FnBringBest" = some 12 by kernel_rfl).symm.trans hf) |>.symm
      obtain rfl : fn = Tryd.f12 := (Option.some.inj (Tryd.func12.symm.trans hfn)).symm
      exact ⟨noLooks, fun j t ht => by
        rw [Tryd.params12] at ht
        have hm : t ∈ [22] := by simpa using Array.mem_of_getElem? ht
        have hall : ([22].all fun u => !Tryd.prog.wantsStandIn u) = true := by kernel_rfl
        exact (show Tryd.prog.wantsStandIn t = false by simpa using List.all_eq_true.1 hall t hm)⟩)
    (by kernel_rfl)

#print axioms fnBringBest_holds

end Go.Proofs.YtcjhlhikolaffaaDoor
