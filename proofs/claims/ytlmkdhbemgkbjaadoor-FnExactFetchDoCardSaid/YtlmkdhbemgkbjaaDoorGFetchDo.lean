/-
  Proved: FnExactFetchDo returns true for every argument, and its arguments read afterwards as they read before. No condition.
-/
import Derived.Test.YtlmkdhbemgkbjaaDoorRH
import Derived.Test.YtlmkdhbemgkbjaaDoorQD
import Derived.Test.YtlmkdhbemgkbjaaDoorRow
import Derived.Test.YtlmkdhbemgkbjaaDoorRow2
import Derived.Test.YtlmkdhbemgkbjaaDoorRU
import Derived.Test.YtlmkdhbemgkbjaaDoorMain
set_option linter.unusedVariables false
set_option linter.unusedSimpArgs false
set_option maxRecDepth 100000
namespace Go.Proofs.YtlmkdhbemgkbjaaDoor
open Go Go.RowKit Go.Park Go.Sym
open Go.ChangeShapes Go.WideShapes Go.ChangeAt

set_option maxHeartbeats 4000000 in
theorem fnExactFetchDo_fn (a0 : PHall) (a1 : Int) : FnG Tryd.prog 3 bruijn 7 [hallV a0, .int a1] (.bool true) := by
  refine fng_go2 tabOk Tryd.func7 rfl (by kernel_rfl) Tryd.ntmps7 Tryd.results7 (by decide) ?_
  repeat first | refine Ua ?_ | refine Ub ?_ | refine Uc ?_ | refine Ud ?_ | refine Ue ?_ | refine Ug ⟨by kernel_rfl, ?_⟩ | refine Ug ?_ | refine Uh ?_ | refine Ui ?_ | refine Uj ?_ | refine Uk rfl ?_ | refine Ul rfl ?_ | refine Um ?_ | refine Un ?_ | refine Uo ?_ | refine Up rfl ?_ | refine Uq ?_ | refine Ur ?_ | refine Us ?_ | refine Ut ?_ | refine Uu ?_ | refine Ux ?_ | refine Uv rfl rfl rfl rfl ?_ | refine Uw rfl rfl rfl ?_ | refine U0 (by first | (apply st_call (hfn := szHall_fn a0 (1048576) (by omega) (by omega) ); exact rfl; exact fz) | exact z0 | fail) ?_ | refine U1 z1 ?_ | refine U9 zs ?_
  refine ax_cond rfl (fun hb1 => ?_) (fun hb1 => ?_)
  · repeat first | refine Ua ?_ | refine Ub ?_ | refine Uc ?_ | refine Ud ?_ | refine Ue ?_ | refine Ug ⟨by kernel_rfl, ?_⟩ | refine Ug ?_ | refine Uh ?_ | refine Ui ?_ | refine Uj ?_ | refine Uk rfl ?_ | refine Ul rfl ?_ | refine Um ?_ | refine Un ?_ | refine Uo ?_ | refine Up rfl ?_ | refine Uq ?_ | refine Ur ?_ | refine Us ?_ | refine Ut ?_ | refine Uu ?_ | refine Ux ?_ | refine Uv rfl rfl rfl rfl ?_ | refine Uw rfl rfl rfl ?_ | refine U0 z0 ?_ | refine U1 z1 ?_ | refine U9 zs ?_
    exact ⟨.inl rfl, Rx⟩
  obtain ⟨hz0, hy0⟩ := szTo_ok (n := a0.cells.length) (left := 1048576) (by simpa using hb1)
  have hm0 : a0.cells.length ≤ 1048576 := by omega
  have hl0 : a0.cells.length ≤ lim := by have := lim_eq; omega
  have hr0 : (fetchF a0 a1).1.cells.length ≤ lim := Nat.le_trans (fetchF_len a0 a1) hl0
  have hs0 : (fetchF a0 a1).1.cells.length ≤ 1073741824 := hr0
  clear hz0 hy0
  repeat first | refine Ua ?_ | refine Ub ?_ | refine Uc ?_ | refine Ud ?_ | refine Ue ?_ | refine Ug ⟨by kernel_rfl, ?_⟩ | refine Ug ?_ | refine Uh ?_ | refine Ui ?_ | refine Uj ?_ | refine Uk rfl ?_ | refine Ul rfl ?_ | refine Um ?_ | refine Un ?_ | refine Uo ?_ | refine Up rfl ?_ | refine Uq ?_ | refine Ur ?_ | refine Us ?_ | refine Ut ?_ | refine Uu ?_ | refine Ux ?_ | refine Af (h := ?_) | refine At (h := ?_) | refine Uv rfl rfl rfl rfl ?_ | refine Uw rfl rfl rfl ?_ | refine U0 (by first | (apply st_call (hfn := eqHall_fn a0 hl0 ); exact rfl; exact fz) | (apply st_call (hfn := eqHall_fn (fetchF a0 a1).1 hr0 ); exact rfl; exact fz) | (apply st_call (hfn := heldHall_fn (fetchF a0 a1).1.wide (fetchF a0 a1).1.deep (fetchF a0 a1).1.cells.length hr0 (1) (by omega) (by omega) ); exact rfl; exact fz) | exact z0 | fail) ?_ | refine U1 (by first | (apply st_call_hv (hfn := specFetchDo_fn a0 hl0 a1 ); exact rfl; exact fz; iterate 2 exact rfl) | (apply st_callg_hv (hfn := fetchDo_fn a0 hl0 a1 ); exact rfl; exact fz; iterate 3 exact rfl) | (apply st_call_h (hfn := toHall_fn a0 hl0 ); exact rfl; exact fz; iterate 2 exact rfl) | (apply st_mark (hfn := markHall_m a0.wide a0.deep a0.cells hl0 (1) (by omega) (by omega) ); exact rfl; exact rfl; exact mz; iterate 6 exact rfl) | (apply st_mark (hfn := markHall_m (fetchF a0 a1).1.wide (fetchF a0 a1).1.deep (fetchF a0 a1).1.cells hr0 (1) (by omega) (by omega) ); exact rfl; exact rfl; exact mz; iterate 6 exact rfl) | exact z1 | fail) ?_ | refine U9 zs ?_ | refine Kf (h := ?_) | refine Kt (h := ?_)
  exact ⟨.inl rfl, Rx⟩

theorem fnExactFetchDo_walk (w : World) (htab : TabW 3 bruijn w) (v0 : Value) (a0 : PHall) (q0 : RawHall w v0 a0) (a1 : Int) (q1 : -9223372036854775808 ≤ a1 ∧ a1 ≤ 9223372036854775807) : Calls Tryd.prog 7 #[v0, .int .i64 a1] w (Gives (.bool true) w) := by
  refine ((fnExactFetchDo_fn a0 a1).2 w [v0, .int .i64 a1] htab (by simp only [pureL]; exact ⟨pure_hall a0, ⟨trivial, trivial⟩⟩) (by simp only [relL]; exact ⟨_, _, rfl, rel_of_rawHall q0, ⟨_, _, rfl, by rw [relV], rfl⟩⟩)).mono fun e w' hh => gives_v_of hh

set_option maxRecDepth 100000 in
theorem fnExactFetchDo_lifted (os : Os) (started : os.Started) (H : Type) (enc : TypeId × Value → H) :
    ReturnsInHanded {} Tryd.checked os 7 .any (fun w args => (Rows.fnExactFetchDoSpec.pre enc Tryd.prog Tryd.f7 Rows.fnExactFetchDoRow.domain false w args ∧ laidMetH Tryd.prog laidL w) ∧ sizedMet enc Tryd.prog Tryd.f7 (OpenSpec.ofChange Rows.fnExactFetchDoSpec) false w args)
      (Rows.fnExactFetchDoSpec.post enc Tryd.prog Tryd.f7 false true false false) := by
  refine returnsInHanded_of_change_and (C := Tryd.checked) (X := fun w _ => laidMetH Tryd.prog laidL w) (fun _ _ _ hh h => h.of_heap hh) Tryd.own started (by kernel_rfl) Tryd.func7
    (ChangeSpec.witness_shaped (enc := enc) (C := Tryd.checked) (os := os) (X := fun w _ => laidMetH Tryd.prog laidL w) false (World.doorLaid Tryd.prog 400 os) #[.agg #[.int .i64 0, .int .i64 0, .slice none 0 0], .int .i64 0] 8 rfl (World.shaped_of_RefB (by kernel_rfl) (by kernel_rfl)) (by kernel_rfl) (by kernel_rfl) (by kernel_rfl) (door_met os _)) ?_
  intro W base args ds gs before hval0 hW _ _ hL _
  have htab := tab_laid hL
  have hval : ∀ (j : Nat) t v, Tryd.f7.params[j]? = some t → args[j]? = some v → Value.okWide Tryd.prog W .any base t v := hval0
  have hW' := hW
  obtain ⟨p, q, hA0, hV, rfl, hfz, hnd⟩ := hW
  have hA : DataW.TrodAll enc Tryd.prog W 0 (fun _ => true) true Tryd.f7.params.toList args.toList ds p := hA0
  rw [Tryd.params7] at hA hval
  obtain ⟨v0, vs0, d0, ds0, p0, q0, hargs, rfl, rfl, h0, r0⟩ := trodAll_cons hA
  obtain ⟨v1, vs1, d1, ds1, p1, q1, rfl, rfl, rfl, h1, r1⟩ := trodAll_cons r0
  obtain ⟨rfl, rfl, rfl⟩ := trodAll_nil r1
  obtain rfl : args = #[v0, v1] := by cases args; simp_all
  obtain ⟨rfl, rfl⟩ := trodVars_none hV
  have lt0 := lt_of_trod h0
  obtain ⟨a0, w0⟩ := open_raw_hall (fun _ => rfl) (hval 0 24 v0 rfl rfl) h0
  have lt1 := lt_of_trod h1
  obtain ⟨a1, rfl, w1⟩ := open_an_int (hval 1 3 v1 rfl rfl) h1
  clear hA0 hval0
  refine (fnExactFetchDo_walk W htab v0 a0 w0 a1 w1).mono fun e W' ⟨he, bel⟩ => ?_
  subst he
  exact ⟨_, rfl, _, _, _, [], _, [], hW', trodAll_mk1 (shut_bool Tryd.underlying4 _), (trodAll_cons_mk (Below.trod Tryd.laidOut (by kernel_rfl) (of_decide_eq_true (by kernel_rfl)) h0 bel lt0) (trodAll_cons_mk (Below.trod Tryd.laidOut (by kernel_rfl) (of_decide_eq_true (by kernel_rfl)) h1 bel lt1) trodAll_mk0)), rfl, bel.frame _, fun h => by cases h⟩

theorem fnExactFetchDo_over : Rows.fnExactFetchDoRow.holds Tryd.pinned (OpenSpec.ofChange Rows.fnExactFetchDoSpec) :=
  OpenClaim.holds_of_wide 7 Tryd.f7 rfl rfl rfl rfl rfl rfl rfl ⟨rfl, rfl, rfl, rfl, rfl⟩ rfl rfl rfl rfl rfl (by kernel_rfl) Tryd.func7 (by kernel_rfl)
    (of_decide_eq_true (by kernel_rfl)) (by unfold Func.isWrapper; rw [if_neg (of_decide_eq_false (by kernel_rfl))]; exact ⟨rfl, rfl⟩)
    (fun os started H enc _ => fnExactFetchDo_lifted os started H enc)

theorem fnExactFetchDo_holds : Rows.FnExactFetchDoCardSaid :=
  Claim7.holds_tied_plain_at .later [] [.data, .data] true mainIsB false
    fnExactFetchDo_over (fun _ h => by cases h) (by kernel_rfl) (fun _ h => by cases h) fnExactFetchDo_row_tie rfl ⟨rfl, rfl⟩ mainFact rfl
    (fun f fn hf hfn => by
      obtain rfl : f = 7 := Option.some.inj ((show Tryd.prog.funcNamed "loop.example/parkinghouse/laws.FnExactFetchDo" = some 7 by kernel_rfl).symm.trans hf) |>.symm
      obtain rfl : fn = Tryd.f7 := (Option.some.inj (Tryd.func7.symm.trans hfn)).symm
      exact ⟨noLooks, fun j t ht => by
        rw [Tryd.params7] at ht
        have hm : t ∈ [24, 3] := by simpa using Array.mem_of_getElem? ht
        have hall : ([24, 3].all fun u => !Tryd.prog.wantsStandIn u) = true := by kernel_rfl
        exact (show Tryd.prog.wantsStandIn t = false by simpa using List.all_eq_true.1 hall t hm)⟩)
    (by kernel_rfl)

#print axioms fnExactFetchDo_holds

end Go.Proofs.YtlmkdhbemgkbjaaDoor
