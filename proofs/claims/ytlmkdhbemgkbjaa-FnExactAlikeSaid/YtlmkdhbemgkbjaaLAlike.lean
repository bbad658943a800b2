/-
  Proved: FnExactAlike returns true for every argument, and its arguments read afterwards as they read before. No condition.
-/
import Derived.Test.YtlmkdhbemgkbjaaWB
import Derived.Test.YtlmkdhbemgkbjaaQD
import Derived.Test.YtlmkdhbemgkbjaaP4
import Derived.Test.YtlmkdhbemgkbjaaRow
import Derived.Test.YtlmkdhbemgkbjaaRow2
set_option linter.unusedVariables false
set_option linter.unusedSimpArgs false
set_option maxRecDepth 100000
namespace Go.Proofs.Ytlmkdhbemgkbjaa
open Go Go.RowKit Go.Park Go.Sym
open Go.ChangeShapes Go.WideShapes Go.ChangeAt

set_option maxHeartbeats 4000000 in
theorem fnExactAlike_fn (a0 : PHall) (a1 : PHall) : FnS Try.prog 3 [hallV a0, hallV a1] (.bool true) := by
  refine fn_go2 tabOk Try.func3 rfl (by kernel_rfl) Try.ntmps3 Try.results3 (by decide) ?_
  repeat first | refine Ua ?_ | refine Ub ?_ | refine Uc ?_ | refine Ud ?_ | refine Ue ?_ | refine Ug ⟨by kernel_rfl, ?_⟩ | refine Ug ?_ | refine Uh ?_ | refine Ui ?_ | refine Uj ?_ | refine Uk rfl ?_ | refine Ul rfl ?_ | refine Um ?_ | refine Un ?_ | refine Uo ?_ | refine Up rfl ?_ | refine Uq ?_ | refine Ur ?_ | refine Us ?_ | refine Ut ?_ | refine Uu ?_ | refine Ux ?_ | refine Uv rfl rfl rfl rfl ?_ | refine Uw rfl rfl rfl ?_ | refine U0 (by first | (apply st_call (hfn := szHall_fn a0 (1048576) (by omega) (by omega) ); exact rfl; exact fz) | exact z0 | fail) ?_ | refine U1 z1 ?_ | refine U9 zs ?_
  refine ax_cond rfl (fun hb1 => ?_) (fun hb1 => ?_)
  · repeat first | refine Ua ?_ | refine Ub ?_ | refine Uc ?_ | refine Ud ?_ | refine Ue ?_ | refine Ug ⟨by kernel_rfl, ?_⟩ | refine Ug ?_ | refine Uh ?_ | refine Ui ?_ | refine Uj ?_ | refine Uk rfl ?_ | refine Ul rfl ?_ | refine Um ?_ | refine Un ?_ | refine Uo ?_ | refine Up rfl ?_ | refine Uq ?_ | refine Ur ?_ | refine Us ?_ | refine Ut ?_ | refine Uu ?_ | refine Ux ?_ | refine Uv rfl rfl rfl rfl ?_ | refine Uw rfl rfl rfl ?_ | refine U0 z0 ?_ | refine U1 z1 ?_ | refine U9 zs ?_
    exact ⟨.inl rfl, Rx⟩
  obtain ⟨hz0, hy0⟩ := szTo_ok (n := a0.cells.length) (left := 1048576) (by simpa using hb1)
  have hm0 : a0.cells.length ≤ 1048576 := by omega
  have hl0 : a0.cells.length ≤ lim := by have := lim_eq; omega
  repeat first | refine Ua ?_ | refine Ub ?_ | refine Uc ?_ | refine Ud ?_ | refine Ue ?_ | refine Ug ⟨by kernel_rfl, ?_⟩ | refine Ug ?_ | refine Uh ?_ | refine Ui ?_ | refine Uj ?_ | refine Uk rfl ?_ | refine Ul rfl ?_ | refine Um ?_ | refine Un ?_ | refine Uo ?_ | refine Up rfl ?_ | refine Uq ?_ | refine Ur ?_ | refine Us ?_ | refine Ut ?_ | refine Uu ?_ | refine Ux ?_ | refine Uv rfl rfl rfl rfl ?_ | refine Uw rfl rfl rfl ?_ | refine U0 (by first | (apply st_call (hfn := szHall_fn a1 (szTo a0.cells.length (1048576)) (by omega) (by omega) ); exact rfl; exact fz) | exact z0 | fail) ?_ | refine U1 z1 ?_ | refine U9 zs ?_
  refine ax_cond rfl (fun hb2 => ?_) (fun hb2 => ?_)
  · repeat first | refine Ua ?_ | refine Ub ?_ | refine Uc ?_ | refine Ud ?_ | refine Ue ?_ | refine Ug ⟨by kernel_rfl, ?_⟩ | refine Ug ?_ | refine Uh ?_ | refine Ui ?_ | refine Uj ?_ | refine Uk rfl ?_ | refine Ul rfl ?_ | refine Um ?_ | refine Un ?_ | refine Uo ?_ | refine Up rfl ?_ | refine Uq ?_ | refine Ur ?_ | refine Us ?_ | refine Ut ?_ | refine Uu ?_ | refine Ux ?_ | refine Uv rfl rfl rfl rfl ?_ | refine Uw rfl rfl rfl ?_ | refine U0 z0 ?_ | refine U1 z1 ?_ | refine U9 zs ?_
    exact ⟨.inl rfl, Rx⟩
  obtain ⟨hz1, hy1⟩ := szTo_ok (n := a1.cells.length) (left := szTo a0.cells.length (1048576)) (by simpa using hb2)
  have hm1 : a1.cells.length ≤ 1048576 := by omega
  have hl1 : a1.cells.length ≤ lim := by have := lim_eq; omega
  clear hz0 hy0 hz1 hy1
  repeat first | refine Ua ?_ | refine Ub ?_ | refine Uc ?_ | refine Ud ?_ | refine Ue ?_ | refine Ug ⟨by kernel_rfl, ?_⟩ | refine Ug ?_ | refine Uh ?_ | refine Ui ?_ | refine Uj ?_ | refine Uk rfl ?_ | refine Ul rfl ?_ | refine Um ?_ | refine Un ?_ | refine Uo ?_ | refine Up rfl ?_ | refine Uq ?_ | refine Ur ?_ | refine Us ?_ | refine Ut ?_ | refine Uu ?_ | refine Ux ?_ | refine Af (h := ?_) | refine At (h := ?_) | refine Uv rfl rfl rfl rfl ?_ | refine Uw rfl rfl rfl ?_ | refine U0 (by first | (apply st_call (hfn := specAlike_fn a0 a1 hl0 hl1 ); exact rfl; exact fz) | (apply st_call (hfn := alike_fn a0 a1 hl0 hl1 ); exact rfl; exact fz) | (apply st_call (hfn := eqHall_fn a0 hl0 ); exact rfl; exact fz) | (apply st_call (hfn := eqHall_fn a1 hl1 ); exact rfl; exact fz) | exact z0 | fail) ?_ | refine U1 (by first | (apply st_call_h (hfn := toHall_fn a0 hl0 ); exact rfl; exact fz; iterate 2 exact rfl) | (apply st_call_h (hfn := toHall_fn a1 hl1 ); exact rfl; exact fz; iterate 2 exact rfl) | (apply st_mark (hfn := markHall_m a0.wide a0.deep a0.cells hl0 (1) (by omega) (by omega) ); exact rfl; exact rfl; exact mz; iterate 6 exact rfl) | (apply st_mark (hfn := markHall_m a1.wide a1.deep a1.cells hl1 (1 + a0.cells.length) (by omega) (by omega) ); exact rfl; exact rfl; exact mz; iterate 6 exact rfl) | exact z1 | fail) ?_ | refine U9 zs ?_ | refine Kf (h := ?_) | refine Kt (h := ?_)
  exact ⟨.inl rfl, Rx⟩

theorem fnExactAlike_walk (w : World) (v0 : Value) (a0 : PHall) (q0 : RawHall w v0 a0) (v1 : Value) (a1 : PHall) (q1 : RawHall w v1 a1) : Calls Try.prog 3 #[v0, v1] w (Gives (.bool true) w) := by
  refine ((fnExactAlike_fn a0 a1).2 w [v0, v1] (by simp only [pureL]; exact ⟨pure_hall a0, ⟨pure_hall a1, trivial⟩⟩) (by simp only [relL]; exact ⟨_, _, rfl, rel_of_rawHall q0, ⟨_, _, rfl, rel_of_rawHall q1, rfl⟩⟩)).mono fun e w' hh => gives_v_of hh

set_option maxRecDepth 100000 in
theorem fnExactAlike_lifted (os : Os) (started : os.Started) (H : Type) (enc : TypeId × Value → H) :
    ReturnsInHanded {} Try.checked os 3 .any (Rows.fnExactAlikeSpec.pre6 enc Try.prog Try.f3 Rows.fnExactAlikeRow.domain false) (Rows.fnExactAlikeSpec.post enc Try.prog Try.f3 false true false false) := by
  refine returnsInHanded_of_change (C := Try.checked) Try.own started (by kernel_rfl) Try.func3
    (ChangeSpec.witness6 (enc := enc) (C := Try.checked) false ⟨#[], #[.agg #[.int .i64 0, .int .i64 0, .slice none 0 0], .agg #[.int .i64 0, .int .i64 0, .slice none 0 0]], []⟩ 8 (by kernel_rfl) (by kernel_rfl) (by kernel_rfl) (by kernel_rfl)) ?_
  intro W base args ds gs before hval0 hW hcnd _
  have hval : ∀ (j : Nat) t v, Try.f3.params[j]? = some t → args[j]? = some v → Value.okWide Try.prog W .any base t v := hval0
  have hW' := hW
  obtain ⟨p, q, hA0, hV, rfl, hfz, hnd⟩ := hW
  have hA : DataW.TrodAll enc Try.prog W 0 (fun _ => true) true Try.f3.params.toList args.toList ds p := hA0
  rw [Try.params3] at hA hval
  obtain ⟨v0, vs0, d0, ds0, p0, q0, hargs, rfl, rfl, h0, r0⟩ := trodAll_cons hA
  obtain ⟨v1, vs1, d1, ds1, p1, q1, rfl, rfl, rfl, h1, r1⟩ := trodAll_cons r0
  obtain ⟨rfl, rfl, rfl⟩ := trodAll_nil r1
  obtain rfl : args = #[v0, v1] := by cases args; simp_all
  obtain ⟨rfl, rfl⟩ := trodVars_none hV
  have lt0 := lt_of_trod h0
  obtain ⟨a0, w0⟩ := open_raw_hall (fun _ => rfl) (hval 0 24 v0 rfl rfl) h0
  have lt1 := lt_of_trod h1
  obtain ⟨a1, w1⟩ := open_raw_hall (fun _ => rfl) (hval 1 24 v1 rfl rfl) h1
  clear hA0 hval0
  refine (fnExactAlike_walk W v0 a0 w0 v1 a1 w1).mono fun e W' ⟨he, bel⟩ => ?_
  subst he
  exact ⟨_, rfl, _, _, _, [], _, [], hW', trodAll_mk1 (shut_bool Try.underlying4 _), (trodAll_cons_mk (Below.trod Try.laidOut (by kernel_rfl) (of_decide_eq_true (by kernel_rfl)) h0 bel lt0) (trodAll_cons_mk (Below.trod Try.laidOut (by kernel_rfl) (of_decide_eq_true (by kernel_rfl)) h1 bel lt1) trodAll_mk0)), rfl, bel.frame _, fun h => by cases h⟩

theorem fnExactAlike_over : Rows.fnExactAlikeRow.holds Try.pinned (OpenSpec.ofChange Rows.fnExactAlikeSpec) :=
  OpenClaim.holds_of_wide 3 Try.f3 rfl rfl rfl rfl rfl rfl rfl ⟨rfl, rfl, rfl, rfl, rfl⟩ rfl rfl rfl rfl rfl (by kernel_rfl) Try.func3 (by kernel_rfl)
    (of_decide_eq_true (by kernel_rfl)) (by unfold Func.isWrapper; rw [if_neg (of_decide_eq_false (by kernel_rfl))]; exact ⟨rfl, rfl⟩)
    (fun os started H enc _ => fnExactAlike_lifted os started H enc)

theorem fnExactAlike_holds : Rows.FnExactAlikeSaid := fnExactAlike_over

#print axioms fnExactAlike_holds

end Go.Proofs.Ytlmkdhbemgkbjaa
