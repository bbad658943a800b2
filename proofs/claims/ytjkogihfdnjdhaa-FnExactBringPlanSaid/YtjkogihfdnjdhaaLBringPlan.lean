/-
  Proved: FnExactBringPlan returns true for every argument, and its arguments read afterwards as they read before. No condition.
-/
import Derived.Test.YtjkogihfdnjdhaaUA
import Derived.Test.YtjkogihfdnjdhaaQD
import Derived.Test.YtjkogihfdnjdhaaM
import Derived.Test.YtjkogihfdnjdhaaRow
import Derived.Test.YtjkogihfdnjdhaaRow2
set_option linter.unusedVariables false
set_option linter.unusedSimpArgs false
set_option maxRecDepth 100000
namespace Go.Proofs.Ytjkogihfdnjdhaa
open Go Go.RowKit Go.Park Go.Sym
open Go.ChangeShapes Go.WideShapes Go.ChangeAt

set_option maxHeartbeats 4000000 in
theorem fnExactBringPlan_fn (a0 : PHall) (a1 : Int) : FnS Try.prog 7 [hallV a0, .int a1] (.bool true) := by
  refine fn_go2 tabOk Try.func7 rfl (by kernel_rfl) Try.ntmps7 Try.results7 (by decide) ?_
  repeat first | refine ax_seq ?_ | refine ax_next ?_ | refine rg_text ?_ | refine rg_any mixed ?_ | refine ax_block ?_ | refine rh_nil ⟨(by kernel_rfl), ?_⟩ | refine rh_nil ?_ | refine ax_ret ?_ | refine ax_skip ?_ | refine ax_exit ?_ | refine ax_true rfl ?_ | refine ax_false rfl ?_ | refine then_ret ?_ | refine then_exit ?_ | refine out_here ?_ | refine out_away rfl ?_ | refine out_normal ?_ | refine out_ret ?_ | refine round_exit ?_ | refine round_ret ?_ | refine meet_ret ?_ | refine meet_exit ?_ | (apply rh_no; iterate 4 exact rfl) | (apply rh_un; iterate 3 exact rfl) | (apply rh0; (case h => first | (apply st_call (hfn := szHall_fn a0 (1048576) (by omega) (by omega)); exact rfl; exact fz) | exact z0); (case hw => exact wt)) | (apply rh1; (case h => exact z1); (case hw => exact wt)) | (apply rhs; (case h => exact zs); (case hw => exact wt))
  refine ax_cond rfl (fun hb1 => ?_) (fun hb1 => ?_)
  · repeat first | refine ax_seq ?_ | refine ax_next ?_ | refine rg_text ?_ | refine rg_any mixed ?_ | refine ax_block ?_ | refine rh_nil ⟨(by kernel_rfl), ?_⟩ | refine rh_nil ?_ | refine ax_ret ?_ | refine ax_skip ?_ | refine ax_exit ?_ | refine ax_true rfl ?_ | refine ax_false rfl ?_ | refine then_ret ?_ | refine then_exit ?_ | refine out_here ?_ | refine out_away rfl ?_ | refine out_normal ?_ | refine out_ret ?_ | refine round_exit ?_ | refine round_ret ?_ | refine meet_ret ?_ | refine meet_exit ?_ | (apply rh_no; iterate 4 exact rfl) | (apply rh_un; iterate 3 exact rfl) | (apply rh0; (case h => exact z0); (case hw => exact wt)) | (apply rh1; (case h => exact z1); (case hw => exact wt)) | (apply rhs; (case h => exact zs); (case hw => exact wt))
    refine ⟨.inl rfl, _, _, (by repeat first | exact .nil | apply ResL.cons | exact .tmp rfl | exact .agg rfl rfl rfl rfl rfl (Nat.le_of_ble_eq_true rfl) rfl | exact .cell rfl rfl rfl rfl rfl (Nat.le_of_ble_eq_true rfl) rfl), (by first | exact .one (by first | exact .one (.v rfl) | exact .one (.own rfl rfl rfl rfl rfl rfl rfl (by first | exact scal_ints _ | exact scal_slc _)) | exact .one (.nil (by decide) rfl) | exact .agg (.cons (.v rfl) (.cons (.v rfl) (.cons (.own rfl rfl rfl rfl rfl rfl rfl (scal_ints _)) .nil))) | exact .agg (.cons (.v rfl) (.cons (.v rfl) (.cons (.nil (by decide) rfl) .nil)))) | exact .two (by repeat first | exact .nil | apply ExpL.cons | exact (by first | exact .one (.v rfl) | exact .one (.own rfl rfl rfl rfl rfl rfl rfl (by first | exact scal_ints _ | exact scal_slc _)) | exact .one (.nil (by decide) rfl) | exact .agg (.cons (.v rfl) (.cons (.v rfl) (.cons (.own rfl rfl rfl rfl rfl rfl rfl (scal_ints _)) .nil))) | exact .agg (.cons (.v rfl) (.cons (.v rfl) (.cons (.nil (by decide) rfl) .nil)))))), (by decide)⟩
  obtain ⟨hz0, hy0⟩ := szTo_ok (n := a0.cells.length) (left := 1048576) (by simpa using hb1)
  have hm0 : a0.cells.length ≤ 1048576 := by omega
  have hl0 : a0.cells.length ≤ lim := by have := lim_eq; omega
  have hr0 : (bringPlanF a0 a1).1.length ≤ lim := bringPlan_len a0 a1
  have hs0 : (bringPlanF a0 a1).1.length ≤ 1073741824 := hr0
  clear hz0 hy0
  repeat first | refine ax_seq ?_ | refine ax_next ?_ | refine rg_text ?_ | refine rg_any mixed ?_ | refine ax_block ?_ | refine rh_nil ⟨(by kernel_rfl), ?_⟩ | refine rh_nil ?_ | refine ax_ret ?_ | refine ax_skip ?_ | refine ax_exit ?_ | refine ax_true rfl ?_ | refine ax_false rfl ?_ | refine then_ret ?_ | refine then_exit ?_ | refine out_here ?_ | refine out_away rfl ?_ | refine out_normal ?_ | refine out_ret ?_ | refine round_exit ?_ | refine round_ret ?_ | refine meet_ret ?_ | refine meet_exit ?_ | refine Af (h := ?_) | refine At (h := ?_) | (apply rh_no; iterate 4 exact rfl) | (apply rh_un; iterate 3 exact rfl) | (apply rh0; (case h => first | (apply st_call (hfn := eqHall_fn a0 hl0); exact rfl; exact fz) | (apply st_call (hfn := eqSlideS_fn (bringPlanF a0 a1).1 hr0); exact rfl; exact fz) | (apply st_call (hfn := heldSlideS_fn (bringPlanF a0 a1).1.length hr0 (1) (by omega) (by omega)); exact rfl; exact fz) | exact z0); (case hw => exact wt)) | (apply rh1; (case h => first | (apply st_call_sv (hfn := specBringPlan_fn a0 hl0 a1); exact rfl; exact fz; iterate 2 exact rfl) | (apply st_call_sv (hfn := bringPlan_fn a0 hl0 a1); exact rfl; exact fz; iterate 2 exact rfl) | (apply st_call_h (hfn := toHall_fn a0 hl0); exact rfl; exact fz; iterate 2 exact rfl) | (apply st_mark (hfn := markHall_m a0.wide a0.deep a0.cells hl0 (1) (by omega) (by omega)); exact rfl; exact rfl; exact mz; iterate 6 exact rfl) | (apply st_mark (hfn := markSlideS_m (bringPlanF a0 a1).1 hr0 (1) (by omega) (by omega)); exact rfl; exact rfl; exact mz; iterate 6 exact rfl) | exact z1); (case hw => exact wt)) | (apply rhs; (case h => exact zs); (case hw => exact wt)) | refine Kf (h := ?_) | refine Kt (h := ?_)
  refine ⟨.inl rfl, _, _, (by repeat first | exact .nil | apply ResL.cons | exact .tmp rfl | exact .agg rfl rfl rfl rfl rfl (Nat.le_of_ble_eq_true rfl) rfl | exact .cell rfl rfl rfl rfl rfl (Nat.le_of_ble_eq_true rfl) rfl), (by first | exact .one (by first | exact .one (.v rfl) | exact .one (.own rfl rfl rfl rfl rfl rfl rfl (by first | exact scal_ints _ | exact scal_slc _)) | exact .one (.nil (by decide) rfl) | exact .agg (.cons (.v rfl) (.cons (.v rfl) (.cons (.own rfl rfl rfl rfl rfl rfl rfl (scal_ints _)) .nil))) | exact .agg (.cons (.v rfl) (.cons (.v rfl) (.cons (.nil (by decide) rfl) .nil)))) | exact .two (by repeat first | exact .nil | apply ExpL.cons | exact (by first | exact .one (.v rfl) | exact .one (.own rfl rfl rfl rfl rfl rfl rfl (by first | exact scal_ints _ | exact scal_slc _)) | exact .one (.nil (by decide) rfl) | exact .agg (.cons (.v rfl) (.cons (.v rfl) (.cons (.own rfl rfl rfl rfl rfl rfl rfl (scal_ints _)) .nil))) | exact .agg (.cons (.v rfl) (.cons (.v rfl) (.cons (.nil (by decide) rfl) .nil)))))), (by decide)⟩

theorem fnExactBringPlan_walk (w : World) (v0 : Value) (a0 : PHall) (q0 : RawHall w v0 a0) (a1 : Int) (q1 : -9223372036854775808 ≤ a1 ∧ a1 ≤ 9223372036854775807) : Calls Try.prog 7 #[v0, .int .i64 a1] w (Gives (.bool true) w) := by
  refine ((fnExactBringPlan_fn a0 a1).2 w [v0, .int .i64 a1] (by simp only [pureL]; exact ⟨pure_hall a0, ⟨trivial, trivial⟩⟩) (by simp only [relL]; exact ⟨_, _, rfl, rel_of_rawHall q0, ⟨_, _, rfl, by rw [relV], rfl⟩⟩)).mono fun e w' hh => gives_v_of hh

set_option maxRecDepth 100000 in
theorem fnExactBringPlan_lifted (os : Os) (started : os.Started) (H : Type) (enc : TypeId × Value → H) :
    ReturnsInHanded {} Try.checked os 7 .any (Rows.fnExactBringPlanSpec.pre6 enc Try.prog Try.f7 Rows.fnExactBringPlanRow.domain false) (Rows.fnExactBringPlanSpec.post enc Try.prog Try.f7 false true false false) := by
  refine returnsInHanded_of_change (C := Try.checked) Try.own started (by kernel_rfl) Try.func7
    (ChangeSpec.witness6 (enc := enc) (C := Try.checked) false ⟨#[], #[.agg #[.int .i64 0, .int .i64 0, .slice none 0 0], .int .i64 0], []⟩ 8 (by kernel_rfl) (by kernel_rfl) (by kernel_rfl) (by kernel_rfl)) ?_
  intro W base args ds gs before hval0 hW hcnd _
  have hval : ∀ (j : Nat) t v, Try.f7.params[j]? = some t → args[j]? = some v → Value.okWide Try.prog W .any base t v := hval0
  have hW' := hW
  obtain ⟨p, q, hA0, hV, rfl, hfz, hnd⟩ := hW
  have hA : DataW.TrodAll enc Try.prog W 0 (fun _ => true) true Try.f7.params.toList args.toList ds p := hA0
  rw [Try.params7] at hA hval
  obtain ⟨v0, vs0, d0, ds0, p0, q0, hargs, rfl, rfl, h0, r0⟩ := trodAll_cons hA
  obtain ⟨v1, vs1, d1, ds1, p1, q1, rfl, rfl, rfl, h1, r1⟩ := trodAll_cons r0
  obtain ⟨rfl, rfl, rfl⟩ := trodAll_nil r1
  obtain rfl : args = #[v0, v1] := by cases args; simp_all
  obtain ⟨rfl, rfl⟩ := trodVars_none hV
  have lt0 := lt_of_trod h0
  obtain ⟨a0, w0⟩ := open_raw_hall (fun _ => rfl) (hval 0 24 v0 rfl rfl) h0
  have lt1 := lt_of_trod h1
  obtain ⟨a1, rfl, w1⟩ := open_an_int (hval 1 3 v1 rfl rfl) h1
  clear hA0 hval0
  refine (fnExactBringPlan_walk W v0 a0 w0 a1 w1).mono fun e W' ⟨he, bel⟩ => ?_
  subst he
  exact ⟨_, rfl, _, _, _, [], _, [], hW', trodAll_mk1 (shut_bool Try.underlying4 _), (trodAll_cons_mk (Below.trod Try.laidOut (by kernel_rfl) (of_decide_eq_true (by kernel_rfl)) h0 bel lt0) (trodAll_cons_mk (Below.trod Try.laidOut (by kernel_rfl) (of_decide_eq_true (by kernel_rfl)) h1 bel lt1) trodAll_mk0)), rfl, bel.frame _, fun h => by cases h⟩

theorem fnExactBringPlan_over : Rows.fnExactBringPlanRow.holds Try.pinned (OpenSpec.ofChange Rows.fnExactBringPlanSpec) :=
  OpenClaim.holds_of_wide 7 Try.f7 rfl rfl rfl rfl rfl rfl rfl ⟨rfl, rfl, rfl, rfl, rfl⟩ rfl rfl rfl rfl rfl (by kernel_rfl) Try.func7 (by kernel_rfl)
    (of_decide_eq_true (by kernel_rfl)) (by unfold Func.isWrapper; rw [if_neg (of_decide_eq_false (by kernel_rfl))]; exact ⟨rfl, rfl⟩)
    (fun os started H enc _ => fnExactBringPlan_lifted os started H enc)

theorem fnExactBringPlan_holds : Rows.FnExactBringPlanSaid := fnExactBringPlan_over

#print axioms fnExactBringPlan_holds

end Go.Proofs.Ytjkogihfdnjdhaa
