/-
  Proved: FnExactSlideMay returns true for every argument, and its arguments read afterwards as they read before. No condition.
-/
import Derived.Test.YtenblaghbolabaaH
import Derived.Test.YtenblaghbolabaaRow2
import Derived.Test.YtenblaghbolabaaM
import Derived.Test.YtenblaghbolabaaRow
import Derived.Deep.RegionHeld3
set_option linter.unusedVariables false
namespace Go.Proofs.Ytenblaghbolabaa
open Go Go.RowKit Go.Park
open Go.ChangeShapes Go.WideShapes Go.ChangeAt

set_option maxRecDepth 100000 in
set_option maxHeartbeats 4000000 in
theorem fnExactSlideMay_walk (w : World) (v0 : Value) (a0 : PHall) (q0 : RawHall w v0 a0) (a1 b1 : Int) :
    Calls Try.prog 4 #[v0, .agg #[.int .i64 a1, .int .i64 b1]] w (Gives (.bool true) w) := by
  have HR0 := Lib.hid q0
  obtain ⟨ao0, c0, rfl, hc0, hd0, hx0⟩ := q0
  have hl0 : a0.cells.length ≤ 9223372036854775807 := by unfold maxLen at hd0; omega
  clear hc0 hd0 hx0
  go_enter Try.func4, Try.ntmps4
  go_wp2_with fail
  refine (szHall_any _ _ _ _ _ _ _ (by omega) (by omega) (by omega)).mono ?_
  rintro e w1 ⟨rfl, hb2⟩
  have z3 : w.heap.size + 2 ≤ w1.heap.size := (by have hsz := hb2.size; first | exact hsz | (simp at hsz; omega))
  have b4 := ((box3_new w _ _ _ _).keep (below_new _ _)).keep hb2
  have b4_0 := b4.c0
  have b4_1 := b4.c1
  have b4_2 := b4.c2
  have b4_l := b4.lt
  have b5 := (box2_second w _ _ _ _).keep hb2
  have b5_0 := b5.c0
  have b5_1 := b5.c1
  have b5_l := b5.lt
  have hw6 := Lib.hid (below_then (below_then (below_new _ _) (below_new _ _)) hb2)
  clear hb2
  by_cases hsz0 : (1048576 : Int) - a0.cells.length < 0
  · rw [show szTo a0.cells.length (1048576) = -1 by simp [szTo, hsz0]]
    go_wp2
    go_ret
    exact ⟨rfl, hw6.out⟩
  rw [show szTo a0.cells.length (1048576) = 1048576 - a0.cells.length by simp [szTo, hsz0]]
  have HV0 := Lib.hid (rawHall_at HR0.out (by unfold lim; omega))
  go_wp2_with fail
  go_region_held3 (fun w' => w'.cell? ⟨w.heap.size, 0, none⟩ = some (.int .i64 a0.wide) ∧ w'.cell? ⟨w.heap.size, 1, none⟩ = some (.int .i64 a0.deep) ∧ w'.cell? ⟨w.heap.size, 2, none⟩ = some (.slice ao0 a0.cells.length c0) ∧ w'.cell? ⟨w.heap.size + 1, 0, none⟩ = some (.int .i64 a1) ∧ w'.cell? ⟨w.heap.size + 1, 1, none⟩ = some (.int .i64 b1)) (((try dsimp only); (repeat' apply And.intro); all_goals first | (with_reducible assumption) | go_keep)) (first | (go_at_call 17; refine (toHall_any _ _ a0 (HV0.out.keep (below_then hw6.out (below_drew1 _)))).mono ?_; rintro e w7 ⟨g9, rfl, ho10, hb8⟩; have z13 : w1.heap.size ≤ w7.heap.size := (by have hsz := hb8.size; first | exact hsz | (simp at hsz; omega)); have b14 := ((b4.keep (below_drew1 _))).keep hb8; have b14_0 := b14.c0; have b14_1 := b14.c1; have b14_2 := b14.c2; have b14_l := b14.lt; have b15 := ((b5.keep (below_drew1 _))).keep hb8; have b15_0 := b15.c0; have b15_1 := b15.c1; have b15_l := b15.lt; have hw16 := Lib.hid (below_then (below_then hw6.out (below_drew1 _)) hb8); have k11 := Lib.hid (show Blk _ (w1.heap.size) _ from (by simpa using ho10.blk)); have r12 := Lib.hid ho10; clear ho10; clear b4 b4_0 b4_1 b4_2 b4_l b5 b5_0 b5_1 b5_l hw6 hb8) | (go_at_call 21; refine (toSlide_any _ _ _).mono ?_; rintro e w17 ⟨rfl, hb18⟩; have z19 : w7.heap.size ≤ w17.heap.size := (by have hsz := hb18.size; first | exact hsz | (simp at hsz; omega)); have b20 := (b14).keep hb18; have b20_0 := b20.c0; have b20_1 := b20.c1; have b20_2 := b20.c2; have b20_l := b20.lt; have b21 := (b15).keep hb18; have b21_0 := b21.c0; have b21_1 := b21.c1; have b21_l := b21.lt; have r22 := Lib.hid ((r12.out).keep hb18); have hw23 := Lib.hid (below_then hw16.out hb18); clear b14 b14_0 b14_1 b14_2 b14_l b15 b15_0 b15_1 b15_l r12 hw16 hb18) | (go_at_call 20; refine (specSlideMay_any _ _ (a0) _ _ (OwnHall.at (h := a0) ⟨rfl, r22.out⟩)).mono ?_; rintro e w24 ⟨rfl, hb25⟩; have z26 : w17.heap.size ≤ w24.heap.size := (by have hsz := hb25.size; first | exact hsz | (simp at hsz; omega)); have b27 := (b20).keep hb25; have b27_0 := b27.c0; have b27_1 := b27.c1; have b27_2 := b27.c2; have b27_l := b27.lt; have b28 := (b21).keep hb25; have b28_0 := b28.c0; have b28_1 := b28.c1; have b28_l := b28.lt; have r29 := Lib.hid ((r22.out).keep hb25); have hw30 := Lib.hid (below_then hw23.out hb25); clear b20 b20_0 b20_1 b20_2 b20_l b21 b21_0 b21_1 b21_l r22 hw23 hb25))
  go_wp2_with fail
  refine (toHall_any _ _ a0 (HV0.out.keep hw30.out)).mono ?_
  rintro e w31 ⟨g33, rfl, ho34, hb32⟩
  have z37 : w24.heap.size ≤ w31.heap.size := (by have hsz := hb32.size; first | exact hsz | (simp at hsz; omega))
  have b38 := (b27).keep hb32
  have b38_0 := b38.c0
  have b38_1 := b38.c1
  have b38_2 := b38.c2
  have b38_l := b38.lt
  have b39 := (b28).keep hb32
  have b39_0 := b39.c0
  have b39_1 := b39.c1
  have b39_l := b39.lt
  have r40 := Lib.hid ((r29.out).keep hb32)
  have hw41 := Lib.hid (below_then hw30.out hb32)
  have k35 := Lib.hid (show Blk _ (w24.heap.size) _ from (by simpa using ho34.blk))
  have r36 := Lib.hid ho34
  clear ho34
  clear b27 b27_0 b27_1 b27_2 b27_l b28 b28_0 b28_1 b28_l r29 hw30 hb32
  go_wp2_with fail
  go_region_held3 (fun w' => w'.cell? ⟨w.heap.size, 0, none⟩ = some (.int .i64 a0.wide) ∧ w'.cell? ⟨w.heap.size, 1, none⟩ = some (.int .i64 a0.deep) ∧ w'.cell? ⟨w.heap.size, 2, none⟩ = some (.slice ao0 a0.cells.length c0) ∧ w'.cell? ⟨w.heap.size + 1, 0, none⟩ = some (.int .i64 a1) ∧ w'.cell? ⟨w.heap.size + 1, 1, none⟩ = some (.int .i64 b1) ∧ w'.cell? ⟨w31.heap.size, 0, none⟩ = some (.int .i64 a0.wide) ∧ w'.cell? ⟨w31.heap.size, 1, none⟩ = some (.int .i64 a0.deep) ∧ w'.cell? ⟨w31.heap.size, 2, none⟩ = some (.slice (some ⟨g33, 0, none⟩) a0.cells.length a0.cells.length)) (((try dsimp only); (repeat' apply And.intro); all_goals first | (with_reducible assumption) | go_keep)) (first | (go_at_call 21; refine (toSlide_any _ _ _).mono ?_; rintro e w42 ⟨rfl, hb43⟩; have z44 : w31.heap.size + 1 ≤ w42.heap.size := (by have hsz := hb43.size; first | exact hsz | (simp at hsz; omega)); have b45 := (((b38.keep (below_new _ _)).keep (below_drew1 _))).keep hb43; have b45_0 := b45.c0; have b45_1 := b45.c1; have b45_2 := b45.c2; have b45_l := b45.lt; have b46 := (((b39.keep (below_new _ _)).keep (below_drew1 _))).keep hb43; have b46_0 := b46.c0; have b46_1 := b46.c1; have b46_l := b46.lt; have b47 := ((box3_new w31 _ _ _ _).keep (below_drew1 _)).keep hb43; have b47_0 := b47.c0; have b47_1 := b47.c1; have b47_2 := b47.c2; have b47_l := b47.lt; have r48 := Lib.hid ((((r40.out.keep (below_new _ _)).keep (below_drew1 _))).keep hb43); have r49 := Lib.hid ((((r36.out.keep (below_new _ _)).keep (below_drew1 _))).keep hb43); have hw50 := Lib.hid (below_then (below_then (below_then hw41.out (below_new _ _)) (below_drew1 _)) hb43); clear b38 b38_0 b38_1 b38_2 b38_l b39 b39_0 b39_1 b39_l r40 r36 hw41 hb43) | (go_at_call 22; refine (slideMay_any _ _ (a0) _ _ (OwnHall.at (h := a0) ⟨rfl, r49.out⟩)).mono ?_; rintro e w51 ⟨rfl, hb52⟩; have z53 : w42.heap.size ≤ w51.heap.size := (by have hsz := hb52.size; first | exact hsz | (simp at hsz; omega)); have b54 := (b45).keep hb52; have b54_0 := b54.c0; have b54_1 := b54.c1; have b54_2 := b54.c2; have b54_l := b54.lt; have b55 := (b46).keep hb52; have b55_0 := b55.c0; have b55_1 := b55.c1; have b55_l := b55.lt; have b56 := (b47).keep hb52; have b56_0 := b56.c0; have b56_1 := b56.c1; have b56_2 := b56.c2; have b56_l := b56.lt; have r57 := Lib.hid ((r48.out).keep hb52); have r58 := Lib.hid ((r49.out).keep hb52); have hw59 := Lib.hid (below_then hw50.out hb52); clear b45 b45_0 b45_1 b45_2 b45_l b46 b46_0 b46_1 b46_l b47 b47_0 b47_1 b47_2 b47_l r48 r49 hw50 hb52))
  go_wp2_with fail
  go_region_held3 (fun w' => w'.cell? ⟨w.heap.size, 0, none⟩ = some (.int .i64 a0.wide) ∧ w'.cell? ⟨w.heap.size, 1, none⟩ = some (.int .i64 a0.deep) ∧ w'.cell? ⟨w.heap.size, 2, none⟩ = some (.slice ao0 a0.cells.length c0) ∧ w'.cell? ⟨w.heap.size + 1, 0, none⟩ = some (.int .i64 a1) ∧ w'.cell? ⟨w.heap.size + 1, 1, none⟩ = some (.int .i64 b1) ∧ w'.cell? ⟨w31.heap.size, 0, none⟩ = some (.int .i64 a0.wide) ∧ w'.cell? ⟨w31.heap.size, 1, none⟩ = some (.int .i64 a0.deep) ∧ w'.cell? ⟨w31.heap.size, 2, none⟩ = some (.slice (some ⟨g33, 0, none⟩) a0.cells.length a0.cells.length)) (((try dsimp only); (repeat' apply And.intro); all_goals first | (with_reducible assumption) | go_keep)) (first | (go_at_call 17; refine (toHall_any _ _ a0 (HV0.out.keep (below_then hw59.out (below_drew1 _)))).mono ?_; rintro e w60 ⟨g62, rfl, ho63, hb61⟩; have z66 : w51.heap.size ≤ w60.heap.size := (by have hsz := hb61.size; first | exact hsz | (simp at hsz; omega)); have b67 := ((b54.keep (below_drew1 _))).keep hb61; have b67_0 := b67.c0; have b67_1 := b67.c1; have b67_2 := b67.c2; have b67_l := b67.lt; have b68 := ((b55.keep (below_drew1 _))).keep hb61; have b68_0 := b68.c0; have b68_1 := b68.c1; have b68_l := b68.lt; have b69 := ((b56.keep (below_drew1 _))).keep hb61; have b69_0 := b69.c0; have b69_1 := b69.c1; have b69_2 := b69.c2; have b69_l := b69.lt; have r70 := Lib.hid (((r57.out.keep (below_drew1 _))).keep hb61); have r71 := Lib.hid (((r58.out.keep (below_drew1 _))).keep hb61); have hw72 := Lib.hid (below_then (below_then hw59.out (below_drew1 _)) hb61); have k64 := Lib.hid (show Blk _ (w51.heap.size) _ from (by simpa using ho63.blk)); have r65 := Lib.hid ho63; clear ho63; clear b54 b54_0 b54_1 b54_2 b54_l b55 b55_0 b55_1 b55_l b56 b56_0 b56_1 b56_2 b56_l r57 r58 hw59 hb61) | (go_at_call 19; refine (eqHall_same _ _ _ (a0) (OwnHall.at (h := a0) ⟨rfl, r71.out⟩) (OwnHall.at (h := a0) ⟨rfl, r65.out⟩)).mono ?_; rintro e w73 ⟨rfl, hb74⟩; have z75 : w60.heap.size ≤ w73.heap.size := (by have hsz := hb74.size; first | exact hsz | (simp at hsz; omega)); have b76 := (b67).keep hb74; have b76_0 := b76.c0; have b76_1 := b76.c1; have b76_2 := b76.c2; have b76_l := b76.lt; have b77 := (b68).keep hb74; have b77_0 := b77.c0; have b77_1 := b77.c1; have b77_l := b77.lt; have b78 := (b69).keep hb74; have b78_0 := b78.c0; have b78_1 := b78.c1; have b78_2 := b78.c2; have b78_l := b78.lt; have r79 := Lib.hid ((r70.out).keep hb74); have r80 := Lib.hid ((r71.out).keep hb74); have r81 := Lib.hid ((r65.out).keep hb74); have hw82 := Lib.hid (below_then hw72.out hb74); clear b67 b67_0 b67_1 b67_2 b67_l b68 b68_0 b68_1 b68_l b69 b69_0 b69_1 b69_2 b69_l r70 r71 r65 hw72 hb74))
  go_wp2
  go_ret
  exact ⟨rfl, hw82.out⟩
  
set_option maxRecDepth 100000 in
theorem fnExactSlideMay_lifted (os : Os) (started : os.Started) (H : Type) (enc : TypeId × Value → H) :
    ReturnsInHanded {} Try.checked os 4 .any (Rows.fnExactSlideMaySpec.pre6 enc Try.prog Try.f4 Rows.fnExactSlideMayRow.domain false) (Rows.fnExactSlideMaySpec.post enc Try.prog Try.f4 false true false false) := by
  refine returnsInHanded_of_change (C := Try.checked) Try.own started (by kernel_rfl) Try.func4
    (ChangeSpec.witness6 (enc := enc) (C := Try.checked) false ⟨#[], #[.agg #[.int .i64 0, .int .i64 0, .slice none 0 0], .agg #[.int .i64 0, .int .i64 0]], []⟩ 8 (by kernel_rfl) (by kernel_rfl) (by kernel_rfl) (by kernel_rfl)) ?_
  intro W base args ds gs before hval0 hW hcnd _
  have hval : ∀ (j : Nat) t v, Try.f4.params[j]? = some t → args[j]? = some v → Value.okWide Try.prog W .any base t v := hval0
  have hW' := hW
  obtain ⟨p, q, hA0, hV, rfl, hfz, hnd⟩ := hW
  have hA : DataW.TrodAll enc Try.prog W 0 (fun _ => true) true Try.f4.params.toList args.toList ds p := hA0
  rw [Try.params4] at hA hval
  obtain ⟨v0, vs0, d0, ds0, p0, q0, hargs, rfl, rfl, h0, r0⟩ := trodAll_cons hA
  obtain ⟨v1, vs1, d1, ds1, p1, q1, rfl, rfl, rfl, h1, r1⟩ := trodAll_cons r0
  obtain ⟨rfl, rfl, rfl⟩ := trodAll_nil r1
  obtain rfl : args = #[v0, v1] := by cases args; simp_all
  obtain ⟨rfl, rfl⟩ := trodVars_none hV
  have lt0 := lt_of_trod h0
  obtain ⟨a0, w0⟩ := open_raw_hall (fun _ => rfl) (hval 0 24 v0 rfl rfl) h0
  have lt1 := lt_of_trod h1
  obtain ⟨a1, b1, rfl⟩ := open_raw_slide (hval 1 32 v1 rfl rfl) h1
  clear hA0 hval0
  refine (fnExactSlideMay_walk W v0 a0 w0 a1 b1).mono fun e W' ⟨he, bel⟩ => ?_
  subst he
  exact ⟨_, rfl, _, _, _, [], _, [], hW', trodAll_mk1 (shut_bool Try.underlying4 _), (trodAll_cons_mk (Below.trod Try.laidOut (by kernel_rfl) (of_decide_eq_true (by kernel_rfl)) h0 bel lt0) (trodAll_cons_mk (Below.trod Try.laidOut (by kernel_rfl) (of_decide_eq_true (by kernel_rfl)) h1 bel lt1) trodAll_mk0)), rfl, bel.frame _, fun h => by cases h⟩

theorem fnExactSlideMay_over : Rows.fnExactSlideMayRow.holds Try.pinned (OpenSpec.ofChange Rows.fnExactSlideMaySpec) :=
  OpenClaim.holds_of_wide 4 Try.f4 rfl rfl rfl rfl rfl rfl rfl ⟨rfl, rfl, rfl, rfl, rfl⟩ rfl rfl rfl rfl rfl (by kernel_rfl) Try.func4 (by kernel_rfl)
    (of_decide_eq_true (by kernel_rfl)) (by unfold Func.isWrapper; rw [if_neg (of_decide_eq_false (by kernel_rfl))]; exact ⟨rfl, rfl⟩)
    (fun os started H enc _ => fnExactSlideMay_lifted os started H enc)

theorem fnExactSlideMay_holds : Rows.FnExactSlideMaySaid := fnExactSlideMay_over

#print axioms fnExactSlideMay_holds

end Go.Proofs.Ytenblaghbolabaa
