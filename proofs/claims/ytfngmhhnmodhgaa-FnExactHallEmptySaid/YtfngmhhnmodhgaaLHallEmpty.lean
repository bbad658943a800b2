/-
  Proved: FnExactHallEmpty returns true for every argument, and its arguments read afterwards as they read before. No condition.
-/
import Derived.Test.YtfngmhhnmodhgaaE
import Derived.Test.YtfngmhhnmodhgaaM
import Derived.Test.YtfngmhhnmodhgaaRow
import Derived.Deep.RegionHeld3
set_option linter.unusedVariables false
namespace Go.Proofs.Ytfngmhhnmodhgaa
open Go Go.RowKit Go.Park
open Go.ChangeShapes Go.WideShapes Go.ChangeAt

set_option maxRecDepth 100000 in
set_option maxHeartbeats 4000000 in
theorem fnExactHallEmpty_walk (w : World) (a0 : Int) (q0 : -9223372036854775808 ≤ a0 ∧ a0 ≤ 9223372036854775807) (a1 : Int) (q1 : -9223372036854775808 ≤ a1 ∧ a1 ≤ 9223372036854775807) :
    Calls Try.prog 4 #[.int .i64 a0, .int .i64 a1] w (Gives (.bool true) w) := by
  go_enter Try.func4, Try.ntmps4
  go_wp2_with fail
  refine (specHallEmpty_any _ _ _ ).mono ?_
  rintro e w1 ⟨cv3, rfl, ho4, hb2⟩
  obtain ⟨ao5, cp6, rfl⟩ := ho4.slice
  have z9 : w.heap.size ≤ w1.heap.size := (by have hsz := hb2.size; first | exact hsz | (simp at hsz; omega))
  have hw10 := Lib.hid (hb2.mono (Nat.le_refl _))
  have k7 := Lib.hid (show Blk _ (w.heap.size) _ from (by simpa using ho4.blk))
  have r8 := Lib.hid ho4
  clear ho4
  clear hb2
  go_wp2_with fail
  refine (hallEmpty_any _ _ _ ).mono ?_
  rintro e w11 ⟨cv13, rfl, ho14, hb12⟩
  obtain ⟨ao15, cp16, rfl⟩ := ho14.slice
  have z19 : w1.heap.size + 1 ≤ w11.heap.size := (by have hsz := hb12.size; first | exact hsz | (simp at hsz; omega))
  have b20 := (box3_new w1 _ _ _ _).keep hb12
  have b20_0 := b20.c0
  have b20_1 := b20.c1
  have b20_2 := b20.c2
  have b20_l := b20.lt
  have r21 := Lib.hid (((r8.out.keep (below_new _ _))).keep hb12)
  have hw22 := Lib.hid (below_then (below_then hw10.out (below_new _ _)) hb12)
  have k17 := Lib.hid (show Blk _ (w1.heap.size + 1) _ from (by simpa using ho14.blk))
  have r18 := Lib.hid ho14
  clear ho14
  clear r8 hw10 hb12
  go_wp2_with fail
  refine (eqHall_same _ _ _ ((hallEmptyF a0 a1)) (OwnHall.at (h := (hallEmptyF a0 a1)) ⟨rfl, (r18.out.keep (below_new _ _))⟩) (OwnHall.at (h := (hallEmptyF a0 a1)) ⟨rfl, (r21.out.keep (below_new _ _))⟩)).mono ?_
  rintro e w23 ⟨rfl, hb24⟩
  have z25 : w11.heap.size + 1 ≤ w23.heap.size := (by have hsz := hb24.size; first | exact hsz | (simp at hsz; omega))
  have b26 := ((b20.keep (below_new _ _))).keep hb24
  have b26_0 := b26.c0
  have b26_1 := b26.c1
  have b26_2 := b26.c2
  have b26_l := b26.lt
  have b27 := (box3_new w11 _ _ _ _).keep hb24
  have b27_0 := b27.c0
  have b27_1 := b27.c1
  have b27_2 := b27.c2
  have b27_l := b27.lt
  have r28 := Lib.hid (((r21.out.keep (below_new _ _))).keep hb24)
  have r29 := Lib.hid (((r18.out.keep (below_new _ _))).keep hb24)
  have hw30 := Lib.hid (below_then (below_then hw22.out (below_new _ _)) hb24)
  clear b20 b20_0 b20_1 b20_2 b20_l r21 r18 hw22 hb24
  go_wp2_with fail
  have hlenw31 := r29.out.1
  unfold lim at hlenw31
  refine (markHall_any _ _ _ _ _ (((hallEmptyF a0 a1).cells)) _ r29.out (by omega) (by omega)).mono ?_
  rintro e w31 ⟨rfl, ho33, hg32⟩
  have z35 : w23.heap.size ≤ w31.heap.size := (by have hsz := hg32.size; first | exact hsz | (simp at hsz; omega))
  have b36 := (b26).keepG hg32 k17.out (by omega)
  have b36_0 := b36.c0
  have b36_1 := b36.c1
  have b36_2 := b36.c2
  have b36_l := b36.lt
  have b37 := (b27).keepG hg32 k17.out (by omega)
  have b37_0 := b37.c0
  have b37_1 := b37.c1
  have b37_2 := b37.c2
  have b37_l := b37.lt
  have r38 := Lib.hid ((r28.out).keepG hg32 k17.out k7.out (by omega))
  have hw39 := Lib.hid (below_grownG hw30.out hg32 k17.out (by omega))
  have r34 := Lib.hid ho33
  clear ho33
  clear b26 b26_0 b26_1 b26_2 b26_l b27 b27_0 b27_1 b27_2 b27_l r28 r29 hw30 hg32
  go_wp2_with fail
  refine (heldHall_any _ _ _ _ _ _ (r34.out).at (by omega) (by omega) (by unfold lim; omega)).mono ?_
  rintro e w40 ⟨rfl, hb41⟩
  have z42 : w31.heap.size ≤ w40.heap.size := (by have hsz := hb41.size; first | exact hsz | (simp at hsz; omega))
  have b43 := (b36).keep hb41
  have b43_0 := b43.c0
  have b43_1 := b43.c1
  have b43_2 := b43.c2
  have b43_l := b43.lt
  have b44 := (b37).keep hb41
  have b44_0 := b44.c0
  have b44_1 := b44.c1
  have b44_2 := b44.c2
  have b44_l := b44.lt
  have r45 := Lib.hid ((r38.out).keep hb41)
  have r46 := Lib.hid ((r34.out).keep hb41)
  have hw47 := Lib.hid (below_then hw39.out hb41)
  clear b36 b36_0 b36_1 b36_2 b36_l b37 b37_0 b37_1 b37_2 b37_l r38 r34 hw39 hb41
  go_wp2_with fail
  refine (hallEmpty_any _ _ _ ).mono ?_
  rintro e w48 ⟨cv50, rfl, ho51, hb49⟩
  obtain ⟨ao52, cp53, rfl⟩ := ho51.slice
  have z56 : w40.heap.size ≤ w48.heap.size := (by have hsz := hb49.size; first | exact hsz | (simp at hsz; omega))
  have b57 := (b43).keep hb49
  have b57_0 := b57.c0
  have b57_1 := b57.c1
  have b57_2 := b57.c2
  have b57_l := b57.lt
  have b58 := (b44).keep hb49
  have b58_0 := b58.c0
  have b58_1 := b58.c1
  have b58_2 := b58.c2
  have b58_l := b58.lt
  have r59 := Lib.hid ((r45.out).keep hb49)
  have r60 := Lib.hid ((r46.out).keep hb49)
  have hw61 := Lib.hid (below_then hw47.out hb49)
  have k54 := Lib.hid (show Blk _ (w40.heap.size) _ from (by simpa using ho51.blk))
  have r55 := Lib.hid ho51
  clear ho51
  clear b43 b43_0 b43_1 b43_2 b43_l b44 b44_0 b44_1 b44_2 b44_l r45 r46 hw47 hb49
  go_wp2_with fail
  refine (eqHall_same _ _ _ ((hallEmptyF a0 a1)) (OwnHall.at (h := (hallEmptyF a0 a1)) ⟨rfl, (r55.out.keep (below_new _ _))⟩) (OwnHall.at (h := (hallEmptyF a0 a1)) ⟨rfl, (r59.out.keep (below_new _ _))⟩)).mono ?_
  rintro e w62 ⟨rfl, hb63⟩
  have z64 : w48.heap.size + 1 ≤ w62.heap.size := (by have hsz := hb63.size; first | exact hsz | (simp at hsz; omega))
  have b65 := ((b57.keep (below_new _ _))).keep hb63
  have b65_0 := b65.c0
  have b65_1 := b65.c1
  have b65_2 := b65.c2
  have b65_l := b65.lt
  have b66 := ((b58.keep (below_new _ _))).keep hb63
  have b66_0 := b66.c0
  have b66_1 := b66.c1
  have b66_2 := b66.c2
  have b66_l := b66.lt
  have b67 := (box3_new w48 _ _ _ _).keep hb63
  have b67_0 := b67.c0
  have b67_1 := b67.c1
  have b67_2 := b67.c2
  have b67_l := b67.lt
  have r68 := Lib.hid (((r59.out.keep (below_new _ _))).keep hb63)
  have r69 := Lib.hid (((r60.out.keep (below_new _ _))).keep hb63)
  have r70 := Lib.hid (((r55.out.keep (below_new _ _))).keep hb63)
  have hw71 := Lib.hid (below_then (below_then hw61.out (below_new _ _)) hb63)
  clear b57 b57_0 b57_1 b57_2 b57_l b58 b58_0 b58_1 b58_2 b58_l r59 r60 r55 hw61 hb63
  go_wp2_with fail
  refine (heldHall_any _ _ _ _ _ _ (r69.out).at (by omega) (by omega) (by unfold lim; omega)).mono ?_
  rintro e w72 ⟨rfl, hb73⟩
  have z74 : w62.heap.size ≤ w72.heap.size := (by have hsz := hb73.size; first | exact hsz | (simp at hsz; omega))
  have b75 := (b65).keep hb73
  have b75_0 := b75.c0
  have b75_1 := b75.c1
  have b75_2 := b75.c2
  have b75_l := b75.lt
  have b76 := (b66).keep hb73
  have b76_0 := b76.c0
  have b76_1 := b76.c1
  have b76_2 := b76.c2
  have b76_l := b76.lt
  have b77 := (b67).keep hb73
  have b77_0 := b77.c0
  have b77_1 := b77.c1
  have b77_2 := b77.c2
  have b77_l := b77.lt
  have r78 := Lib.hid ((r68.out).keep hb73)
  have r79 := Lib.hid ((r69.out).keep hb73)
  have r80 := Lib.hid ((r70.out).keep hb73)
  have hw81 := Lib.hid (below_then hw71.out hb73)
  clear b65 b65_0 b65_1 b65_2 b65_l b66 b66_0 b66_1 b66_2 b66_l b67 b67_0 b67_1 b67_2 b67_l r68 r69 r70 hw71 hb73
  go_wp2
  go_ret
  exact ⟨rfl, hw81.out⟩
  
set_option maxRecDepth 100000 in
theorem fnExactHallEmpty_lifted (os : Os) (started : os.Started) (H : Type) (enc : TypeId × Value → H) :
    ReturnsInHanded {} Try.checked os 4 .any (Rows.fnExactHallEmptySpec.pre6 enc Try.prog Try.f4 Rows.fnExactHallEmptyRow.domain false) (Rows.fnExactHallEmptySpec.post enc Try.prog Try.f4 false true false false) := by
  refine returnsInHanded_of_change (C := Try.checked) Try.own started (by kernel_rfl) Try.func4
    (ChangeSpec.witness6 (enc := enc) (C := Try.checked) false ⟨#[], #[.int .i64 0, .int .i64 0], []⟩ 8 (by kernel_rfl) (by kernel_rfl) (by kernel_rfl) (by kernel_rfl)) ?_
  intro W base args ds gs before hval0 hW hcnd _
  have hval : ∀ (j : Nat) t v, Try.f4.params[j]? = some t → args[j]? = some v → Value.okWide Try.prog W .any base t v := hval0
  have hW' := hW
  obtain ⟨p, q, hA0, hV, rfl, hfz, hnd⟩ := hW
  have hA : DataW.TrodAll enc Try.prog W 0 (fun _ => true) true Try.f4.params.toList args.toList ds p := hA0
  rw [Try.params4] at hA hval
  obtain ⟨v0, vs0, d0, ds0, p0, q0, hargs, rfl, rfl, h0, r0⟩ := trodAll_cons hA
  obtain ⟨v1, vs1, d1, ds1, p1, q1, rfl, rfl, rfl, h1, r1⟩ := trodAll_cons r0
  obtain ⟨rfl, rfl, rfl⟩ := trodAll_nil r1
  obtain rfl : args = #[v0, v1] := by cases args; simp_all
  obtain ⟨rfl, rfl⟩ := trodVars_none hV
  have lt0 := lt_of_trod h0
  obtain ⟨a0, rfl, w0⟩ := open_an_int (hval 0 3 v0 rfl rfl) h0
  have lt1 := lt_of_trod h1
  obtain ⟨a1, rfl, w1⟩ := open_an_int (hval 1 3 v1 rfl rfl) h1
  clear hA0 hval0
  refine (fnExactHallEmpty_walk W a0 w0 a1 w1).mono fun e W' ⟨he, bel⟩ => ?_
  subst he
  exact ⟨_, rfl, _, _, _, [], _, [], hW', trodAll_mk1 (shut_bool Try.underlying4 _), (trodAll_cons_mk (Below.trod Try.laidOut (by kernel_rfl) (of_decide_eq_true (by kernel_rfl)) h0 bel lt0) (trodAll_cons_mk (Below.trod Try.laidOut (by kernel_rfl) (of_decide_eq_true (by kernel_rfl)) h1 bel lt1) trodAll_mk0)), rfl, bel.frame _, fun h => by cases h⟩

theorem fnExactHallEmpty_over : Rows.fnExactHallEmptyRow.holds Try.pinned (OpenSpec.ofChange Rows.fnExactHallEmptySpec) :=
  OpenClaim.holds_of_wide 4 Try.f4 rfl rfl rfl rfl rfl rfl rfl ⟨rfl, rfl, rfl, rfl, rfl⟩ rfl rfl rfl rfl rfl (by kernel_rfl) Try.func4 (by kernel_rfl)
    (of_decide_eq_true (by kernel_rfl)) (by unfold Func.isWrapper; rw [if_neg (of_decide_eq_false (by kernel_rfl))]; exact ⟨rfl, rfl⟩)
    (fun os started H enc _ => fnExactHallEmpty_lifted os started H enc)

theorem fnExactHallEmpty_holds : Rows.FnExactHallEmptySaid := fnExactHallEmpty_over

#print axioms fnExactHallEmpty_holds

end Go.Proofs.Ytfngmhhnmodhgaa
