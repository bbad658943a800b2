/-
  Proved: FnExactParityOf returns true for every argument, and its arguments read afterwards as they read before. No condition.
-/
import Derived.Test.YtenblaghbolabaaP
import Derived.Test.YtenblaghbolabaaM
import Derived.Test.YtenblaghbolabaaRow
import Derived.Deep.RegionHeld3
set_option linter.unusedVariables false
namespace Go.Proofs.Ytenblaghbolabaa
open Go Go.RowKit Go.Park
open Go.ChangeShapes Go.WideShapes Go.ChangeAt

set_option maxRecDepth 100000 in
set_option maxHeartbeats 4000000 in
theorem fnExactParityOf_walk (w : World) (v0 : Value) (a0 : PHall) (q0 : RawHall w v0 a0) :
    Calls Try.prog 10 #[v0] w (Gives (.bool true) w) := by
  have HR0 := Lib.hid q0
  obtain ⟨ao0, c0, rfl, hc0, hd0, hx0⟩ := q0
  have hl0 : a0.cells.length ≤ 9223372036854775807 := by unfold maxLen at hd0; omega
  clear hc0 hd0 hx0
  go_enter Try.func10, Try.ntmps10
  go_wp2_with fail
  refine (szHall_any _ _ _ _ _ _ _ (by omega) (by omega) (by omega)).mono ?_
  rintro e w1 ⟨rfl, hb2⟩
  have z3 : w.heap.size + 1 ≤ w1.heap.size := (by have hsz := hb2.size; first | exact hsz | (simp at hsz; omega))
  have b4 := (box3_new w _ _ _ _).keep hb2
  have b4_0 := b4.c0
  have b4_1 := b4.c1
  have b4_2 := b4.c2
  have b4_l := b4.lt
  have hw5 := Lib.hid (below_then (below_new _ _) hb2)
  clear hb2
  by_cases hsz0 : (1048576 : Int) - a0.cells.length < 0
  · rw [show szTo a0.cells.length (1048576) = -1 by simp [szTo, hsz0]]
    go_wp2
    go_ret
    exact ⟨rfl, hw5.out⟩
  rw [show szTo a0.cells.length (1048576) = 1048576 - a0.cells.length by simp [szTo, hsz0]]
  have HV0 := Lib.hid (rawHall_at HR0.out (by unfold lim; omega))
  go_wp2_with fail
  refine (toHall_any _ _ a0 (HV0.out.keep hw5.out)).mono ?_
  rintro e w6 ⟨g8, rfl, ho9, hb7⟩
  have z12 : w1.heap.size ≤ w6.heap.size := (by have hsz := hb7.size; first | exact hsz | (simp at hsz; omega))
  have b13 := (b4).keep hb7
  have b13_0 := b13.c0
  have b13_1 := b13.c1
  have b13_2 := b13.c2
  have b13_l := b13.lt
  have hw14 := Lib.hid (below_then hw5.out hb7)
  have k10 := Lib.hid (show Blk _ (w1.heap.size) _ from (by simpa using ho9.blk))
  have r11 := Lib.hid ho9
  clear ho9
  clear b4 b4_0 b4_1 b4_2 b4_l hw5 hb7
  go_wp2_with fail
  refine (specParityOf_any _ _ (a0) (OwnHall.at (h := a0) ⟨rfl, r11.out⟩)).mono ?_
  rintro e w15 ⟨rfl, hb16⟩
  have z17 : w6.heap.size ≤ w15.heap.size := (by have hsz := hb16.size; first | exact hsz | (simp at hsz; omega))
  have b18 := (b13).keep hb16
  have b18_0 := b18.c0
  have b18_1 := b18.c1
  have b18_2 := b18.c2
  have b18_l := b18.lt
  have r19 := Lib.hid ((r11.out).keep hb16)
  have hw20 := Lib.hid (below_then hw14.out hb16)
  clear b13 b13_0 b13_1 b13_2 b13_l r11 hw14 hb16
  go_wp2_with fail
  refine (toHall_any _ _ a0 (HV0.out.keep hw20.out)).mono ?_
  rintro e w21 ⟨g23, rfl, ho24, hb22⟩
  have z27 : w15.heap.size ≤ w21.heap.size := (by have hsz := hb22.size; first | exact hsz | (simp at hsz; omega))
  have b28 := (b18).keep hb22
  have b28_0 := b28.c0
  have b28_1 := b28.c1
  have b28_2 := b28.c2
  have b28_l := b28.lt
  have r29 := Lib.hid ((r19.out).keep hb22)
  have hw30 := Lib.hid (below_then hw20.out hb22)
  have k25 := Lib.hid (show Blk _ (w15.heap.size) _ from (by simpa using ho24.blk))
  have r26 := Lib.hid ho24
  clear ho24
  clear b18 b18_0 b18_1 b18_2 b18_l r19 hw20 hb22
  go_wp2_with fail
  refine (parityOf_any _ _ (a0) (OwnHall.at (h := a0) ⟨rfl, (r26.out.keep (below_new _ _))⟩)).mono ?_
  rintro e w31 ⟨rfl, hb32⟩
  have z33 : w21.heap.size + 1 ≤ w31.heap.size := (by have hsz := hb32.size; first | exact hsz | (simp at hsz; omega))
  have b34 := ((b28.keep (below_new _ _))).keep hb32
  have b34_0 := b34.c0
  have b34_1 := b34.c1
  have b34_2 := b34.c2
  have b34_l := b34.lt
  have b35 := (box3_new w21 _ _ _ _).keep hb32
  have b35_0 := b35.c0
  have b35_1 := b35.c1
  have b35_2 := b35.c2
  have b35_l := b35.lt
  have r36 := Lib.hid (((r29.out.keep (below_new _ _))).keep hb32)
  have r37 := Lib.hid (((r26.out.keep (below_new _ _))).keep hb32)
  have hw38 := Lib.hid (below_then (below_then hw30.out (below_new _ _)) hb32)
  clear b28 b28_0 b28_1 b28_2 b28_l r29 r26 hw30 hb32
  go_wp2_with fail
  go_region_held3 (fun w' => w'.cell? ⟨w.heap.size, 0, none⟩ = some (.int .i64 a0.wide) ∧ w'.cell? ⟨w.heap.size, 1, none⟩ = some (.int .i64 a0.deep) ∧ w'.cell? ⟨w.heap.size, 2, none⟩ = some (.slice ao0 a0.cells.length c0) ∧ w'.cell? ⟨w21.heap.size, 0, none⟩ = some (.int .i64 a0.wide) ∧ w'.cell? ⟨w21.heap.size, 1, none⟩ = some (.int .i64 a0.deep) ∧ w'.cell? ⟨w21.heap.size, 2, none⟩ = some (.slice (some ⟨g23, 0, none⟩) a0.cells.length a0.cells.length)) (((try dsimp only); (repeat' apply And.intro); all_goals first | (with_reducible assumption) | go_keep)) (first | (go_at_call 17; refine (toHall_any _ _ a0 (HV0.out.keep (below_then hw38.out (below_drew1 _)))).mono ?_; rintro e w39 ⟨g41, rfl, ho42, hb40⟩; have z45 : w31.heap.size ≤ w39.heap.size := (by have hsz := hb40.size; first | exact hsz | (simp at hsz; omega)); have b46 := ((b34.keep (below_drew1 _))).keep hb40; have b46_0 := b46.c0; have b46_1 := b46.c1; have b46_2 := b46.c2; have b46_l := b46.lt; have b47 := ((b35.keep (below_drew1 _))).keep hb40; have b47_0 := b47.c0; have b47_1 := b47.c1; have b47_2 := b47.c2; have b47_l := b47.lt; have r48 := Lib.hid (((r36.out.keep (below_drew1 _))).keep hb40); have r49 := Lib.hid (((r37.out.keep (below_drew1 _))).keep hb40); have hw50 := Lib.hid (below_then (below_then hw38.out (below_drew1 _)) hb40); have k43 := Lib.hid (show Blk _ (w31.heap.size) _ from (by simpa using ho42.blk)); have r44 := Lib.hid ho42; clear ho42; clear b34 b34_0 b34_1 b34_2 b34_l b35 b35_0 b35_1 b35_2 b35_l r36 r37 hw38 hb40) | (go_at_call 19; refine (eqHall_same _ _ _ (a0) (OwnHall.at (h := a0) ⟨rfl, r49.out⟩) (OwnHall.at (h := a0) ⟨rfl, r44.out⟩)).mono ?_; rintro e w51 ⟨rfl, hb52⟩; have z53 : w39.heap.size ≤ w51.heap.size := (by have hsz := hb52.size; first | exact hsz | (simp at hsz; omega)); have b54 := (b46).keep hb52; have b54_0 := b54.c0; have b54_1 := b54.c1; have b54_2 := b54.c2; have b54_l := b54.lt; have b55 := (b47).keep hb52; have b55_0 := b55.c0; have b55_1 := b55.c1; have b55_2 := b55.c2; have b55_l := b55.lt; have r56 := Lib.hid ((r48.out).keep hb52); have r57 := Lib.hid ((r49.out).keep hb52); have r58 := Lib.hid ((r44.out).keep hb52); have hw59 := Lib.hid (below_then hw50.out hb52); clear b46 b46_0 b46_1 b46_2 b46_l b47 b47_0 b47_1 b47_2 b47_l r48 r49 r44 hw50 hb52))
  go_wp2
  go_ret
  exact ⟨rfl, hw59.out⟩
  
set_option maxRecDepth 100000 in
theorem fnExactParityOf_lifted (os : Os) (started : os.Started) (H : Type) (enc : TypeId × Value → H) :
    ReturnsInHanded {} Try.checked os 10 .any (Rows.fnExactParityOfSpec.pre6 enc Try.prog Try.f10 Rows.fnExactParityOfRow.domain false) (Rows.fnExactParityOfSpec.post enc Try.prog Try.f10 false true false false) := by
  refine returnsInHanded_of_change (C := Try.checked) Try.own started (by kernel_rfl) Try.func10
    (ChangeSpec.witness6 (enc := enc) (C := Try.checked) false ⟨#[], #[.agg #[.int .i64 0, .int .i64 0, .slice none 0 0]], []⟩ 8 (by kernel_rfl) (by kernel_rfl) (by kernel_rfl) (by kernel_rfl)) ?_
  intro W base args ds gs before hval0 hW hcnd _
  have hval : ∀ (j : Nat) t v, Try.f10.params[j]? = some t → args[j]? = some v → Value.okWide Try.prog W .any base t v := hval0
  have hW' := hW
  obtain ⟨p, q, hA0, hV, rfl, hfz, hnd⟩ := hW
  have hA : DataW.TrodAll enc Try.prog W 0 (fun _ => true) true Try.f10.params.toList args.toList ds p := hA0
  rw [Try.params10] at hA hval
  obtain ⟨v0, vs0, d0, ds0, p0, q0, hargs, rfl, rfl, h0, r0⟩ := trodAll_cons hA
  obtain ⟨rfl, rfl, rfl⟩ := trodAll_nil r0
  obtain rfl : args = #[v0] := by cases args; simp_all
  obtain ⟨rfl, rfl⟩ := trodVars_none hV
  have lt0 := lt_of_trod h0
  obtain ⟨a0, w0⟩ := open_raw_hall (fun _ => rfl) (hval 0 24 v0 rfl rfl) h0
  clear hA0 hval0
  refine (fnExactParityOf_walk W v0 a0 w0).mono fun e W' ⟨he, bel⟩ => ?_
  subst he
  exact ⟨_, rfl, _, _, _, [], _, [], hW', trodAll_mk1 (shut_bool Try.underlying4 _), (trodAll_cons_mk (Below.trod Try.laidOut (by kernel_rfl) (of_decide_eq_true (by kernel_rfl)) h0 bel lt0) trodAll_mk0), rfl, bel.frame _, fun h => by cases h⟩

theorem fnExactParityOf_over : Rows.fnExactParityOfRow.holds Try.pinned (OpenSpec.ofChange Rows.fnExactParityOfSpec) :=
  OpenClaim.holds_of_wide 10 Try.f10 rfl rfl rfl rfl rfl rfl rfl ⟨rfl, rfl, rfl, rfl, rfl⟩ rfl rfl rfl rfl rfl (by kernel_rfl) Try.func10 (by kernel_rfl)
    (of_decide_eq_true (by kernel_rfl)) (by unfold Func.isWrapper; rw [if_neg (of_decide_eq_false (by kernel_rfl))]; exact ⟨rfl, rfl⟩)
    (fun os started H enc _ => fnExactParityOf_lifted os started H enc)

theorem fnExactParityOf_holds : Rows.FnExactParityOfSaid := fnExactParityOf_over

#print axioms fnExactParityOf_holds

end Go.Proofs.Ytenblaghbolabaa
