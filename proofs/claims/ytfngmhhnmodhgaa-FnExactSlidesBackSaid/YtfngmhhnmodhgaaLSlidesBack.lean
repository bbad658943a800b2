/-
  Proved: FnExactSlidesBack returns true for every argument, and its arguments read afterwards as they read before. No condition.
-/
import Derived.Test.YtfngmhhnmodhgaaB
import Derived.Test.YtfngmhhnmodhgaaRow2
import Derived.Test.YtfngmhhnmodhgaaM
import Derived.Test.YtfngmhhnmodhgaaRow
import Derived.Deep.RegionHeld3
set_option linter.unusedVariables false
namespace Go.Proofs.Ytfngmhhnmodhgaa
open Go Go.RowKit Go.Park
open Go.ChangeShapes Go.WideShapes Go.ChangeAt

set_option maxRecDepth 100000 in
set_option maxHeartbeats 4000000 in
theorem fnExactSlidesBack_walk (w : World) (v0 : Value) (a0 : List (Int × Int)) (q0 : RawSlides w v0 a0) :
    Calls Try.prog 5 #[v0] w (Gives (.bool true) w) := by
  have HR0 := Lib.hid q0
  obtain ⟨ao0, c0, rfl, hc0, hd0, hx0⟩ := q0
  have hl0 : a0.length ≤ 9223372036854775807 := by unfold maxLen at hd0; omega
  clear hc0 hd0 hx0
  go_enter Try.func5, Try.ntmps5
  go_wp2_with fail
  refine (tells_gives (szSlideS_any _ _ _ _ _ (by omega) (by omega) (by omega))).mono ?_
  rintro e w1 ⟨rfl, hb2⟩
  have z3 : w.heap.size ≤ w1.heap.size := (by have hsz := hb2.size; first | exact hsz | (simp at hsz; omega))
  have hw4 := Lib.hid (hb2.mono (Nat.le_refl _))
  clear hb2
  by_cases hsz0 : (1048576 : Int) - a0.length < 0
  · rw [show szTo a0.length (1048576) = -1 by simp [szTo, hsz0]]
    go_wp2
    go_ret
    exact ⟨rfl, hw4.out⟩
  rw [show szTo a0.length (1048576) = 1048576 - a0.length by simp [szTo, hsz0]]
  have HV0 := Lib.hid (rawSlides_at HR0.out (by unfold lim; omega))
  go_wp2_with fail
  refine (toSlideS_any _ _ a0 (HV0.out.keep hw4.out)).mono ?_
  rintro e w5 ⟨g7, rfl, ho8, hb6⟩
  have z11 : w1.heap.size ≤ w5.heap.size := (by have hsz := hb6.size; first | exact hsz | (simp at hsz; omega))
  have hw12 := Lib.hid (below_then hw4.out hb6)
  have k9 := Lib.hid (show Blk _ (w1.heap.size) _ from (by simpa using ho8.blk))
  have r10 := Lib.hid ho8
  clear ho8
  clear hw4 hb6
  go_wp2_with fail
  refine (specSlidesBack_any _ _ (a0) (r10.out).at).mono ?_
  rintro e w13 ⟨cv15, rfl, ho16, hb14⟩
  obtain ⟨ao17, cp18, rfl⟩ := ho16.slice
  have z21 : w5.heap.size ≤ w13.heap.size := (by have hsz := hb14.size; first | exact hsz | (simp at hsz; omega))
  have r22 := Lib.hid ((r10.out).keep hb14)
  have hw23 := Lib.hid (below_then hw12.out hb14)
  have k19 := Lib.hid (show Blk _ (w5.heap.size) _ from (by simpa using ho16.blk))
  have r20 := Lib.hid ho16
  clear ho16
  clear r10 hw12 hb14
  go_wp2_with fail
  refine (toSlideS_any _ _ a0 (HV0.out.keep hw23.out)).mono ?_
  rintro e w24 ⟨g26, rfl, ho27, hb25⟩
  have z30 : w13.heap.size ≤ w24.heap.size := (by have hsz := hb25.size; first | exact hsz | (simp at hsz; omega))
  have r31 := Lib.hid ((r22.out).keep hb25)
  have r32 := Lib.hid ((r20.out).keep hb25)
  have hw33 := Lib.hid (below_then hw23.out hb25)
  have k28 := Lib.hid (show Blk _ (w13.heap.size) _ from (by simpa using ho27.blk))
  have r29 := Lib.hid ho27
  clear ho27
  clear r22 r20 hw23 hb25
  go_wp2_with fail
  refine (slidesBack_any _ _ (a0) (r29.out).at).mono ?_
  rintro e w34 ⟨cv36, rfl, ho37, hb35⟩
  obtain ⟨ao38, cp39, rfl⟩ := ho37.slice
  have z42 : w24.heap.size ≤ w34.heap.size := (by have hsz := hb35.size; first | exact hsz | (simp at hsz; omega))
  have r43 := Lib.hid ((r31.out).keep hb35)
  have r44 := Lib.hid ((r32.out).keep hb35)
  have r45 := Lib.hid ((r29.out).keep hb35)
  have hw46 := Lib.hid (below_then hw33.out hb35)
  have k40 := Lib.hid (show Blk _ (w24.heap.size) _ from (by simpa using ho37.blk))
  have r41 := Lib.hid ho37
  clear ho37
  clear r31 r32 r29 hw33 hb35
  go_wp2_with fail
  refine (eqSlideS_same _ _ _ ((backF a0)) (r41.out).at (r44.out).at).mono ?_
  rintro e w47 ⟨rfl, hb48⟩
  have z49 : w34.heap.size ≤ w47.heap.size := (by have hsz := hb48.size; first | exact hsz | (simp at hsz; omega))
  have r50 := Lib.hid ((r43.out).keep hb48)
  have r51 := Lib.hid ((r44.out).keep hb48)
  have r52 := Lib.hid ((r45.out).keep hb48)
  have r53 := Lib.hid ((r41.out).keep hb48)
  have hw54 := Lib.hid (below_then hw46.out hb48)
  clear r43 r44 r45 r41 hw46 hb48
  go_wp2_with fail
  refine (toSlideS_any _ _ a0 (HV0.out.keep hw54.out)).mono ?_
  rintro e w55 ⟨g57, rfl, ho58, hb56⟩
  have z61 : w47.heap.size ≤ w55.heap.size := (by have hsz := hb56.size; first | exact hsz | (simp at hsz; omega))
  have r62 := Lib.hid ((r50.out).keep hb56)
  have r63 := Lib.hid ((r51.out).keep hb56)
  have r64 := Lib.hid ((r52.out).keep hb56)
  have r65 := Lib.hid ((r53.out).keep hb56)
  have hw66 := Lib.hid (below_then hw54.out hb56)
  have k59 := Lib.hid (show Blk _ (w47.heap.size) _ from (by simpa using ho58.blk))
  have r60 := Lib.hid ho58
  clear ho58
  clear r50 r51 r52 r53 hw54 hb56
  go_wp2_with fail
  refine (eqSlideS_same _ _ _ (a0) (r64.out).at (r60.out).at).mono ?_
  rintro e w67 ⟨rfl, hb68⟩
  have z69 : w55.heap.size ≤ w67.heap.size := (by have hsz := hb68.size; first | exact hsz | (simp at hsz; omega))
  have r70 := Lib.hid ((r62.out).keep hb68)
  have r71 := Lib.hid ((r63.out).keep hb68)
  have r72 := Lib.hid ((r64.out).keep hb68)
  have r73 := Lib.hid ((r65.out).keep hb68)
  have r74 := Lib.hid ((r60.out).keep hb68)
  have hw75 := Lib.hid (below_then hw66.out hb68)
  clear r62 r63 r64 r65 r60 hw66 hb68
  go_wp2_with fail
  have hlenw76 := r72.out.1
  unfold lim at hlenw76
  refine (markSlideS_any _ _ _ (a0) _ r72.out (by omega) (by omega)).mono ?_
  rintro e w76 ⟨rfl, ho78, hg77⟩
  have z80 : w67.heap.size ≤ w76.heap.size := (by have hsz := hg77.size; first | exact hsz | (simp at hsz; omega))
  have r81 := Lib.hid ((r70.out).keepG hg77 k28.out k9.out (by omega))
  have r82 := Lib.hid ((r71.out).keepG hg77 k28.out k19.out (by omega))
  have r83 := Lib.hid ((r73.out).keepG hg77 k28.out k40.out (by omega))
  have r84 := Lib.hid ((r74.out).keepG hg77 k28.out k59.out (by omega))
  have hw85 := Lib.hid (below_grownG hw75.out hg77 k28.out (by omega))
  have r79 := Lib.hid ho78
  clear ho78
  clear r70 r71 r72 r73 r74 hw75 hg77
  go_wp2_with fail
  refine (eqSlideS_same _ _ _ ((backF a0)) (r83.out).at (r82.out).at).mono ?_
  rintro e w86 ⟨rfl, hb87⟩
  have z88 : w76.heap.size ≤ w86.heap.size := (by have hsz := hb87.size; first | exact hsz | (simp at hsz; omega))
  have r89 := Lib.hid ((r81.out).keep hb87)
  have r90 := Lib.hid ((r82.out).keep hb87)
  have r91 := Lib.hid ((r83.out).keep hb87)
  have r92 := Lib.hid ((r84.out).keep hb87)
  have r93 := Lib.hid ((r79.out).keep hb87)
  have hw94 := Lib.hid (below_then hw85.out hb87)
  clear r81 r82 r83 r84 r79 hw85 hb87
  go_wp2_with fail
  have hlenw95 := r91.out.1
  unfold lim at hlenw95
  refine (markSlideS_any _ _ _ ((backF a0)) _ r91.out (by omega) (by omega)).mono ?_
  rintro e w95 ⟨rfl, ho97, hg96⟩
  have z99 : w86.heap.size ≤ w95.heap.size := (by have hsz := hg96.size; first | exact hsz | (simp at hsz; omega))
  have r100 := Lib.hid ((r89.out).keepG hg96 k40.out k9.out (by omega))
  have r101 := Lib.hid ((r90.out).keepG hg96 k40.out k19.out (by omega))
  have r102 := Lib.hid ((r92.out).keepG hg96 k40.out k59.out (by omega))
  have r103 := Lib.hid ((r93.out).keepG hg96 k40.out k28.out (by omega))
  have hw104 := Lib.hid (below_grownG hw94.out hg96 k40.out (by omega))
  have r98 := Lib.hid ho97
  clear ho97
  clear r89 r90 r91 r92 r93 hw94 hg96
  go_wp2_with fail
  refine (heldSlideS_any _ _ _ _ (r98.out).at (by omega) (by omega)).mono ?_
  rintro e w105 ⟨rfl, hb106⟩
  have z107 : w95.heap.size ≤ w105.heap.size := (by have hsz := hb106.size; first | exact hsz | (simp at hsz; omega))
  have r108 := Lib.hid ((r100.out).keep hb106)
  have r109 := Lib.hid ((r101.out).keep hb106)
  have r110 := Lib.hid ((r102.out).keep hb106)
  have r111 := Lib.hid ((r103.out).keep hb106)
  have r112 := Lib.hid ((r98.out).keep hb106)
  have hw113 := Lib.hid (below_then hw104.out hb106)
  clear r100 r101 r102 r103 r98 hw104 hb106
  go_wp2_with fail
  refine (toSlideS_any _ _ a0 (HV0.out.keep hw113.out)).mono ?_
  rintro e w114 ⟨g116, rfl, ho117, hb115⟩
  have z120 : w105.heap.size ≤ w114.heap.size := (by have hsz := hb115.size; first | exact hsz | (simp at hsz; omega))
  have r121 := Lib.hid ((r108.out).keep hb115)
  have r122 := Lib.hid ((r109.out).keep hb115)
  have r123 := Lib.hid ((r110.out).keep hb115)
  have r124 := Lib.hid ((r111.out).keep hb115)
  have r125 := Lib.hid ((r112.out).keep hb115)
  have hw126 := Lib.hid (below_then hw113.out hb115)
  have k118 := Lib.hid (show Blk _ (w105.heap.size) _ from (by simpa using ho117.blk))
  have r119 := Lib.hid ho117
  clear ho117
  clear r108 r109 r110 r111 r112 hw113 hb115
  go_wp2_with fail
  refine (slidesBack_any _ _ (a0) (r119.out).at).mono ?_
  rintro e w127 ⟨cv129, rfl, ho130, hb128⟩
  obtain ⟨ao131, cp132, rfl⟩ := ho130.slice
  have z135 : w114.heap.size ≤ w127.heap.size := (by have hsz := hb128.size; first | exact hsz | (simp at hsz; omega))
  have r136 := Lib.hid ((r121.out).keep hb128)
  have r137 := Lib.hid ((r122.out).keep hb128)
  have r138 := Lib.hid ((r123.out).keep hb128)
  have r139 := Lib.hid ((r124.out).keep hb128)
  have r140 := Lib.hid ((r125.out).keep hb128)
  have r141 := Lib.hid ((r119.out).keep hb128)
  have hw142 := Lib.hid (below_then hw126.out hb128)
  have k133 := Lib.hid (show Blk _ (w114.heap.size) _ from (by simpa using ho130.blk))
  have r134 := Lib.hid ho130
  clear ho130
  clear r121 r122 r123 r124 r125 r119 hw126 hb128
  go_wp2_with fail
  refine (eqSlideS_same _ _ _ ((backF a0)) (r134.out).at (r137.out).at).mono ?_
  rintro e w143 ⟨rfl, hb144⟩
  have z145 : w127.heap.size ≤ w143.heap.size := (by have hsz := hb144.size; first | exact hsz | (simp at hsz; omega))
  have r146 := Lib.hid ((r136.out).keep hb144)
  have r147 := Lib.hid ((r137.out).keep hb144)
  have r148 := Lib.hid ((r138.out).keep hb144)
  have r149 := Lib.hid ((r139.out).keep hb144)
  have r150 := Lib.hid ((r140.out).keep hb144)
  have r151 := Lib.hid ((r141.out).keep hb144)
  have r152 := Lib.hid ((r134.out).keep hb144)
  have hw153 := Lib.hid (below_then hw142.out hb144)
  clear r136 r137 r138 r139 r140 r141 r134 hw142 hb144
  go_wp2_with fail
  refine (heldSlideS_any _ _ _ _ (r150.out).at (by omega) (by omega)).mono ?_
  rintro e w154 ⟨rfl, hb155⟩
  have z156 : w143.heap.size ≤ w154.heap.size := (by have hsz := hb155.size; first | exact hsz | (simp at hsz; omega))
  have r157 := Lib.hid ((r146.out).keep hb155)
  have r158 := Lib.hid ((r147.out).keep hb155)
  have r159 := Lib.hid ((r148.out).keep hb155)
  have r160 := Lib.hid ((r149.out).keep hb155)
  have r161 := Lib.hid ((r150.out).keep hb155)
  have r162 := Lib.hid ((r151.out).keep hb155)
  have r163 := Lib.hid ((r152.out).keep hb155)
  have hw164 := Lib.hid (below_then hw153.out hb155)
  clear r146 r147 r148 r149 r150 r151 r152 hw153 hb155
  go_wp2
  go_ret
  exact ⟨rfl, hw164.out⟩
  
set_option maxRecDepth 100000 in
theorem fnExactSlidesBack_lifted (os : Os) (started : os.Started) (H : Type) (enc : TypeId × Value → H) :
    ReturnsInHanded {} Try.checked os 5 .any (Rows.fnExactSlidesBackSpec.pre6 enc Try.prog Try.f5 Rows.fnExactSlidesBackRow.domain false) (Rows.fnExactSlidesBackSpec.post enc Try.prog Try.f5 false true false false) := by
  refine returnsInHanded_of_change (C := Try.checked) Try.own started (by kernel_rfl) Try.func5
    (ChangeSpec.witness6 (enc := enc) (C := Try.checked) false ⟨#[], #[.slice none 0 0], []⟩ 8 (by kernel_rfl) (by kernel_rfl) (by kernel_rfl) (by kernel_rfl)) ?_
  intro W base args ds gs before hval0 hW hcnd _
  have hval : ∀ (j : Nat) t v, Try.f5.params[j]? = some t → args[j]? = some v → Value.okWide Try.prog W .any base t v := hval0
  have hW' := hW
  obtain ⟨p, q, hA0, hV, rfl, hfz, hnd⟩ := hW
  have hA : DataW.TrodAll enc Try.prog W 0 (fun _ => true) true Try.f5.params.toList args.toList ds p := hA0
  rw [Try.params5] at hA hval
  obtain ⟨v0, vs0, d0, ds0, p0, q0, hargs, rfl, rfl, h0, r0⟩ := trodAll_cons hA
  obtain ⟨rfl, rfl, rfl⟩ := trodAll_nil r0
  obtain rfl : args = #[v0] := by cases args; simp_all
  obtain ⟨rfl, rfl⟩ := trodVars_none hV
  have lt0 := lt_of_trod h0
  obtain ⟨a0, w0⟩ := open_raw_slides_arg (fun _ => rfl) (hval 0 30 v0 rfl rfl) h0
  clear hA0 hval0
  refine (fnExactSlidesBack_walk W v0 a0 w0).mono fun e W' ⟨he, bel⟩ => ?_
  subst he
  exact ⟨_, rfl, _, _, _, [], _, [], hW', trodAll_mk1 (shut_bool Try.underlying4 _), (trodAll_cons_mk (Below.trod Try.laidOut (by kernel_rfl) (of_decide_eq_true (by kernel_rfl)) h0 bel lt0) trodAll_mk0), rfl, bel.frame _, fun h => by cases h⟩

theorem fnExactSlidesBack_over : Rows.fnExactSlidesBackRow.holds Try.pinned (OpenSpec.ofChange Rows.fnExactSlidesBackSpec) :=
  OpenClaim.holds_of_wide 5 Try.f5 rfl rfl rfl rfl rfl rfl rfl ⟨rfl, rfl, rfl, rfl, rfl⟩ rfl rfl rfl rfl rfl (by kernel_rfl) Try.func5 (by kernel_rfl)
    (of_decide_eq_true (by kernel_rfl)) (by unfold Func.isWrapper; rw [if_neg (of_decide_eq_false (by kernel_rfl))]; exact ⟨rfl, rfl⟩)
    (fun os started H enc _ => fnExactSlidesBack_lifted os started H enc)

theorem fnExactSlidesBack_holds : Rows.FnExactSlidesBackSaid := fnExactSlidesBack_over

#print axioms fnExactSlidesBack_holds

end Go.Proofs.Ytfngmhhnmodhgaa
