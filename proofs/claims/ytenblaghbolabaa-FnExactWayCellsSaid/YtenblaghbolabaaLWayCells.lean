/-
  Proved: FnExactWayCells returns true for every argument, and its arguments read afterwards as they read before. No condition.
-/
import Derived.Test.YtenblaghbolabaaY2
import Derived.Test.YtenblaghbolabaaM
import Derived.Test.YtenblaghbolabaaRow
import Derived.Deep.RegionHeld3
set_option linter.unusedVariables false
namespace Go.Proofs.Ytenblaghbolabaa
open Go Go.RowKit Go.Park
open Go.ChangeShapes Go.WideShapes Go.ChangeAt

set_option maxRecDepth 100000 in
set_option maxHeartbeats 4000000 in
theorem fnExactWayCells_walk (w : World) (v0 : Value) (a0 : PHall) (q0 : RawHall w v0 a0) (a1 : Int) (q1 : -9223372036854775808 ≤ a1 ∧ a1 ≤ 9223372036854775807) (a2 : Int) (q2 : -9223372036854775808 ≤ a2 ∧ a2 ≤ 9223372036854775807) (a3 : Int) (q3 : -9223372036854775808 ≤ a3 ∧ a3 ≤ 9223372036854775807) :
    Calls Try.prog 13 #[v0, .int .i64 a1, .int .i64 a2, .int .i64 a3] w (Gives (.bool true) w) := by
  have HR0 := Lib.hid q0
  obtain ⟨ao0, c0, rfl, hc0, hd0, hx0⟩ := q0
  have hl0 : a0.cells.length ≤ 9223372036854775807 := by unfold maxLen at hd0; omega
  clear hc0 hd0 hx0
  go_enter Try.func13, Try.ntmps13
  go_wp2_with fail
  refine (szHall_any _ _ _ _ _ _ _ (by omega) (by omega) (by omega)).mono ?_
  rintro e w1 ⟨rfl, hb2⟩
  have z3 : w.heap.size + 1 ≤ w1.heap.size := (by have hsz := hb2.size; first | exact hsz | (simp at hsz; omega))
  have b4 := (box3_new w _ _ _ _).keep hb2
  have b4_0 := b4.c0
  have b4_1 := b4.c1
  have b4_2 := b4.c2
  have b4_l := b4.lt
  have hw5 := Lib.hid (below_then (below_new _ _) hb2)
  clear hb2
  by_cases hsz0 : (1048576 : Int) - a0.cells.length < 0
  · rw [show szTo a0.cells.length (1048576) = -1 by simp [szTo, hsz0]]
    go_wp2
    go_ret
    exact ⟨rfl, hw5.out⟩
  rw [show szTo a0.cells.length (1048576) = 1048576 - a0.cells.length by simp [szTo, hsz0]]
  have HV0 := Lib.hid (rawHall_at HR0.out (by unfold lim; omega))
  go_wp2_with fail
  refine (toHall_any _ _ a0 (HV0.out.keep hw5.out)).mono ?_
  rintro e w6 ⟨g8, rfl, ho9, hb7⟩
  have z12 : w1.heap.size ≤ w6.heap.size := (by have hsz := hb7.size; first | exact hsz | (simp at hsz; omega))
  have b13 := (b4).keep hb7
  have b13_0 := b13.c0
  have b13_1 := b13.c1
  have b13_2 := b13.c2
  have b13_l := b13.lt
  have hw14 := Lib.hid (below_then hw5.out hb7)
  have k10 := Lib.hid (show Blk _ (w1.heap.size) _ from (by simpa using ho9.blk))
  have r11 := Lib.hid ho9
  clear ho9
  clear b4 b4_0 b4_1 b4_2 b4_l hw5 hb7
  go_wp2_with fail
  refine (specWayCells_any _ _ (a0) _ _ _ (OwnHall.at (h := a0) ⟨rfl, r11.out⟩)).mono ?_
  rintro e w15 ⟨cv17, rfl, ho18, hb16⟩
  obtain ⟨ao19, cp20, rfl⟩ := ho18.slice
  have z23 : w6.heap.size ≤ w15.heap.size := (by have hsz := hb16.size; first | exact hsz | (simp at hsz; omega))
  have b24 := (b13).keep hb16
  have b24_0 := b24.c0
  have b24_1 := b24.c1
  have b24_2 := b24.c2
  have b24_l := b24.lt
  have r25 := Lib.hid ((r11.out).keep hb16)
  have hw26 := Lib.hid (below_then hw14.out hb16)
  have k21 := Lib.hid (show Blk _ (w6.heap.size) _ from (by simpa using ho18.blk))
  have r22 := Lib.hid ho18
  clear ho18
  clear b13 b13_0 b13_1 b13_2 b13_l r11 hw14 hb16
  go_wp2_with fail
  refine (toHall_any _ _ a0 (HV0.out.keep hw26.out)).mono ?_
  rintro e w27 ⟨g29, rfl, ho30, hb28⟩
  have z33 : w15.heap.size ≤ w27.heap.size := (by have hsz := hb28.size; first | exact hsz | (simp at hsz; omega))
  have b34 := (b24).keep hb28
  have b34_0 := b34.c0
  have b34_1 := b34.c1
  have b34_2 := b34.c2
  have b34_l := b34.lt
  have r35 := Lib.hid ((r25.out).keep hb28)
  have r36 := Lib.hid ((r22.out).keep hb28)
  have hw37 := Lib.hid (below_then hw26.out hb28)
  have k31 := Lib.hid (show Blk _ (w15.heap.size) _ from (by simpa using ho30.blk))
  have r32 := Lib.hid ho30
  clear ho30
  clear b24 b24_0 b24_1 b24_2 b24_l r25 r22 hw26 hb28
  go_wp2_with fail
  refine (wayCells_any _ _ (a0) _ _ _ (OwnHall.at (h := a0) ⟨rfl, (r32.out.keep (below_new _ _))⟩)).mono ?_
  rintro e w38 ⟨cv40, rfl, ho41, hb39⟩
  obtain ⟨ao42, cp43, rfl⟩ := ho41.slice
  have z46 : w27.heap.size + 1 ≤ w38.heap.size := (by have hsz := hb39.size; first | exact hsz | (simp at hsz; omega))
  have b47 := ((b34.keep (below_new _ _))).keep hb39
  have b47_0 := b47.c0
  have b47_1 := b47.c1
  have b47_2 := b47.c2
  have b47_l := b47.lt
  have b48 := (box3_new w27 _ _ _ _).keep hb39
  have b48_0 := b48.c0
  have b48_1 := b48.c1
  have b48_2 := b48.c2
  have b48_l := b48.lt
  have r49 := Lib.hid (((r35.out.keep (below_new _ _))).keep hb39)
  have r50 := Lib.hid (((r36.out.keep (below_new _ _))).keep hb39)
  have r51 := Lib.hid (((r32.out.keep (below_new _ _))).keep hb39)
  have hw52 := Lib.hid (below_then (below_then hw37.out (below_new _ _)) hb39)
  have k44 := Lib.hid (show Blk _ (w27.heap.size + 1) _ from (by simpa using ho41.blk))
  have r45 := Lib.hid ho41
  clear ho41
  clear b34 b34_0 b34_1 b34_2 b34_l r35 r36 r32 hw37 hb39
  go_wp2_with fail
  refine (eqIntS_same _ _ _ ((wayF a0 a1 a2 a3)) (r45.out).at (r50.out).at).mono ?_
  rintro e w53 ⟨rfl, hb54⟩
  have z55 : w38.heap.size ≤ w53.heap.size := (by have hsz := hb54.size; first | exact hsz | (simp at hsz; omega))
  have b56 := (b47).keep hb54
  have b56_0 := b56.c0
  have b56_1 := b56.c1
  have b56_2 := b56.c2
  have b56_l := b56.lt
  have b57 := (b48).keep hb54
  have b57_0 := b57.c0
  have b57_1 := b57.c1
  have b57_2 := b57.c2
  have b57_l := b57.lt
  have r58 := Lib.hid ((r49.out).keep hb54)
  have r59 := Lib.hid ((r50.out).keep hb54)
  have r60 := Lib.hid ((r51.out).keep hb54)
  have r61 := Lib.hid ((r45.out).keep hb54)
  have hw62 := Lib.hid (below_then hw52.out hb54)
  clear b47 b47_0 b47_1 b47_2 b47_l b48 b48_0 b48_1 b48_2 b48_l r49 r50 r51 r45 hw52 hb54
  go_wp2_with fail
  go_region_held3 (fun w' => w'.cell? ⟨w.heap.size, 0, none⟩ = some (.int .i64 a0.wide) ∧ w'.cell? ⟨w.heap.size, 1, none⟩ = some (.int .i64 a0.deep) ∧ w'.cell? ⟨w.heap.size, 2, none⟩ = some (.slice ao0 a0.cells.length c0) ∧ w'.cell? ⟨w27.heap.size, 0, none⟩ = some (.int .i64 a0.wide) ∧ w'.cell? ⟨w27.heap.size, 1, none⟩ = some (.int .i64 a0.deep) ∧ w'.cell? ⟨w27.heap.size, 2, none⟩ = some (.slice (some ⟨g29, 0, none⟩) a0.cells.length a0.cells.length)) (((try dsimp only); (repeat' apply And.intro); all_goals first | (with_reducible assumption) | go_keep)) (first | (go_at_call 17; refine (toHall_any _ _ a0 (HV0.out.keep (below_then hw62.out (below_drew1 _)))).mono ?_; rintro e w63 ⟨g65, rfl, ho66, hb64⟩; have z69 : w53.heap.size ≤ w63.heap.size := (by have hsz := hb64.size; first | exact hsz | (simp at hsz; omega)); have b70 := ((b56.keep (below_drew1 _))).keep hb64; have b70_0 := b70.c0; have b70_1 := b70.c1; have b70_2 := b70.c2; have b70_l := b70.lt; have b71 := ((b57.keep (below_drew1 _))).keep hb64; have b71_0 := b71.c0; have b71_1 := b71.c1; have b71_2 := b71.c2; have b71_l := b71.lt; have r72 := Lib.hid (((r58.out.keep (below_drew1 _))).keep hb64); have r73 := Lib.hid (((r59.out.keep (below_drew1 _))).keep hb64); have r74 := Lib.hid (((r60.out.keep (below_drew1 _))).keep hb64); have r75 := Lib.hid (((r61.out.keep (below_drew1 _))).keep hb64); have hw76 := Lib.hid (below_then (below_then hw62.out (below_drew1 _)) hb64); have k67 := Lib.hid (show Blk _ (w53.heap.size) _ from (by simpa using ho66.blk)); have r68 := Lib.hid ho66; clear ho66; clear b56 b56_0 b56_1 b56_2 b56_l b57 b57_0 b57_1 b57_2 b57_l r58 r59 r60 r61 hw62 hb64) | (go_at_call 19; refine (eqHall_same _ _ _ (a0) (OwnHall.at (h := a0) ⟨rfl, r74.out⟩) (OwnHall.at (h := a0) ⟨rfl, r68.out⟩)).mono ?_; rintro e w77 ⟨rfl, hb78⟩; have z79 : w63.heap.size ≤ w77.heap.size := (by have hsz := hb78.size; first | exact hsz | (simp at hsz; omega)); have b80 := (b70).keep hb78; have b80_0 := b80.c0; have b80_1 := b80.c1; have b80_2 := b80.c2; have b80_l := b80.lt; have b81 := (b71).keep hb78; have b81_0 := b81.c0; have b81_1 := b81.c1; have b81_2 := b81.c2; have b81_l := b81.lt; have r82 := Lib.hid ((r72.out).keep hb78); have r83 := Lib.hid ((r73.out).keep hb78); have r84 := Lib.hid ((r74.out).keep hb78); have r85 := Lib.hid ((r75.out).keep hb78); have r86 := Lib.hid ((r68.out).keep hb78); have hw87 := Lib.hid (below_then hw76.out hb78); clear b70 b70_0 b70_1 b70_2 b70_l b71 b71_0 b71_1 b71_2 b71_l r72 r73 r74 r75 r68 hw76 hb78))
  go_wp2_with fail
  have hlenw88 := r84.out.1
  unfold lim at hlenw88
  refine (markHall_any _ _ _ _ _ (a0.cells) _ r84.out (by omega) (by omega)).mono ?_
  rintro e w88 ⟨rfl, ho90, hg89⟩
  have z92 : w77.heap.size ≤ w88.heap.size := (by have hsz := hg89.size; first | exact hsz | (simp at hsz; omega))
  have b93 := (b80).keepG hg89 k31.out (by omega)
  have b93_0 := b93.c0
  have b93_1 := b93.c1
  have b93_2 := b93.c2
  have b93_l := b93.lt
  have b94 := (b81).keepG hg89 k31.out (by omega)
  have b94_0 := b94.c0
  have b94_1 := b94.c1
  have b94_2 := b94.c2
  have b94_l := b94.lt
  have r95 := Lib.hid ((r82.out).keepG hg89 k31.out k10.out (by omega))
  have r96 := Lib.hid ((r83.out).keepG hg89 k31.out k21.out (by omega))
  have r97 := Lib.hid ((r85.out).keepG hg89 k31.out k44.out (by omega))
  have r98 := Lib.hid ((r86.out).keepG hg89 k31.out k67.out (by omega))
  have hw99 := Lib.hid (below_grownG hw87.out hg89 k31.out (by omega))
  have r91 := Lib.hid ho90
  clear ho90
  clear b80 b80_0 b80_1 b80_2 b80_l b81 b81_0 b81_1 b81_2 b81_l r82 r83 r84 r85 r86 hw87 hg89
  go_wp2_with fail
  refine (eqIntS_same _ _ _ ((wayF a0 a1 a2 a3)) (r97.out).at (r96.out).at).mono ?_
  rintro e w100 ⟨rfl, hb101⟩
  have z102 : w88.heap.size ≤ w100.heap.size := (by have hsz := hb101.size; first | exact hsz | (simp at hsz; omega))
  have b103 := (b93).keep hb101
  have b103_0 := b103.c0
  have b103_1 := b103.c1
  have b103_2 := b103.c2
  have b103_l := b103.lt
  have b104 := (b94).keep hb101
  have b104_0 := b104.c0
  have b104_1 := b104.c1
  have b104_2 := b104.c2
  have b104_l := b104.lt
  have r105 := Lib.hid ((r95.out).keep hb101)
  have r106 := Lib.hid ((r96.out).keep hb101)
  have r107 := Lib.hid ((r97.out).keep hb101)
  have r108 := Lib.hid ((r98.out).keep hb101)
  have r109 := Lib.hid ((r91.out).keep hb101)
  have hw110 := Lib.hid (below_then hw99.out hb101)
  clear b93 b93_0 b93_1 b93_2 b93_l b94 b94_0 b94_1 b94_2 b94_l r95 r96 r97 r98 r91 hw99 hb101
  go_wp2_with fail
  have hlenw111 := r107.out.1
  unfold lim at hlenw111
  refine (markIntS_any _ _ _ ((wayF a0 a1 a2 a3)) _ r107.out (by omega) (by omega)).mono ?_
  rintro e w111 ⟨rfl, ho113, hg112⟩
  have z115 : w100.heap.size ≤ w111.heap.size := (by have hsz := hg112.size; first | exact hsz | (simp at hsz; omega))
  have b116 := (b103).keepG hg112 k44.out (by omega)
  have b116_0 := b116.c0
  have b116_1 := b116.c1
  have b116_2 := b116.c2
  have b116_l := b116.lt
  have b117 := (b104).keepG hg112 k44.out (by omega)
  have b117_0 := b117.c0
  have b117_1 := b117.c1
  have b117_2 := b117.c2
  have b117_l := b117.lt
  have r118 := Lib.hid ((r105.out).keepG hg112 k44.out k10.out (by omega))
  have r119 := Lib.hid ((r106.out).keepG hg112 k44.out k21.out (by omega))
  have r120 := Lib.hid ((r108.out).keepG hg112 k44.out k67.out (by omega))
  have r121 := Lib.hid ((r109.out).keepG hg112 k44.out k31.out (by omega))
  have hw122 := Lib.hid (below_grownG hw110.out hg112 k44.out (by omega))
  have r114 := Lib.hid ho113
  clear ho113
  clear b103 b103_0 b103_1 b103_2 b103_l b104 b104_0 b104_1 b104_2 b104_l r105 r106 r107 r108 r109 hw110 hg112
  go_wp2_with fail
  refine (tells_gives (heldIntS_any _ _ _ _ (r114.out).at (by omega) (by omega))).mono ?_
  rintro e w123 ⟨rfl, hb124⟩
  have z125 : w111.heap.size ≤ w123.heap.size := (by have hsz := hb124.size; first | exact hsz | (simp at hsz; omega))
  have b126 := (b116).keep hb124
  have b126_0 := b126.c0
  have b126_1 := b126.c1
  have b126_2 := b126.c2
  have b126_l := b126.lt
  have b127 := (b117).keep hb124
  have b127_0 := b127.c0
  have b127_1 := b127.c1
  have b127_2 := b127.c2
  have b127_l := b127.lt
  have r128 := Lib.hid ((r118.out).keep hb124)
  have r129 := Lib.hid ((r119.out).keep hb124)
  have r130 := Lib.hid ((r120.out).keep hb124)
  have r131 := Lib.hid ((r121.out).keep hb124)
  have r132 := Lib.hid ((r114.out).keep hb124)
  have hw133 := Lib.hid (below_then hw122.out hb124)
  clear b116 b116_0 b116_1 b116_2 b116_l b117 b117_0 b117_1 b117_2 b117_l r118 r119 r120 r121 r114 hw122 hb124
  go_wp2_with fail
  refine (toHall_any _ _ a0 (HV0.out.keep hw133.out)).mono ?_
  rintro e w134 ⟨g136, rfl, ho137, hb135⟩
  have z140 : w123.heap.size ≤ w134.heap.size := (by have hsz := hb135.size; first | exact hsz | (simp at hsz; omega))
  have b141 := (b126).keep hb135
  have b141_0 := b141.c0
  have b141_1 := b141.c1
  have b141_2 := b141.c2
  have b141_l := b141.lt
  have b142 := (b127).keep hb135
  have b142_0 := b142.c0
  have b142_1 := b142.c1
  have b142_2 := b142.c2
  have b142_l := b142.lt
  have r143 := Lib.hid ((r128.out).keep hb135)
  have r144 := Lib.hid ((r129.out).keep hb135)
  have r145 := Lib.hid ((r130.out).keep hb135)
  have r146 := Lib.hid ((r131.out).keep hb135)
  have r147 := Lib.hid ((r132.out).keep hb135)
  have hw148 := Lib.hid (below_then hw133.out hb135)
  have k138 := Lib.hid (show Blk _ (w123.heap.size) _ from (by simpa using ho137.blk))
  have r139 := Lib.hid ho137
  clear ho137
  clear b126 b126_0 b126_1 b126_2 b126_l b127 b127_0 b127_1 b127_2 b127_l r128 r129 r130 r131 r132 hw133 hb135
  go_wp2_with fail
  refine (wayCells_any _ _ (a0) _ _ _ (OwnHall.at (h := a0) ⟨rfl, r139.out⟩)).mono ?_
  rintro e w149 ⟨cv151, rfl, ho152, hb150⟩
  obtain ⟨ao153, cp154, rfl⟩ := ho152.slice
  have z157 : w134.heap.size ≤ w149.heap.size := (by have hsz := hb150.size; first | exact hsz | (simp at hsz; omega))
  have b158 := (b141).keep hb150
  have b158_0 := b158.c0
  have b158_1 := b158.c1
  have b158_2 := b158.c2
  have b158_l := b158.lt
  have b159 := (b142).keep hb150
  have b159_0 := b159.c0
  have b159_1 := b159.c1
  have b159_2 := b159.c2
  have b159_l := b159.lt
  have r160 := Lib.hid ((r143.out).keep hb150)
  have r161 := Lib.hid ((r144.out).keep hb150)
  have r162 := Lib.hid ((r145.out).keep hb150)
  have r163 := Lib.hid ((r146.out).keep hb150)
  have r164 := Lib.hid ((r147.out).keep hb150)
  have r165 := Lib.hid ((r139.out).keep hb150)
  have hw166 := Lib.hid (below_then hw148.out hb150)
  have k155 := Lib.hid (show Blk _ (w134.heap.size) _ from (by simpa using ho152.blk))
  have r156 := Lib.hid ho152
  clear ho152
  clear b141 b141_0 b141_1 b141_2 b141_l b142 b142_0 b142_1 b142_2 b142_l r143 r144 r145 r146 r147 r139 hw148 hb150
  go_wp2_with fail
  refine (eqIntS_same _ _ _ ((wayF a0 a1 a2 a3)) (r156.out).at (r161.out).at).mono ?_
  rintro e w167 ⟨rfl, hb168⟩
  have z169 : w149.heap.size ≤ w167.heap.size := (by have hsz := hb168.size; first | exact hsz | (simp at hsz; omega))
  have b170 := (b158).keep hb168
  have b170_0 := b170.c0
  have b170_1 := b170.c1
  have b170_2 := b170.c2
  have b170_l := b170.lt
  have b171 := (b159).keep hb168
  have b171_0 := b171.c0
  have b171_1 := b171.c1
  have b171_2 := b171.c2
  have b171_l := b171.lt
  have r172 := Lib.hid ((r160.out).keep hb168)
  have r173 := Lib.hid ((r161.out).keep hb168)
  have r174 := Lib.hid ((r162.out).keep hb168)
  have r175 := Lib.hid ((r163.out).keep hb168)
  have r176 := Lib.hid ((r164.out).keep hb168)
  have r177 := Lib.hid ((r165.out).keep hb168)
  have r178 := Lib.hid ((r156.out).keep hb168)
  have hw179 := Lib.hid (below_then hw166.out hb168)
  clear b158 b158_0 b158_1 b158_2 b158_l b159 b159_0 b159_1 b159_2 b159_l r160 r161 r162 r163 r164 r165 r156 hw166 hb168
  go_wp2_with fail
  refine (tells_gives (heldIntS_any _ _ _ _ (r176.out).at (by omega) (by omega))).mono ?_
  rintro e w180 ⟨rfl, hb181⟩
  have z182 : w167.heap.size ≤ w180.heap.size := (by have hsz := hb181.size; first | exact hsz | (simp at hsz; omega))
  have b183 := (b170).keep hb181
  have b183_0 := b183.c0
  have b183_1 := b183.c1
  have b183_2 := b183.c2
  have b183_l := b183.lt
  have b184 := (b171).keep hb181
  have b184_0 := b184.c0
  have b184_1 := b184.c1
  have b184_2 := b184.c2
  have b184_l := b184.lt
  have r185 := Lib.hid ((r172.out).keep hb181)
  have r186 := Lib.hid ((r173.out).keep hb181)
  have r187 := Lib.hid ((r174.out).keep hb181)
  have r188 := Lib.hid ((r175.out).keep hb181)
  have r189 := Lib.hid ((r176.out).keep hb181)
  have r190 := Lib.hid ((r177.out).keep hb181)
  have r191 := Lib.hid ((r178.out).keep hb181)
  have hw192 := Lib.hid (below_then hw179.out hb181)
  clear b170 b170_0 b170_1 b170_2 b170_l b171 b171_0 b171_1 b171_2 b171_l r172 r173 r174 r175 r176 r177 r178 hw179 hb181
  go_wp2
  go_ret
  exact ⟨rfl, hw192.out⟩
  
set_option maxRecDepth 100000 in
theorem fnExactWayCells_lifted (os : Os) (started : os.Started) (H : Type) (enc : TypeId × Value → H) :
    ReturnsInHanded {} Try.checked os 13 .any (Rows.fnExactWayCellsSpec.pre6 enc Try.prog Try.f13 Rows.fnExactWayCellsRow.domain false) (Rows.fnExactWayCellsSpec.post enc Try.prog Try.f13 false true false false) := by
  refine returnsInHanded_of_change (C := Try.checked) Try.own started (by kernel_rfl) Try.func13
    (ChangeSpec.witness6 (enc := enc) (C := Try.checked) false ⟨#[], #[.agg #[.int .i64 0, .int .i64 0, .slice none 0 0], .int .i64 0, .int .i64 0, .int .i64 0], []⟩ 8 (by kernel_rfl) (by kernel_rfl) (by kernel_rfl) (by kernel_rfl)) ?_
  intro W base args ds gs before hval0 hW hcnd _
  have hval : ∀ (j : Nat) t v, Try.f13.params[j]? = some t → args[j]? = some v → Value.okWide Try.prog W .any base t v := hval0
  have hW' := hW
  obtain ⟨p, q, hA0, hV, rfl, hfz, hnd⟩ := hW
  have hA : DataW.TrodAll enc Try.prog W 0 (fun _ => true) true Try.f13.params.toList args.toList ds p := hA0
  rw [Try.params13] at hA hval
  obtain ⟨v0, vs0, d0, ds0, p0, q0, hargs, rfl, rfl, h0, r0⟩ := trodAll_cons hA
  obtain ⟨v1, vs1, d1, ds1, p1, q1, rfl, rfl, rfl, h1, r1⟩ := trodAll_cons r0
  obtain ⟨v2, vs2, d2, ds2, p2, q2, rfl, rfl, rfl, h2, r2⟩ := trodAll_cons r1
  obtain ⟨v3, vs3, d3, ds3, p3, q3, rfl, rfl, rfl, h3, r3⟩ := trodAll_cons r2
  obtain ⟨rfl, rfl, rfl⟩ := trodAll_nil r3
  obtain rfl : args = #[v0, v1, v2, v3] := by cases args; simp_all
  obtain ⟨rfl, rfl⟩ := trodVars_none hV
  have lt0 := lt_of_trod h0
  obtain ⟨a0, w0⟩ := open_raw_hall (fun _ => rfl) (hval 0 24 v0 rfl rfl) h0
  have lt1 := lt_of_trod h1
  obtain ⟨a1, rfl, w1⟩ := open_an_int (hval 1 3 v1 rfl rfl) h1
  have lt2 := lt_of_trod h2
  obtain ⟨a2, rfl, w2⟩ := open_an_int (hval 2 3 v2 rfl rfl) h2
  have lt3 := lt_of_trod h3
  obtain ⟨a3, rfl, w3⟩ := open_an_int (hval 3 3 v3 rfl rfl) h3
  clear hA0 hval0
  refine (fnExactWayCells_walk W v0 a0 w0 a1 w1 a2 w2 a3 w3).mono fun e W' ⟨he, bel⟩ => ?_
  subst he
  exact ⟨_, rfl, _, _, _, [], _, [], hW', trodAll_mk1 (shut_bool Try.underlying4 _), (trodAll_cons_mk (Below.trod Try.laidOut (by kernel_rfl) (of_decide_eq_true (by kernel_rfl)) h0 bel lt0) (trodAll_cons_mk (Below.trod Try.laidOut (by kernel_rfl) (of_decide_eq_true (by kernel_rfl)) h1 bel lt1) (trodAll_cons_mk (Below.trod Try.laidOut (by kernel_rfl) (of_decide_eq_true (by kernel_rfl)) h2 bel lt2) (trodAll_cons_mk (Below.trod Try.laidOut (by kernel_rfl) (of_decide_eq_true (by kernel_rfl)) h3 bel lt3) trodAll_mk0)))), rfl, bel.frame _, fun h => by cases h⟩

theorem fnExactWayCells_over : Rows.fnExactWayCellsRow.holds Try.pinned (OpenSpec.ofChange Rows.fnExactWayCellsSpec) :=
  OpenClaim.holds_of_wide 13 Try.f13 rfl rfl rfl rfl rfl rfl rfl ⟨rfl, rfl, rfl, rfl, rfl⟩ rfl rfl rfl rfl rfl (by kernel_rfl) Try.func13 (by kernel_rfl)
    (of_decide_eq_true (by kernel_rfl)) (by unfold Func.isWrapper; rw [if_neg (of_decide_eq_false (by kernel_rfl))]; exact ⟨rfl, rfl⟩)
    (fun os started H enc _ => fnExactWayCells_lifted os started H enc)

theorem fnExactWayCells_holds : Rows.FnExactWayCellsSaid := fnExactWayCells_over

#print axioms fnExactWayCells_holds

end Go.Proofs.Ytenblaghbolabaa
