/-
  Proved: FnExactHallTurn returns true for every argument, and its arguments read afterwards as they read before. No condition.
-/
import Derived.Test.YtenblaghbolabaaK4
import Derived.Test.YtenblaghbolabaaM
import Derived.Test.YtenblaghbolabaaRow
import Derived.Deep.RegionHeld3
set_option linter.unusedVariables false
namespace Go.Proofs.Ytenblaghbolabaa
open Go Go.RowKit Go.Park
open Go.ChangeShapes Go.WideShapes Go.ChangeAt

set_option maxRecDepth 100000 in
set_option maxHeartbeats 4000000 in
theorem fnExactHallTurn_walk (w : World) (v0 : Value) (a0 : PHall) (q0 : RawHall w v0 a0) :
    Calls Try.prog 8 #[v0] w (Gives (.bool true) w) := by
  have HR0 := Lib.hid q0
  obtain ⟨ao0, c0, rfl, hc0, hd0, hx0⟩ := q0
  have hl0 : a0.cells.length ≤ 9223372036854775807 := by unfold maxLen at hd0; omega
  clear hc0 hd0 hx0
  go_enter Try.func8, Try.ntmps8
  go_wp2_with fail
  refine (szHall_any _ _ _ _ _ _ _ (by omega) (by omega) (by omega)).mono ?_
  rintro e w1 ⟨rfl, hb2⟩
  have z3 : w.heap.size + 1 ≤ w1.heap.size := (by have hsz := hb2.size; first | exact hsz | (simp at hsz; omega))
  have b4 := (box3_new w _ _ _ _).keep hb2
  have b4_0 := b4.c0
  have b4_1 := b4.c1
  have b4_2 := b4.c2
  have b4_l := b4.lt
  have hw5 := Lib.hid (below_then (below_new _ _) hb2)
  clear hb2
  by_cases hsz0 : (1048576 : Int) - a0.cells.length < 0
  · rw [show szTo a0.cells.length (1048576) = -1 by simp [szTo, hsz0]]
    go_wp2
    go_ret
    exact ⟨rfl, hw5.out⟩
  rw [show szTo a0.cells.length (1048576) = 1048576 - a0.cells.length by simp [szTo, hsz0]]
  have HV0 := Lib.hid (rawHall_at HR0.out (by unfold lim; omega))
  go_wp2_with fail
  refine (toHall_any _ _ a0 (HV0.out.keep hw5.out)).mono ?_
  rintro e w6 ⟨g8, rfl, ho9, hb7⟩
  have z12 : w1.heap.size ≤ w6.heap.size := (by have hsz := hb7.size; first | exact hsz | (simp at hsz; omega))
  have b13 := (b4).keep hb7
  have b13_0 := b13.c0
  have b13_1 := b13.c1
  have b13_2 := b13.c2
  have b13_l := b13.lt
  have hw14 := Lib.hid (below_then hw5.out hb7)
  have k10 := Lib.hid (show Blk _ (w1.heap.size) _ from (by simpa using ho9.blk))
  have r11 := Lib.hid ho9
  clear ho9
  clear b4 b4_0 b4_1 b4_2 b4_l hw5 hb7
  go_wp2_with fail
  refine (specHallTurn_any _ _ (a0) (OwnHall.at (h := a0) ⟨rfl, r11.out⟩)).mono ?_
  rintro e w15 ⟨cv17, rfl, ho18, hb16⟩
  obtain ⟨ao19, cp20, rfl⟩ := ho18.slice
  have z23 : w6.heap.size ≤ w15.heap.size := (by have hsz := hb16.size; first | exact hsz | (simp at hsz; omega))
  have b24 := (b13).keep hb16
  have b24_0 := b24.c0
  have b24_1 := b24.c1
  have b24_2 := b24.c2
  have b24_l := b24.lt
  have r25 := Lib.hid ((r11.out).keep hb16)
  have hw26 := Lib.hid (below_then hw14.out hb16)
  have k21 := Lib.hid (show Blk _ (w6.heap.size) _ from (by simpa using ho18.blk))
  have r22 := Lib.hid ho18
  clear ho18
  clear b13 b13_0 b13_1 b13_2 b13_l r11 hw14 hb16
  go_wp2_with fail
  refine (toHall_any _ _ a0 (HV0.out.keep (below_then hw26.out (below_new _ _)))).mono ?_
  rintro e w27 ⟨g29, rfl, ho30, hb28⟩
  have z33 : w15.heap.size + 1 ≤ w27.heap.size := (by have hsz := hb28.size; first | exact hsz | (simp at hsz; omega))
  have b34 := ((b24.keep (below_new _ _))).keep hb28
  have b34_0 := b34.c0
  have b34_1 := b34.c1
  have b34_2 := b34.c2
  have b34_l := b34.lt
  have b35 := (box3_new w15 _ _ _ _).keep hb28
  have b35_0 := b35.c0
  have b35_1 := b35.c1
  have b35_2 := b35.c2
  have b35_l := b35.lt
  have r36 := Lib.hid (((r25.out.keep (below_new _ _))).keep hb28)
  have r37 := Lib.hid (((r22.out.keep (below_new _ _))).keep hb28)
  have hw38 := Lib.hid (below_then (below_then hw26.out (below_new _ _)) hb28)
  have k31 := Lib.hid (show Blk _ (w15.heap.size + 1) _ from (by simpa using ho30.blk))
  have r32 := Lib.hid ho30
  clear ho30
  clear b24 b24_0 b24_1 b24_2 b24_l r25 r22 hw26 hb28
  go_wp2_with fail
  refine (hallTurn_any _ _ (a0) (OwnHall.at (h := a0) ⟨rfl, (r32.out.keep (below_new _ _))⟩)).mono ?_
  rintro e w39 ⟨cv41, rfl, ho42, hb40⟩
  obtain ⟨ao43, cp44, rfl⟩ := ho42.slice
  have z47 : w27.heap.size + 1 ≤ w39.heap.size := (by have hsz := hb40.size; first | exact hsz | (simp at hsz; omega))
  have b48 := ((b34.keep (below_new _ _))).keep hb40
  have b48_0 := b48.c0
  have b48_1 := b48.c1
  have b48_2 := b48.c2
  have b48_l := b48.lt
  have b49 := ((b35.keep (below_new _ _))).keep hb40
  have b49_0 := b49.c0
  have b49_1 := b49.c1
  have b49_2 := b49.c2
  have b49_l := b49.lt
  have b50 := (box3_new w27 _ _ _ _).keep hb40
  have b50_0 := b50.c0
  have b50_1 := b50.c1
  have b50_2 := b50.c2
  have b50_l := b50.lt
  have r51 := Lib.hid (((r36.out.keep (below_new _ _))).keep hb40)
  have r52 := Lib.hid (((r37.out.keep (below_new _ _))).keep hb40)
  have r53 := Lib.hid (((r32.out.keep (below_new _ _))).keep hb40)
  have hw54 := Lib.hid (below_then (below_then hw38.out (below_new _ _)) hb40)
  have k45 := Lib.hid (show Blk _ (w27.heap.size + 1) _ from (by simpa using ho42.blk))
  have r46 := Lib.hid ho42
  clear ho42
  clear b34 b34_0 b34_1 b34_2 b34_l b35 b35_0 b35_1 b35_2 b35_l r36 r37 r32 hw38 hb40
  go_wp2_with fail
  refine (eqHall_same _ _ _ ((hallTurnF a0)) (OwnHall.at (h := (hallTurnF a0)) ⟨rfl, (r46.out.keep (below_new _ _))⟩) (OwnHall.at (h := (hallTurnF a0)) ⟨rfl, (r52.out.keep (below_new _ _))⟩)).mono ?_
  rintro e w55 ⟨rfl, hb56⟩
  have z57 : w39.heap.size + 1 ≤ w55.heap.size := (by have hsz := hb56.size; first | exact hsz | (simp at hsz; omega))
  have b58 := ((b48.keep (below_new _ _))).keep hb56
  have b58_0 := b58.c0
  have b58_1 := b58.c1
  have b58_2 := b58.c2
  have b58_l := b58.lt
  have b59 := ((b49.keep (below_new _ _))).keep hb56
  have b59_0 := b59.c0
  have b59_1 := b59.c1
  have b59_2 := b59.c2
  have b59_l := b59.lt
  have b60 := ((b50.keep (below_new _ _))).keep hb56
  have b60_0 := b60.c0
  have b60_1 := b60.c1
  have b60_2 := b60.c2
  have b60_l := b60.lt
  have b61 := (box3_new w39 _ _ _ _).keep hb56
  have b61_0 := b61.c0
  have b61_1 := b61.c1
  have b61_2 := b61.c2
  have b61_l := b61.lt
  have r62 := Lib.hid (((r51.out.keep (below_new _ _))).keep hb56)
  have r63 := Lib.hid (((r52.out.keep (below_new _ _))).keep hb56)
  have r64 := Lib.hid (((r53.out.keep (below_new _ _))).keep hb56)
  have r65 := Lib.hid (((r46.out.keep (below_new _ _))).keep hb56)
  have hw66 := Lib.hid (below_then (below_then hw54.out (below_new _ _)) hb56)
  clear b48 b48_0 b48_1 b48_2 b48_l b49 b49_0 b49_1 b49_2 b49_l b50 b50_0 b50_1 b50_2 b50_l r51 r52 r53 r46 hw54 hb56
  go_wp2_with fail
  go_region_held3 (fun w' => w'.cell? ⟨w.heap.size, 0, none⟩ = some (.int .i64 a0.wide) ∧ w'.cell? ⟨w.heap.size, 1, none⟩ = some (.int .i64 a0.deep) ∧ w'.cell? ⟨w.heap.size, 2, none⟩ = some (.slice ao0 a0.cells.length c0) ∧ w'.cell? ⟨w15.heap.size, 0, none⟩ = some (.int .i64 (hallTurnF a0).wide) ∧ w'.cell? ⟨w15.heap.size, 1, none⟩ = some (.int .i64 (hallTurnF a0).deep) ∧ w'.cell? ⟨w15.heap.size, 2, none⟩ = some (.slice ao19 ((hallTurnF a0).cells).length cp20) ∧ w'.cell? ⟨w27.heap.size, 0, none⟩ = some (.int .i64 a0.wide) ∧ w'.cell? ⟨w27.heap.size, 1, none⟩ = some (.int .i64 a0.deep) ∧ w'.cell? ⟨w27.heap.size, 2, none⟩ = some (.slice (some ⟨g29, 0, none⟩) a0.cells.length a0.cells.length) ∧ w'.cell? ⟨w39.heap.size, 0, none⟩ = some (.int .i64 (hallTurnF a0).wide) ∧ w'.cell? ⟨w39.heap.size, 1, none⟩ = some (.int .i64 (hallTurnF a0).deep) ∧ w'.cell? ⟨w39.heap.size, 2, none⟩ = some (.slice ao43 ((hallTurnF a0).cells).length cp44)) (((try dsimp only); (repeat' apply And.intro); all_goals first | (with_reducible assumption) | go_keep)) (first | (go_at_call 17; refine (toHall_any _ _ a0 (HV0.out.keep (below_then hw66.out (below_drew1 _)))).mono ?_; rintro e w67 ⟨g69, rfl, ho70, hb68⟩; have z73 : w55.heap.size ≤ w67.heap.size := (by have hsz := hb68.size; first | exact hsz | (simp at hsz; omega)); have b74 := ((b58.keep (below_drew1 _))).keep hb68; have b74_0 := b74.c0; have b74_1 := b74.c1; have b74_2 := b74.c2; have b74_l := b74.lt; have b75 := ((b59.keep (below_drew1 _))).keep hb68; have b75_0 := b75.c0; have b75_1 := b75.c1; have b75_2 := b75.c2; have b75_l := b75.lt; have b76 := ((b60.keep (below_drew1 _))).keep hb68; have b76_0 := b76.c0; have b76_1 := b76.c1; have b76_2 := b76.c2; have b76_l := b76.lt; have b77 := ((b61.keep (below_drew1 _))).keep hb68; have b77_0 := b77.c0; have b77_1 := b77.c1; have b77_2 := b77.c2; have b77_l := b77.lt; have r78 := Lib.hid (((r62.out.keep (below_drew1 _))).keep hb68); have r79 := Lib.hid (((r63.out.keep (below_drew1 _))).keep hb68); have r80 := Lib.hid (((r64.out.keep (below_drew1 _))).keep hb68); have r81 := Lib.hid (((r65.out.keep (below_drew1 _))).keep hb68); have hw82 := Lib.hid (below_then (below_then hw66.out (below_drew1 _)) hb68); have k71 := Lib.hid (show Blk _ (w55.heap.size) _ from (by simpa using ho70.blk)); have r72 := Lib.hid ho70; clear ho70; clear b58 b58_0 b58_1 b58_2 b58_l b59 b59_0 b59_1 b59_2 b59_l b60 b60_0 b60_1 b60_2 b60_l b61 b61_0 b61_1 b61_2 b61_l r62 r63 r64 r65 hw66 hb68) | (go_at_call 19; refine (eqHall_same _ _ _ (a0) (OwnHall.at (h := a0) ⟨rfl, r80.out⟩) (OwnHall.at (h := a0) ⟨rfl, r72.out⟩)).mono ?_; rintro e w83 ⟨rfl, hb84⟩; have z85 : w67.heap.size ≤ w83.heap.size := (by have hsz := hb84.size; first | exact hsz | (simp at hsz; omega)); have b86 := (b74).keep hb84; have b86_0 := b86.c0; have b86_1 := b86.c1; have b86_2 := b86.c2; have b86_l := b86.lt; have b87 := (b75).keep hb84; have b87_0 := b87.c0; have b87_1 := b87.c1; have b87_2 := b87.c2; have b87_l := b87.lt; have b88 := (b76).keep hb84; have b88_0 := b88.c0; have b88_1 := b88.c1; have b88_2 := b88.c2; have b88_l := b88.lt; have b89 := (b77).keep hb84; have b89_0 := b89.c0; have b89_1 := b89.c1; have b89_2 := b89.c2; have b89_l := b89.lt; have r90 := Lib.hid ((r78.out).keep hb84); have r91 := Lib.hid ((r79.out).keep hb84); have r92 := Lib.hid ((r80.out).keep hb84); have r93 := Lib.hid ((r81.out).keep hb84); have r94 := Lib.hid ((r72.out).keep hb84); have hw95 := Lib.hid (below_then hw82.out hb84); clear b74 b74_0 b74_1 b74_2 b74_l b75 b75_0 b75_1 b75_2 b75_l b76 b76_0 b76_1 b76_2 b76_l b77 b77_0 b77_1 b77_2 b77_l r78 r79 r80 r81 r72 hw82 hb84))
  go_wp2_with fail
  have hlenw96 := r92.out.1
  unfold lim at hlenw96
  refine (markHall_any _ _ _ _ _ (a0.cells) _ r92.out (by omega) (by omega)).mono ?_
  rintro e w96 ⟨rfl, ho98, hg97⟩
  have z100 : w83.heap.size ≤ w96.heap.size := (by have hsz := hg97.size; first | exact hsz | (simp at hsz; omega))
  have b101 := (b86).keepG hg97 k31.out (by omega)
  have b101_0 := b101.c0
  have b101_1 := b101.c1
  have b101_2 := b101.c2
  have b101_l := b101.lt
  have b102 := (b87).keepG hg97 k31.out (by omega)
  have b102_0 := b102.c0
  have b102_1 := b102.c1
  have b102_2 := b102.c2
  have b102_l := b102.lt
  have b103 := (b88).keepG hg97 k31.out (by omega)
  have b103_0 := b103.c0
  have b103_1 := b103.c1
  have b103_2 := b103.c2
  have b103_l := b103.lt
  have b104 := (b89).keepG hg97 k31.out (by omega)
  have b104_0 := b104.c0
  have b104_1 := b104.c1
  have b104_2 := b104.c2
  have b104_l := b104.lt
  have r105 := Lib.hid ((r90.out).keepG hg97 k31.out k10.out (by omega))
  have r106 := Lib.hid ((r91.out).keepG hg97 k31.out k21.out (by omega))
  have r107 := Lib.hid ((r93.out).keepG hg97 k31.out k45.out (by omega))
  have r108 := Lib.hid ((r94.out).keepG hg97 k31.out k71.out (by omega))
  have hw109 := Lib.hid (below_grownG hw95.out hg97 k31.out (by omega))
  have r99 := Lib.hid ho98
  clear ho98
  clear b86 b86_0 b86_1 b86_2 b86_l b87 b87_0 b87_1 b87_2 b87_l b88 b88_0 b88_1 b88_2 b88_l b89 b89_0 b89_1 b89_2 b89_l r90 r91 r92 r93 r94 hw95 hg97
  go_wp2_with fail
  refine (eqHall_same _ _ _ ((hallTurnF a0)) (OwnHall.at (h := (hallTurnF a0)) ⟨rfl, r107.out⟩) (OwnHall.at (h := (hallTurnF a0)) ⟨rfl, r106.out⟩)).mono ?_
  rintro e w110 ⟨rfl, hb111⟩
  have z112 : w96.heap.size ≤ w110.heap.size := (by have hsz := hb111.size; first | exact hsz | (simp at hsz; omega))
  have b113 := (b101).keep hb111
  have b113_0 := b113.c0
  have b113_1 := b113.c1
  have b113_2 := b113.c2
  have b113_l := b113.lt
  have b114 := (b102).keep hb111
  have b114_0 := b114.c0
  have b114_1 := b114.c1
  have b114_2 := b114.c2
  have b114_l := b114.lt
  have b115 := (b103).keep hb111
  have b115_0 := b115.c0
  have b115_1 := b115.c1
  have b115_2 := b115.c2
  have b115_l := b115.lt
  have b116 := (b104).keep hb111
  have b116_0 := b116.c0
  have b116_1 := b116.c1
  have b116_2 := b116.c2
  have b116_l := b116.lt
  have r117 := Lib.hid ((r105.out).keep hb111)
  have r118 := Lib.hid ((r106.out).keep hb111)
  have r119 := Lib.hid ((r107.out).keep hb111)
  have r120 := Lib.hid ((r108.out).keep hb111)
  have r121 := Lib.hid ((r99.out).keep hb111)
  have hw122 := Lib.hid (below_then hw109.out hb111)
  clear b101 b101_0 b101_1 b101_2 b101_l b102 b102_0 b102_1 b102_2 b102_l b103 b103_0 b103_1 b103_2 b103_l b104 b104_0 b104_1 b104_2 b104_l r105 r106 r107 r108 r99 hw109 hb111
  go_wp2_with fail
  have hlenw123 := r119.out.1
  unfold lim at hlenw123
  refine (markHall_any _ _ _ _ _ (((hallTurnF a0).cells)) _ r119.out (by omega) (by omega)).mono ?_
  rintro e w123 ⟨rfl, ho125, hg124⟩
  have z127 : w110.heap.size ≤ w123.heap.size := (by have hsz := hg124.size; first | exact hsz | (simp at hsz; omega))
  have b128 := (b113).keepG hg124 k45.out (by omega)
  have b128_0 := b128.c0
  have b128_1 := b128.c1
  have b128_2 := b128.c2
  have b128_l := b128.lt
  have b129 := (b114).keepG hg124 k45.out (by omega)
  have b129_0 := b129.c0
  have b129_1 := b129.c1
  have b129_2 := b129.c2
  have b129_l := b129.lt
  have b130 := (b115).keepG hg124 k45.out (by omega)
  have b130_0 := b130.c0
  have b130_1 := b130.c1
  have b130_2 := b130.c2
  have b130_l := b130.lt
  have b131 := (b116).keepG hg124 k45.out (by omega)
  have b131_0 := b131.c0
  have b131_1 := b131.c1
  have b131_2 := b131.c2
  have b131_l := b131.lt
  have r132 := Lib.hid ((r117.out).keepG hg124 k45.out k10.out (by omega))
  have r133 := Lib.hid ((r118.out).keepG hg124 k45.out k21.out (by omega))
  have r134 := Lib.hid ((r120.out).keepG hg124 k45.out k71.out (by omega))
  have r135 := Lib.hid ((r121.out).keepG hg124 k45.out k31.out (by omega))
  have hw136 := Lib.hid (below_grownG hw122.out hg124 k45.out (by omega))
  have r126 := Lib.hid ho125
  clear ho125
  clear b113 b113_0 b113_1 b113_2 b113_l b114 b114_0 b114_1 b114_2 b114_l b115 b115_0 b115_1 b115_2 b115_l b116 b116_0 b116_1 b116_2 b116_l r117 r118 r119 r120 r121 hw122 hg124
  go_wp2_with fail
  refine (heldHall_any _ _ _ _ _ _ (r126.out).at (by omega) (by omega) (by unfold lim; omega)).mono ?_
  rintro e w137 ⟨rfl, hb138⟩
  have z139 : w123.heap.size ≤ w137.heap.size := (by have hsz := hb138.size; first | exact hsz | (simp at hsz; omega))
  have b140 := (b128).keep hb138
  have b140_0 := b140.c0
  have b140_1 := b140.c1
  have b140_2 := b140.c2
  have b140_l := b140.lt
  have b141 := (b129).keep hb138
  have b141_0 := b141.c0
  have b141_1 := b141.c1
  have b141_2 := b141.c2
  have b141_l := b141.lt
  have b142 := (b130).keep hb138
  have b142_0 := b142.c0
  have b142_1 := b142.c1
  have b142_2 := b142.c2
  have b142_l := b142.lt
  have b143 := (b131).keep hb138
  have b143_0 := b143.c0
  have b143_1 := b143.c1
  have b143_2 := b143.c2
  have b143_l := b143.lt
  have r144 := Lib.hid ((r132.out).keep hb138)
  have r145 := Lib.hid ((r133.out).keep hb138)
  have r146 := Lib.hid ((r134.out).keep hb138)
  have r147 := Lib.hid ((r135.out).keep hb138)
  have r148 := Lib.hid ((r126.out).keep hb138)
  have hw149 := Lib.hid (below_then hw136.out hb138)
  clear b128 b128_0 b128_1 b128_2 b128_l b129 b129_0 b129_1 b129_2 b129_l b130 b130_0 b130_1 b130_2 b130_l b131 b131_0 b131_1 b131_2 b131_l r132 r133 r134 r135 r126 hw136 hb138
  go_wp2_with fail
  refine (toHall_any _ _ a0 (HV0.out.keep hw149.out)).mono ?_
  rintro e w150 ⟨g152, rfl, ho153, hb151⟩
  have z156 : w137.heap.size ≤ w150.heap.size := (by have hsz := hb151.size; first | exact hsz | (simp at hsz; omega))
  have b157 := (b140).keep hb151
  have b157_0 := b157.c0
  have b157_1 := b157.c1
  have b157_2 := b157.c2
  have b157_l := b157.lt
  have b158 := (b141).keep hb151
  have b158_0 := b158.c0
  have b158_1 := b158.c1
  have b158_2 := b158.c2
  have b158_l := b158.lt
  have b159 := (b142).keep hb151
  have b159_0 := b159.c0
  have b159_1 := b159.c1
  have b159_2 := b159.c2
  have b159_l := b159.lt
  have b160 := (b143).keep hb151
  have b160_0 := b160.c0
  have b160_1 := b160.c1
  have b160_2 := b160.c2
  have b160_l := b160.lt
  have r161 := Lib.hid ((r144.out).keep hb151)
  have r162 := Lib.hid ((r145.out).keep hb151)
  have r163 := Lib.hid ((r146.out).keep hb151)
  have r164 := Lib.hid ((r147.out).keep hb151)
  have r165 := Lib.hid ((r148.out).keep hb151)
  have hw166 := Lib.hid (below_then hw149.out hb151)
  have k154 := Lib.hid (show Blk _ (w137.heap.size) _ from (by simpa using ho153.blk))
  have r155 := Lib.hid ho153
  clear ho153
  clear b140 b140_0 b140_1 b140_2 b140_l b141 b141_0 b141_1 b141_2 b141_l b142 b142_0 b142_1 b142_2 b142_l b143 b143_0 b143_1 b143_2 b143_l r144 r145 r146 r147 r148 hw149 hb151
  go_wp2_with fail
  refine (hallTurn_any _ _ (a0) (OwnHall.at (h := a0) ⟨rfl, r155.out⟩)).mono ?_
  rintro e w167 ⟨cv169, rfl, ho170, hb168⟩
  obtain ⟨ao171, cp172, rfl⟩ := ho170.slice
  have z175 : w150.heap.size ≤ w167.heap.size := (by have hsz := hb168.size; first | exact hsz | (simp at hsz; omega))
  have b176 := (b157).keep hb168
  have b176_0 := b176.c0
  have b176_1 := b176.c1
  have b176_2 := b176.c2
  have b176_l := b176.lt
  have b177 := (b158).keep hb168
  have b177_0 := b177.c0
  have b177_1 := b177.c1
  have b177_2 := b177.c2
  have b177_l := b177.lt
  have b178 := (b159).keep hb168
  have b178_0 := b178.c0
  have b178_1 := b178.c1
  have b178_2 := b178.c2
  have b178_l := b178.lt
  have b179 := (b160).keep hb168
  have b179_0 := b179.c0
  have b179_1 := b179.c1
  have b179_2 := b179.c2
  have b179_l := b179.lt
  have r180 := Lib.hid ((r161.out).keep hb168)
  have r181 := Lib.hid ((r162.out).keep hb168)
  have r182 := Lib.hid ((r163.out).keep hb168)
  have r183 := Lib.hid ((r164.out).keep hb168)
  have r184 := Lib.hid ((r165.out).keep hb168)
  have r185 := Lib.hid ((r155.out).keep hb168)
  have hw186 := Lib.hid (below_then hw166.out hb168)
  have k173 := Lib.hid (show Blk _ (w150.heap.size) _ from (by simpa using ho170.blk))
  have r174 := Lib.hid ho170
  clear ho170
  clear b157 b157_0 b157_1 b157_2 b157_l b158 b158_0 b158_1 b158_2 b158_l b159 b159_0 b159_1 b159_2 b159_l b160 b160_0 b160_1 b160_2 b160_l r161 r162 r163 r164 r165 r155 hw166 hb168
  go_wp2_with fail
  refine (eqHall_same _ _ _ ((hallTurnF a0)) (OwnHall.at (h := (hallTurnF a0)) ⟨rfl, (r174.out.keep (below_new _ _))⟩) (OwnHall.at (h := (hallTurnF a0)) ⟨rfl, (r181.out.keep (below_new _ _))⟩)).mono ?_
  rintro e w187 ⟨rfl, hb188⟩
  have z189 : w167.heap.size + 1 ≤ w187.heap.size := (by have hsz := hb188.size; first | exact hsz | (simp at hsz; omega))
  have b190 := ((b176.keep (below_new _ _))).keep hb188
  have b190_0 := b190.c0
  have b190_1 := b190.c1
  have b190_2 := b190.c2
  have b190_l := b190.lt
  have b191 := ((b177.keep (below_new _ _))).keep hb188
  have b191_0 := b191.c0
  have b191_1 := b191.c1
  have b191_2 := b191.c2
  have b191_l := b191.lt
  have b192 := ((b178.keep (below_new _ _))).keep hb188
  have b192_0 := b192.c0
  have b192_1 := b192.c1
  have b192_2 := b192.c2
  have b192_l := b192.lt
  have b193 := ((b179.keep (below_new _ _))).keep hb188
  have b193_0 := b193.c0
  have b193_1 := b193.c1
  have b193_2 := b193.c2
  have b193_l := b193.lt
  have b194 := (box3_new w167 _ _ _ _).keep hb188
  have b194_0 := b194.c0
  have b194_1 := b194.c1
  have b194_2 := b194.c2
  have b194_l := b194.lt
  have r195 := Lib.hid (((r180.out.keep (below_new _ _))).keep hb188)
  have r196 := Lib.hid (((r181.out.keep (below_new _ _))).keep hb188)
  have r197 := Lib.hid (((r182.out.keep (below_new _ _))).keep hb188)
  have r198 := Lib.hid (((r183.out.keep (below_new _ _))).keep hb188)
  have r199 := Lib.hid (((r184.out.keep (below_new _ _))).keep hb188)
  have r200 := Lib.hid (((r185.out.keep (below_new _ _))).keep hb188)
  have r201 := Lib.hid (((r174.out.keep (below_new _ _))).keep hb188)
  have hw202 := Lib.hid (below_then (below_then hw186.out (below_new _ _)) hb188)
  clear b176 b176_0 b176_1 b176_2 b176_l b177 b177_0 b177_1 b177_2 b177_l b178 b178_0 b178_1 b178_2 b178_l b179 b179_0 b179_1 b179_2 b179_l r180 r181 r182 r183 r184 r185 r174 hw186 hb188
  go_wp2_with fail
  refine (heldHall_any _ _ _ _ _ _ (r199.out).at (by omega) (by omega) (by unfold lim; omega)).mono ?_
  rintro e w203 ⟨rfl, hb204⟩
  have z205 : w187.heap.size ≤ w203.heap.size := (by have hsz := hb204.size; first | exact hsz | (simp at hsz; omega))
  have b206 := (b190).keep hb204
  have b206_0 := b206.c0
  have b206_1 := b206.c1
  have b206_2 := b206.c2
  have b206_l := b206.lt
  have b207 := (b191).keep hb204
  have b207_0 := b207.c0
  have b207_1 := b207.c1
  have b207_2 := b207.c2
  have b207_l := b207.lt
  have b208 := (b192).keep hb204
  have b208_0 := b208.c0
  have b208_1 := b208.c1
  have b208_2 := b208.c2
  have b208_l := b208.lt
  have b209 := (b193).keep hb204
  have b209_0 := b209.c0
  have b209_1 := b209.c1
  have b209_2 := b209.c2
  have b209_l := b209.lt
  have b210 := (b194).keep hb204
  have b210_0 := b210.c0
  have b210_1 := b210.c1
  have b210_2 := b210.c2
  have b210_l := b210.lt
  have r211 := Lib.hid ((r195.out).keep hb204)
  have r212 := Lib.hid ((r196.out).keep hb204)
  have r213 := Lib.hid ((r197.out).keep hb204)
  have r214 := Lib.hid ((r198.out).keep hb204)
  have r215 := Lib.hid ((r199.out).keep hb204)
  have r216 := Lib.hid ((r200.out).keep hb204)
  have r217 := Lib.hid ((r201.out).keep hb204)
  have hw218 := Lib.hid (below_then hw202.out hb204)
  clear b190 b190_0 b190_1 b190_2 b190_l b191 b191_0 b191_1 b191_2 b191_l b192 b192_0 b192_1 b192_2 b192_l b193 b193_0 b193_1 b193_2 b193_l b194 b194_0 b194_1 b194_2 b194_l r195 r196 r197 r198 r199 r200 r201 hw202 hb204
  go_wp2
  go_ret
  exact ⟨rfl, hw218.out⟩
  
set_option maxRecDepth 100000 in
theorem fnExactHallTurn_lifted (os : Os) (started : os.Started) (H : Type) (enc : TypeId × Value → H) :
    ReturnsInHanded {} Try.checked os 8 .any (Rows.fnExactHallTurnSpec.pre6 enc Try.prog Try.f8 Rows.fnExactHallTurnRow.domain false) (Rows.fnExactHallTurnSpec.post enc Try.prog Try.f8 false true false false) := by
  refine returnsInHanded_of_change (C := Try.checked) Try.own started (by kernel_rfl) Try.func8
    (ChangeSpec.witness6 (enc := enc) (C := Try.checked) false ⟨#[], #[.agg #[.int .i64 0, .int .i64 0, .slice none 0 0]], []⟩ 8 (by kernel_rfl) (by kernel_rfl) (by kernel_rfl) (by kernel_rfl)) ?_
  intro W base args ds gs before hval0 hW hcnd _
  have hval : ∀ (j : Nat) t v, Try.f8.params[j]? = some t → args[j]? = some v → Value.okWide Try.prog W .any base t v := hval0
  have hW' := hW
  obtain ⟨p, q, hA0, hV, rfl, hfz, hnd⟩ := hW
  have hA : DataW.TrodAll enc Try.prog W 0 (fun _ => true) true Try.f8.params.toList args.toList ds p := hA0
  rw [Try.params8] at hA hval
  obtain ⟨v0, vs0, d0, ds0, p0, q0, hargs, rfl, rfl, h0, r0⟩ := trodAll_cons hA
  obtain ⟨rfl, rfl, rfl⟩ := trodAll_nil r0
  obtain rfl : args = #[v0] := by cases args; simp_all
  obtain ⟨rfl, rfl⟩ := trodVars_none hV
  have lt0 := lt_of_trod h0
  obtain ⟨a0, w0⟩ := open_raw_hall (fun _ => rfl) (hval 0 24 v0 rfl rfl) h0
  clear hA0 hval0
  refine (fnExactHallTurn_walk W v0 a0 w0).mono fun e W' ⟨he, bel⟩ => ?_
  subst he
  exact ⟨_, rfl, _, _, _, [], _, [], hW', trodAll_mk1 (shut_bool Try.underlying4 _), (trodAll_cons_mk (Below.trod Try.laidOut (by kernel_rfl) (of_decide_eq_true (by kernel_rfl)) h0 bel lt0) trodAll_mk0), rfl, bel.frame _, fun h => by cases h⟩

theorem fnExactHallTurn_over : Rows.fnExactHallTurnRow.holds Try.pinned (OpenSpec.ofChange Rows.fnExactHallTurnSpec) :=
  OpenClaim.holds_of_wide 8 Try.f8 rfl rfl rfl rfl rfl rfl rfl ⟨rfl, rfl, rfl, rfl, rfl⟩ rfl rfl rfl rfl rfl (by kernel_rfl) Try.func8 (by kernel_rfl)
    (of_decide_eq_true (by kernel_rfl)) (by unfold Func.isWrapper; rw [if_neg (of_decide_eq_false (by kernel_rfl))]; exact ⟨rfl, rfl⟩)
    (fun os started H enc _ => fnExactHallTurn_lifted os started H enc)

theorem fnExactHallTurn_holds : Rows.FnExactHallTurnSaid := fnExactHallTurn_over

#print axioms fnExactHallTurn_holds

end Go.Proofs.Ytenblaghbolabaa
