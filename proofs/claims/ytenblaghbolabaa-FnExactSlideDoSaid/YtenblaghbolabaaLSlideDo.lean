/-
  Proved: FnExactSlideDo returns true for every argument, and its arguments read afterwards as they read before. No condition.
-/
import Derived.Test.YtenblaghbolabaaK5
import Derived.Test.YtenblaghbolabaaRow2
import Derived.Test.YtenblaghbolabaaM
import Derived.Test.YtenblaghbolabaaRow
import Derived.Deep.RegionHeld3
import Derived.Deep.CutRange
set_option linter.unusedVariables false
namespace Go.Proofs.Ytenblaghbolabaa
open Go Go.RowKit Go.Park
open Go.ChangeShapes Go.WideShapes Go.ChangeAt

theorem box3_store {w : World} {g : Nat} {x y z a b c : Value} (h : Blk3 w g x y z) : Box3 (((w.setCell ⟨g, 0, none⟩ a).setCell ⟨g, 1, none⟩ b).setCell ⟨g, 2, none⟩ c) g a b c := by
  have h0 := h.box.c0
  have h1 := h.box.c1
  have h2 := h.box.c2
  exact ⟨by go_simp, by go_simp, by go_simp⟩

set_option maxRecDepth 100000 in
set_option maxHeartbeats 4000000 in
theorem fnExactSlideDo_walk (w : World) (v0 : Value) (a0 : PHall) (q0 : RawHall w v0 a0) (a1 b1 : Int) :
    Calls Try.prog 11 #[v0, .agg #[.int .i64 a1, .int .i64 b1]] w (Gives (.bool true) w) := by
  have HR0 := Lib.hid q0
  obtain ⟨ao0, c0, rfl, hc0, hd0, hx0⟩ := q0
  have hl0 : a0.cells.length ≤ 9223372036854775807 := by unfold maxLen at hd0; omega
  clear hc0 hd0 hx0
  go_enter Try.func11, Try.ntmps11
  go_wp2_with fail
  refine (szHall_any _ _ _ _ _ _ _ (by omega) (by omega) (by omega)).mono ?_
  rintro e w1 ⟨rfl, hb2⟩
  have z3 : w.heap.size + 2 ≤ w1.heap.size := (by have hsz := hb2.size; first | exact hsz | (simp at hsz; omega))
  have b4 := ((box3_new w _ _ _ _).keep (below_new _ _)).keep hb2
  have b4_0 := b4.c0
  have b4_1 := b4.c1
  have b4_2 := b4.c2
  have b4_l := b4.lt
  have b5 := (box2_second w _ _ _ _).keep hb2
  have b5_0 := b5.c0
  have b5_1 := b5.c1
  have b5_l := b5.lt
  have hw6 := Lib.hid (below_then (below_then (below_new _ _) (below_new _ _)) hb2)
  clear hb2
  by_cases hsz0 : (1048576 : Int) - a0.cells.length < 0
  · rw [show szTo a0.cells.length (1048576) = -1 by simp [szTo, hsz0]]
    go_wp2
    go_ret
    exact ⟨rfl, hw6.out⟩
  rw [show szTo a0.cells.length (1048576) = 1048576 - a0.cells.length by simp [szTo, hsz0]]
  have HV0 := Lib.hid (rawHall_at HR0.out (by unfold lim; omega))
  go_upto_region 5 with fail
  go_cut [6, 7] from 21 to 28 (fun x1 x2 wx => ∃ bx v lo hi, x1 = .pointer (some ⟨bx, 0, none⟩) ∧ x2 = .bool ((slideDoF a0 a1 b1).2) ∧ Box3 wx bx (.int .i64 ((slideDoF a0 a1 b1).1).wide) (.int .i64 ((slideDoF a0 a1 b1).1).deep) v ∧ OwnInts w1.heap.size wx v ((slideDoF a0 a1 b1).1).cells ∧ Blk v lo hi ∧ (bx < lo ∨ hi ≤ bx) ∧ (w1.heap.size ≤ bx ∧ bx < wx.heap.size ∧ w1.heap.size ≤ lo ∧ hi ≤ wx.heap.size) ∧ Below w1.heap.size w1 wx)
  case first =>
    have ne55 : w.heap.size ≠ w1.heap.size := (by omega)
    have ne56 : w.heap.size + 1 ≠ w1.heap.size := (by omega)
    have ne57 : w1.heap.size ≠ w.heap.size := (by omega)
    have ne58 : w1.heap.size ≠ w.heap.size + 1 := (by omega)
    go_region_held3 (fun w' => w'.cell? ⟨w.heap.size, 0, none⟩ = some (.int .i64 a0.wide) ∧ w'.cell? ⟨w.heap.size, 1, none⟩ = some (.int .i64 a0.deep) ∧ w'.cell? ⟨w.heap.size, 2, none⟩ = some (.slice ao0 a0.cells.length c0) ∧ w'.cell? ⟨w.heap.size + 1, 0, none⟩ = some (.int .i64 a1) ∧ w'.cell? ⟨w.heap.size + 1, 1, none⟩ = some (.int .i64 b1)) (((try dsimp only); (repeat' apply And.intro); all_goals first | (with_reducible assumption) | go_keep)) (first | (go_at_call 17; refine (toHall_any _ _ a0 (by first | exact (HV0.out.keep (below_then hw6.out (below_drew1 _))) | exact (HV0.out.keep (below_then (below_then hw6.out (below_drew1 _)) (below_new _ _))))).mono ?_; rintro e w7 ⟨g12, rfl, ho13, hb8⟩; have h9 : Below w1.heap.size w1 w7 := (by first | exact below_then (below_drew1 _) hb8 | exact below_then (below_then (below_drew1 _) (below_new _ _)) hb8); have l10 := h9.size; have l11 := hb8.size; (try have kA := Blk3.keep (show Blk3 _ w1.heap.size _ _ _ from blk3_new w1.drew _ _ _ _) hb8); have b14 := b4.keep h9; have b14_0 := b14.c0; have b14_1 := b14.c1; have b14_2 := b14.c2; have b14_l := b14.lt; have b15 := b5.keep h9; have b15_0 := b15.c0; have b15_1 := b15.c1; have b15_l := b15.lt; have hw16 := Lib.hid (below_then hw6.out h9); have r17 := Lib.hid ho13; clear b4 b4_0 b4_1 b4_2 b5 b5_0 b5_1 hw6 ho13; have ne18 : w.heap.size ≠ w7.heap.size := (by omega); have ne19 : w.heap.size + 1 ≠ w7.heap.size := (by omega); have ne20 : w7.heap.size ≠ w.heap.size := (by omega); have ne21 : w7.heap.size ≠ w.heap.size + 1 := (by omega)) | (go_at_call 21; refine (toSlide_any _ _ _).mono ?_; rintro e w22 ⟨rfl, hb23⟩; have h24 : Below w7.heap.size w7 w22 := (by first | exact hb23 | exact below_then (below_new _ _) hb23); have l25 := h24.size; have l26 := hb23.size; (try have kA := kA.keep h24); (try have kA := Blk3.keep (show Blk3 _ w7.heap.size _ _ _ from blk3_new w7 _ _ _ _) hb23); have hx27 := below_then h9 h24; have b28 := b14.keep h24; have b28_0 := b28.c0; have b28_1 := b28.c1; have b28_2 := b28.c2; have b28_l := b28.lt; have b29 := b15.keep h24; have b29_0 := b29.c0; have b29_1 := b29.c1; have b29_l := b29.lt; have r30 := Lib.hid (r17.out.keep h24); have hw31 := Lib.hid (below_then hw16.out h24); clear b14 b14_0 b14_1 b14_2 b15 b15_0 b15_1 r17 hw16; have ne32 : w.heap.size ≠ w22.heap.size := (by omega); have ne33 : w.heap.size + 1 ≠ w22.heap.size := (by omega); have ne34 : w22.heap.size ≠ w.heap.size := (by omega); have ne35 : w22.heap.size ≠ w.heap.size + 1 := (by omega)) | (go_at_call 40; refine (specSlideDo_any _ _ (a0) _ _ (by first | exact (OwnHall.at (h := a0) ⟨rfl, r30.out⟩) | exact (OwnHall.at (h := a0) ⟨rfl, (r30.out.keep (below_new _ _))⟩))).mono ?_; rintro e w36 ⟨cv41, rfl, ho42, hb37⟩; obtain ⟨ao43, cp44, rfl⟩ := ho42.slice; have h38 : Below w22.heap.size w22 w36 := (by first | exact hb37 | exact below_then (below_new _ _) hb37); have l39 := h38.size; have l40 := hb37.size; (try have kA := kA.keep h38); (try have kA := Blk3.keep (show Blk3 _ w22.heap.size _ _ _ from blk3_new w22 _ _ _ _) hb37); have hx45 := below_then hx27 h38; have b46 := b28.keep h38; have b46_0 := b46.c0; have b46_1 := b46.c1; have b46_2 := b46.c2; have b46_l := b46.lt; have b47 := b29.keep h38; have b47_0 := b47.c0; have b47_1 := b47.c1; have b47_l := b47.lt; have r48 := Lib.hid (r30.out.keep h38); have hw49 := Lib.hid (below_then hw31.out h38); have r50 := Lib.hid ho42; clear b28 b28_0 b28_1 b28_2 b29 b29_0 b29_1 r30 hw31 ho42; (try have kA_0 := kA.box.c0); (try have kA_1 := kA.box.c1); (try have kA_2 := kA.box.c2); (try have kA_3 := kA.f0); (try have kA_4 := kA.f1); (try have kA_5 := kA.f2)))
    all_goals
      go_wp2_with fail
      go_meet
      case rel =>
        (try simp at l11 l26 l40)
        first
        | exact ⟨_, _, _, _, rfl, rfl, box3_new w36 _ _ _ _, (r50.out.base (by (try simp); (try omega))).keep (below_new _ _), r50.out.blk, .inr (Nat.le_refl _), ⟨by omega, by simp, (by (try simp); (try omega)), (by (try simp); (try omega))⟩, below_then hx45 (below_new _ _)⟩
        | exact ⟨_, _, _, _, rfl, rfl, box3_store kA, OwnInts.base (((r50.out.setBelow (by (try simp); (try omega)) _).setBelow (by (try simp); (try omega)) _).setBelow (by (try simp); (try omega)) _) (by (try simp); (try omega)), r50.out.blk, .inl (by (try simp); (try omega)), ⟨(by (try simp); (try omega)), (by (try simp); (try omega)), (by (try simp); (try omega)), (by (try simp); (try omega))⟩, ((hx45.setCell (by (try simp); (try omega)) _).setCell (by (try simp); (try omega)) _).setCell (by (try simp); (try omega)) _⟩
  obtain ⟨bx51, v52, lo53, hi54, rfl, rfl, b60, ho61, k62, hd63, hd64, hb65⟩ := hcut
  rename World => w59
  obtain ⟨ao66, cp67, rfl⟩ := ho61.slice
  have z69 : w1.heap.size ≤ w59.heap.size := (by have hsz := hb65.size; first | exact hsz | (simp at hsz; omega))
  have b70 := (b4).keep hb65
  have b70_0 := b70.c0
  have b70_1 := b70.c1
  have b70_2 := b70.c2
  have b70_l := b70.lt
  have b71 := (b5).keep hb65
  have b71_0 := b71.c0
  have b71_1 := b71.c1
  have b71_l := b71.lt
  have hw72 := Lib.hid (below_then hw6.out hb65)
  clear b4 b4_0 b4_1 b4_2 b4_l b5 b5_0 b5_1 b5_l hw6 hb65
  have b60_0 := b60.c0
  have b60_1 := b60.c1
  have b60_2 := b60.c2
  have b60_l := b60.lt
  have r68 := Lib.hid ho61
  clear ho61
  have k62h := Lib.hid k62
  clear k62
  go_wp2_with fail
  refine (toHall_any _ _ a0 (HV0.out.keep hw72.out)).mono ?_
  rintro e w73 ⟨g75, rfl, ho76, hb74⟩
  have z79 : w59.heap.size ≤ w73.heap.size := (by have hsz := hb74.size; first | exact hsz | (simp at hsz; omega))
  have b80 := (b70).keep hb74
  have b80_0 := b80.c0
  have b80_1 := b80.c1
  have b80_2 := b80.c2
  have b80_l := b80.lt
  have b81 := (b71).keep hb74
  have b81_0 := b81.c0
  have b81_1 := b81.c1
  have b81_l := b81.lt
  have b82 := (b60).keep hb74
  have b82_0 := b82.c0
  have b82_1 := b82.c1
  have b82_2 := b82.c2
  have b82_l := b82.lt
  have r83 := Lib.hid ((r68.out).keep hb74)
  have hw84 := Lib.hid (below_then hw72.out hb74)
  have k77 := Lib.hid (show Blk _ (w59.heap.size) _ from (by simpa using ho76.blk))
  have r78 := Lib.hid ho76
  clear ho76
  clear b70 b70_0 b70_1 b70_2 b70_l b71 b71_0 b71_1 b71_l b60 b60_0 b60_1 b60_2 b60_l r68 hw72 hb74
  go_upto_region 7 with fail
  obtain ⟨w85, hW86⟩ : ∃ x, x = (w73.alloc (.cells #[.int .i64 a0.wide, .int .i64 a0.deep, .slice (some ⟨g75, 0, none⟩) a0.cells.length a0.cells.length] 27)) := ⟨_, rfl⟩
  rw [← hW86]
  have hb87 : Below (w73.alloc (.cells #[.int .i64 a0.wide, .int .i64 a0.deep, .slice (some ⟨g75, 0, none⟩) a0.cells.length a0.cells.length] 27)).heap.size (w73.alloc (.cells #[.int .i64 a0.wide, .int .i64 a0.deep, .slice (some ⟨g75, 0, none⟩) a0.cells.length a0.cells.length] 27)) w85 := by rw [hW86]; exact Below.refl _ _
  have z88 : w73.heap.size + 1 ≤ w85.heap.size := (by have hsz := hb87.size; first | exact hsz | (simp at hsz; omega))
  have b89 := ((b80.keep (below_new _ _))).keep hb87
  have b89_0 := b89.c0
  have b89_1 := b89.c1
  have b89_2 := b89.c2
  have b89_l := b89.lt
  have b90 := ((b81.keep (below_new _ _))).keep hb87
  have b90_0 := b90.c0
  have b90_1 := b90.c1
  have b90_l := b90.lt
  have b91 := ((b82.keep (below_new _ _))).keep hb87
  have b91_0 := b91.c0
  have b91_1 := b91.c1
  have b91_2 := b91.c2
  have b91_l := b91.lt
  have b92 := (box3_new w73 _ _ _ _).keep hb87
  have b92_0 := b92.c0
  have b92_1 := b92.c1
  have b92_2 := b92.c2
  have b92_l := b92.lt
  have r93 := Lib.hid (((r83.out.keep (below_new _ _))).keep hb87)
  have r94 := Lib.hid (((r78.out.keep (below_new _ _))).keep hb87)
  have hw95 := Lib.hid (below_then (below_then hw84.out (below_new _ _)) hb87)
  clear b80 b80_0 b80_1 b80_2 b80_l b81 b81_0 b81_1 b81_l b82 b82_0 b82_1 b82_2 b82_l r83 r78 hw84 hb87
  clear hW86
  go_cut [9, 10] from 31 to 37 (fun x1 x2 wx => ∃ bx v lo hi, x1 = .pointer (some ⟨bx, 0, none⟩) ∧ x2 = .bool ((slideDoF a0 a1 b1).2) ∧ Box3 wx bx (.int .i64 ((slideDoF a0 a1 b1).1).wide) (.int .i64 ((slideDoF a0 a1 b1).1).deep) v ∧ OwnInts w85.heap.size wx v ((slideDoF a0 a1 b1).1).cells ∧ Blk v lo hi ∧ (bx < lo ∨ hi ≤ bx) ∧ (w85.heap.size ≤ bx ∧ bx < wx.heap.size ∧ w85.heap.size ≤ lo ∧ hi ≤ wx.heap.size) ∧ Below w85.heap.size w85 wx)
  case first =>
    have ne138 : w.heap.size ≠ w85.heap.size := (by omega)
    have ne139 : w.heap.size + 1 ≠ w85.heap.size := (by omega)
    have ne140 : bx51 ≠ w85.heap.size := (by omega)
    have ne141 : w73.heap.size ≠ w85.heap.size := (by omega)
    have ne142 : w85.heap.size ≠ w.heap.size := (by omega)
    have ne143 : w85.heap.size ≠ w.heap.size + 1 := (by omega)
    have ne144 : w85.heap.size ≠ bx51 := (by omega)
    have ne145 : w85.heap.size ≠ w73.heap.size := (by omega)
    go_region_held3 (fun w' => w'.cell? ⟨w.heap.size, 0, none⟩ = some (.int .i64 a0.wide) ∧ w'.cell? ⟨w.heap.size, 1, none⟩ = some (.int .i64 a0.deep) ∧ w'.cell? ⟨w.heap.size, 2, none⟩ = some (.slice ao0 a0.cells.length c0) ∧ w'.cell? ⟨w.heap.size + 1, 0, none⟩ = some (.int .i64 a1) ∧ w'.cell? ⟨w.heap.size + 1, 1, none⟩ = some (.int .i64 b1) ∧ w'.cell? ⟨bx51, 0, none⟩ = some (.int .i64 ((slideDoF a0 a1 b1).1).wide) ∧ w'.cell? ⟨bx51, 1, none⟩ = some (.int .i64 ((slideDoF a0 a1 b1).1).deep) ∧ w'.cell? ⟨bx51, 2, none⟩ = some (.slice ao66 ((slideDoF a0 a1 b1).1).cells.length cp67) ∧ w'.cell? ⟨w73.heap.size, 0, none⟩ = some (.int .i64 a0.wide) ∧ w'.cell? ⟨w73.heap.size, 1, none⟩ = some (.int .i64 a0.deep) ∧ w'.cell? ⟨w73.heap.size, 2, none⟩ = some (.slice (some ⟨g75, 0, none⟩) a0.cells.length a0.cells.length)) (((try dsimp only); (repeat' apply And.intro); all_goals first | (with_reducible assumption) | go_keep)) (first | (go_at_call 21; refine (toSlide_any _ _ _).mono ?_; rintro e w96 ⟨rfl, hb97⟩; have h98 : Below w85.heap.size w85 w96 := (by first | exact below_then (below_drew1 _) hb97 | exact below_then (below_then (below_drew1 _) (below_new _ _)) hb97); have l99 := h98.size; have l100 := hb97.size; (try have kA := Blk3.keep (show Blk3 _ w85.heap.size _ _ _ from blk3_new w85.drew _ _ _ _) hb97); have b101 := b89.keep h98; have b101_0 := b101.c0; have b101_1 := b101.c1; have b101_2 := b101.c2; have b101_l := b101.lt; have b102 := b90.keep h98; have b102_0 := b102.c0; have b102_1 := b102.c1; have b102_l := b102.lt; have b103 := b91.keep h98; have b103_0 := b103.c0; have b103_1 := b103.c1; have b103_2 := b103.c2; have b103_l := b103.lt; have b104 := b92.keep h98; have b104_0 := b104.c0; have b104_1 := b104.c1; have b104_2 := b104.c2; have b104_l := b104.lt; have r105 := Lib.hid (r93.out.keep h98); have r106 := Lib.hid (r94.out.keep h98); have hw107 := Lib.hid (below_then hw95.out h98); clear b89 b89_0 b89_1 b89_2 b90 b90_0 b90_1 b91 b91_0 b91_1 b91_2 b92 b92_0 b92_1 b92_2 r93 r94 hw95; have ne108 : w.heap.size ≠ w96.heap.size := (by omega); have ne109 : w.heap.size + 1 ≠ w96.heap.size := (by omega); have ne110 : bx51 ≠ w96.heap.size := (by omega); have ne111 : w73.heap.size ≠ w96.heap.size := (by omega); have ne112 : w96.heap.size ≠ w.heap.size := (by omega); have ne113 : w96.heap.size ≠ w.heap.size + 1 := (by omega); have ne114 : w96.heap.size ≠ bx51 := (by omega); have ne115 : w96.heap.size ≠ w73.heap.size := (by omega)) | (go_at_call 41; refine (slideDo_any _ _ (a0) _ _ (by first | exact (OwnHall.at (h := a0) ⟨rfl, r106.out⟩) | exact (OwnHall.at (h := a0) ⟨rfl, (r106.out.keep (below_new _ _))⟩))).mono ?_; rintro e w116 ⟨cv121, rfl, ho122, hb117⟩; obtain ⟨ao123, cp124, rfl⟩ := ho122.slice; have h118 : Below w96.heap.size w96 w116 := (by first | exact hb117 | exact below_then (below_new _ _) hb117); have l119 := h118.size; have l120 := hb117.size; (try have kA := kA.keep h118); (try have kA := Blk3.keep (show Blk3 _ w96.heap.size _ _ _ from blk3_new w96 _ _ _ _) hb117); have hx125 := below_then h98 h118; have b126 := b101.keep h118; have b126_0 := b126.c0; have b126_1 := b126.c1; have b126_2 := b126.c2; have b126_l := b126.lt; have b127 := b102.keep h118; have b127_0 := b127.c0; have b127_1 := b127.c1; have b127_l := b127.lt; have b128 := b103.keep h118; have b128_0 := b128.c0; have b128_1 := b128.c1; have b128_2 := b128.c2; have b128_l := b128.lt; have b129 := b104.keep h118; have b129_0 := b129.c0; have b129_1 := b129.c1; have b129_2 := b129.c2; have b129_l := b129.lt; have r130 := Lib.hid (r105.out.keep h118); have r131 := Lib.hid (r106.out.keep h118); have hw132 := Lib.hid (below_then hw107.out h118); have r133 := Lib.hid ho122; clear b101 b101_0 b101_1 b101_2 b102 b102_0 b102_1 b103 b103_0 b103_1 b103_2 b104 b104_0 b104_1 b104_2 r105 r106 hw107 ho122; (try have kA_0 := kA.box.c0); (try have kA_1 := kA.box.c1); (try have kA_2 := kA.box.c2); (try have kA_3 := kA.f0); (try have kA_4 := kA.f1); (try have kA_5 := kA.f2)))
    all_goals
      go_wp2_with fail
      go_meet
      case rel =>
        (try simp at l100 l120)
        first
        | exact ⟨_, _, _, _, rfl, rfl, box3_new w116 _ _ _ _, (r133.out.base (by (try simp); (try omega))).keep (below_new _ _), r133.out.blk, .inr (Nat.le_refl _), ⟨by omega, by simp, (by (try simp); (try omega)), (by (try simp); (try omega))⟩, below_then hx125 (below_new _ _)⟩
        | exact ⟨_, _, _, _, rfl, rfl, box3_store kA, OwnInts.base (((r133.out.setBelow (by (try simp); (try omega)) _).setBelow (by (try simp); (try omega)) _).setBelow (by (try simp); (try omega)) _) (by (try simp); (try omega)), r133.out.blk, .inl (by (try simp); (try omega)), ⟨(by (try simp); (try omega)), (by (try simp); (try omega)), (by (try simp); (try omega)), (by (try simp); (try omega))⟩, ((hx125.setCell (by (try simp); (try omega)) _).setCell (by (try simp); (try omega)) _).setCell (by (try simp); (try omega)) _⟩
  obtain ⟨bx134, v135, lo136, hi137, rfl, rfl, b147, ho148, k149, hd150, hd151, hb152⟩ := hcut
  rename World => w146
  obtain ⟨ao153, cp154, rfl⟩ := ho148.slice
  have z156 : w85.heap.size ≤ w146.heap.size := (by have hsz := hb152.size; first | exact hsz | (simp at hsz; omega))
  have b157 := (b89).keep hb152
  have b157_0 := b157.c0
  have b157_1 := b157.c1
  have b157_2 := b157.c2
  have b157_l := b157.lt
  have b158 := (b90).keep hb152
  have b158_0 := b158.c0
  have b158_1 := b158.c1
  have b158_l := b158.lt
  have b159 := (b91).keep hb152
  have b159_0 := b159.c0
  have b159_1 := b159.c1
  have b159_2 := b159.c2
  have b159_l := b159.lt
  have b160 := (b92).keep hb152
  have b160_0 := b160.c0
  have b160_1 := b160.c1
  have b160_2 := b160.c2
  have b160_l := b160.lt
  have r161 := Lib.hid ((r93.out).keep hb152)
  have r162 := Lib.hid ((r94.out).keep hb152)
  have hw163 := Lib.hid (below_then hw95.out hb152)
  clear b89 b89_0 b89_1 b89_2 b89_l b90 b90_0 b90_1 b90_l b91 b91_0 b91_1 b91_2 b91_l b92 b92_0 b92_1 b92_2 b92_l r93 r94 hw95 hb152
  have b147_0 := b147.c0
  have b147_1 := b147.c1
  have b147_2 := b147.c2
  have b147_l := b147.lt
  have r155 := Lib.hid ho148
  clear ho148
  have k149h := Lib.hid k149
  clear k149
  go_wp2_with fail
  refine (eqHall_same _ _ _ (((slideDoF a0 a1 b1).1)) (OwnHall.at (h := ((slideDoF a0 a1 b1).1)) ⟨rfl, r155.out⟩) (OwnHall.at (h := ((slideDoF a0 a1 b1).1)) ⟨rfl, r161.out⟩)).mono ?_
  rintro e w164 ⟨rfl, hb165⟩
  have z166 : w146.heap.size ≤ w164.heap.size := (by have hsz := hb165.size; first | exact hsz | (simp at hsz; omega))
  have b167 := (b157).keep hb165
  have b167_0 := b167.c0
  have b167_1 := b167.c1
  have b167_2 := b167.c2
  have b167_l := b167.lt
  have b168 := (b158).keep hb165
  have b168_0 := b168.c0
  have b168_1 := b168.c1
  have b168_l := b168.lt
  have b169 := (b159).keep hb165
  have b169_0 := b169.c0
  have b169_1 := b169.c1
  have b169_2 := b169.c2
  have b169_l := b169.lt
  have b170 := (b160).keep hb165
  have b170_0 := b170.c0
  have b170_1 := b170.c1
  have b170_2 := b170.c2
  have b170_l := b170.lt
  have b171 := (b147).keep hb165
  have b171_0 := b171.c0
  have b171_1 := b171.c1
  have b171_2 := b171.c2
  have b171_l := b171.lt
  have r172 := Lib.hid ((r161.out).keep hb165)
  have r173 := Lib.hid ((r162.out).keep hb165)
  have r174 := Lib.hid ((r155.out).keep hb165)
  have hw175 := Lib.hid (below_then hw163.out hb165)
  clear b157 b157_0 b157_1 b157_2 b157_l b158 b158_0 b158_1 b158_l b159 b159_0 b159_1 b159_2 b159_l b160 b160_0 b160_1 b160_2 b160_l b147 b147_0 b147_1 b147_2 b147_l r161 r162 r155 hw163 hb165
  go_wp2_with fail
  go_region_held3 (fun w' => w'.cell? ⟨w.heap.size, 0, none⟩ = some (.int .i64 a0.wide) ∧ w'.cell? ⟨w.heap.size, 1, none⟩ = some (.int .i64 a0.deep) ∧ w'.cell? ⟨w.heap.size, 2, none⟩ = some (.slice ao0 a0.cells.length c0) ∧ w'.cell? ⟨w.heap.size + 1, 0, none⟩ = some (.int .i64 a1) ∧ w'.cell? ⟨w.heap.size + 1, 1, none⟩ = some (.int .i64 b1) ∧ w'.cell? ⟨bx51, 0, none⟩ = some (.int .i64 ((slideDoF a0 a1 b1).1).wide) ∧ w'.cell? ⟨bx51, 1, none⟩ = some (.int .i64 ((slideDoF a0 a1 b1).1).deep) ∧ w'.cell? ⟨bx51, 2, none⟩ = some (.slice ao66 ((slideDoF a0 a1 b1).1).cells.length cp67) ∧ w'.cell? ⟨w73.heap.size, 0, none⟩ = some (.int .i64 a0.wide) ∧ w'.cell? ⟨w73.heap.size, 1, none⟩ = some (.int .i64 a0.deep) ∧ w'.cell? ⟨w73.heap.size, 2, none⟩ = some (.slice (some ⟨g75, 0, none⟩) a0.cells.length a0.cells.length) ∧ w'.cell? ⟨bx134, 0, none⟩ = some (.int .i64 ((slideDoF a0 a1 b1).1).wide) ∧ w'.cell? ⟨bx134, 1, none⟩ = some (.int .i64 ((slideDoF a0 a1 b1).1).deep) ∧ w'.cell? ⟨bx134, 2, none⟩ = some (.slice ao153 ((slideDoF a0 a1 b1).1).cells.length cp154)) (((try dsimp only); (repeat' apply And.intro); all_goals first | (with_reducible assumption) | go_keep)) (first | (go_at_call 17; refine (toHall_any _ _ a0 (HV0.out.keep (below_then hw175.out (below_drew1 _)))).mono ?_; rintro e w176 ⟨g178, rfl, ho179, hb177⟩; have z182 : w164.heap.size ≤ w176.heap.size := (by have hsz := hb177.size; first | exact hsz | (simp at hsz; omega)); have b183 := ((b167.keep (below_drew1 _))).keep hb177; have b183_0 := b183.c0; have b183_1 := b183.c1; have b183_2 := b183.c2; have b183_l := b183.lt; have b184 := ((b168.keep (below_drew1 _))).keep hb177; have b184_0 := b184.c0; have b184_1 := b184.c1; have b184_l := b184.lt; have b185 := ((b169.keep (below_drew1 _))).keep hb177; have b185_0 := b185.c0; have b185_1 := b185.c1; have b185_2 := b185.c2; have b185_l := b185.lt; have b186 := ((b170.keep (below_drew1 _))).keep hb177; have b186_0 := b186.c0; have b186_1 := b186.c1; have b186_2 := b186.c2; have b186_l := b186.lt; have b187 := ((b171.keep (below_drew1 _))).keep hb177; have b187_0 := b187.c0; have b187_1 := b187.c1; have b187_2 := b187.c2; have b187_l := b187.lt; have r188 := Lib.hid (((r172.out.keep (below_drew1 _))).keep hb177); have r189 := Lib.hid (((r173.out.keep (below_drew1 _))).keep hb177); have r190 := Lib.hid (((r174.out.keep (below_drew1 _))).keep hb177); have hw191 := Lib.hid (below_then (below_then hw175.out (below_drew1 _)) hb177); have k180 := Lib.hid (show Blk _ (w164.heap.size) _ from (by simpa using ho179.blk)); have r181 := Lib.hid ho179; clear ho179; clear b167 b167_0 b167_1 b167_2 b167_l b168 b168_0 b168_1 b168_l b169 b169_0 b169_1 b169_2 b169_l b170 b170_0 b170_1 b170_2 b170_l b171 b171_0 b171_1 b171_2 b171_l r172 r173 r174 hw175 hb177) | (go_at_call 19; refine (eqHall_same _ _ _ (a0) (OwnHall.at (h := a0) ⟨rfl, r189.out⟩) (OwnHall.at (h := a0) ⟨rfl, r181.out⟩)).mono ?_; rintro e w192 ⟨rfl, hb193⟩; have z194 : w176.heap.size ≤ w192.heap.size := (by have hsz := hb193.size; first | exact hsz | (simp at hsz; omega)); have b195 := (b183).keep hb193; have b195_0 := b195.c0; have b195_1 := b195.c1; have b195_2 := b195.c2; have b195_l := b195.lt; have b196 := (b184).keep hb193; have b196_0 := b196.c0; have b196_1 := b196.c1; have b196_l := b196.lt; have b197 := (b185).keep hb193; have b197_0 := b197.c0; have b197_1 := b197.c1; have b197_2 := b197.c2; have b197_l := b197.lt; have b198 := (b186).keep hb193; have b198_0 := b198.c0; have b198_1 := b198.c1; have b198_2 := b198.c2; have b198_l := b198.lt; have b199 := (b187).keep hb193; have b199_0 := b199.c0; have b199_1 := b199.c1; have b199_2 := b199.c2; have b199_l := b199.lt; have r200 := Lib.hid ((r188.out).keep hb193); have r201 := Lib.hid ((r189.out).keep hb193); have r202 := Lib.hid ((r190.out).keep hb193); have r203 := Lib.hid ((r181.out).keep hb193); have hw204 := Lib.hid (below_then hw191.out hb193); clear b183 b183_0 b183_1 b183_2 b183_l b184 b184_0 b184_1 b184_l b185 b185_0 b185_1 b185_2 b185_l b186 b186_0 b186_1 b186_2 b186_l b187 b187_0 b187_1 b187_2 b187_l r188 r189 r190 r181 hw191 hb193))
  go_wp2_with fail
  have hlenw205 := r201.out.1
  unfold lim at hlenw205
  refine (markHall_any _ _ _ _ _ (a0.cells) _ r201.out (by omega) (by omega)).mono ?_
  rintro e w205 ⟨rfl, ho207, hg206⟩
  have z209 : w192.heap.size ≤ w205.heap.size := (by have hsz := hg206.size; first | exact hsz | (simp at hsz; omega))
  have b210 := (b195).keepG hg206 k77.out (by omega)
  have b210_0 := b210.c0
  have b210_1 := b210.c1
  have b210_2 := b210.c2
  have b210_l := b210.lt
  have b211 := (b196).keepG hg206 k77.out (by omega)
  have b211_0 := b211.c0
  have b211_1 := b211.c1
  have b211_l := b211.lt
  have b212 := (b197).keepG hg206 k77.out (by omega)
  have b212_0 := b212.c0
  have b212_1 := b212.c1
  have b212_2 := b212.c2
  have b212_l := b212.lt
  have b213 := (b198).keepG hg206 k77.out (by omega)
  have b213_0 := b213.c0
  have b213_1 := b213.c1
  have b213_2 := b213.c2
  have b213_l := b213.lt
  have b214 := (b199).keepG hg206 k77.out (by omega)
  have b214_0 := b214.c0
  have b214_1 := b214.c1
  have b214_2 := b214.c2
  have b214_l := b214.lt
  have r215 := Lib.hid ((r200.out).keepG hg206 k77.out k62h.out (by omega))
  have r216 := Lib.hid ((r202.out).keepG hg206 k77.out k149h.out (by omega))
  have r217 := Lib.hid ((r203.out).keepG hg206 k77.out k180.out (by omega))
  have hw218 := Lib.hid (below_grownG hw204.out hg206 k77.out (by omega))
  have r208 := Lib.hid ho207
  clear ho207
  clear b195 b195_0 b195_1 b195_2 b195_l b196 b196_0 b196_1 b196_l b197 b197_0 b197_1 b197_2 b197_l b198 b198_0 b198_1 b198_2 b198_l b199 b199_0 b199_1 b199_2 b199_l r200 r201 r202 r203 hw204 hg206
  go_wp2_with fail
  refine (eqHall_same _ _ _ (((slideDoF a0 a1 b1).1)) (OwnHall.at (h := ((slideDoF a0 a1 b1).1)) ⟨rfl, r216.out⟩) (OwnHall.at (h := ((slideDoF a0 a1 b1).1)) ⟨rfl, r215.out⟩)).mono ?_
  rintro e w219 ⟨rfl, hb220⟩
  have z221 : w205.heap.size ≤ w219.heap.size := (by have hsz := hb220.size; first | exact hsz | (simp at hsz; omega))
  have b222 := (b210).keep hb220
  have b222_0 := b222.c0
  have b222_1 := b222.c1
  have b222_2 := b222.c2
  have b222_l := b222.lt
  have b223 := (b211).keep hb220
  have b223_0 := b223.c0
  have b223_1 := b223.c1
  have b223_l := b223.lt
  have b224 := (b212).keep hb220
  have b224_0 := b224.c0
  have b224_1 := b224.c1
  have b224_2 := b224.c2
  have b224_l := b224.lt
  have b225 := (b213).keep hb220
  have b225_0 := b225.c0
  have b225_1 := b225.c1
  have b225_2 := b225.c2
  have b225_l := b225.lt
  have b226 := (b214).keep hb220
  have b226_0 := b226.c0
  have b226_1 := b226.c1
  have b226_2 := b226.c2
  have b226_l := b226.lt
  have r227 := Lib.hid ((r215.out).keep hb220)
  have r228 := Lib.hid ((r216.out).keep hb220)
  have r229 := Lib.hid ((r217.out).keep hb220)
  have r230 := Lib.hid ((r208.out).keep hb220)
  have hw231 := Lib.hid (below_then hw218.out hb220)
  clear b210 b210_0 b210_1 b210_2 b210_l b211 b211_0 b211_1 b211_l b212 b212_0 b212_1 b212_2 b212_l b213 b213_0 b213_1 b213_2 b213_l b214 b214_0 b214_1 b214_2 b214_l r215 r216 r217 r208 hw218 hb220
  go_wp2_with fail
  have hlenw232 := r228.out.1
  unfold lim at hlenw232
  refine (markHall_any _ _ _ _ _ (((slideDoF a0 a1 b1).1).cells) _ r228.out (by omega) (by omega)).mono ?_
  rintro e w232 ⟨rfl, ho234, hg233⟩
  have z236 : w219.heap.size ≤ w232.heap.size := (by have hsz := hg233.size; first | exact hsz | (simp at hsz; omega))
  have b237 := (b222).keepG hg233 k149h.out (by omega)
  have b237_0 := b237.c0
  have b237_1 := b237.c1
  have b237_2 := b237.c2
  have b237_l := b237.lt
  have b238 := (b223).keepG hg233 k149h.out (by omega)
  have b238_0 := b238.c0
  have b238_1 := b238.c1
  have b238_l := b238.lt
  have b239 := (b224).keepG hg233 k149h.out (by omega)
  have b239_0 := b239.c0
  have b239_1 := b239.c1
  have b239_2 := b239.c2
  have b239_l := b239.lt
  have b240 := (b225).keepG hg233 k149h.out (by omega)
  have b240_0 := b240.c0
  have b240_1 := b240.c1
  have b240_2 := b240.c2
  have b240_l := b240.lt
  have b241 := (b226).keepG hg233 k149h.out (by omega)
  have b241_0 := b241.c0
  have b241_1 := b241.c1
  have b241_2 := b241.c2
  have b241_l := b241.lt
  have r242 := Lib.hid ((r227.out).keepG hg233 k149h.out k62h.out (by omega))
  have r243 := Lib.hid ((r229.out).keepG hg233 k149h.out k180.out (by omega))
  have r244 := Lib.hid ((r230.out).keepG hg233 k149h.out k77.out (by omega))
  have hw245 := Lib.hid (below_grownG hw231.out hg233 k149h.out (by omega))
  have r235 := Lib.hid ho234
  clear ho234
  clear b222 b222_0 b222_1 b222_2 b222_l b223 b223_0 b223_1 b223_l b224 b224_0 b224_1 b224_2 b224_l b225 b225_0 b225_1 b225_2 b225_l b226 b226_0 b226_1 b226_2 b226_l r227 r228 r229 r230 hw231 hg233
  go_wp2_with fail
  refine (heldHall_any _ _ _ _ _ _ (r235.out).at (by omega) (by omega) (by unfold lim; omega)).mono ?_
  rintro e w246 ⟨rfl, hb247⟩
  have z248 : w232.heap.size ≤ w246.heap.size := (by have hsz := hb247.size; first | exact hsz | (simp at hsz; omega))
  have b249 := (b237).keep hb247
  have b249_0 := b249.c0
  have b249_1 := b249.c1
  have b249_2 := b249.c2
  have b249_l := b249.lt
  have b250 := (b238).keep hb247
  have b250_0 := b250.c0
  have b250_1 := b250.c1
  have b250_l := b250.lt
  have b251 := (b239).keep hb247
  have b251_0 := b251.c0
  have b251_1 := b251.c1
  have b251_2 := b251.c2
  have b251_l := b251.lt
  have b252 := (b240).keep hb247
  have b252_0 := b252.c0
  have b252_1 := b252.c1
  have b252_2 := b252.c2
  have b252_l := b252.lt
  have b253 := (b241).keep hb247
  have b253_0 := b253.c0
  have b253_1 := b253.c1
  have b253_2 := b253.c2
  have b253_l := b253.lt
  have r254 := Lib.hid ((r242.out).keep hb247)
  have r255 := Lib.hid ((r243.out).keep hb247)
  have r256 := Lib.hid ((r244.out).keep hb247)
  have r257 := Lib.hid ((r235.out).keep hb247)
  have hw258 := Lib.hid (below_then hw245.out hb247)
  clear b237 b237_0 b237_1 b237_2 b237_l b238 b238_0 b238_1 b238_l b239 b239_0 b239_1 b239_2 b239_l b240 b240_0 b240_1 b240_2 b240_l b241 b241_0 b241_1 b241_2 b241_l r242 r243 r244 r235 hw245 hb247
  go_upto_region 24 with fail
  go_cut [14, 15] from 79 to 86 (fun x1 x2 wx => ∃ bx v lo hi, x1 = .pointer (some ⟨bx, 0, none⟩) ∧ x2 = .bool ((slideDoF a0 a1 b1).2) ∧ Box3 wx bx (.int .i64 ((slideDoF a0 a1 b1).1).wide) (.int .i64 ((slideDoF a0 a1 b1).1).deep) v ∧ OwnInts w246.heap.size wx v ((slideDoF a0 a1 b1).1).cells ∧ Blk v lo hi ∧ (bx < lo ∨ hi ≤ bx) ∧ (w246.heap.size ≤ bx ∧ bx < wx.heap.size ∧ w246.heap.size ≤ lo ∧ hi ≤ wx.heap.size) ∧ Below w246.heap.size w246 wx)
  case first =>
    have ne340 : w.heap.size ≠ w246.heap.size := (by omega)
    have ne341 : w.heap.size + 1 ≠ w246.heap.size := (by omega)
    have ne342 : bx51 ≠ w246.heap.size := (by omega)
    have ne343 : w73.heap.size ≠ w246.heap.size := (by omega)
    have ne344 : bx134 ≠ w246.heap.size := (by omega)
    have ne345 : w246.heap.size ≠ w.heap.size := (by omega)
    have ne346 : w246.heap.size ≠ w.heap.size + 1 := (by omega)
    have ne347 : w246.heap.size ≠ bx51 := (by omega)
    have ne348 : w246.heap.size ≠ w73.heap.size := (by omega)
    have ne349 : w246.heap.size ≠ bx134 := (by omega)
    go_region_held3 (fun w' => w'.cell? ⟨w.heap.size, 0, none⟩ = some (.int .i64 a0.wide) ∧ w'.cell? ⟨w.heap.size, 1, none⟩ = some (.int .i64 a0.deep) ∧ w'.cell? ⟨w.heap.size, 2, none⟩ = some (.slice ao0 a0.cells.length c0) ∧ w'.cell? ⟨w.heap.size + 1, 0, none⟩ = some (.int .i64 a1) ∧ w'.cell? ⟨w.heap.size + 1, 1, none⟩ = some (.int .i64 b1) ∧ w'.cell? ⟨bx51, 0, none⟩ = some (.int .i64 ((slideDoF a0 a1 b1).1).wide) ∧ w'.cell? ⟨bx51, 1, none⟩ = some (.int .i64 ((slideDoF a0 a1 b1).1).deep) ∧ w'.cell? ⟨bx51, 2, none⟩ = some (.slice ao66 ((slideDoF a0 a1 b1).1).cells.length cp67) ∧ w'.cell? ⟨w73.heap.size, 0, none⟩ = some (.int .i64 a0.wide) ∧ w'.cell? ⟨w73.heap.size, 1, none⟩ = some (.int .i64 a0.deep) ∧ w'.cell? ⟨w73.heap.size, 2, none⟩ = some (.slice (some ⟨g75, 0, none⟩) a0.cells.length a0.cells.length) ∧ w'.cell? ⟨bx134, 0, none⟩ = some (.int .i64 ((slideDoF a0 a1 b1).1).wide) ∧ w'.cell? ⟨bx134, 1, none⟩ = some (.int .i64 ((slideDoF a0 a1 b1).1).deep) ∧ w'.cell? ⟨bx134, 2, none⟩ = some (.slice ao153 ((slideDoF a0 a1 b1).1).cells.length cp154)) (((try dsimp only); (repeat' apply And.intro); all_goals first | (with_reducible assumption) | go_keep)) (first | (go_at_call 17; refine (toHall_any _ _ a0 (by first | exact (HV0.out.keep (below_then hw258.out (below_drew1 _))) | exact (HV0.out.keep (below_then (below_then hw258.out (below_drew1 _)) (below_new _ _))))).mono ?_; rintro e w259 ⟨g264, rfl, ho265, hb260⟩; have h261 : Below w246.heap.size w246 w259 := (by first | exact below_then (below_drew1 _) hb260 | exact below_then (below_then (below_drew1 _) (below_new _ _)) hb260); have l262 := h261.size; have l263 := hb260.size; (try have kA := Blk3.keep (show Blk3 _ w246.heap.size _ _ _ from blk3_new w246.drew _ _ _ _) hb260); have b266 := b249.keep h261; have b266_0 := b266.c0; have b266_1 := b266.c1; have b266_2 := b266.c2; have b266_l := b266.lt; have b267 := b250.keep h261; have b267_0 := b267.c0; have b267_1 := b267.c1; have b267_l := b267.lt; have b268 := b251.keep h261; have b268_0 := b268.c0; have b268_1 := b268.c1; have b268_2 := b268.c2; have b268_l := b268.lt; have b269 := b252.keep h261; have b269_0 := b269.c0; have b269_1 := b269.c1; have b269_2 := b269.c2; have b269_l := b269.lt; have b270 := b253.keep h261; have b270_0 := b270.c0; have b270_1 := b270.c1; have b270_2 := b270.c2; have b270_l := b270.lt; have r271 := Lib.hid (r254.out.keep h261); have r272 := Lib.hid (r255.out.keep h261); have r273 := Lib.hid (r256.out.keep h261); have r274 := Lib.hid (r257.out.keep h261); have hw275 := Lib.hid (below_then hw258.out h261); have r276 := Lib.hid ho265; clear b249 b249_0 b249_1 b249_2 b250 b250_0 b250_1 b251 b251_0 b251_1 b251_2 b252 b252_0 b252_1 b252_2 b253 b253_0 b253_1 b253_2 r254 r255 r256 r257 hw258 ho265; have ne277 : w.heap.size ≠ w259.heap.size := (by omega); have ne278 : w.heap.size + 1 ≠ w259.heap.size := (by omega); have ne279 : bx51 ≠ w259.heap.size := (by omega); have ne280 : w73.heap.size ≠ w259.heap.size := (by omega); have ne281 : bx134 ≠ w259.heap.size := (by omega); have ne282 : w259.heap.size ≠ w.heap.size := (by omega); have ne283 : w259.heap.size ≠ w.heap.size + 1 := (by omega); have ne284 : w259.heap.size ≠ bx51 := (by omega); have ne285 : w259.heap.size ≠ w73.heap.size := (by omega); have ne286 : w259.heap.size ≠ bx134 := (by omega)) | (go_at_call 21; refine (toSlide_any _ _ _).mono ?_; rintro e w287 ⟨rfl, hb288⟩; have h289 : Below w259.heap.size w259 w287 := (by first | exact hb288 | exact below_then (below_new _ _) hb288); have l290 := h289.size; have l291 := hb288.size; (try have kA := kA.keep h289); (try have kA := Blk3.keep (show Blk3 _ w259.heap.size _ _ _ from blk3_new w259 _ _ _ _) hb288); have hx292 := below_then h261 h289; have b293 := b266.keep h289; have b293_0 := b293.c0; have b293_1 := b293.c1; have b293_2 := b293.c2; have b293_l := b293.lt; have b294 := b267.keep h289; have b294_0 := b294.c0; have b294_1 := b294.c1; have b294_l := b294.lt; have b295 := b268.keep h289; have b295_0 := b295.c0; have b295_1 := b295.c1; have b295_2 := b295.c2; have b295_l := b295.lt; have b296 := b269.keep h289; have b296_0 := b296.c0; have b296_1 := b296.c1; have b296_2 := b296.c2; have b296_l := b296.lt; have b297 := b270.keep h289; have b297_0 := b297.c0; have b297_1 := b297.c1; have b297_2 := b297.c2; have b297_l := b297.lt; have r298 := Lib.hid (r271.out.keep h289); have r299 := Lib.hid (r272.out.keep h289); have r300 := Lib.hid (r273.out.keep h289); have r301 := Lib.hid (r274.out.keep h289); have r302 := Lib.hid (r276.out.keep h289); have hw303 := Lib.hid (below_then hw275.out h289); clear b266 b266_0 b266_1 b266_2 b267 b267_0 b267_1 b268 b268_0 b268_1 b268_2 b269 b269_0 b269_1 b269_2 b270 b270_0 b270_1 b270_2 r271 r272 r273 r274 r276 hw275; have ne304 : w.heap.size ≠ w287.heap.size := (by omega); have ne305 : w.heap.size + 1 ≠ w287.heap.size := (by omega); have ne306 : bx51 ≠ w287.heap.size := (by omega); have ne307 : w73.heap.size ≠ w287.heap.size := (by omega); have ne308 : bx134 ≠ w287.heap.size := (by omega); have ne309 : w287.heap.size ≠ w.heap.size := (by omega); have ne310 : w287.heap.size ≠ w.heap.size + 1 := (by omega); have ne311 : w287.heap.size ≠ bx51 := (by omega); have ne312 : w287.heap.size ≠ w73.heap.size := (by omega); have ne313 : w287.heap.size ≠ bx134 := (by omega)) | (go_at_call 41; refine (slideDo_any _ _ (a0) _ _ (by first | exact (OwnHall.at (h := a0) ⟨rfl, r302.out⟩) | exact (OwnHall.at (h := a0) ⟨rfl, (r302.out.keep (below_new _ _))⟩))).mono ?_; rintro e w314 ⟨cv319, rfl, ho320, hb315⟩; obtain ⟨ao321, cp322, rfl⟩ := ho320.slice; have h316 : Below w287.heap.size w287 w314 := (by first | exact hb315 | exact below_then (below_new _ _) hb315); have l317 := h316.size; have l318 := hb315.size; (try have kA := kA.keep h316); (try have kA := Blk3.keep (show Blk3 _ w287.heap.size _ _ _ from blk3_new w287 _ _ _ _) hb315); have hx323 := below_then hx292 h316; have b324 := b293.keep h316; have b324_0 := b324.c0; have b324_1 := b324.c1; have b324_2 := b324.c2; have b324_l := b324.lt; have b325 := b294.keep h316; have b325_0 := b325.c0; have b325_1 := b325.c1; have b325_l := b325.lt; have b326 := b295.keep h316; have b326_0 := b326.c0; have b326_1 := b326.c1; have b326_2 := b326.c2; have b326_l := b326.lt; have b327 := b296.keep h316; have b327_0 := b327.c0; have b327_1 := b327.c1; have b327_2 := b327.c2; have b327_l := b327.lt; have b328 := b297.keep h316; have b328_0 := b328.c0; have b328_1 := b328.c1; have b328_2 := b328.c2; have b328_l := b328.lt; have r329 := Lib.hid (r298.out.keep h316); have r330 := Lib.hid (r299.out.keep h316); have r331 := Lib.hid (r300.out.keep h316); have r332 := Lib.hid (r301.out.keep h316); have r333 := Lib.hid (r302.out.keep h316); have hw334 := Lib.hid (below_then hw303.out h316); have r335 := Lib.hid ho320; clear b293 b293_0 b293_1 b293_2 b294 b294_0 b294_1 b295 b295_0 b295_1 b295_2 b296 b296_0 b296_1 b296_2 b297 b297_0 b297_1 b297_2 r298 r299 r300 r301 r302 hw303 ho320; (try have kA_0 := kA.box.c0); (try have kA_1 := kA.box.c1); (try have kA_2 := kA.box.c2); (try have kA_3 := kA.f0); (try have kA_4 := kA.f1); (try have kA_5 := kA.f2)))
    all_goals
      go_wp2_with fail
      go_meet
      case rel =>
        (try simp at l263 l291 l318)
        first
        | exact ⟨_, _, _, _, rfl, rfl, box3_new w314 _ _ _ _, (r335.out.base (by (try simp); (try omega))).keep (below_new _ _), r335.out.blk, .inr (Nat.le_refl _), ⟨by omega, by simp, (by (try simp); (try omega)), (by (try simp); (try omega))⟩, below_then hx323 (below_new _ _)⟩
        | exact ⟨_, _, _, _, rfl, rfl, box3_store kA, OwnInts.base (((r335.out.setBelow (by (try simp); (try omega)) _).setBelow (by (try simp); (try omega)) _).setBelow (by (try simp); (try omega)) _) (by (try simp); (try omega)), r335.out.blk, .inl (by (try simp); (try omega)), ⟨(by (try simp); (try omega)), (by (try simp); (try omega)), (by (try simp); (try omega)), (by (try simp); (try omega))⟩, ((hx323.setCell (by (try simp); (try omega)) _).setCell (by (try simp); (try omega)) _).setCell (by (try simp); (try omega)) _⟩
  obtain ⟨bx336, v337, lo338, hi339, rfl, rfl, b351, ho352, k353, hd354, hd355, hb356⟩ := hcut
  rename World => w350
  obtain ⟨ao357, cp358, rfl⟩ := ho352.slice
  have z360 : w246.heap.size ≤ w350.heap.size := (by have hsz := hb356.size; first | exact hsz | (simp at hsz; omega))
  have b361 := (b249).keep hb356
  have b361_0 := b361.c0
  have b361_1 := b361.c1
  have b361_2 := b361.c2
  have b361_l := b361.lt
  have b362 := (b250).keep hb356
  have b362_0 := b362.c0
  have b362_1 := b362.c1
  have b362_l := b362.lt
  have b363 := (b251).keep hb356
  have b363_0 := b363.c0
  have b363_1 := b363.c1
  have b363_2 := b363.c2
  have b363_l := b363.lt
  have b364 := (b252).keep hb356
  have b364_0 := b364.c0
  have b364_1 := b364.c1
  have b364_2 := b364.c2
  have b364_l := b364.lt
  have b365 := (b253).keep hb356
  have b365_0 := b365.c0
  have b365_1 := b365.c1
  have b365_2 := b365.c2
  have b365_l := b365.lt
  have r366 := Lib.hid ((r254.out).keep hb356)
  have r367 := Lib.hid ((r255.out).keep hb356)
  have r368 := Lib.hid ((r256.out).keep hb356)
  have r369 := Lib.hid ((r257.out).keep hb356)
  have hw370 := Lib.hid (below_then hw258.out hb356)
  clear b249 b249_0 b249_1 b249_2 b249_l b250 b250_0 b250_1 b250_l b251 b251_0 b251_1 b251_2 b251_l b252 b252_0 b252_1 b252_2 b252_l b253 b253_0 b253_1 b253_2 b253_l r254 r255 r256 r257 hw258 hb356
  have b351_0 := b351.c0
  have b351_1 := b351.c1
  have b351_2 := b351.c2
  have b351_l := b351.lt
  have r359 := Lib.hid ho352
  clear ho352
  have k353h := Lib.hid k353
  clear k353
  go_wp2_with fail
  refine (eqHall_same _ _ _ (((slideDoF a0 a1 b1).1)) (OwnHall.at (h := ((slideDoF a0 a1 b1).1)) ⟨rfl, r359.out⟩) (OwnHall.at (h := ((slideDoF a0 a1 b1).1)) ⟨rfl, r366.out⟩)).mono ?_
  rintro e w371 ⟨rfl, hb372⟩
  have z373 : w350.heap.size ≤ w371.heap.size := (by have hsz := hb372.size; first | exact hsz | (simp at hsz; omega))
  have b374 := (b361).keep hb372
  have b374_0 := b374.c0
  have b374_1 := b374.c1
  have b374_2 := b374.c2
  have b374_l := b374.lt
  have b375 := (b362).keep hb372
  have b375_0 := b375.c0
  have b375_1 := b375.c1
  have b375_l := b375.lt
  have b376 := (b363).keep hb372
  have b376_0 := b376.c0
  have b376_1 := b376.c1
  have b376_2 := b376.c2
  have b376_l := b376.lt
  have b377 := (b364).keep hb372
  have b377_0 := b377.c0
  have b377_1 := b377.c1
  have b377_2 := b377.c2
  have b377_l := b377.lt
  have b378 := (b365).keep hb372
  have b378_0 := b378.c0
  have b378_1 := b378.c1
  have b378_2 := b378.c2
  have b378_l := b378.lt
  have b379 := (b351).keep hb372
  have b379_0 := b379.c0
  have b379_1 := b379.c1
  have b379_2 := b379.c2
  have b379_l := b379.lt
  have r380 := Lib.hid ((r366.out).keep hb372)
  have r381 := Lib.hid ((r367.out).keep hb372)
  have r382 := Lib.hid ((r368.out).keep hb372)
  have r383 := Lib.hid ((r369.out).keep hb372)
  have r384 := Lib.hid ((r359.out).keep hb372)
  have hw385 := Lib.hid (below_then hw370.out hb372)
  clear b361 b361_0 b361_1 b361_2 b361_l b362 b362_0 b362_1 b362_l b363 b363_0 b363_1 b363_2 b363_l b364 b364_0 b364_1 b364_2 b364_l b365 b365_0 b365_1 b365_2 b365_l b351 b351_0 b351_1 b351_2 b351_l r366 r367 r368 r369 r359 hw370 hb372
  go_wp2_with fail
  refine (heldHall_any _ _ _ _ _ _ (r383.out).at (by omega) (by omega) (by unfold lim; omega)).mono ?_
  rintro e w386 ⟨rfl, hb387⟩
  have z388 : w371.heap.size ≤ w386.heap.size := (by have hsz := hb387.size; first | exact hsz | (simp at hsz; omega))
  have b389 := (b374).keep hb387
  have b389_0 := b389.c0
  have b389_1 := b389.c1
  have b389_2 := b389.c2
  have b389_l := b389.lt
  have b390 := (b375).keep hb387
  have b390_0 := b390.c0
  have b390_1 := b390.c1
  have b390_l := b390.lt
  have b391 := (b376).keep hb387
  have b391_0 := b391.c0
  have b391_1 := b391.c1
  have b391_2 := b391.c2
  have b391_l := b391.lt
  have b392 := (b377).keep hb387
  have b392_0 := b392.c0
  have b392_1 := b392.c1
  have b392_2 := b392.c2
  have b392_l := b392.lt
  have b393 := (b378).keep hb387
  have b393_0 := b393.c0
  have b393_1 := b393.c1
  have b393_2 := b393.c2
  have b393_l := b393.lt
  have b394 := (b379).keep hb387
  have b394_0 := b394.c0
  have b394_1 := b394.c1
  have b394_2 := b394.c2
  have b394_l := b394.lt
  have r395 := Lib.hid ((r380.out).keep hb387)
  have r396 := Lib.hid ((r381.out).keep hb387)
  have r397 := Lib.hid ((r382.out).keep hb387)
  have r398 := Lib.hid ((r383.out).keep hb387)
  have r399 := Lib.hid ((r384.out).keep hb387)
  have hw400 := Lib.hid (below_then hw385.out hb387)
  clear b374 b374_0 b374_1 b374_2 b374_l b375 b375_0 b375_1 b375_l b376 b376_0 b376_1 b376_2 b376_l b377 b377_0 b377_1 b377_2 b377_l b378 b378_0 b378_1 b378_2 b378_l b379 b379_0 b379_1 b379_2 b379_l r380 r381 r382 r383 r384 hw385 hb387
  go_wp2
  go_ret
  exact ⟨rfl, hw400.out⟩
  
set_option maxRecDepth 100000 in
theorem fnExactSlideDo_lifted (os : Os) (started : os.Started) (H : Type) (enc : TypeId × Value → H) :
    ReturnsInHanded {} Try.checked os 11 .any (Rows.fnExactSlideDoSpec.pre6 enc Try.prog Try.f11 Rows.fnExactSlideDoRow.domain false) (Rows.fnExactSlideDoSpec.post enc Try.prog Try.f11 false true false false) := by
  refine returnsInHanded_of_change (C := Try.checked) Try.own started (by kernel_rfl) Try.func11
    (ChangeSpec.witness6 (enc := enc) (C := Try.checked) false ⟨#[], #[.agg #[.int .i64 0, .int .i64 0, .slice none 0 0], .agg #[.int .i64 0, .int .i64 0]], []⟩ 8 (by kernel_rfl) (by kernel_rfl) (by kernel_rfl) (by kernel_rfl)) ?_
  intro W base args ds gs before hval0 hW hcnd _
  have hval : ∀ (j : Nat) t v, Try.f11.params[j]? = some t → args[j]? = some v → Value.okWide Try.prog W .any base t v := hval0
  have hW' := hW
  obtain ⟨p, q, hA0, hV, rfl, hfz, hnd⟩ := hW
  have hA : DataW.TrodAll enc Try.prog W 0 (fun _ => true) true Try.f11.params.toList args.toList ds p := hA0
  rw [Try.params11] at hA hval
  obtain ⟨v0, vs0, d0, ds0, p0, q0, hargs, rfl, rfl, h0, r0⟩ := trodAll_cons hA
  obtain ⟨v1, vs1, d1, ds1, p1, q1, rfl, rfl, rfl, h1, r1⟩ := trodAll_cons r0
  obtain ⟨rfl, rfl, rfl⟩ := trodAll_nil r1
  obtain rfl : args = #[v0, v1] := by cases args; simp_all
  obtain ⟨rfl, rfl⟩ := trodVars_none hV
  have lt0 := lt_of_trod h0
  obtain ⟨a0, w0⟩ := open_raw_hall (fun _ => rfl) (hval 0 24 v0 rfl rfl) h0
  have lt1 := lt_of_trod h1
  obtain ⟨a1, b1, rfl⟩ := open_raw_slide (hval 1 32 v1 rfl rfl) h1
  clear hA0 hval0
  refine (fnExactSlideDo_walk W v0 a0 w0 a1 b1).mono fun e W' ⟨he, bel⟩ => ?_
  subst he
  exact ⟨_, rfl, _, _, _, [], _, [], hW', trodAll_mk1 (shut_bool Try.underlying4 _), (trodAll_cons_mk (Below.trod Try.laidOut (by kernel_rfl) (of_decide_eq_true (by kernel_rfl)) h0 bel lt0) (trodAll_cons_mk (Below.trod Try.laidOut (by kernel_rfl) (of_decide_eq_true (by kernel_rfl)) h1 bel lt1) trodAll_mk0)), rfl, bel.frame _, fun h => by cases h⟩

theorem fnExactSlideDo_over : Rows.fnExactSlideDoRow.holds Try.pinned (OpenSpec.ofChange Rows.fnExactSlideDoSpec) :=
  OpenClaim.holds_of_wide 11 Try.f11 rfl rfl rfl rfl rfl rfl rfl ⟨rfl, rfl, rfl, rfl, rfl⟩ rfl rfl rfl rfl rfl (by kernel_rfl) Try.func11 (by kernel_rfl)
    (of_decide_eq_true (by kernel_rfl)) (by unfold Func.isWrapper; rw [if_neg (of_decide_eq_false (by kernel_rfl))]; exact ⟨rfl, rfl⟩)
    (fun os started H enc _ => fnExactSlideDo_lifted os started H enc)

theorem fnExactSlideDo_holds : Rows.FnExactSlideDoSaid := fnExactSlideDo_over

#print axioms fnExactSlideDo_holds

end Go.Proofs.Ytenblaghbolabaa
