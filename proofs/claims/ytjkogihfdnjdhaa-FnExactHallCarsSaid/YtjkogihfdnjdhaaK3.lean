/-
  HallPut.
-/
import Derived.Test.YtjkogihfdnjdhaaK2
set_option linter.unusedVariables false
namespace Go.Proofs.Ytjkogihfdnjdhaa
open Go Go.RowKit Go.Park

def putH (h : PHall) (x : Nat) (id : Int) : PHall := ⟨h.wide, h.deep, h.cells.set x id⟩
def hallPutF (h : PHall) (c id : Int) : PHall × Bool :=
  if validB h = true then
    (if 1 ≤ id ∧ hasCellB h c = true ∧ gi h.cells c.toNat = 0 then (if validB (putH h c.toNat id) = true then (putH h c.toNat id, true) else (h, false)) else (h, false))
  else (zeroHall, false)

set_option maxRecDepth 100000 in
set_option maxHeartbeats 4000000 in
theorem hallPut_any (w : World) (v : Value) (h : PHall) (c id : Int) (hv : HallAt w v h) :
    Calls Try.prog 61 #[v, .int .i64 c, .int .i64 id] w (GivesHallV (hallPutF h c id).1 (.bool (hallPutF h c id).2) w) := by
  have HV := Lib.hid hv
  obtain ⟨cv, rfl, ao, cp, rfl, hn, hcm, hx⟩ := hv
  have HX := Lib.hid hx
  clear hx
  obtain ⟨W, hW⟩ : ∃ W, W = (w.alloc (.cells #[.int .i64 h.wide, .int .i64 h.deep, .slice ao h.cells.length cp] 28)).alloc (.cells #[.int .i64 0, .int .i64 0, .slice none 0 0] 28) := ⟨_, rfl⟩
  have hWs : W.heap.size = w.heap.size + 1 + 1 := by rw [hW]; simp
  have hb0 : Hid (Below w.heap.size w W) := Lib.hid (by rw [hW]; exact below_new2 _ _ _)
  have b0 : Hid (Box3 W w.heap.size (.int .i64 h.wide) (.int .i64 h.deep) (.slice ao h.cells.length cp)) := Lib.hid (by rw [hW]; exact (box3_new w _ _ _ _).keep (below_new _ _))
  have r0 : Hid (Blk3 W (w.heap.size + 1) (.int .i64 0) (.int .i64 0) (.slice none 0 0)) := Lib.hid (by rw [hW]; exact blk3_second w _ _ _ _ _)
  cases hval : validB h
  · have H := Lib.hid (show hallPutF h c id = (zeroHall, false) by simp [hallPutF, hval])
    have HW := Lib.hid (valid_calls hval)
    clear hval
    go_enter Try.func61, Try.ntmps61
    go_wp2_with fail
    rw [← hW]
    clear hW
    refine (HW.out _ _ (HV.out.keep hb0.out)).mono ?_
    rintro e w1 ⟨rfl, hb⟩
    have r1 := r0.out.keep hb
    have r1_0 := r1.box.c0
    have r1_1 := r1.box.c1
    have r1_2 := r1.box.c2
    have f0 := r1.f0
    have f1 := r1.f1
    have f2 := r1.f2
    have HB := Lib.hid (below_then hb0.out hb)
    clear hb
    go_wp2
    refine bodyPost_ret (v := .tuple #[.agg #[.int .i64 0, .int .i64 0, .slice none 0 0], .bool false]) (by simp [results, Try.results61, go_sem, r1_0, r1_1, r1_2]) rfl ?_
    unfold GivesHallV; rw [H.out]
    exact ⟨_, rfl, ownInts_nil _ _, HB.out.setCell (by simp) _ |>.setCell (by simp) _ |>.setCell (by simp) _⟩
  have HW := Lib.hid (valid_calls hval)
  have HCP := Lib.hid (fun (W' : World) (v' : Value) (hh : HallAt W' v' h) => copyHall_any W' v' h hh (valid_ne hval))
  have hne := Lib.hid (valid_ne hval)
  have hlen := (valid_len hval).2
  by_cases hid : 1 ≤ id
  rotate_left
  · have H := Lib.hid (show hallPutF h c id = (h, false) by simp only [hallPutF]; rw [if_pos hval, if_neg (by rintro ⟨e, _⟩; omega)])
    clear hval
    go_enter Try.func61, Try.ntmps61
    go_wp2_with fail
    rw [← hW]
    clear hW
    refine (HW.out _ _ (HV.out.keep hb0.out)).mono ?_
    rintro e w1 ⟨rfl, hb⟩
    have b1 := b0.out.keep hb
    have b1_0 := b1.c0
    have b1_1 := b1.c1
    have b1_2 := b1.c2
    have b1_l := b1.lt
    have r1 := r0.out.keep hb
    have HB1 := Lib.hid (below_then hb0.out hb)
    have hz1 : w.heap.size + 1 + 1 ≤ w1.heap.size := by have := hb.size; omega
    clear hb
    go_wp2_with fail
    refine (HCP.out _ _ (HV.out.keep HB1.out)).mono ?_
    rintro e w2 ⟨cv2, rfl, ho2, hb2⟩
    obtain ⟨g, cap, rfl, hg1, hg2⟩ := ho2.head hne.out
    have b2 := b1.keep hb2
    have b2_0 := b2.c0
    have b2_1 := b2.c1
    have b2_2 := b2.c2
    have b2_l := b2.lt
    have r2 := r1.keep hb2
    have HO2 := Lib.hid ho2
    have HB2 := Lib.hid (below_then HB1.out hb2)
    have hz2 : w.heap.size + 1 + 1 ≤ w2.heap.size := by have := hb2.size; omega
    clear b1 b1_0 b1_1 b1_2 b1_l
    clear hb2 r1 ho2
    have r3 := r2.keep (below_new _ (.cells #[.int .i64 h.wide, .int .i64 h.deep, .slice (some ⟨g, 0, none⟩) h.cells.length cap] 28))
    have r3_0 := r3.box.c0
    have r3_1 := r3.box.c1
    have r3_2 := r3.box.c2
    have f0 := r3.f0
    have f1 := r3.f1
    have f2 := r3.f2
    go_wp2
    refine bodyPost_ret (v := .tuple #[.agg #[.int .i64 h.wide, .int .i64 h.deep, .slice (some ⟨g, 0, none⟩) h.cells.length cap], .bool false]) (by simp [results, Try.results61, go_sem, r3_0, r3_1, r3_2]) rfl ?_
    unfold GivesHallV; rw [H.out]
    refine ⟨_, rfl, ?_, (below_then HB2.out (below_new _ _)).setCell (by simp) _ |>.setCell (by simp) _ |>.setCell (by simp) _⟩
    exact ((((HO2.out.keep (below_new _ _)).setBelow (by simp; omega) _).setBelow (by simp; omega) _).setBelow (by simp; omega) _).base (by omega)
  cases h1 : hasCellB h c
  · have H := Lib.hid (show hallPutF h c id = (h, false) by simp only [hallPutF]; rw [if_pos hval, if_neg (by rintro ⟨_, e, _⟩; rw [h1] at e; cases e)])
    have HI := Lib.hid (hasCell_calls h1)
    clear hval h1
    go_enter Try.func61, Try.ntmps61
    go_wp2_with fail
    rw [← hW]
    clear hW
    refine (HW.out _ _ (HV.out.keep hb0.out)).mono ?_
    rintro e w1 ⟨rfl, hb⟩
    have b1 := b0.out.keep hb
    have b1_0 := b1.c0
    have b1_1 := b1.c1
    have b1_2 := b1.c2
    have b1_l := b1.lt
    have r1 := r0.out.keep hb
    have HB1 := Lib.hid (below_then hb0.out hb)
    have hz1 : w.heap.size + 1 + 1 ≤ w1.heap.size := by have := hb.size; omega
    clear hb
    go_wp2_with fail
    refine (HCP.out _ _ (HV.out.keep HB1.out)).mono ?_
    rintro e w2 ⟨cv2, rfl, ho2, hb2⟩
    obtain ⟨g, cap, rfl, hg1, hg2⟩ := ho2.head hne.out
    have b2 := b1.keep hb2
    have b2_0 := b2.c0
    have b2_1 := b2.c1
    have b2_2 := b2.c2
    have b2_l := b2.lt
    have r2 := r1.keep hb2
    have HO2 := Lib.hid ho2
    have HB2 := Lib.hid (below_then HB1.out hb2)
    have hz2 : w.heap.size + 1 + 1 ≤ w2.heap.size := by have := hb2.size; omega
    clear b1 b1_0 b1_1 b1_2 b1_l
    clear hb2 r1 ho2
    go_wp2_with fail
    refine (HI.out _ _ (HV.out.keep (below_then HB2.out (below_new _ _)))).mono ?_
    rintro e w3 ⟨rfl, hb3⟩
    have b3 := (b2.keep (below_new _ _)).keep hb3
    have b3_0 := b3.c0
    have b3_1 := b3.c1
    have b3_2 := b3.c2
    have b3_l := b3.lt
    have r3 := (r2.keep (below_new _ _)).keep hb3
    have d3 := (box3_new w2 _ _ _ _).keep hb3
    have d3_0 := d3.c0
    have d3_1 := d3.c1
    have d3_2 := d3.c2
    have d3_l := d3.lt
    have HO3 := Lib.hid ((HO2.out.keep (below_new _ _)).keep hb3)
    have HB3 := Lib.hid (below_then (below_then HB2.out (below_new _ _)) hb3)
    have hz3 : w2.heap.size < w3.heap.size := by have := hb3.size; simp at this; omega
    clear hb3
    have r3_0 := r3.box.c0
    have r3_1 := r3.box.c1
    have r3_2 := r3.box.c2
    have f0 := r3.f0
    have f1 := r3.f1
    have f2 := r3.f2
    go_wp2
    refine bodyPost_ret (v := .tuple #[.agg #[.int .i64 h.wide, .int .i64 h.deep, .slice (some ⟨g, 0, none⟩) h.cells.length cap], .bool false]) (by simp [results, Try.results61, go_sem, r3_0, r3_1, r3_2]) rfl ?_
    unfold GivesHallV; rw [H.out]
    refine ⟨_, rfl, ?_, HB3.out.setCell (by simp) _ |>.setCell (by simp) _ |>.setCell (by simp) _⟩
    exact (((HO3.out.setBelow (by simp; omega) _).setBelow (by simp; omega) _).setBelow (by simp; omega) _).base (by omega)
  have HI := Lib.hid (hasCell_calls h1)
  have e1 := hasCell_iff.1 h1
  obtain ⟨x, rfl⟩ := Int.eq_ofNat_of_zero_le e1.1
  have hxn : x < h.cells.length := by omega
  obtain ⟨b, o, rfl, hcx⟩ := HX.out x hxn
  have hbw : b < w.heap.size := cell_lt hcx
  by_cases hfree : gi h.cells x = 0
  rotate_left
  · have H : Hid (hallPutF h x id = (h, false)) := Lib.hid (by simp only [hallPutF]; rw [if_pos hval, if_neg (by rintro ⟨_, _, e⟩; exact hfree e)])
    have hne0 : (gi h.cells x != 0) = true := by simpa using hfree
    clear hval h1 hfree e1
    go_enter Try.func61, Try.ntmps61
    go_wp2_with fail
    rw [← hW]
    clear hW
    refine (HW.out _ _ (HV.out.keep hb0.out)).mono ?_
    rintro e w1 ⟨rfl, hb⟩
    have b1 := b0.out.keep hb
    have b1_0 := b1.c0
    have b1_1 := b1.c1
    have b1_2 := b1.c2
    have b1_l := b1.lt
    have r1 := r0.out.keep hb
    have HB1 := Lib.hid (below_then hb0.out hb)
    have hz1 : w.heap.size + 1 + 1 ≤ w1.heap.size := by have := hb.size; omega
    clear hb
    go_wp2_with fail
    refine (HCP.out _ _ (HV.out.keep HB1.out)).mono ?_
    rintro e w2 ⟨cv2, rfl, ho2, hb2⟩
    obtain ⟨g, cap, rfl, hg1, hg2⟩ := ho2.head hne.out
    have b2 := b1.keep hb2
    have b2_0 := b2.c0
    have b2_1 := b2.c1
    have b2_2 := b2.c2
    have b2_l := b2.lt
    have r2 := r1.keep hb2
    have HO2 := Lib.hid ho2
    have HB2 := Lib.hid (below_then HB1.out hb2)
    have hz2 : w.heap.size + 1 + 1 ≤ w2.heap.size := by have := hb2.size; omega
    clear b1 b1_0 b1_1 b1_2 b1_l
    clear hb2 r1 ho2
    go_wp2_with fail
    refine (HI.out _ _ (HV.out.keep (below_then HB2.out (below_new _ _)))).mono ?_
    rintro e w3 ⟨rfl, hb3⟩
    have b3 := (b2.keep (below_new _ _)).keep hb3
    have b3_0 := b3.c0
    have b3_1 := b3.c1
    have b3_2 := b3.c2
    have b3_l := b3.lt
    have r3 := (r2.keep (below_new _ _)).keep hb3
    have d3 := (box3_new w2 _ _ _ _).keep hb3
    have d3_0 := d3.c0
    have d3_1 := d3.c1
    have d3_2 := d3.c2
    have d3_l := d3.lt
    have HO3 := Lib.hid ((HO2.out.keep (below_new _ _)).keep hb3)
    have HB3 := Lib.hid (below_then (below_then HB2.out (below_new _ _)) hb3)
    have hz3 : w2.heap.size < w3.heap.size := by have := hb3.size; simp at this; omega
    clear hb3
    have cx := (HB3.out.cell (p := ⟨b, o + x, none⟩) hbw).trans hcx
    have r3_0 := r3.box.c0
    have r3_1 := r3.box.c1
    have r3_2 := r3.box.c2
    have f0 := r3.f0
    have f1 := r3.f1
    have f2 := r3.f2
    go_wp2
    refine bodyPost_ret (v := .tuple #[.agg #[.int .i64 h.wide, .int .i64 h.deep, .slice (some ⟨g, 0, none⟩) h.cells.length cap], .bool false]) (by simp [results, Try.results61, go_sem, r3_0, r3_1, r3_2]) rfl ?_
    unfold GivesHallV; rw [H.out]
    refine ⟨_, rfl, ?_, HB3.out.setCell (by simp) _ |>.setCell (by simp) _ |>.setCell (by simp) _⟩
    exact (((HO3.out.setBelow (by simp; omega) _).setBelow (by simp; omega) _).setBelow (by simp; omega) _).base (by omega)
  have hne0 : (gi h.cells x != 0) = false := by simpa using hfree
  have hset := (show hallPutF h x id = if validB (putH h x id) = true then (putH h x id, true) else (h, false) by simp only [hallPutF]; rw [if_pos hval, if_pos ⟨hid, h1, hfree⟩]; rfl)
  have HSET := Lib.hid hset
  clear hval h1 hfree hset e1
  go_enter Try.func61, Try.ntmps61
  go_wp2_with fail
  rw [← hW]
  clear hW
  refine (HW.out _ _ (HV.out.keep hb0.out)).mono ?_
  rintro e w1 ⟨rfl, hb⟩
  have b1 := b0.out.keep hb
  have b1_0 := b1.c0
  have b1_1 := b1.c1
  have b1_2 := b1.c2
  have b1_l := b1.lt
  have r1 := r0.out.keep hb
  have HB1 := Lib.hid (below_then hb0.out hb)
  have hz1 : w.heap.size + 1 + 1 ≤ w1.heap.size := by have := hb.size; omega
  clear hb
  go_wp2_with fail
  refine (HCP.out _ _ (HV.out.keep HB1.out)).mono ?_
  rintro e w2 ⟨cv2, rfl, ho2, hb2⟩
  obtain ⟨g, cap, rfl, hg1, hg2⟩ := ho2.head hne.out
  have b2 := b1.keep hb2
  have b2_0 := b2.c0
  have b2_1 := b2.c1
  have b2_2 := b2.c2
  have b2_l := b2.lt
  have r2 := r1.keep hb2
  have HO2 := Lib.hid ho2
  have HB2 := Lib.hid (below_then HB1.out hb2)
  have hz2 : w.heap.size + 1 + 1 ≤ w2.heap.size := by have := hb2.size; omega
  clear b1 b1_0 b1_1 b1_2 b1_l
  clear hb2 r1 ho2
  go_wp2_with fail
  refine (HI.out _ _ (HV.out.keep (below_then HB2.out (below_new _ _)))).mono ?_
  rintro e w3 ⟨rfl, hb3⟩
  have b3 := (b2.keep (below_new _ _)).keep hb3
  have b3_0 := b3.c0
  have b3_1 := b3.c1
  have b3_2 := b3.c2
  have b3_l := b3.lt
  have r3 := (r2.keep (below_new _ _)).keep hb3
  have d3 := (box3_new w2 _ _ _ _).keep hb3
  have d3_0 := d3.c0
  have d3_1 := d3.c1
  have d3_2 := d3.c2
  have d3_l := d3.lt
  have HO3 := Lib.hid ((HO2.out.keep (below_new _ _)).keep hb3)
  have HB3 := Lib.hid (below_then (below_then HB2.out (below_new _ _)) hb3)
  have hz3 : w2.heap.size < w3.heap.size := by have := hb3.size; simp at this; omega
  clear hb3
  have cx := (HB3.out.cell (p := ⟨b, o + x, none⟩) hbw).trans hcx
  have cg := own_cell HO3.out hxn
  have fg := own_free HO3.out x
  have hbk := blk_some g h.cells.length cap
  have hg4 := grown_set (g := g) (grown_refl w3 (some g)) x (.int .i64 id)
  have HD := Lib.hid (d3.keepG (u := .slice (some ⟨g, 0, none⟩) h.cells.length cap) hg4 hbk (by omega))
  have HBX := Lib.hid (b3.keepG (u := .slice (some ⟨g, 0, none⟩) h.cells.length cap) hg4 hbk (by omega))
  have HR := Lib.hid (r3.keepG (u := .slice (some ⟨g, 0, none⟩) h.cells.length cap) hg4 hbk (by omega))
  have HO4 : Hid (OwnInts w1.heap.size (w3.setCell ⟨g, x, none⟩ (.int .i64 id)) (.slice (some ⟨g, 0, none⟩) h.cells.length cap) (h.cells.set x id)) := Lib.hid (own_store HO3.out x id)
  have HB4 := Lib.hid (below_grownG (u := .slice (some ⟨g, 0, none⟩) h.cells.length cap) HB3.out hg4 hbk (by omega))
  have dd0 := HD.out.c0
  have dd1 := HD.out.c1
  have dd2 := HD.out.c2
  clear hg4
  go_wp2_with fail
  have HA4 : Hid (HallAt (w3.setCell ⟨g, x, none⟩ (.int .i64 id)) (.agg #[.int .i64 h.wide, .int .i64 h.deep, .slice (some ⟨g, 0, none⟩) h.cells.length cap]) (putH h x id)) := Lib.hid (OwnHall.at (h := putH h x id) ⟨rfl, HO4.out⟩)
  cases hval2 : validB (putH h x id)
  · have HW2 := Lib.hid (valid_calls hval2)
    have H := Lib.hid (show hallPutF h x id = (h, false) by rw [HSET.out]; simp [hval2])
    refine (HW2.out _ _ HA4.out).mono ?_
    rintro e w5 ⟨rfl, hb5⟩
    have b5 := HBX.out.keep hb5
    have b5_0 := b5.c0
    have b5_1 := b5.c1
    have b5_2 := b5.c2
    have b5_l := b5.lt
    have r5 := HR.out.keep hb5
    have HB5 := Lib.hid (below_then HB4.out hb5)
    have hz5 : w2.heap.size < w5.heap.size := by have := hb5.size; simp at this; omega
    clear hb5
    go_wp2_with fail
    refine (HCP.out _ _ (HV.out.keep HB5.out)).mono ?_
    rintro e w6 ⟨cv6, rfl, ho6, hb6⟩
    obtain ⟨g6, cap6, rfl, hg61, hg62⟩ := ho6.head hne.out
    have r6 := r5.keep hb6
    have HO6 := Lib.hid ho6
    have HB6 := Lib.hid (below_then HB5.out hb6)
    have r6_0 := r6.box.c0
    have r6_1 := r6.box.c1
    have r6_2 := r6.box.c2
    have f0 := r6.f0
    have f1 := r6.f1
    have f2 := r6.f2
    clear hb6 ho6
    go_wp2
    refine bodyPost_ret (v := .tuple #[.agg #[.int .i64 h.wide, .int .i64 h.deep, .slice (some ⟨g6, 0, none⟩) h.cells.length cap6], .bool false]) (by simp [results, Try.results61, go_sem, r6_0, r6_1, r6_2]) rfl ?_
    unfold GivesHallV; rw [H.out]
    refine ⟨_, rfl, ?_, HB6.out.setCell (by simp) _ |>.setCell (by simp) _ |>.setCell (by simp) _⟩
    exact (((HO6.out.setBelow (by simp; omega) _).setBelow (by simp; omega) _).setBelow (by simp; omega) _).base (by omega)
  · have HW2 := Lib.hid (valid_calls hval2)
    have H := Lib.hid (show hallPutF h x id = (putH h x id, true) by rw [HSET.out]; simp [hval2])
    refine (HW2.out _ _ HA4.out).mono ?_
    rintro e w5 ⟨rfl, hb5⟩
    have d5 := HD.out.keep hb5
    have d5_0 := d5.c0
    have d5_1 := d5.c1
    have d5_2 := d5.c2
    have d5_l := d5.lt
    have r5 := HR.out.keep hb5
    have HO5 := Lib.hid (HO4.out.keep hb5)
    have HB5 := Lib.hid (below_then HB4.out hb5)
    have r5_0 := r5.box.c0
    have r5_1 := r5.box.c1
    have r5_2 := r5.box.c2
    have f0 := r5.f0
    have f1 := r5.f1
    have f2 := r5.f2
    clear hb5
    go_wp2
    refine bodyPost_ret (v := .tuple #[.agg #[.int .i64 h.wide, .int .i64 h.deep, .slice (some ⟨g, 0, none⟩) h.cells.length cap], .bool true]) (by simp [results, Try.results61, go_sem, r5_0, r5_1, r5_2]) rfl ?_
    unfold GivesHallV; rw [H.out]
    refine ⟨_, rfl, ?_, HB5.out.setCell (by simp) _ |>.setCell (by simp) _ |>.setCell (by simp) _⟩
    exact (((HO5.out.setBelow (by simp; omega) _).setBelow (by simp; omega) _).setBelow (by simp; omega) _).base (by omega)

set_option maxRecDepth 100000 in
set_option maxHeartbeats 4000000 in
theorem specHallPut_any (w : World) (v : Value) (h : PHall) (c id : Int) (hv : HallAt w v h) :
    Calls Try.prog 60 #[v, .int .i64 c, .int .i64 id] w (GivesHallV (hallPutF h c id).1 (.bool (hallPutF h c id).2) w) := by
  have HV := Lib.hid hv
  obtain ⟨cv, rfl, ao, cp, rfl, hn, hcm, hx⟩ := hv; rw [lim_eq] at hn
  have HX := Lib.hid hx
  clear hx
  obtain ⟨W, hW⟩ : ∃ W, W = (w.alloc (.cells #[.int .i64 h.wide, .int .i64 h.deep, .slice ao h.cells.length cp] 28)).alloc (.cells #[.int .i64 0, .int .i64 0, .slice none 0 0] 28) := ⟨_, rfl⟩
  have hWs : W.heap.size = w.heap.size + 1 + 1 := by rw [hW]; simp
  have hb0 : Hid (Below w.heap.size w W) := Lib.hid (by rw [hW]; exact below_new2 _ _ _)
  have b0 : Hid (Box3 W w.heap.size (.int .i64 h.wide) (.int .i64 h.deep) (.slice ao h.cells.length cp)) := Lib.hid (by rw [hW]; exact (box3_new w _ _ _ _).keep (below_new _ _))
  have r0 : Hid (Blk3 W (w.heap.size + 1) (.int .i64 0) (.int .i64 0) (.slice none 0 0)) := Lib.hid (by rw [hW]; exact blk3_second w _ _ _ _ _)
  cases hval : validB h
  · have H := Lib.hid (show hallPutF h c id = (zeroHall, false) by simp [hallPutF, hval])
    have HW := Lib.hid (specValid_calls hval)
    clear hval
    go_enter Try.func60, Try.ntmps60
    go_wp2_with fail
    rw [← hW]
    clear hW
    refine (HW.out _ _ (HV.out.keep hb0.out)).mono ?_
    rintro e w1 ⟨rfl, hb⟩
    have r1 := r0.out.keep hb
    have r1_0 := r1.box.c0
    have r1_1 := r1.box.c1
    have r1_2 := r1.box.c2
    have f0 := r1.f0
    have f1 := r1.f1
    have f2 := r1.f2
    have HB := Lib.hid (below_then hb0.out hb)
    clear hb
    go_wp2
    refine bodyPost_ret (v := .tuple #[.agg #[.int .i64 0, .int .i64 0, .slice none 0 0], .bool false]) (by simp [results, Try.results60, go_sem, r1_0, r1_1, r1_2]) rfl ?_
    unfold GivesHallV; rw [H.out]
    exact ⟨_, rfl, ownInts_nil _ _, HB.out.setCell (by simp) _ |>.setCell (by simp) _ |>.setCell (by simp) _⟩
  have HW := Lib.hid (specValid_calls hval)
  have HCP := Lib.hid (fun (W' : World) (v' : Value) (hh : HallAt W' v' h) => l1Hall_any W' v' h hh (valid_ne hval))
  have hne := Lib.hid (valid_ne hval)
  have hlen := (valid_len hval).2
  cases h1 : hasCellB h c
  · have H := Lib.hid (show hallPutF h c id = (h, false) by simp only [hallPutF]; rw [if_pos hval, if_neg (by rintro ⟨_, e, _⟩; rw [h1] at e; cases e)])
    have HI := Lib.hid (hasCell_gives h1)
    clear hval h1
    go_enter Try.func60, Try.ntmps60
    go_wp2_with fail
    rw [← hW]
    clear hW
    refine (HW.out _ _ (HV.out.keep hb0.out)).mono ?_
    rintro e w1 ⟨rfl, hb⟩
    have b1 := b0.out.keep hb
    have b1_0 := b1.c0
    have b1_1 := b1.c1
    have b1_2 := b1.c2
    have b1_l := b1.lt
    have r1 := r0.out.keep hb
    have HB1 := Lib.hid (below_then hb0.out hb)
    have hz1 : w.heap.size + 1 + 1 ≤ w1.heap.size := by have := hb.size; omega
    clear hb
    go_wp2_with fail
    refine (HCP.out _ _ (HV.out.keep HB1.out)).mono ?_
    rintro e w2 ⟨cv2, rfl, ho2, hb2⟩
    obtain ⟨g, cap, rfl, hg1, hg2⟩ := ho2.head hne.out
    have b2 := b1.keep hb2
    have b2_0 := b2.c0
    have b2_1 := b2.c1
    have b2_2 := b2.c2
    have b2_l := b2.lt
    have r2 := r1.keep hb2
    have HO2 := Lib.hid ho2
    have HB2 := Lib.hid (below_then HB1.out hb2)
    have hz2 : w.heap.size + 1 + 1 ≤ w2.heap.size := by have := hb2.size; omega
    clear b1 b1_0 b1_1 b1_2 b1_l
    clear hb2 r1 ho2
    go_wp2_with fail
    refine (HI.out _).mono ?_
    rintro e w3 ⟨rfl, hb3⟩
    have b3 := (b2.keep (below_new _ _)).keep hb3
    have b3_0 := b3.c0
    have b3_1 := b3.c1
    have b3_2 := b3.c2
    have b3_l := b3.lt
    have r3 := (r2.keep (below_new _ _)).keep hb3
    have d3 := (box3_new w2 _ _ _ _).keep hb3
    have d3_0 := d3.c0
    have d3_1 := d3.c1
    have d3_2 := d3.c2
    have d3_l := d3.lt
    have HO3 := Lib.hid ((HO2.out.keep (below_new _ _)).keep hb3)
    have HB3 := Lib.hid (below_then (below_then HB2.out (below_new _ _)) hb3)
    have hz3 : w2.heap.size < w3.heap.size := by have := hb3.size; simp at this; omega
    clear hb3
    have r3_0 := r3.box.c0
    have r3_1 := r3.box.c1
    have r3_2 := r3.box.c2
    have f0 := r3.f0
    have f1 := r3.f1
    have f2 := r3.f2
    go_wp2
    refine bodyPost_ret (v := .tuple #[.agg #[.int .i64 h.wide, .int .i64 h.deep, .slice (some ⟨g, 0, none⟩) h.cells.length cap], .bool false]) (by simp [results, Try.results60, go_sem, r3_0, r3_1, r3_2]) rfl ?_
    unfold GivesHallV; rw [H.out]
    refine ⟨_, rfl, ?_, HB3.out.setCell (by simp) _ |>.setCell (by simp) _ |>.setCell (by simp) _⟩
    exact (((HO3.out.setBelow (by simp; omega) _).setBelow (by simp; omega) _).setBelow (by simp; omega) _).base (by omega)
  have HI := Lib.hid (hasCell_gives h1)
  have e1 := hasCell_iff.1 h1
  obtain ⟨x, rfl⟩ := Int.eq_ofNat_of_zero_le e1.1
  have hxn : x < h.cells.length := by omega
  obtain ⟨b, o, rfl, hcx⟩ := HX.out x hxn
  have hbw : b < w.heap.size := cell_lt hcx
  by_cases hfree : gi h.cells x = 0
  rotate_left
  · have H : Hid (hallPutF h x id = (h, false)) := Lib.hid (by simp only [hallPutF]; rw [if_pos hval, if_neg (by rintro ⟨_, _, e⟩; exact hfree e)])
    have hne0 : (gi h.cells x != 0) = true := by simpa using hfree
    clear hval h1 hfree e1
    go_enter Try.func60, Try.ntmps60
    go_wp2_with fail
    rw [← hW]
    clear hW
    refine (HW.out _ _ (HV.out.keep hb0.out)).mono ?_
    rintro e w1 ⟨rfl, hb⟩
    have b1 := b0.out.keep hb
    have b1_0 := b1.c0
    have b1_1 := b1.c1
    have b1_2 := b1.c2
    have b1_l := b1.lt
    have r1 := r0.out.keep hb
    have HB1 := Lib.hid (below_then hb0.out hb)
    have hz1 : w.heap.size + 1 + 1 ≤ w1.heap.size := by have := hb.size; omega
    clear hb
    go_wp2_with fail
    refine (HCP.out _ _ (HV.out.keep HB1.out)).mono ?_
    rintro e w2 ⟨cv2, rfl, ho2, hb2⟩
    obtain ⟨g, cap, rfl, hg1, hg2⟩ := ho2.head hne.out
    have b2 := b1.keep hb2
    have b2_0 := b2.c0
    have b2_1 := b2.c1
    have b2_2 := b2.c2
    have b2_l := b2.lt
    have r2 := r1.keep hb2
    have HO2 := Lib.hid ho2
    have HB2 := Lib.hid (below_then HB1.out hb2)
    have hz2 : w.heap.size + 1 + 1 ≤ w2.heap.size := by have := hb2.size; omega
    clear b1 b1_0 b1_1 b1_2 b1_l
    clear hb2 r1 ho2
    go_wp2_with fail
    refine (HI.out _).mono ?_
    rintro e w3 ⟨rfl, hb3⟩
    have b3 := (b2.keep (below_new _ _)).keep hb3
    have b3_0 := b3.c0
    have b3_1 := b3.c1
    have b3_2 := b3.c2
    have b3_l := b3.lt
    have r3 := (r2.keep (below_new _ _)).keep hb3
    have d3 := (box3_new w2 _ _ _ _).keep hb3
    have d3_0 := d3.c0
    have d3_1 := d3.c1
    have d3_2 := d3.c2
    have d3_l := d3.lt
    have HO3 := Lib.hid ((HO2.out.keep (below_new _ _)).keep hb3)
    have HB3 := Lib.hid (below_then (below_then HB2.out (below_new _ _)) hb3)
    have hz3 : w2.heap.size < w3.heap.size := by have := hb3.size; simp at this; omega
    clear hb3
    have cx := (HB3.out.cell (p := ⟨b, o + x, none⟩) hbw).trans hcx
    have r3_0 := r3.box.c0
    have r3_1 := r3.box.c1
    have r3_2 := r3.box.c2
    have f0 := r3.f0
    have f1 := r3.f1
    have f2 := r3.f2
    go_wp2
    refine bodyPost_ret (v := .tuple #[.agg #[.int .i64 h.wide, .int .i64 h.deep, .slice (some ⟨g, 0, none⟩) h.cells.length cap], .bool false]) (by simp [results, Try.results60, go_sem, r3_0, r3_1, r3_2]) rfl ?_
    unfold GivesHallV; rw [H.out]
    refine ⟨_, rfl, ?_, HB3.out.setCell (by simp) _ |>.setCell (by simp) _ |>.setCell (by simp) _⟩
    exact (((HO3.out.setBelow (by simp; omega) _).setBelow (by simp; omega) _).setBelow (by simp; omega) _).base (by omega)
  by_cases hid : 1 ≤ id
  rotate_left
  · have H : Hid (hallPutF h x id = (h, false)) := Lib.hid (by simp only [hallPutF]; rw [if_pos hval, if_neg (by rintro ⟨e, _⟩; omega)])
    have hne0 : (gi h.cells x != 0) = false := by simpa using hfree
    clear hval h1 hfree e1
    go_enter Try.func60, Try.ntmps60
    go_wp2_with fail
    rw [← hW]
    clear hW
    refine (HW.out _ _ (HV.out.keep hb0.out)).mono ?_
    rintro e w1 ⟨rfl, hb⟩
    have b1 := b0.out.keep hb
    have b1_0 := b1.c0
    have b1_1 := b1.c1
    have b1_2 := b1.c2
    have b1_l := b1.lt
    have r1 := r0.out.keep hb
    have HB1 := Lib.hid (below_then hb0.out hb)
    have hz1 : w.heap.size + 1 + 1 ≤ w1.heap.size := by have := hb.size; omega
    clear hb
    go_wp2_with fail
    refine (HCP.out _ _ (HV.out.keep HB1.out)).mono ?_
    rintro e w2 ⟨cv2, rfl, ho2, hb2⟩
    obtain ⟨g, cap, rfl, hg1, hg2⟩ := ho2.head hne.out
    have b2 := b1.keep hb2
    have b2_0 := b2.c0
    have b2_1 := b2.c1
    have b2_2 := b2.c2
    have b2_l := b2.lt
    have r2 := r1.keep hb2
    have HO2 := Lib.hid ho2
    have HB2 := Lib.hid (below_then HB1.out hb2)
    have hz2 : w.heap.size + 1 + 1 ≤ w2.heap.size := by have := hb2.size; omega
    clear b1 b1_0 b1_1 b1_2 b1_l
    clear hb2 r1 ho2
    go_wp2_with fail
    refine (HI.out _).mono ?_
    rintro e w3 ⟨rfl, hb3⟩
    have b3 := (b2.keep (below_new _ _)).keep hb3
    have b3_0 := b3.c0
    have b3_1 := b3.c1
    have b3_2 := b3.c2
    have b3_l := b3.lt
    have r3 := (r2.keep (below_new _ _)).keep hb3
    have d3 := (box3_new w2 _ _ _ _).keep hb3
    have d3_0 := d3.c0
    have d3_1 := d3.c1
    have d3_2 := d3.c2
    have d3_l := d3.lt
    have HO3 := Lib.hid ((HO2.out.keep (below_new _ _)).keep hb3)
    have HB3 := Lib.hid (below_then (below_then HB2.out (below_new _ _)) hb3)
    have hz3 : w2.heap.size < w3.heap.size := by have := hb3.size; simp at this; omega
    clear hb3
    have cx := (HB3.out.cell (p := ⟨b, o + x, none⟩) hbw).trans hcx
    have r3_0 := r3.box.c0
    have r3_1 := r3.box.c1
    have r3_2 := r3.box.c2
    have f0 := r3.f0
    have f1 := r3.f1
    have f2 := r3.f2
    go_wp2
    refine bodyPost_ret (v := .tuple #[.agg #[.int .i64 h.wide, .int .i64 h.deep, .slice (some ⟨g, 0, none⟩) h.cells.length cap], .bool false]) (by simp [results, Try.results60, go_sem, r3_0, r3_1, r3_2]) rfl ?_
    unfold GivesHallV; rw [H.out]
    refine ⟨_, rfl, ?_, HB3.out.setCell (by simp) _ |>.setCell (by simp) _ |>.setCell (by simp) _⟩
    exact (((HO3.out.setBelow (by simp; omega) _).setBelow (by simp; omega) _).setBelow (by simp; omega) _).base (by omega)
  have hne0 : (gi h.cells x != 0) = false := by simpa using hfree
  have hset := (show hallPutF h x id = if validB (putH h x id) = true then (putH h x id, true) else (h, false) by simp only [hallPutF]; rw [if_pos hval, if_pos ⟨hid, h1, hfree⟩]; rfl)
  have HSET := Lib.hid hset
  clear hval h1 hfree hset e1
  go_enter Try.func60, Try.ntmps60
  go_wp2_with fail
  rw [← hW]
  clear hW
  refine (HW.out _ _ (HV.out.keep hb0.out)).mono ?_
  rintro e w1 ⟨rfl, hb⟩
  have b1 := b0.out.keep hb
  have b1_0 := b1.c0
  have b1_1 := b1.c1
  have b1_2 := b1.c2
  have b1_l := b1.lt
  have r1 := r0.out.keep hb
  have HB1 := Lib.hid (below_then hb0.out hb)
  have hz1 : w.heap.size + 1 + 1 ≤ w1.heap.size := by have := hb.size; omega
  clear hb
  go_wp2_with fail
  refine (HCP.out _ _ (HV.out.keep HB1.out)).mono ?_
  rintro e w2 ⟨cv2, rfl, ho2, hb2⟩
  obtain ⟨g, cap, rfl, hg1, hg2⟩ := ho2.head hne.out
  have b2 := b1.keep hb2
  have b2_0 := b2.c0
  have b2_1 := b2.c1
  have b2_2 := b2.c2
  have b2_l := b2.lt
  have r2 := r1.keep hb2
  have HO2 := Lib.hid ho2
  have HB2 := Lib.hid (below_then HB1.out hb2)
  have hz2 : w.heap.size + 1 + 1 ≤ w2.heap.size := by have := hb2.size; omega
  clear b1 b1_0 b1_1 b1_2 b1_l
  clear hb2 r1 ho2
  go_wp2_with fail
  refine (HI.out _).mono ?_
  rintro e w3 ⟨rfl, hb3⟩
  have b3 := (b2.keep (below_new _ _)).keep hb3
  have b3_0 := b3.c0
  have b3_1 := b3.c1
  have b3_2 := b3.c2
  have b3_l := b3.lt
  have r3 := (r2.keep (below_new _ _)).keep hb3
  have d3 := (box3_new w2 _ _ _ _).keep hb3
  have d3_0 := d3.c0
  have d3_1 := d3.c1
  have d3_2 := d3.c2
  have d3_l := d3.lt
  have HO3 := Lib.hid ((HO2.out.keep (below_new _ _)).keep hb3)
  have HB3 := Lib.hid (below_then (below_then HB2.out (below_new _ _)) hb3)
  have hz3 : w2.heap.size < w3.heap.size := by have := hb3.size; simp at this; omega
  clear hb3
  have cx := (HB3.out.cell (p := ⟨b, o + x, none⟩) hbw).trans hcx
  have cg := own_cell HO3.out hxn
  have fg := own_free HO3.out x
  have hbk := blk_some g h.cells.length cap
  have hg4 := grown_set (g := g) (grown_refl w3 (some g)) x (.int .i64 id)
  have HD := Lib.hid (d3.keepG (u := .slice (some ⟨g, 0, none⟩) h.cells.length cap) hg4 hbk (by omega))
  have HBX := Lib.hid (b3.keepG (u := .slice (some ⟨g, 0, none⟩) h.cells.length cap) hg4 hbk (by omega))
  have HR := Lib.hid (r3.keepG (u := .slice (some ⟨g, 0, none⟩) h.cells.length cap) hg4 hbk (by omega))
  have HO4 : Hid (OwnInts w1.heap.size (w3.setCell ⟨g, x, none⟩ (.int .i64 id)) (.slice (some ⟨g, 0, none⟩) h.cells.length cap) (h.cells.set x id)) := Lib.hid (own_store HO3.out x id)
  have HB4 := Lib.hid (below_grownG (u := .slice (some ⟨g, 0, none⟩) h.cells.length cap) HB3.out hg4 hbk (by omega))
  have dd0 := HD.out.c0
  have dd1 := HD.out.c1
  have dd2 := HD.out.c2
  clear hg4
  go_wp2_with fail
  have HA4 : Hid (HallAt (w3.setCell ⟨g, x, none⟩ (.int .i64 id)) (.agg #[.int .i64 h.wide, .int .i64 h.deep, .slice (some ⟨g, 0, none⟩) h.cells.length cap]) (putH h x id)) := Lib.hid (OwnHall.at (h := putH h x id) ⟨rfl, HO4.out⟩)
  cases hval2 : validB (putH h x id)
  · have HW2 := Lib.hid (specValid_calls hval2)
    have H := Lib.hid (show hallPutF h x id = (h, false) by rw [HSET.out]; simp [hval2])
    refine (HW2.out _ _ HA4.out).mono ?_
    rintro e w5 ⟨rfl, hb5⟩
    have b5 := HBX.out.keep hb5
    have b5_0 := b5.c0
    have b5_1 := b5.c1
    have b5_2 := b5.c2
    have b5_l := b5.lt
    have r5 := HR.out.keep hb5
    have HB5 := Lib.hid (below_then HB4.out hb5)
    have hz5 : w2.heap.size < w5.heap.size := by have := hb5.size; simp at this; omega
    clear hb5
    go_wp2_with fail
    refine (HCP.out _ _ (HV.out.keep HB5.out)).mono ?_
    rintro e w6 ⟨cv6, rfl, ho6, hb6⟩
    obtain ⟨g6, cap6, rfl, hg61, hg62⟩ := ho6.head hne.out
    have r6 := r5.keep hb6
    have HO6 := Lib.hid ho6
    have HB6 := Lib.hid (below_then HB5.out hb6)
    have r6_0 := r6.box.c0
    have r6_1 := r6.box.c1
    have r6_2 := r6.box.c2
    have f0 := r6.f0
    have f1 := r6.f1
    have f2 := r6.f2
    clear hb6 ho6
    go_wp2
    refine bodyPost_ret (v := .tuple #[.agg #[.int .i64 h.wide, .int .i64 h.deep, .slice (some ⟨g6, 0, none⟩) h.cells.length cap6], .bool false]) (by simp [results, Try.results60, go_sem, r6_0, r6_1, r6_2]) rfl ?_
    unfold GivesHallV; rw [H.out]
    refine ⟨_, rfl, ?_, HB6.out.setCell (by simp) _ |>.setCell (by simp) _ |>.setCell (by simp) _⟩
    exact (((HO6.out.setBelow (by simp; omega) _).setBelow (by simp; omega) _).setBelow (by simp; omega) _).base (by omega)
  · have HW2 := Lib.hid (specValid_calls hval2)
    have H := Lib.hid (show hallPutF h x id = (putH h x id, true) by rw [HSET.out]; simp [hval2])
    refine (HW2.out _ _ HA4.out).mono ?_
    rintro e w5 ⟨rfl, hb5⟩
    have d5 := HD.out.keep hb5
    have d5_0 := d5.c0
    have d5_1 := d5.c1
    have d5_2 := d5.c2
    have d5_l := d5.lt
    have r5 := HR.out.keep hb5
    have HO5 := Lib.hid (HO4.out.keep hb5)
    have HB5 := Lib.hid (below_then HB4.out hb5)
    have r5_0 := r5.box.c0
    have r5_1 := r5.box.c1
    have r5_2 := r5.box.c2
    have f0 := r5.f0
    have f1 := r5.f1
    have f2 := r5.f2
    clear hb5
    go_wp2
    refine bodyPost_ret (v := .tuple #[.agg #[.int .i64 h.wide, .int .i64 h.deep, .slice (some ⟨g, 0, none⟩) h.cells.length cap], .bool true]) (by simp [results, Try.results60, go_sem, r5_0, r5_1, r5_2]) rfl ?_
    unfold GivesHallV; rw [H.out]
    refine ⟨_, rfl, ?_, HB5.out.setCell (by simp) _ |>.setCell (by simp) _ |>.setCell (by simp) _⟩
    exact (((HO5.out.setBelow (by simp; omega) _).setBelow (by simp; omega) _).setBelow (by simp; omega) _).base (by omega)

end Go.Proofs.Ytjkogihfdnjdhaa
