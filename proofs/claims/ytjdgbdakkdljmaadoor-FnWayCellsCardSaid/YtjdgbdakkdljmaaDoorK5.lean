/-
  SlideDo.
-/
import Derived.Test.YtjdgbdakkdljmaaDoorK4
import Derived.Test.YtjdgbdakkdljmaaDoorH
set_option linter.unusedVariables false
namespace Go.Proofs.YtjdgbdakkdljmaaDoor
open Go Go.RowKit Go.Park

def slidH (h : PHall) (a b : Nat) : PHall := ⟨h.wide, h.deep, (h.cells.set b (gi h.cells a)).set a 0⟩
def slideDoF (h : PHall) (a b : Int) : PHall × Bool :=
  if validB h = true then (if slideMayB h a b = true then (slidH h a.toNat b.toNat, true) else (h, false)) else (zeroHall, false)
theorem may_cells {h : PHall} {a b : Int} (hm : slideMayB h a b = true) : hasCellB h a = true ∧ hasCellB h b = true ∧ gi h.cells a.toNat ≠ 0 ∧ gi h.cells b.toNat = 0 ∧ apartF h.wide a b = 1 := by
  simp only [slideMayB, Bool.and_eq_true, decide_eq_true_eq] at hm
  exact ⟨hm.2.1, hm.2.2.1, hm.2.2.2.1, hm.2.2.2.2.1, hm.2.2.2.2.2⟩
theorem blk3_third (w : World) (o o' : Obj) (a b c : Value) (t : TypeId) : Blk3 (((w.alloc o).alloc o').alloc (.cells #[a, b, c] t)) (w.heap.size + 1 + 1) a b c := by
  have := blk3_new ((w.alloc o).alloc o') a b c t
  simpa using this
theorem below_new3 (w : World) (o o' o'' : Obj) : Below w.heap.size w (((w.alloc o).alloc o').alloc o'') := below_then (below_new2 _ _ _) (below_new _ _)

theorem slideMay_calls {h : PHall} {a b : Int} {r : Bool} (hr : slideMayB h a b = r) : ∀ (w' : World) (v : Value), HallAt w' v h → Calls Tryd.prog 30 #[v, .agg #[.int .i64 a, .int .i64 b]] w' (Gives (.bool r) w') := fun w' v hh => by rw [← hr]; exact slideMay_any w' v h a b hh

set_option maxRecDepth 100000 in
set_option maxHeartbeats 4000000 in
theorem slideDo_any (w : World) (v : Value) (h : PHall) (a b : Int) (hv : HallAt w v h) :
    Calls Tryd.prog 35 #[v, .agg #[.int .i64 a, .int .i64 b]] w (GivesHallV (slideDoF h a b).1 (.bool (slideDoF h a b).2) w) := by
  have HV := Lib.hid hv
  obtain ⟨cv, rfl, ao, cp, rfl, hn, hcm, hx⟩ := hv
  have HX := Lib.hid hx
  clear hx
  obtain ⟨W, hW⟩ : ∃ W, W = ((w.alloc (.cells #[.int .i64 h.wide, .int .i64 h.deep, .slice ao h.cells.length cp] 25)).alloc (.cells #[.int .i64 a, .int .i64 b] 40)).alloc (.cells #[.int .i64 0, .int .i64 0, .slice none 0 0] 25) := ⟨_, rfl⟩
  have hWs : W.heap.size = w.heap.size + 1 + 1 + 1 := by rw [hW]; simp
  have hb0 : Hid (Below w.heap.size w W) := Lib.hid (by rw [hW]; exact below_new3 _ _ _ _)
  have b0 : Hid (Box3 W w.heap.size (.int .i64 h.wide) (.int .i64 h.deep) (.slice ao h.cells.length cp)) := Lib.hid (by rw [hW]; exact ((box3_new w _ _ _ _).keep (below_new _ _)).keep (below_new _ _))
  have s0 : Hid (Box2 W (w.heap.size + 1) (.int .i64 a) (.int .i64 b)) := Lib.hid (by rw [hW]; exact (box2_second w _ _ _ _).keep (below_new _ _))
  have r0 : Hid (Blk3 W (w.heap.size + 1 + 1) (.int .i64 0) (.int .i64 0) (.slice none 0 0)) := Lib.hid (by rw [hW]; exact blk3_third w _ _ _ _ _ _)
  cases hval : validB h
  · have H := Lib.hid (show slideDoF h a b = (zeroHall, false) by simp [slideDoF, hval])
    have HW := Lib.hid (valid_calls hval)
    clear hval
    go_enter Tryd.func35, Tryd.ntmps35
    go_wp2_with fail
    rw [← hW]
    clear hW
    refine (HW.out _ _ (HV.out.keep hb0.out)).mono ?_
    rintro e w1 ⟨rfl, hb⟩
    have r1 := r0.out.keep hb
    have r1_0 := r1.box.c0
    have r1_1 := r1.box.c1
    have r1_2 := r1.box.c2
    have f0 := r1.f0
    have f1 := r1.f1
    have f2 := r1.f2
    have HB := Lib.hid (below_then hb0.out hb)
    clear hb
    go_wp2
    refine bodyPost_ret (v := .tuple #[.agg #[.int .i64 0, .int .i64 0, .slice none 0 0], .bool false]) (by simp [results, Tryd.results35, go_sem, r1_0, r1_1, r1_2]) rfl ?_
    unfold GivesHallV; rw [H.out]
    exact ⟨_, rfl, ownInts_nil _ _, HB.out.setCell (by simp; omega) _ |>.setCell (by simp; omega) _ |>.setCell (by simp; omega) _⟩
  have HW := Lib.hid (valid_calls hval)
  have HCP := Lib.hid (fun (W' : World) (v' : Value) (hh : HallAt W' v' h) => copyHall_any W' v' h hh (valid_ne hval))
  have hne := Lib.hid (valid_ne hval)
  cases hm : slideMayB h a b
  · have H := Lib.hid (show slideDoF h a b = (h, false) by simp [slideDoF, hval, hm])
    have HI := Lib.hid (slideMay_calls hm)
    clear hval hm
    go_enter Tryd.func35, Tryd.ntmps35
    go_wp2_with fail
    rw [← hW]
    clear hW
    refine (HW.out _ _ (HV.out.keep hb0.out)).mono ?_
    rintro e w1 ⟨rfl, hb⟩
    have b1 := b0.out.keep hb
    have b1_0 := b1.c0
    have b1_1 := b1.c1
    have b1_2 := b1.c2
    have b1_l := b1.lt
    have s1 := s0.out.keep hb
    have r1 := r0.out.keep hb
    have HB1 := Lib.hid (below_then hb0.out hb)
    have hz1 : w.heap.size + 1 + 1 + 1 ≤ w1.heap.size := by have := hb.size; omega
    clear hb
    go_wp2_with fail
    refine (HCP.out _ _ (HV.out.keep HB1.out)).mono ?_
    rintro e w2 ⟨cv2, rfl, ho2, hb2⟩
    obtain ⟨g, cap, rfl, hg1, hg2⟩ := ho2.head hne.out
    have b2 := b1.keep hb2
    have b2_0 := b2.c0
    have b2_1 := b2.c1
    have b2_2 := b2.c2
    have b2_l := b2.lt
    have s2 := s1.keep hb2
    have s2_0 := s2.c0
    have s2_1 := s2.c1
    have s2_l := s2.lt
    have r2 := r1.keep hb2
    have HO2 := Lib.hid ho2
    have HB2 := Lib.hid (below_then HB1.out hb2)
    have hz2 : w.heap.size + 1 + 1 + 1 ≤ w2.heap.size := by have := hb2.size; omega
    clear b1 b1_0 b1_1 b1_2 b1_l
    clear hb2 r1 ho2 s1
    go_wp2_with fail
    refine (HI.out _ _ (HV.out.keep (below_then HB2.out (below_new _ _)))).mono ?_
    rintro e w3 ⟨rfl, hb3⟩
    have r3 := (r2.keep (below_new _ _)).keep hb3
    have d3 := (box3_new w2 _ _ _ _).keep hb3
    have d3_0 := d3.c0
    have d3_1 := d3.c1
    have d3_2 := d3.c2
    have d3_l := d3.lt
    have HO3 := Lib.hid ((HO2.out.keep (below_new _ _)).keep hb3)
    have HB3 := Lib.hid (below_then (below_then HB2.out (below_new _ _)) hb3)
    have r3_0 := r3.box.c0
    have r3_1 := r3.box.c1
    have r3_2 := r3.box.c2
    have f0 := r3.f0
    have f1 := r3.f1
    have f2 := r3.f2
    clear hb3
    go_wp2
    refine bodyPost_ret (v := .tuple #[.agg #[.int .i64 h.wide, .int .i64 h.deep, .slice (some ⟨g, 0, none⟩) h.cells.length cap], .bool false]) (by simp [results, Tryd.results35, go_sem, r3_0, r3_1, r3_2]) rfl ?_
    unfold GivesHallV; rw [H.out]
    refine ⟨_, rfl, ?_, HB3.out.setCell (by simp; omega) _ |>.setCell (by simp; omega) _ |>.setCell (by simp; omega) _⟩
    exact (((HO3.out.setBelow (by simp; omega) _).setBelow (by simp; omega) _).setBelow (by simp; omega) _).base (by omega)
  have HI := Lib.hid (slideMay_calls hm)
  obtain ⟨h1, h2, h3, h4, h5⟩ := may_cells hm
  have hlen := (valid_len hval).2
  have e1 := hasCell_iff.1 h1
  have e2 := hasCell_iff.1 h2
  obtain ⟨x, rfl⟩ := Int.eq_ofNat_of_zero_le e1.1
  obtain ⟨y, rfl⟩ := Int.eq_ofNat_of_zero_le e2.1
  have hxn : x < h.cells.length := by omega
  have hyn : y < h.cells.length := by omega
  have hxy : x ≠ y := by rintro rfl; exact h3 h4
  have H := Lib.hid (show slideDoF h x y = (slidH h x y, true) by simp [slideDoF, hval, hm])
  obtain ⟨b, o, rfl, hcx⟩ := HX.out x hxn
  have hbw : b < w.heap.size := cell_lt hcx
  clear hval hm h1 h2 h3 h4 h5 e1 e2
  go_enter Tryd.func35, Tryd.ntmps35
  go_wp2_with fail
  rw [← hW]
  clear hW
  refine (HW.out _ _ (HV.out.keep hb0.out)).mono ?_
  rintro e w1 ⟨rfl, hb⟩
  have b1 := b0.out.keep hb
  have b1_0 := b1.c0
  have b1_1 := b1.c1
  have b1_2 := b1.c2
  have b1_l := b1.lt
  have s1 := s0.out.keep hb
  have r1 := r0.out.keep hb
  have HB1 := Lib.hid (below_then hb0.out hb)
  have hz1 : w.heap.size + 1 + 1 + 1 ≤ w1.heap.size := by have := hb.size; omega
  clear hb
  go_wp2_with fail
  refine (HCP.out _ _ (HV.out.keep HB1.out)).mono ?_
  rintro e w2 ⟨cv2, rfl, ho2, hb2⟩
  obtain ⟨g, cap, rfl, hg1, hg2⟩ := ho2.head hne.out
  have b2 := b1.keep hb2
  have b2_0 := b2.c0
  have b2_1 := b2.c1
  have b2_2 := b2.c2
  have b2_l := b2.lt
  have s2 := s1.keep hb2
  have s2_0 := s2.c0
  have s2_1 := s2.c1
  have s2_l := s2.lt
  have r2 := r1.keep hb2
  have HO2 := Lib.hid ho2
  have HB2 := Lib.hid (below_then HB1.out hb2)
  have hz2 : w.heap.size + 1 + 1 + 1 ≤ w2.heap.size := by have := hb2.size; omega
  clear b1 b1_0 b1_1 b1_2 b1_l
  clear hb2 r1 ho2 s1
  go_wp2_with fail
  refine (HI.out _ _ (HV.out.keep (below_then HB2.out (below_new _ _)))).mono ?_
  rintro e w3 ⟨rfl, hb3⟩
  have b3 := (b2.keep (below_new _ _)).keep hb3
  have b3_0 := b3.c0
  have b3_1 := b3.c1
  have b3_2 := b3.c2
  have b3_l := b3.lt
  have s3 := (s2.keep (below_new _ _)).keep hb3
  have s3_0 := s3.c0
  have s3_1 := s3.c1
  have s3_l := s3.lt
  have r3 := (r2.keep (below_new _ _)).keep hb3
  have d3 := (box3_new w2 _ _ _ _).keep hb3
  have d3_0 := d3.c0
  have d3_1 := d3.c1
  have d3_2 := d3.c2
  have d3_l := d3.lt
  have HO3 := Lib.hid ((HO2.out.keep (below_new _ _)).keep hb3)
  have HB3 := Lib.hid (below_then (below_then HB2.out (below_new _ _)) hb3)
  have hz3 : w2.heap.size < w3.heap.size := by have := hb3.size; simp at this; omega
  have cx := (HB3.out.cell (p := ⟨b, o + x, none⟩) hbw).trans hcx
  have cg1 := own_cell HO3.out hxn
  have cg2 := own_cell HO3.out hyn
  have fg1 := own_free HO3.out x
  have fg2 := own_free HO3.out y
  have hx0 : (0 : Int) ≤ x := by omega
  have hx1 : (x : Int) < h.cells.length := by omega
  have hy0 : (0 : Int) ≤ y := by omega
  have hy1 : (y : Int) < h.cells.length := by omega
  clear b2 b2_0 b2_1 b2_2 b2_l
  clear hb3 s2 s2_0 s2_1 s2_l r2
  go_wp2
  go_region
  have hbk := blk_some g h.cells.length cap
  obtain ⟨w4, hw4⟩ : ∃ w4, w4 = (w3.setCell ⟨g, y, none⟩ (.int .i64 (gi h.cells x))).setCell ⟨g, x, none⟩ (.int .i64 0) := ⟨_, rfl⟩
  have hg4 := grown_set (g := g) (grown_set (g := g) (grown_refl w3 (some g)) y (.int .i64 (gi h.cells x))) x (.int .i64 0)
  rw [← hw4] at hg4 ⊢
  have d4 := d3.keepG (u := .slice (some ⟨g, 0, none⟩) h.cells.length cap) hg4 hbk (by omega)
  have d4_0 := d4.c0
  have d4_1 := d4.c1
  have d4_2 := d4.c2
  have d4_l := d4.lt
  have r4 := r3.keepG (u := .slice (some ⟨g, 0, none⟩) h.cells.length cap) hg4 hbk (by omega)
  have HO4 : Hid (OwnInts w1.heap.size w4 _ (slidH h x y).cells) := Lib.hid (by rw [hw4]; exact own_store (own_store HO3.out y (gi h.cells x)) x 0)
  have HB4 := Lib.hid (below_grownG (u := .slice (some ⟨g, 0, none⟩) h.cells.length cap) HB3.out hg4 hbk (by omega))
  have r4_0 := r4.box.c0
  have r4_1 := r4.box.c1
  have r4_2 := r4.box.c2
  have f0 := r4.f0
  have f1 := r4.f1
  have f2 := r4.f2
  clear b3 b3_0 b3_1 b3_2 b3_l
  clear d3 d3_0 d3_1 d3_2 d3_l
  clear hw4 hg4 r3 cg1 cg2 fg1 fg2 cx
  go_wp2
  refine bodyPost_ret (v := .tuple #[.agg #[.int .i64 h.wide, .int .i64 h.deep, .slice (some ⟨g, 0, none⟩) h.cells.length cap], .bool true]) (by simp [results, Tryd.results35, go_sem, r4_0, r4_1, r4_2]) rfl ?_
  unfold GivesHallV; rw [H.out]
  have HLn : (slidH h x y).cells.length = h.cells.length := by simp [slidH]
  refine ⟨_, rfl, OwnInts.base (lo := w1.heap.size) ?_ (by omega), ?_⟩
  · repeat (first | exact HO4.out | (refine OwnInts.setBelow ?_ (by simp; omega) _) | (refine OwnInts.keep ?_ (below_drew1 _)))
  · repeat (first | exact HB4.out | (refine Below.setCell ?_ (by (try simp); omega) _) | (refine Below.drew ?_))

theorem specSlideMay_calls {h : PHall} {a b : Int} {r : Bool} (hr : slideMayB h a b = r) : ∀ (w' : World) (v : Value), HallAt w' v h → Calls Tryd.prog 77 #[v, .agg #[.int .i64 a, .int .i64 b]] w' (Gives (.bool r) w') := fun w' v hh => by rw [← hr]; exact specSlideMay_any w' v h a b hh

set_option maxRecDepth 100000 in
set_option maxHeartbeats 4000000 in
theorem specSlideDo_any (w : World) (v : Value) (h : PHall) (a b : Int) (hv : HallAt w v h) :
    Calls Tryd.prog 36 #[v, .agg #[.int .i64 a, .int .i64 b]] w (GivesHallV (slideDoF h a b).1 (.bool (slideDoF h a b).2) w) := by
  have HV := Lib.hid hv
  obtain ⟨cv, rfl, ao, cp, rfl, hn, hcm, hx⟩ := hv; rw [lim_eq] at hn
  have HX := Lib.hid hx
  clear hx
  obtain ⟨W, hW⟩ : ∃ W, W = ((w.alloc (.cells #[.int .i64 h.wide, .int .i64 h.deep, .slice ao h.cells.length cp] 25)).alloc (.cells #[.int .i64 a, .int .i64 b] 40)).alloc (.cells #[.int .i64 0, .int .i64 0, .slice none 0 0] 25) := ⟨_, rfl⟩
  have hWs : W.heap.size = w.heap.size + 1 + 1 + 1 := by rw [hW]; simp
  have hb0 : Hid (Below w.heap.size w W) := Lib.hid (by rw [hW]; exact below_new3 _ _ _ _)
  have b0 : Hid (Box3 W w.heap.size (.int .i64 h.wide) (.int .i64 h.deep) (.slice ao h.cells.length cp)) := Lib.hid (by rw [hW]; exact ((box3_new w _ _ _ _).keep (below_new _ _)).keep (below_new _ _))
  have s0 : Hid (Box2 W (w.heap.size + 1) (.int .i64 a) (.int .i64 b)) := Lib.hid (by rw [hW]; exact (box2_second w _ _ _ _).keep (below_new _ _))
  have r0 : Hid (Blk3 W (w.heap.size + 1 + 1) (.int .i64 0) (.int .i64 0) (.slice none 0 0)) := Lib.hid (by rw [hW]; exact blk3_third w _ _ _ _ _ _)
  cases hval : validB h
  · have H := Lib.hid (show slideDoF h a b = (zeroHall, false) by simp [slideDoF, hval])
    have HW := Lib.hid (specValid_calls hval)
    clear hval
    go_enter Tryd.func36, Tryd.ntmps36
    go_wp2_with fail
    rw [← hW]
    clear hW
    refine (HW.out _ _ (HV.out.keep hb0.out)).mono ?_
    rintro e w1 ⟨rfl, hb⟩
    have r1 := r0.out.keep hb
    have r1_0 := r1.box.c0
    have r1_1 := r1.box.c1
    have r1_2 := r1.box.c2
    have f0 := r1.f0
    have f1 := r1.f1
    have f2 := r1.f2
    have HB := Lib.hid (below_then hb0.out hb)
    clear hb
    go_wp2
    refine bodyPost_ret (v := .tuple #[.agg #[.int .i64 0, .int .i64 0, .slice none 0 0], .bool false]) (by simp [results, Tryd.results36, go_sem, r1_0, r1_1, r1_2]) rfl ?_
    unfold GivesHallV; rw [H.out]
    exact ⟨_, rfl, ownInts_nil _ _, HB.out.setCell (by simp; omega) _ |>.setCell (by simp; omega) _ |>.setCell (by simp; omega) _⟩
  have HW := Lib.hid (specValid_calls hval)
  have HCP := Lib.hid (fun (W' : World) (v' : Value) (hh : HallAt W' v' h) => l1Hall_any W' v' h hh (valid_ne hval))
  have hne := Lib.hid (valid_ne hval)
  cases hm : slideMayB h a b
  · have H := Lib.hid (show slideDoF h a b = (h, false) by simp [slideDoF, hval, hm])
    have HI := Lib.hid (specSlideMay_calls hm)
    clear hval hm
    go_enter Tryd.func36, Tryd.ntmps36
    go_wp2_with fail
    rw [← hW]
    clear hW
    refine (HW.out _ _ (HV.out.keep hb0.out)).mono ?_
    rintro e w1 ⟨rfl, hb⟩
    have b1 := b0.out.keep hb
    have b1_0 := b1.c0
    have b1_1 := b1.c1
    have b1_2 := b1.c2
    have b1_l := b1.lt
    have s1 := s0.out.keep hb
    have r1 := r0.out.keep hb
    have HB1 := Lib.hid (below_then hb0.out hb)
    have hz1 : w.heap.size + 1 + 1 + 1 ≤ w1.heap.size := by have := hb.size; omega
    clear hb
    go_wp2_with fail
    refine (HCP.out _ _ (HV.out.keep HB1.out)).mono ?_
    rintro e w2 ⟨cv2, rfl, ho2, hb2⟩
    obtain ⟨g, cap, rfl, hg1, hg2⟩ := ho2.head hne.out
    have b2 := b1.keep hb2
    have b2_0 := b2.c0
    have b2_1 := b2.c1
    have b2_2 := b2.c2
    have b2_l := b2.lt
    have s2 := s1.keep hb2
    have s2_0 := s2.c0
    have s2_1 := s2.c1
    have s2_l := s2.lt
    have r2 := r1.keep hb2
    have HO2 := Lib.hid ho2
    have HB2 := Lib.hid (below_then HB1.out hb2)
    have hz2 : w.heap.size + 1 + 1 + 1 ≤ w2.heap.size := by have := hb2.size; omega
    clear b1 b1_0 b1_1 b1_2 b1_l
    clear hb2 r1 ho2 s1
    go_wp2_with fail
    refine (HI.out _ _ (HV.out.keep (below_then HB2.out (below_new _ _)))).mono ?_
    rintro e w3 ⟨rfl, hb3⟩
    have r3 := (r2.keep (below_new _ _)).keep hb3
    have d3 := (box3_new w2 _ _ _ _).keep hb3
    have d3_0 := d3.c0
    have d3_1 := d3.c1
    have d3_2 := d3.c2
    have d3_l := d3.lt
    have HO3 := Lib.hid ((HO2.out.keep (below_new _ _)).keep hb3)
    have HB3 := Lib.hid (below_then (below_then HB2.out (below_new _ _)) hb3)
    have r3_0 := r3.box.c0
    have r3_1 := r3.box.c1
    have r3_2 := r3.box.c2
    have f0 := r3.f0
    have f1 := r3.f1
    have f2 := r3.f2
    clear hb3
    go_wp2
    refine bodyPost_ret (v := .tuple #[.agg #[.int .i64 h.wide, .int .i64 h.deep, .slice (some ⟨g, 0, none⟩) h.cells.length cap], .bool false]) (by simp [results, Tryd.results36, go_sem, r3_0, r3_1, r3_2]) rfl ?_
    unfold GivesHallV; rw [H.out]
    refine ⟨_, rfl, ?_, HB3.out.setCell (by simp; omega) _ |>.setCell (by simp; omega) _ |>.setCell (by simp; omega) _⟩
    exact (((HO3.out.setBelow (by simp; omega) _).setBelow (by simp; omega) _).setBelow (by simp; omega) _).base (by omega)
  have HI := Lib.hid (specSlideMay_calls hm)
  obtain ⟨h1, h2, h3, h4, h5⟩ := may_cells hm
  have hlen := (valid_len hval).2
  have e1 := hasCell_iff.1 h1
  have e2 := hasCell_iff.1 h2
  obtain ⟨x, rfl⟩ := Int.eq_ofNat_of_zero_le e1.1
  obtain ⟨y, rfl⟩ := Int.eq_ofNat_of_zero_le e2.1
  have hxn : x < h.cells.length := by omega
  have hyn : y < h.cells.length := by omega
  have hxy : x ≠ y := by rintro rfl; exact h3 h4
  have H := Lib.hid (show slideDoF h x y = (slidH h x y, true) by simp [slideDoF, hval, hm])
  obtain ⟨b, o, rfl, hcx⟩ := HX.out x hxn
  have hbw : b < w.heap.size := cell_lt hcx
  clear hval hm h1 h2 h3 h4 h5 e1 e2
  go_enter Tryd.func36, Tryd.ntmps36
  go_wp2_with fail
  rw [← hW]
  clear hW
  refine (HW.out _ _ (HV.out.keep hb0.out)).mono ?_
  rintro e w1 ⟨rfl, hb⟩
  have b1 := b0.out.keep hb
  have b1_0 := b1.c0
  have b1_1 := b1.c1
  have b1_2 := b1.c2
  have b1_l := b1.lt
  have s1 := s0.out.keep hb
  have r1 := r0.out.keep hb
  have HB1 := Lib.hid (below_then hb0.out hb)
  have hz1 : w.heap.size + 1 + 1 + 1 ≤ w1.heap.size := by have := hb.size; omega
  clear hb
  go_wp2_with fail
  refine (HCP.out _ _ (HV.out.keep HB1.out)).mono ?_
  rintro e w2 ⟨cv2, rfl, ho2, hb2⟩
  obtain ⟨g, cap, rfl, hg1, hg2⟩ := ho2.head hne.out
  have b2 := b1.keep hb2
  have b2_0 := b2.c0
  have b2_1 := b2.c1
  have b2_2 := b2.c2
  have b2_l := b2.lt
  have s2 := s1.keep hb2
  have s2_0 := s2.c0
  have s2_1 := s2.c1
  have s2_l := s2.lt
  have r2 := r1.keep hb2
  have HO2 := Lib.hid ho2
  have HB2 := Lib.hid (below_then HB1.out hb2)
  have hz2 : w.heap.size + 1 + 1 + 1 ≤ w2.heap.size := by have := hb2.size; omega
  clear b1 b1_0 b1_1 b1_2 b1_l
  clear hb2 r1 ho2 s1
  go_wp2_with fail
  refine (HI.out _ _ (HV.out.keep (below_then HB2.out (below_new _ _)))).mono ?_
  rintro e w3 ⟨rfl, hb3⟩
  have b3 := (b2.keep (below_new _ _)).keep hb3
  have b3_0 := b3.c0
  have b3_1 := b3.c1
  have b3_2 := b3.c2
  have b3_l := b3.lt
  have s3 := (s2.keep (below_new _ _)).keep hb3
  have s3_0 := s3.c0
  have s3_1 := s3.c1
  have s3_l := s3.lt
  have r3 := (r2.keep (below_new _ _)).keep hb3
  have d3 := (box3_new w2 _ _ _ _).keep hb3
  have d3_0 := d3.c0
  have d3_1 := d3.c1
  have d3_2 := d3.c2
  have d3_l := d3.lt
  have HO3 := Lib.hid ((HO2.out.keep (below_new _ _)).keep hb3)
  have HB3 := Lib.hid (below_then (below_then HB2.out (below_new _ _)) hb3)
  have hz3 : w2.heap.size < w3.heap.size := by have := hb3.size; simp at this; omega
  have cx := (HB3.out.cell (p := ⟨b, o + x, none⟩) hbw).trans hcx
  have cg1 := own_cell HO3.out hxn
  have cg2 := own_cell HO3.out hyn
  have fg1 := own_free HO3.out x
  have fg2 := own_free HO3.out y
  have hx0 : (0 : Int) ≤ x := by omega
  have hx1 : (x : Int) < h.cells.length := by omega
  have hy0 : (0 : Int) ≤ y := by omega
  have hy1 : (y : Int) < h.cells.length := by omega
  clear b2 b2_0 b2_1 b2_2 b2_l
  clear hb3 s2 s2_0 s2_1 s2_l r2
  go_wp2
  go_region
  have hbk := blk_some g h.cells.length cap
  obtain ⟨w4, hw4⟩ : ∃ w4, w4 = (w3.setCell ⟨g, y, none⟩ (.int .i64 (gi h.cells x))).drew := ⟨_, rfl⟩
  have hg4 := grown_drew (grown_set (g := g) (grown_refl w3 (some g)) y (.int .i64 (gi h.cells x)))
  rw [← hw4] at hg4 ⊢
  have d4 := d3.keepG (u := .slice (some ⟨g, 0, none⟩) h.cells.length cap) hg4 hbk (by omega)
  have d4_0 := d4.c0
  have d4_1 := d4.c1
  have d4_2 := d4.c2
  have d4_l := d4.lt
  have s4 := s3.keepG (u := .slice (some ⟨g, 0, none⟩) h.cells.length cap) hg4 hbk (by omega)
  have s4_0 := s4.c0
  have s4_1 := s4.c1
  have r4 := r3.keepG (u := .slice (some ⟨g, 0, none⟩) h.cells.length cap) hg4 hbk (by omega)
  have HO4 : Hid (OwnInts w1.heap.size w4 (.slice (some ⟨g, 0, none⟩) h.cells.length cap) (h.cells.set y (gi h.cells x))) := Lib.hid (by rw [hw4]; exact (own_store HO3.out y (gi h.cells x)).keep (below_drew1 _))
  have HB4 := Lib.hid (below_grownG (u := .slice (some ⟨g, 0, none⟩) h.cells.length cap) HB3.out hg4 hbk (by omega))
  have cg4 := own_cell HO4.out (j := x) (by simpa using hxn)
  have fg4 := own_free HO4.out x
  have hg5 := grown_set (g := g) (grown_refl w4 (some g)) x (.int .i64 0)
  have d5 := d4.keepG (u := .slice (some ⟨g, 0, none⟩) h.cells.length cap) hg5 hbk (by omega)
  have d5_0 := d5.c0
  have d5_1 := d5.c1
  have d5_2 := d5.c2
  have d5_l := d5.lt
  have r5 := r4.keepG (u := .slice (some ⟨g, 0, none⟩) h.cells.length cap) hg5 hbk (by omega)
  have HO5 : Hid (OwnInts w1.heap.size (w4.setCell ⟨g, x, none⟩ (.int .i64 0)) _ (slidH h x y).cells) := Lib.hid (own_store HO4.out x 0)
  have HB5 := Lib.hid (below_grownG (u := .slice (some ⟨g, 0, none⟩) h.cells.length cap) HB4.out hg5 hbk (by omega))
  have r5_0 := r5.box.c0
  have r5_1 := r5.box.c1
  have r5_2 := r5.box.c2
  have f0 := r5.f0
  have f1 := r5.f1
  have f2 := r5.f2
  clear b3 b3_0 b3_1 b3_2 b3_l
  clear d3 d3_0 d3_1 d3_2 d3_l
  clear hw4 hg4 hg5 r3 r4 cg1 cg2 fg1 fg2 cx s3 s3_0 s3_1 s3_l
  go_wp2
  refine bodyPost_ret (v := .tuple #[.agg #[.int .i64 h.wide, .int .i64 h.deep, .slice (some ⟨g, 0, none⟩) h.cells.length cap], .bool true]) (by simp [results, Tryd.results36, go_sem, r5_0, r5_1, r5_2]) rfl ?_
  unfold GivesHallV; rw [H.out]
  have HLn : (slidH h x y).cells.length = h.cells.length := by simp [slidH]
  refine ⟨_, rfl, OwnInts.base (lo := w1.heap.size) ?_ (by omega), ?_⟩
  · repeat (first | exact HO5.out | (refine OwnInts.setBelow ?_ (by simp; omega) _) | (refine OwnInts.keep ?_ (below_drew1 _)))
  · repeat (first | exact HB5.out | (refine Below.setCell ?_ (by (try simp); omega) _) | (refine Below.drew ?_))

end Go.Proofs.YtjdgbdakkdljmaaDoor
