/-
  HallTake.
-/
import Derived.Test.YtmkdafgcggpahaaDoorK
import Derived.BigRegion
set_option linter.unusedVariables false
namespace Go.Proofs.YtmkdafgcggpahaaDoor
open Go Go.RowKit Go.Park

/-- a call returns a hall of its own and a value -/
def GivesHallV (h : PHall) (x : Value) (w : World) (e : Ending) (w' : World) : Prop :=
  ∃ cv, e = .returned (.tuple #[.agg #[.int .i64 h.wide, .int .i64 h.deep, cv], x]) ∧ OwnInts w.heap.size w' cv h.cells ∧ Below w.heap.size w w'
def zeroHall : PHall := ⟨0, 0, []⟩
def hallTakeF (h : PHall) (c : Int) : PHall × Int :=
  if validB h = true then (if hasCellB h c = true then (⟨h.wide, h.deep, h.cells.set c.toNat 0⟩, gi h.cells c.toNat) else (h, 0)) else (zeroHall, 0)
theorem valid_ne {h : PHall} (hv : validB h = true) : h.cells ≠ [] := by
  have := (valid_len hv).1
  intro e
  rw [e] at this
  simp at this

set_option maxRecDepth 100000 in
set_option maxHeartbeats 4000000 in
theorem hallTake_any (w : World) (v : Value) (h : PHall) (c : Int) (hv : HallAt w v h) :
    Calls Tryd.prog 43 #[v, .int .i64 c] w (GivesHallV (hallTakeF h c).1 (.int .i64 (hallTakeF h c).2) w) := by
  have HV := Lib.hid hv
  obtain ⟨cv, rfl, ao, cp, rfl, hn, hcm, hx⟩ := hv
  have HX := Lib.hid hx
  clear hx
  obtain ⟨W, hW⟩ : ∃ W, W = (w.alloc (.cells #[.int .i64 h.wide, .int .i64 h.deep, .slice ao h.cells.length cp] 25)).alloc (.cells #[.int .i64 0, .int .i64 0, .slice none 0 0] 25) := ⟨_, rfl⟩
  have hWs : W.heap.size = w.heap.size + 1 + 1 := by rw [hW]; simp
  have hb0 : Hid (Below w.heap.size w W) := Lib.hid (by rw [hW]; exact below_new2 _ _ _)
  have b0 : Hid (Box3 W w.heap.size (.int .i64 h.wide) (.int .i64 h.deep) (.slice ao h.cells.length cp)) := Lib.hid (by rw [hW]; exact (box3_new w _ _ _ _).keep (below_new _ _))
  have r0 : Hid (Blk3 W (w.heap.size + 1) (.int .i64 0) (.int .i64 0) (.slice none 0 0)) := Lib.hid (by rw [hW]; exact blk3_second w _ _ _ _ _)
  cases hval : validB h
  · have H := Lib.hid (show hallTakeF h c = (zeroHall, 0) by simp [hallTakeF, hval])
    have HW := Lib.hid (valid_calls hval)
    clear hval
    go_enter Tryd.func43, Tryd.ntmps43
    go_wp2_with fail
    rw [← hW]
    clear hW
    refine (HW.out _ _ (HV.out.keep hb0.out)).mono ?_
    rintro e w1 ⟨rfl, hb⟩
    have r1 := r0.out.keep hb
    have r1_0 := r1.box.c0
    have r1_1 := r1.box.c1
    have r1_2 := r1.box.c2
    have f0 := r1.f0
    have f1 := r1.f1
    have f2 := r1.f2
    have HB := Lib.hid (below_then hb0.out hb)
    clear hb
    go_wp2
    refine bodyPost_ret (v := .tuple #[.agg #[.int .i64 0, .int .i64 0, .slice none 0 0], .int .i64 0]) (by simp [results, Tryd.results43, go_sem, r1_0, r1_1, r1_2]) rfl ?_
    unfold GivesHallV; rw [H.out]
    exact ⟨_, rfl, ownInts_nil _ _, HB.out.setCell (by simp) _ |>.setCell (by simp) _ |>.setCell (by simp) _⟩
  have HW := Lib.hid (valid_calls hval)
  have HCP := Lib.hid (fun (W' : World) (v' : Value) (hh : HallAt W' v' h) => copyHall_any W' v' h hh (valid_ne hval))
  have hne := Lib.hid (valid_ne hval)
  cases h1 : hasCellB h c
  · have H := Lib.hid (show hallTakeF h c = (h, 0) by simp [hallTakeF, hval, h1])
    have HI := Lib.hid (hasCell_calls h1)
    clear hval h1
    go_enter Tryd.func43, Tryd.ntmps43
    go_wp2_with fail
    rw [← hW]
    clear hW
    refine (HW.out _ _ (HV.out.keep hb0.out)).mono ?_
    rintro e w1 ⟨rfl, hb⟩
    have b1 := b0.out.keep hb
    have b1_0 := b1.c0
    have b1_1 := b1.c1
    have b1_2 := b1.c2
    have b1_l := b1.lt
    have r1 := r0.out.keep hb
    have HB1 := Lib.hid (below_then hb0.out hb)
    have hz1 : w.heap.size + 1 + 1 ≤ w1.heap.size := by have := hb.size; omega
    clear hb
    go_wp2_with fail
    refine (HCP.out _ _ (HV.out.keep HB1.out)).mono ?_
    rintro e w2 ⟨cv2, rfl, ho2, hb2⟩
    obtain ⟨g, cap, rfl, hg1, hg2⟩ := ho2.head hne.out
    have b2 := b1.keep hb2
    have b2_0 := b2.c0
    have b2_1 := b2.c1
    have b2_2 := b2.c2
    have b2_l := b2.lt
    have r2 := r1.keep hb2
    have HO2 := Lib.hid ho2
    have HB2 := Lib.hid (below_then HB1.out hb2)
    have hz2 : w.heap.size + 1 + 1 ≤ w2.heap.size := by have := hb2.size; omega
    clear b1 b1_0 b1_1 b1_2 b1_l
    clear hb2 r1 ho2
    go_wp2_with fail
    refine (HI.out _ _ (HV.out.keep (below_then HB2.out (below_new _ _)))).mono ?_
    rintro e w3 ⟨rfl, hb3⟩
    have b3 := (b2.keep (below_new _ _)).keep hb3
    have b3_0 := b3.c0
    have b3_1 := b3.c1
    have b3_2 := b3.c2
    have b3_l := b3.lt
    have r3 := (r2.keep (below_new _ _)).keep hb3
    have d3 := (box3_new w2 _ _ _ _).keep hb3
    have d3_0 := d3.c0
    have d3_1 := d3.c1
    have d3_2 := d3.c2
    have d3_l := d3.lt
    have HO3 := Lib.hid ((HO2.out.keep (below_new _ _)).keep hb3)
    have HB3 := Lib.hid (below_then (below_then HB2.out (below_new _ _)) hb3)
    have r3_0 := r3.box.c0
    have r3_1 := r3.box.c1
    have r3_2 := r3.box.c2
    have f0 := r3.f0
    have f1 := r3.f1
    have f2 := r3.f2
    clear hb3
    go_wp2
    refine bodyPost_ret (v := .tuple #[.agg #[.int .i64 h.wide, .int .i64 h.deep, .slice (some ⟨g, 0, none⟩) h.cells.length cap], .int .i64 0]) (by simp [results, Tryd.results43, go_sem, r3_0, r3_1, r3_2]) rfl ?_
    unfold GivesHallV; rw [H.out]
    refine ⟨_, rfl, ?_, HB3.out.setCell (by simp) _ |>.setCell (by simp) _ |>.setCell (by simp) _⟩
    exact (((HO3.out.setBelow (by simp; omega) _).setBelow (by simp; omega) _).setBelow (by simp; omega) _).base (by omega)
  have HI := Lib.hid (hasCell_calls h1)
  have hlen := (valid_len hval).2
  have e1 := hasCell_iff.1 h1
  obtain ⟨x, rfl⟩ := Int.eq_ofNat_of_zero_le e1.1
  have hxn : x < h.cells.length := by omega
  have H := Lib.hid (show hallTakeF h x = (⟨h.wide, h.deep, h.cells.set x 0⟩, gi h.cells x) by simp [hallTakeF, hval, h1])
  obtain ⟨b, o, rfl, hcx⟩ := HX.out x hxn
  have hbw : b < w.heap.size := cell_lt hcx
  clear hval h1 e1
  go_enter Tryd.func43, Tryd.ntmps43
  go_wp2_with fail
  rw [← hW]
  clear hW
  refine (HW.out _ _ (HV.out.keep hb0.out)).mono ?_
  rintro e w1 ⟨rfl, hb⟩
  have b1 := b0.out.keep hb
  have b1_0 := b1.c0
  have b1_1 := b1.c1
  have b1_2 := b1.c2
  have b1_l := b1.lt
  have r1 := r0.out.keep hb
  have HB1 := Lib.hid (below_then hb0.out hb)
  have hz1 : w.heap.size + 1 + 1 ≤ w1.heap.size := by have := hb.size; omega
  clear hb
  go_wp2_with fail
  refine (HCP.out _ _ (HV.out.keep HB1.out)).mono ?_
  rintro e w2 ⟨cv2, rfl, ho2, hb2⟩
  obtain ⟨g, cap, rfl, hg1, hg2⟩ := ho2.head hne.out
  have b2 := b1.keep hb2
  have b2_0 := b2.c0
  have b2_1 := b2.c1
  have b2_2 := b2.c2
  have b2_l := b2.lt
  have r2 := r1.keep hb2
  have HO2 := Lib.hid ho2
  have HB2 := Lib.hid (below_then HB1.out hb2)
  have hz2 : w.heap.size + 1 + 1 ≤ w2.heap.size := by have := hb2.size; omega
  clear b1 b1_0 b1_1 b1_2 b1_l
  clear hb2 r1 ho2
  go_wp2_with fail
  refine (HI.out _ _ (HV.out.keep (below_then HB2.out (below_new _ _)))).mono ?_
  rintro e w3 ⟨rfl, hb3⟩
  have b3 := (b2.keep (below_new _ _)).keep hb3
  have b3_0 := b3.c0
  have b3_1 := b3.c1
  have b3_2 := b3.c2
  have b3_l := b3.lt
  have r3 := (r2.keep (below_new _ _)).keep hb3
  have d3 := (box3_new w2 _ _ _ _).keep hb3
  have d3_0 := d3.c0
  have d3_1 := d3.c1
  have d3_2 := d3.c2
  have d3_l := d3.lt
  have HO3 := Lib.hid ((HO2.out.keep (below_new _ _)).keep hb3)
  have HB3 := Lib.hid (below_then (below_then HB2.out (below_new _ _)) hb3)
  have hz3 : w2.heap.size < w3.heap.size := by have := hb3.size; simp at this; omega
  have cg := own_cell HO3.out hxn
  have fg := own_free HO3.out x
  clear hb3
  go_wp2
  have hbk := blk_some g h.cells.length cap
  obtain ⟨w4, hw4⟩ : ∃ w4, w4 = w3.setCell ⟨g, x, none⟩ (.int .i64 0) := ⟨_, rfl⟩
  have hg4 := grown_set (g := g) (grown_refl w3 (some g)) x (.int .i64 0)
  rw [← hw4] at hg4 ⊢
  have b4 := b3.keepG (u := .slice (some ⟨g, 0, none⟩) h.cells.length cap) hg4 hbk (by omega)
  have b4_0 := b4.c0
  have b4_1 := b4.c1
  have b4_2 := b4.c2
  have b4_l := b4.lt
  have d4 := d3.keepG (u := .slice (some ⟨g, 0, none⟩) h.cells.length cap) hg4 hbk (by omega)
  have d4_0 := d4.c0
  have d4_1 := d4.c1
  have d4_2 := d4.c2
  have d4_l := d4.lt
  have r4 := r3.keepG (u := .slice (some ⟨g, 0, none⟩) h.cells.length cap) hg4 hbk (by omega)
  have HO4 : Hid (OwnInts w1.heap.size w4 _ _) := Lib.hid (by rw [hw4]; exact own_store HO3.out x 0)
  have HB4 := Lib.hid (below_grownG (u := .slice (some ⟨g, 0, none⟩) h.cells.length cap) HB3.out hg4 hbk (by omega))
  have r4_0 := r4.box.c0
  have r4_1 := r4.box.c1
  have r4_2 := r4.box.c2
  have f0 := r4.f0
  have f1 := r4.f1
  have f2 := r4.f2
  have cx := (HB4.out.cell (p := ⟨b, o + x, none⟩) hbw).trans hcx
  have hx0 : (0 : Int) ≤ x := by omega
  have hx1 : (x : Int) < h.cells.length := by omega
  clear b3 b3_0 b3_1 b3_2 b3_l
  clear d3 d3_0 d3_1 d3_2 d3_l
  clear hw4 hg4 r3 cg fg
  go_region
  all_goals
    go_wp2
    refine bodyPost_ret (v := .tuple #[.agg #[.int .i64 h.wide, .int .i64 h.deep, .slice (some ⟨g, 0, none⟩) h.cells.length cap], .int .i64 (gi h.cells x)]) (by simp [results, Tryd.results43, go_sem, r4_0, r4_1, r4_2]) rfl ?_
    unfold GivesHallV; rw [H.out]
    refine ⟨_, rfl, OwnInts.base (lo := w1.heap.size) ?_ (by omega), ?_⟩
    · repeat (first | exact HO4.out | (refine OwnInts.setBelow ?_ (by simp; omega) _) | (refine OwnInts.keep ?_ (below_drew1 _)))
    · repeat (first | exact HB4.out | (refine Below.setCell ?_ (by simp) _) | (refine Below.drew ?_))

theorem hasCell_gives {h : PHall} {c : Int} {r : Bool} (hr : hasCellB h c = r) : ∀ w' : World, Calls Tryd.prog 61 #[.int .i64 c, .int .i64 0, .int .i64 ((h.cells.length : Int) - 1)] w' (Gives (.bool r) w') := fun w' => tells_gives (l1In_has hr w')

set_option maxRecDepth 100000 in
set_option maxHeartbeats 4000000 in
theorem specHallTake_any (w : World) (v : Value) (h : PHall) (c : Int) (hv : HallAt w v h) :
    Calls Tryd.prog 44 #[v, .int .i64 c] w (GivesHallV (hallTakeF h c).1 (.int .i64 (hallTakeF h c).2) w) := by
  have HV := Lib.hid hv
  obtain ⟨cv, rfl, ao, cp, rfl, hn, hcm, hx⟩ := hv; rw [lim_eq] at hn
  have HX := Lib.hid hx
  clear hx
  obtain ⟨W, hW⟩ : ∃ W, W = (w.alloc (.cells #[.int .i64 h.wide, .int .i64 h.deep, .slice ao h.cells.length cp] 25)).alloc (.cells #[.int .i64 0, .int .i64 0, .slice none 0 0] 25) := ⟨_, rfl⟩
  have hWs : W.heap.size = w.heap.size + 1 + 1 := by rw [hW]; simp
  have hb0 : Hid (Below w.heap.size w W) := Lib.hid (by rw [hW]; exact below_new2 _ _ _)
  have b0 : Hid (Box3 W w.heap.size (.int .i64 h.wide) (.int .i64 h.deep) (.slice ao h.cells.length cp)) := Lib.hid (by rw [hW]; exact (box3_new w _ _ _ _).keep (below_new _ _))
  have r0 : Hid (Blk3 W (w.heap.size + 1) (.int .i64 0) (.int .i64 0) (.slice none 0 0)) := Lib.hid (by rw [hW]; exact blk3_second w _ _ _ _ _)
  cases hval : validB h
  · have H := Lib.hid (show hallTakeF h c = (zeroHall, 0) by simp [hallTakeF, hval])
    have HW := Lib.hid (specValid_calls hval)
    clear hval
    go_enter Tryd.func44, Tryd.ntmps44
    go_wp2_with fail
    rw [← hW]
    clear hW
    refine (HW.out _ _ (HV.out.keep hb0.out)).mono ?_
    rintro e w1 ⟨rfl, hb⟩
    have r1 := r0.out.keep hb
    have r1_0 := r1.box.c0
    have r1_1 := r1.box.c1
    have r1_2 := r1.box.c2
    have f0 := r1.f0
    have f1 := r1.f1
    have f2 := r1.f2
    have HB := Lib.hid (below_then hb0.out hb)
    clear hb
    go_wp2
    refine bodyPost_ret (v := .tuple #[.agg #[.int .i64 0, .int .i64 0, .slice none 0 0], .int .i64 0]) (by simp [results, Tryd.results44, go_sem, r1_0, r1_1, r1_2]) rfl ?_
    unfold GivesHallV; rw [H.out]
    exact ⟨_, rfl, ownInts_nil _ _, HB.out.setCell (by simp) _ |>.setCell (by simp) _ |>.setCell (by simp) _⟩
  have HW := Lib.hid (specValid_calls hval)
  have HCP := Lib.hid (fun (W' : World) (v' : Value) (hh : HallAt W' v' h) => l1Hall_any W' v' h hh (valid_ne hval))
  have hne := Lib.hid (valid_ne hval)
  cases h1 : hasCellB h c
  · have H := Lib.hid (show hallTakeF h c = (h, 0) by simp [hallTakeF, hval, h1])
    have HI := Lib.hid (hasCell_gives h1)
    clear hval h1
    go_enter Tryd.func44, Tryd.ntmps44
    go_wp2_with fail
    rw [← hW]
    clear hW
    refine (HW.out _ _ (HV.out.keep hb0.out)).mono ?_
    rintro e w1 ⟨rfl, hb⟩
    have b1 := b0.out.keep hb
    have b1_0 := b1.c0
    have b1_1 := b1.c1
    have b1_2 := b1.c2
    have b1_l := b1.lt
    have r1 := r0.out.keep hb
    have HB1 := Lib.hid (below_then hb0.out hb)
    have hz1 : w.heap.size + 1 + 1 ≤ w1.heap.size := by have := hb.size; omega
    clear hb
    go_wp2_with fail
    refine (HCP.out _ _ (HV.out.keep HB1.out)).mono ?_
    rintro e w2 ⟨cv2, rfl, ho2, hb2⟩
    obtain ⟨g, cap, rfl, hg1, hg2⟩ := ho2.head hne.out
    have b2 := b1.keep hb2
    have b2_0 := b2.c0
    have b2_1 := b2.c1
    have b2_2 := b2.c2
    have b2_l := b2.lt
    have r2 := r1.keep hb2
    have HO2 := Lib.hid ho2
    have HB2 := Lib.hid (below_then HB1.out hb2)
    have hz2 : w.heap.size + 1 + 1 ≤ w2.heap.size := by have := hb2.size; omega
    clear b1 b1_0 b1_1 b1_2 b1_l
    clear hb2 r1 ho2
    go_wp2_with fail
    refine (HI.out _).mono ?_
    rintro e w3 ⟨rfl, hb3⟩
    have b3 := (b2.keep (below_new _ _)).keep hb3
    have b3_0 := b3.c0
    have b3_1 := b3.c1
    have b3_2 := b3.c2
    have b3_l := b3.lt
    have r3 := (r2.keep (below_new _ _)).keep hb3
    have d3 := (box3_new w2 _ _ _ _).keep hb3
    have d3_0 := d3.c0
    have d3_1 := d3.c1
    have d3_2 := d3.c2
    have d3_l := d3.lt
    have HO3 := Lib.hid ((HO2.out.keep (below_new _ _)).keep hb3)
    have HB3 := Lib.hid (below_then (below_then HB2.out (below_new _ _)) hb3)
    have r3_0 := r3.box.c0
    have r3_1 := r3.box.c1
    have r3_2 := r3.box.c2
    have f0 := r3.f0
    have f1 := r3.f1
    have f2 := r3.f2
    clear hb3
    go_wp2
    refine bodyPost_ret (v := .tuple #[.agg #[.int .i64 h.wide, .int .i64 h.deep, .slice (some ⟨g, 0, none⟩) h.cells.length cap], .int .i64 0]) (by simp [results, Tryd.results44, go_sem, r3_0, r3_1, r3_2]) rfl ?_
    unfold GivesHallV; rw [H.out]
    refine ⟨_, rfl, ?_, HB3.out.setCell (by simp) _ |>.setCell (by simp) _ |>.setCell (by simp) _⟩
    exact (((HO3.out.setBelow (by simp; omega) _).setBelow (by simp; omega) _).setBelow (by simp; omega) _).base (by omega)
  have HI := Lib.hid (hasCell_gives h1)
  have hlen := (valid_len hval).2
  have e1 := hasCell_iff.1 h1
  obtain ⟨x, rfl⟩ := Int.eq_ofNat_of_zero_le e1.1
  have hxn : x < h.cells.length := by omega
  have H := Lib.hid (show hallTakeF h x = (⟨h.wide, h.deep, h.cells.set x 0⟩, gi h.cells x) by simp [hallTakeF, hval, h1])
  obtain ⟨b, o, rfl, hcx⟩ := HX.out x hxn
  have hbw : b < w.heap.size := cell_lt hcx
  clear hval h1 e1
  go_enter Tryd.func44, Tryd.ntmps44
  go_wp2_with fail
  rw [← hW]
  clear hW
  refine (HW.out _ _ (HV.out.keep hb0.out)).mono ?_
  rintro e w1 ⟨rfl, hb⟩
  have b1 := b0.out.keep hb
  have b1_0 := b1.c0
  have b1_1 := b1.c1
  have b1_2 := b1.c2
  have b1_l := b1.lt
  have r1 := r0.out.keep hb
  have HB1 := Lib.hid (below_then hb0.out hb)
  have hz1 : w.heap.size + 1 + 1 ≤ w1.heap.size := by have := hb.size; omega
  clear hb
  go_wp2_with fail
  refine (HCP.out _ _ (HV.out.keep HB1.out)).mono ?_
  rintro e w2 ⟨cv2, rfl, ho2, hb2⟩
  obtain ⟨g, cap, rfl, hg1, hg2⟩ := ho2.head hne.out
  have b2 := b1.keep hb2
  have b2_0 := b2.c0
  have b2_1 := b2.c1
  have b2_2 := b2.c2
  have b2_l := b2.lt
  have r2 := r1.keep hb2
  have HO2 := Lib.hid ho2
  have HB2 := Lib.hid (below_then HB1.out hb2)
  have hz2 : w.heap.size + 1 + 1 ≤ w2.heap.size := by have := hb2.size; omega
  clear b1 b1_0 b1_1 b1_2 b1_l
  clear hb2 r1 ho2
  go_wp2_with fail
  refine (HI.out _).mono ?_
  rintro e w3 ⟨rfl, hb3⟩
  have b3 := (b2.keep (below_new _ _)).keep hb3
  have b3_0 := b3.c0
  have b3_1 := b3.c1
  have b3_2 := b3.c2
  have b3_l := b3.lt
  have r3 := (r2.keep (below_new _ _)).keep hb3
  have d3 := (box3_new w2 _ _ _ _).keep hb3
  have d3_0 := d3.c0
  have d3_1 := d3.c1
  have d3_2 := d3.c2
  have d3_l := d3.lt
  have HO3 := Lib.hid ((HO2.out.keep (below_new _ _)).keep hb3)
  have HB3 := Lib.hid (below_then (below_then HB2.out (below_new _ _)) hb3)
  have hz3 : w2.heap.size < w3.heap.size := by have := hb3.size; simp at this; omega
  have cg := own_cell HO3.out hxn
  have fg := own_free HO3.out x
  clear hb3
  go_wp2
  have hbk := blk_some g h.cells.length cap
  obtain ⟨w4, hw4⟩ : ∃ w4, w4 = w3.setCell ⟨g, x, none⟩ (.int .i64 0) := ⟨_, rfl⟩
  have hg4 := grown_set (g := g) (grown_refl w3 (some g)) x (.int .i64 0)
  rw [← hw4] at hg4 ⊢
  have b4 := b3.keepG (u := .slice (some ⟨g, 0, none⟩) h.cells.length cap) hg4 hbk (by omega)
  have b4_0 := b4.c0
  have b4_1 := b4.c1
  have b4_2 := b4.c2
  have b4_l := b4.lt
  have d4 := d3.keepG (u := .slice (some ⟨g, 0, none⟩) h.cells.length cap) hg4 hbk (by omega)
  have d4_0 := d4.c0
  have d4_1 := d4.c1
  have d4_2 := d4.c2
  have d4_l := d4.lt
  have r4 := r3.keepG (u := .slice (some ⟨g, 0, none⟩) h.cells.length cap) hg4 hbk (by omega)
  have HO4 : Hid (OwnInts w1.heap.size w4 _ _) := Lib.hid (by rw [hw4]; exact own_store HO3.out x 0)
  have HB4 := Lib.hid (below_grownG (u := .slice (some ⟨g, 0, none⟩) h.cells.length cap) HB3.out hg4 hbk (by omega))
  have r4_0 := r4.box.c0
  have r4_1 := r4.box.c1
  have r4_2 := r4.box.c2
  have f0 := r4.f0
  have f1 := r4.f1
  have f2 := r4.f2
  have cx := (HB4.out.cell (p := ⟨b, o + x, none⟩) hbw).trans hcx
  have hx0 : (0 : Int) ≤ x := by omega
  have hx1 : (x : Int) < h.cells.length := by omega
  clear b3 b3_0 b3_1 b3_2 b3_l
  clear d3 d3_0 d3_1 d3_2 d3_l
  clear hw4 hg4 r3 cg fg
  go_region
  all_goals
    go_wp2
    refine bodyPost_ret (v := .tuple #[.agg #[.int .i64 h.wide, .int .i64 h.deep, .slice (some ⟨g, 0, none⟩) h.cells.length cap], .int .i64 (gi h.cells x)]) (by simp [results, Tryd.results44, go_sem, r4_0, r4_1, r4_2]) rfl ?_
    unfold GivesHallV; rw [H.out]
    refine ⟨_, rfl, OwnInts.base (lo := w1.heap.size) ?_ (by omega), ?_⟩
    · repeat (first | exact HO4.out | (refine OwnInts.setBelow ?_ (by simp; omega) _) | (refine OwnInts.keep ?_ (below_drew1 _)))
    · repeat (first | exact HB4.out | (refine Below.setCell ?_ (by simp) _) | (refine Below.drew ?_))

end Go.Proofs.YtmkdafgcggpahaaDoor
