/-
  Copies of halls, and SlideMay.
-/
import Derived.Test.YtjdgbdakkdljmaaDoorG
import Derived.Test.YtjdgbdakkdljmaaDoorS
set_option linter.unusedVariables false
namespace Go.Proofs.YtjdgbdakkdljmaaDoor
open Go Go.RowKit Go.Park

/-- whether a slide can be done -/
def slideMayB (h : PHall) (a b : Int) : Bool :=
  validB h && (hasCellB h a && (hasCellB h b && (decide (gi h.cells a.toNat ≠ 0) && (decide (gi h.cells b.toNat = 0) && decide (apartF h.wide a b = 1)))))
theorem valid_cell {h : PHall} (hv : validB h = true) {j : Nat} (hj : j < h.cells.length) : 0 ≤ gi h.cells j ∧ gi h.cells j ≤ 99 := by
  simp only [validB, Bool.and_eq_true] at hv
  have := okTo_iff.1 hv.2 j hj
  simp only [okAt, Bool.and_eq_true] at this
  exact inR_true.1 this.1

set_option maxHeartbeats 1000000 in
theorem slideMay_any (w : World) (v : Value) (h : PHall) (a b : Int) (hv : HallAt w v h) :
    Calls Tryd.prog 30 #[v, .agg #[.int .i64 a, .int .i64 b]] w (Gives (.bool (slideMayB h a b)) w) := by
  have HV := Lib.hid hv
  obtain ⟨cv, rfl, ao, c, rfl, hn, hcm, hx⟩ := hv
  have HX := Lib.hid hx
  clear hx
  cases hval : validB h
  · have H := Lib.hid (show slideMayB h a b = false by simp [slideMayB, hval])
    have HW := Lib.hid (valid_calls hval)
    clear hval
    go_enter Tryd.func30, Tryd.ntmps30
    go_wp2_with fail
    refine (HW.out _ _ (HV.out.keep (below_new2 _ _ _))).mono ?_
    rintro e w1 ⟨rfl, hb⟩
    have HB := Lib.hid (below_then (below_new2 _ _ _) hb)
    clear hb
    go_wp2
    go_ret
    exact gives_mk (by rw [H.out]; rfl) HB.out
  have HW := Lib.hid (valid_calls hval)
  cases h1 : hasCellB h a
  · have H := Lib.hid (show slideMayB h a b = false by simp [slideMayB, h1])
    have HI := Lib.hid (hasCell_calls h1)
    clear hval h1
    go_enter Tryd.func30, Tryd.ntmps30
    go_wp2_with fail
    refine (HW.out _ _ (HV.out.keep (below_new2 _ _ _))).mono ?_
    rintro e w1 ⟨rfl, hb⟩
    have b1 := ((box3_new w _ _ _ _).keep (below_new _ _)).keep hb
    have b1_0 := b1.c0
    have b1_1 := b1.c1
    have b1_2 := b1.c2
    have b1_l := b1.lt
    have d1 := (box2_second w _ _ _ _).keep hb
    have d1_0 := d1.c0
    have d1_1 := d1.c1
    have HB := Lib.hid (below_then (below_new2 _ _ _) hb)
    clear hb
    go_wp2_with fail
    refine (HI.out _ _ (HV.out.keep HB.out)).mono ?_
    rintro e w2 ⟨rfl, hb⟩
    have HB2 := Lib.hid (below_then HB.out hb)
    clear hb
    go_wp2
    go_ret
    exact gives_mk (by rw [H.out]; rfl) HB2.out
  have HI := Lib.hid (hasCell_calls h1)
  cases h2 : hasCellB h b
  · have H := Lib.hid (show slideMayB h a b = false by simp [slideMayB, h2])
    have HI2 := Lib.hid (hasCell_calls h2)
    clear hval h1 h2
    go_enter Tryd.func30, Tryd.ntmps30
    go_wp2_with fail
    refine (HW.out _ _ (HV.out.keep (below_new2 _ _ _))).mono ?_
    rintro e w1 ⟨rfl, hb⟩
    have b1 := ((box3_new w _ _ _ _).keep (below_new _ _)).keep hb
    have b1_0 := b1.c0
    have b1_1 := b1.c1
    have b1_2 := b1.c2
    have b1_l := b1.lt
    have d1 := (box2_second w _ _ _ _).keep hb
    have d1_0 := d1.c0
    have d1_1 := d1.c1
    have HB := Lib.hid (below_then (below_new2 _ _ _) hb)
    clear hb
    go_wp2_with fail
    refine (HI.out _ _ (HV.out.keep HB.out)).mono ?_
    rintro e w2 ⟨rfl, hb⟩
    have b2 := b1.keep hb
    have b2_0 := b2.c0
    have b2_1 := b2.c1
    have b2_2 := b2.c2
    have b2_l := b2.lt
    have d2 := d1.keep hb
    have d2_0 := d2.c0
    have d2_1 := d2.c1
    have HB2 := Lib.hid (below_then HB.out hb)
    clear hb
    go_wp2_with fail
    refine (HI2.out _ _ (HV.out.keep HB2.out)).mono ?_
    rintro e w3 ⟨rfl, hb⟩
    have HB3 := Lib.hid (below_then HB2.out hb)
    clear hb
    go_wp2
    go_ret
    exact gives_mk (by rw [H.out]; rfl) HB3.out
  have HI2 := Lib.hid (hasCell_calls h2)
  have HA := Lib.hid (fun W : World => apart_any W h.wide a b (valid_size hval).1 (cell_small hval h1) (cell_small hval h2))
  have hlen := (valid_len hval).2
  obtain ⟨n, hnn⟩ : ∃ n, n = h.cells.length := ⟨_, rfl⟩
  have e1 := hasCell_iff.1 h1
  have e2 := hasCell_iff.1 h2
  rw [← hnn] at HV HX hlen e1 e2 ⊢
  obtain ⟨x, rfl⟩ := Int.eq_ofNat_of_zero_le e1.1
  obtain ⟨y, rfl⟩ := Int.eq_ofNat_of_zero_le e2.1
  have hxn : x < n := by omega
  have hyn : y < n := by omega
  have H0 := Lib.hid (show slideMayB h x y = (decide (gi h.cells x ≠ 0) && (decide (gi h.cells y = 0) && decide (apartF h.wide x y = 1))) by simp [slideMayB, hval, h1, h2])
  obtain ⟨b0, o, rfl, hcx⟩ := HX.out x hxn
  obtain ⟨b', o', e, hcy⟩ := HX.out y hyn
  cases e
  have hbw : b0 < w.heap.size := cell_lt hcx
  clear hval h1 h2 e1 e2 hnn hn hcm
  by_cases h3 : gi h.cells x = 0
  · have H := Lib.hid (show slideMayB h x y = false by rw [H0.out]; simp [h3])
    have h3' : (gi h.cells x != 0) = false := by simpa using h3
    clear h3
    go_enter Tryd.func30, Tryd.ntmps30
    go_wp2_with fail
    refine (HW.out _ _ (HV.out.keep (below_new2 _ _ _))).mono ?_
    rintro e w1 ⟨rfl, hb⟩
    have b1 := ((box3_new w _ _ _ _).keep (below_new _ _)).keep hb
    have b1_0 := b1.c0
    have b1_1 := b1.c1
    have b1_2 := b1.c2
    have b1_l := b1.lt
    have d1 := (box2_second w _ _ _ _).keep hb
    have d1_0 := d1.c0
    have d1_1 := d1.c1
    have HB := Lib.hid (below_then (below_new2 _ _ _) hb)
    clear hb
    go_wp2_with fail
    refine (HI.out _ _ (HV.out.keep HB.out)).mono ?_
    rintro e w2 ⟨rfl, hb⟩
    have b2 := b1.keep hb
    have b2_0 := b2.c0
    have b2_1 := b2.c1
    have b2_2 := b2.c2
    have b2_l := b2.lt
    have d2 := d1.keep hb
    have d2_0 := d2.c0
    have d2_1 := d2.c1
    have HB2 := Lib.hid (below_then HB.out hb)
    clear hb
    go_wp2_with fail
    refine (HI2.out _ _ (HV.out.keep HB2.out)).mono ?_
    rintro e w3 ⟨rfl, hb⟩
    have b3 := b2.keep hb
    have b3_0 := b3.c0
    have b3_1 := b3.c1
    have b3_2 := b3.c2
    have b3_l := b3.lt
    have d3 := d2.keep hb
    have d3_0 := d3.c0
    have d3_1 := d3.c1
    have HB3 := Lib.hid (below_then HB2.out hb)
    have cx := (HB3.out.cell (p := ⟨b0, o + x, none⟩) hbw).trans hcx
    have cy := (HB3.out.cell (p := ⟨b0, o + y, none⟩) hbw).trans hcy
    clear hb
    go_wp2
    go_ret
    exact gives_mk (by rw [H.out]; rfl) HB3.out
  have h3' : (gi h.cells x != 0) = true := by simpa using h3
  by_cases h4 : gi h.cells y = 0
  rotate_left
  · have H := Lib.hid (show slideMayB h x y = false by rw [H0.out]; simp [h4])
    have h4' : (gi h.cells y == 0) = false := by simpa using h4
    clear h3 h4
    go_enter Tryd.func30, Tryd.ntmps30
    go_wp2_with fail
    refine (HW.out _ _ (HV.out.keep (below_new2 _ _ _))).mono ?_
    rintro e w1 ⟨rfl, hb⟩
    have b1 := ((box3_new w _ _ _ _).keep (below_new _ _)).keep hb
    have b1_0 := b1.c0
    have b1_1 := b1.c1
    have b1_2 := b1.c2
    have b1_l := b1.lt
    have d1 := (box2_second w _ _ _ _).keep hb
    have d1_0 := d1.c0
    have d1_1 := d1.c1
    have HB := Lib.hid (below_then (below_new2 _ _ _) hb)
    clear hb
    go_wp2_with fail
    refine (HI.out _ _ (HV.out.keep HB.out)).mono ?_
    rintro e w2 ⟨rfl, hb⟩
    have b2 := b1.keep hb
    have b2_0 := b2.c0
    have b2_1 := b2.c1
    have b2_2 := b2.c2
    have b2_l := b2.lt
    have d2 := d1.keep hb
    have d2_0 := d2.c0
    have d2_1 := d2.c1
    have HB2 := Lib.hid (below_then HB.out hb)
    clear hb
    go_wp2_with fail
    refine (HI2.out _ _ (HV.out.keep HB2.out)).mono ?_
    rintro e w3 ⟨rfl, hb⟩
    have b3 := b2.keep hb
    have b3_0 := b3.c0
    have b3_1 := b3.c1
    have b3_2 := b3.c2
    have b3_l := b3.lt
    have d3 := d2.keep hb
    have d3_0 := d3.c0
    have d3_1 := d3.c1
    have HB3 := Lib.hid (below_then HB2.out hb)
    have cx := (HB3.out.cell (p := ⟨b0, o + x, none⟩) hbw).trans hcx
    have cy := (HB3.out.cell (p := ⟨b0, o + y, none⟩) hbw).trans hcy
    clear hb
    go_wp2
    go_ret
    exact gives_mk (by rw [H.out]; rfl) HB3.out
  have h4' : (gi h.cells y == 0) = true := by simpa using h4
  have H := Lib.hid (show slideMayB h x y = decide (apartF h.wide x y = 1) by rw [H0.out]; simp [h3, h4])
  clear h3 h4
  go_enter Tryd.func30, Tryd.ntmps30
  go_wp2_with fail
  refine (HW.out _ _ (HV.out.keep (below_new2 _ _ _))).mono ?_
  rintro e w1 ⟨rfl, hb⟩
  have b1 := ((box3_new w _ _ _ _).keep (below_new _ _)).keep hb
  have b1_0 := b1.c0
  have b1_1 := b1.c1
  have b1_2 := b1.c2
  have b1_l := b1.lt
  have d1 := (box2_second w _ _ _ _).keep hb
  have d1_0 := d1.c0
  have d1_1 := d1.c1
  have HB := Lib.hid (below_then (below_new2 _ _ _) hb)
  clear hb
  go_wp2_with fail
  refine (HI.out _ _ (HV.out.keep HB.out)).mono ?_
  rintro e w2 ⟨rfl, hb⟩
  have b2 := b1.keep hb
  have b2_0 := b2.c0
  have b2_1 := b2.c1
  have b2_2 := b2.c2
  have b2_l := b2.lt
  have d2 := d1.keep hb
  have d2_0 := d2.c0
  have d2_1 := d2.c1
  have HB2 := Lib.hid (below_then HB.out hb)
  clear hb
  go_wp2_with fail
  refine (HI2.out _ _ (HV.out.keep HB2.out)).mono ?_
  rintro e w3 ⟨rfl, hb⟩
  have b3 := b2.keep hb
  have b3_0 := b3.c0
  have b3_1 := b3.c1
  have b3_2 := b3.c2
  have b3_l := b3.lt
  have d3 := d2.keep hb
  have d3_0 := d3.c0
  have d3_1 := d3.c1
  have HB3 := Lib.hid (below_then HB2.out hb)
  have cx := (HB3.out.cell (p := ⟨b0, o + x, none⟩) hbw).trans hcx
  have cy := (HB3.out.cell (p := ⟨b0, o + y, none⟩) hbw).trans hcy
  clear hb
  go_wp2_with fail
  refine (HA.out _).mono ?_
  rintro e w4 ⟨rfl, q2, rfl⟩
  go_wp2
  go_ret
  exact gives_mk (by rw [H.out]; rfl) (below_drewN HB3.out _)

set_option maxHeartbeats 1000000 in
theorem specSlideMay_any (w : World) (v : Value) (h : PHall) (a b : Int) (hv : HallAt w v h) :
    Calls Tryd.prog 77 #[v, .agg #[.int .i64 a, .int .i64 b]] w (Gives (.bool (slideMayB h a b)) w) := by
  have HV := Lib.hid hv
  obtain ⟨cv, rfl, ao, c, rfl, hn, hcm, hx⟩ := hv
  have HX := Lib.hid hx
  clear hx
  have HA := Lib.hid (fun (W : World) (v' : Value) (hh : HallAt W v' h) => specCellsApart_any W v' h a b hh)
  by_cases h1 : apartAt h a b = 1
  rotate_left
  · have H := Lib.hid (show slideMayB h a b = false by
      cases hm : slideMayB h a b with
      | false => rfl
      | true =>
        simp only [slideMayB, Bool.and_eq_true, decide_eq_true_eq] at hm
        exact absurd (by simp [apartAt, hm.1, hm.2.1, hm.2.2.1, hm.2.2.2.2.2]) h1)
    have h1' : (apartAt h a b == 1) = false := by simpa using h1
    clear h1
    go_enter Tryd.func77, Tryd.ntmps77
    go_wp2_with fail
    refine (HA.out _ _ (HV.out.keep (below_new2 _ _ _))).mono ?_
    rintro e w1 ⟨rfl, hb⟩
    have HB := Lib.hid (below_then (below_new2 _ _ _) hb)
    clear hb
    go_wp2
    go_ret
    exact gives_mk (by rw [H.out]; rfl) HB.out
  have h1' : (apartAt h a b == 1) = true := by simpa using h1
  have h1x := h1
  unfold apartAt at h1x
  by_cases h0 : validB h = true ∧ hasCellB h a = true ∧ hasCellB h b = true
  rotate_left
  · rw [if_neg h0] at h1x; exact absurd h1x (by omega)
  rw [if_pos h0] at h1x
  obtain ⟨hval, h2, h3⟩ := h0
  have hlen := (valid_len hval).2
  obtain ⟨n, hnn⟩ : ∃ n, n = h.cells.length := ⟨_, rfl⟩
  have e1 := hasCell_iff.1 h2
  have e2 := hasCell_iff.1 h3
  rw [← hnn] at HV HX hlen e1 e2 ⊢
  obtain ⟨x, rfl⟩ := Int.eq_ofNat_of_zero_le e1.1
  obtain ⟨y, rfl⟩ := Int.eq_ofNat_of_zero_le e2.1
  have hxn : x < n := by omega
  have hyn : y < n := by omega
  have hx0 := (valid_cell hval (j := x) (by omega)).1
  have H0 := Lib.hid (show slideMayB h x y = (decide (gi h.cells x ≠ 0) && decide (gi h.cells y = 0)) by simp [slideMayB, hval, h2, h3, h1x])
  obtain ⟨b0, o, rfl, hcx⟩ := HX.out x hxn
  obtain ⟨b', o', e, hcy⟩ := HX.out y hyn
  cases e
  have hbw : b0 < w.heap.size := cell_lt hcx
  clear hval h2 h3 e1 e2 hnn hn hcm h1 h1x
  by_cases h4 : 0 < gi h.cells x
  · by_cases h5 : gi h.cells y = 0
    all_goals
      have H := Lib.hid H0.out
      have hne : gi h.cells x ≠ 0 := by omega
      simp only [ne_eq, hne, not_false_eq_true, decide_true, Bool.true_and] at H
      have HH : Hid (slideMayB h x y = decide (gi h.cells y = 0)) := H
      have h5' : (gi h.cells y == 0) = decide (gi h.cells y = 0) := by rfl
      have H5 := Lib.hid h5
      first | rw [decide_eq_true h5] at h5' HH | rw [decide_eq_false h5] at h5' HH
      clear h5 hne H
      go_enter Tryd.func77, Tryd.ntmps77
      go_wp2_with fail
      refine (HA.out _ _ (HV.out.keep (below_new2 _ _ _))).mono ?_
      rintro e w1 ⟨rfl, hb⟩
      have b1 := ((box3_new w _ _ _ _).keep (below_new _ _)).keep hb
      have b1_0 := b1.c0
      have b1_1 := b1.c1
      have b1_2 := b1.c2
      have b1_l := b1.lt
      have d1 := (box2_second w _ _ _ _).keep hb
      have d1_0 := d1.c0
      have d1_1 := d1.c1
      have HB := Lib.hid (below_then (below_new2 _ _ _) hb)
      have cx := (HB.out.cell (p := ⟨b0, o + x, none⟩) hbw).trans hcx
      have cy := (HB.out.cell (p := ⟨b0, o + y, none⟩) hbw).trans hcy
      clear hb
      go_wp2
      go_ret
      exact gives_mk (by rw [HH.out]; rfl) HB.out
  · have hne : gi h.cells x = 0 := by omega
    have H := Lib.hid (show slideMayB h x y = false by rw [H0.out]; simp [hne])
    clear hne
    go_enter Tryd.func77, Tryd.ntmps77
    go_wp2_with fail
    refine (HA.out _ _ (HV.out.keep (below_new2 _ _ _))).mono ?_
    rintro e w1 ⟨rfl, hb⟩
    have b1 := ((box3_new w _ _ _ _).keep (below_new _ _)).keep hb
    have b1_0 := b1.c0
    have b1_1 := b1.c1
    have b1_2 := b1.c2
    have b1_l := b1.lt
    have d1 := (box2_second w _ _ _ _).keep hb
    have d1_0 := d1.c0
    have d1_1 := d1.c1
    have HB := Lib.hid (below_then (below_new2 _ _ _) hb)
    have cx := (HB.out.cell (p := ⟨b0, o + x, none⟩) hbw).trans hcx
    clear hb
    go_wp2
    go_ret
    exact gives_mk (by rw [H.out]; rfl) HB.out

end Go.Proofs.YtjdgbdakkdljmaaDoor
