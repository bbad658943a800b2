/-
  How far cells lie apart.
-/
import Derived.Test.YtjdgbdakkdljmaaDoorE
import Derived.WalkLawsBesides
set_option linter.unusedVariables false
namespace Go.Proofs.YtjdgbdakkdljmaaDoor
open Go Go.RowKit Go.Park

def farF (x y : Int) : Int := max (x - y) (y - x)
def apartF (w a b : Int) : Int := farF (a % w) (b % w) + farF (a / w) (b / w)
theorem farF_max (x y : Int) : max (x - y) (-(x - y)) = farF x y := by unfold farF; congr 1; omega

theorem ret_num {x y : Int} (h : x = y) : Value.int .i64 x = Value.int .i64 y := by rw [h]

set_option maxHeartbeats 400000 in
theorem l1Far_any (w : World) (x y : Int) (h1 : 0 ≤ x ∧ x ≤ 1000) (h2 : 0 ≤ y ∧ y ≤ 1000) :
    Calls Tryd.prog 123 #[.int .i64 x, .int .i64 y] w (Tells (.int .i64 (farF x y)) w) := by
  obtain ⟨h1, h1'⟩ := h1
  obtain ⟨h2, h2'⟩ := h2
  have H : Hid (farF x y = max (x - y) (y - x)) := Lib.hid rfl
  go_enter Tryd.func123, Tryd.ntmps123
  go_wp2
  all_goals
    go_ret
    refine tells_mk ?_ (drew0 _)
    show Value.int IntKind.i64 _ = Value.int IntKind.i64 _
    rw [H.out]
    exact ret_num (by omega)

set_option maxHeartbeats 4000000 in
theorem l1Apart_any (W : World) (w a b : Int) (hw : 2 ≤ w ∧ w ≤ 4) (ha : 0 ≤ a ∧ a < 12) (hb : 0 ≤ b ∧ b < 12) :
    Calls Tryd.prog 108 #[.int .i64 w, .int .i64 a, .int .i64 b] W (Tells (.int .i64 (apartF w a b)) W) := by
  obtain ⟨a1, a2⟩ := ha
  obtain ⟨b1, b2⟩ := hb
  have hw' : w = 2 ∨ w = 3 ∨ w = 4 := by omega
  clear hw
  rcases hw' with rfl | rfl | rfl
  all_goals
    go_enter Tryd.func108, Tryd.ntmps108
    go_wp2
    go_quiet ((go_at_call 123; exact Calls.quiet_of (l1Far_any _ _ _ (by omega) (by omega))))
    go_wp2
    go_ret
    refine tells_mk ?_ (drewN1 _ _)
    show Value.int IntKind.i64 (wrap64 _) = Value.int IntKind.i64 _
    unfold apartF
    exact ret_num (IntWalk.wrap64_in _ (by unfold farF; omega))

set_option maxHeartbeats 4000000 in
theorem apart_any (W : World) (w a b : Int) (hw : 2 ≤ w ∧ w ≤ 4) (ha : 0 ≤ a ∧ a < 12) (hb : 0 ≤ b ∧ b < 12) :
    Calls Tryd.prog 76 #[.int .i64 w, .int .i64 a, .int .i64 b] W (Tells (.int .i64 (apartF w a b)) W) := by
  obtain ⟨a1, a2⟩ := ha
  obtain ⟨b1, b2⟩ := hb
  have hw' : w = 2 ∨ w = 3 ∨ w = 4 := by omega
  clear hw
  rcases hw' with rfl | rfl | rfl
  all_goals
    have H : Hid (∀ z, apartF z a b = farF (a % z) (b % z) + farF (a / z) (b / z)) := Lib.hid (fun _ => rfl)
    go_enter Tryd.func76, Tryd.ntmps76
    go_wp2
    go_quiet (fail)
    go_wp2
    go_quiet (fail)
    go_wp2
    all_goals
      go_ret
      refine tells_mk ?_ (by first | exact drewN1 _ _ | exact drewNN _ _ _)
      show Value.int IntKind.i64 _ = Value.int IntKind.i64 _
      rw [H.out]
      unfold farF
      exact ret_num (by omega)

/-! CellsApart -/
def apartAt (h : PHall) (a b : Int) : Int := if validB h = true ∧ hasCellB h a = true ∧ hasCellB h b = true then apartF h.wide a b else -1
theorem l1In_has {h : PHall} {c : Int} {r : Bool} (hr : hasCellB h c = r) : ∀ w' : World, Calls Tryd.prog 73 #[.int .i64 c, .int .i64 0, .int .i64 ((h.cells.length : Int) - 1)] w' (Tells (.bool r) w') := l1In_calls hr
theorem cell_small {h : PHall} {c : Int} (hv : validB h = true) (hc : hasCellB h c = true) : 0 ≤ c ∧ c < 12 := by
  have h1 := hasCell_iff.1 hc
  have h2 := valid_len hv
  omega

set_option maxHeartbeats 400000 in
theorem specCellsApart_any (w : World) (v : Value) (h : PHall) (a b : Int) (hv : HallAt w v h) :
    Calls Tryd.prog 85 #[v, .int .i64 a, .int .i64 b] w (Gives (.int .i64 (apartAt h a b)) w) := by
  have HV := Lib.hid hv
  obtain ⟨cv, rfl, ao, cp, rfl, hn, _, hc⟩ := hv
  rw [lim_eq] at hn
  clear hc
  cases hval : validB h
  · have H := Lib.hid (show apartAt h a b = -1 by simp [apartAt, hval])
    have HW := Lib.hid (specValid_calls hval)
    clear hval
    go_enter Tryd.func85, Tryd.ntmps85
    go_wp2_with fail
    refine (HW.out _ _ (HV.out.keep (below_new _ _))).mono ?_
    rintro e w1 ⟨rfl, hb⟩
    have b1 := (box3_new w _ _ _ _).keep hb
    have b1_0 := b1.c0
    have b1_1 := b1.c1
    have b1_2 := b1.c2
    have b1_l := b1.lt
    have HB := Lib.hid (below_alloc hb)
    clear hb
    go_wp2
    go_ret
    exact gives_mk (by rw [H.out]; rfl) HB.out
  have HW := Lib.hid (specValid_calls hval)
  cases h1 : hasCellB h a
  · have H := Lib.hid (show apartAt h a b = -1 by simp [apartAt, h1])
    have HI := Lib.hid (l1In_has h1)
    clear hval h1
    go_enter Tryd.func85, Tryd.ntmps85
    go_wp2_with fail
    refine (HW.out _ _ (HV.out.keep (below_new _ _))).mono ?_
    rintro e w1 ⟨rfl, hb⟩
    have b1 := (box3_new w _ _ _ _).keep hb
    have b1_0 := b1.c0
    have b1_1 := b1.c1
    have b1_2 := b1.c2
    have b1_l := b1.lt
    have HB := Lib.hid (below_alloc hb)
    clear hb
    go_wp2_with fail
    refine (HI.out _).mono ?_
    rintro e w2 ⟨rfl, q, rfl⟩
    go_wp2
    go_ret
    exact gives_mk (by rw [H.out]; rfl) (below_drewN HB.out _)
  have HI := Lib.hid (l1In_has h1)
  cases h2 : hasCellB h b
  · have H := Lib.hid (show apartAt h a b = -1 by simp [apartAt, h2])
    have HI2 := Lib.hid (l1In_has h2)
    clear hval h1 h2
    go_enter Tryd.func85, Tryd.ntmps85
    go_wp2_with fail
    refine (HW.out _ _ (HV.out.keep (below_new _ _))).mono ?_
    rintro e w1 ⟨rfl, hb⟩
    have b1 := (box3_new w _ _ _ _).keep hb
    have b1_0 := b1.c0
    have b1_1 := b1.c1
    have b1_2 := b1.c2
    have b1_l := b1.lt
    have HB := Lib.hid (below_alloc hb)
    clear hb
    go_wp2_with fail
    refine (HI.out _).mono ?_
    rintro e w2 ⟨rfl, q, rfl⟩
    go_wp2_with fail
    refine (HI2.out _).mono ?_
    rintro e w2 ⟨rfl, q', rfl⟩
    go_wp2
    go_ret
    exact gives_mk (by rw [H.out]; rfl) (below_drewN HB.out _)
  have HI2 := Lib.hid (l1In_has h2)
  have H := Lib.hid (show apartAt h a b = apartF h.wide a b by simp [apartAt, hval, h1, h2])
  have HA := Lib.hid (fun W : World => l1Apart_any W h.wide a b (valid_size hval).1 (cell_small hval h1) (cell_small hval h2))
  clear hval h1 h2
  go_enter Tryd.func85, Tryd.ntmps85
  go_wp2_with fail
  refine (HW.out _ _ (HV.out.keep (below_new _ _))).mono ?_
  rintro e w1 ⟨rfl, hb⟩
  have b1 := (box3_new w _ _ _ _).keep hb
  have b1_0 := b1.c0
  have b1_1 := b1.c1
  have b1_2 := b1.c2
  have b1_l := b1.lt
  have HB := Lib.hid (below_alloc hb)
  clear hb
  go_wp2_with fail
  refine (HI.out _).mono ?_
  rintro e w2 ⟨rfl, q, rfl⟩
  go_wp2_with fail
  refine (HI2.out _).mono ?_
  rintro e w2 ⟨rfl, q', rfl⟩
  go_wp2_with fail
  refine (HA.out _).mono ?_
  rintro e w2 ⟨rfl, q2, rfl⟩
  go_wp2
  go_ret
  exact gives_mk (by rw [H.out]; rfl) (below_drewN HB.out _)

set_option maxHeartbeats 400000 in
theorem cellsApart_any (w : World) (v : Value) (h : PHall) (a b : Int) (hv : HallAt w v h) :
    Calls Tryd.prog 47 #[v, .int .i64 a, .int .i64 b] w (Gives (.int .i64 (apartAt h a b)) w) := by
  have HV := Lib.hid hv
  obtain ⟨cv, rfl, hc⟩ := hv
  clear hc
  cases hval : validB h
  · have H := Lib.hid (show apartAt h a b = -1 by simp [apartAt, hval])
    have HW := Lib.hid (valid_calls hval)
    clear hval
    go_enter Tryd.func47, Tryd.ntmps47
    go_wp2_with fail
    refine (HW.out _ _ (HV.out.keep (below_new _ _))).mono ?_
    rintro e w1 ⟨rfl, hb⟩
    have b1 := (box3_new w _ _ _ _).keep hb
    have b1_0 := b1.c0
    have b1_1 := b1.c1
    have b1_2 := b1.c2
    have b1_l := b1.lt
    have HB := Lib.hid (below_alloc hb)
    clear hb
    go_wp2
    go_ret
    exact gives_mk (by rw [H.out]; rfl) HB.out
  have HW := Lib.hid (valid_calls hval)
  cases h1 : hasCellB h a
  · have H := Lib.hid (show apartAt h a b = -1 by simp [apartAt, h1])
    have HI := Lib.hid (hasCell_calls h1)
    clear hval h1
    go_enter Tryd.func47, Tryd.ntmps47
    go_wp2_with fail
    refine (HW.out _ _ (HV.out.keep (below_new _ _))).mono ?_
    rintro e w1 ⟨rfl, hb⟩
    have b1 := (box3_new w _ _ _ _).keep hb
    have b1_0 := b1.c0
    have b1_1 := b1.c1
    have b1_2 := b1.c2
    have b1_l := b1.lt
    have HB := Lib.hid (below_alloc hb)
    clear hb
    go_wp2_with fail
    refine (HI.out _ _ (HV.out.keep HB.out)).mono ?_
    rintro e w2 ⟨rfl, hb⟩
    have b2 := b1.keep hb
    have b2_0 := b2.c0
    have b2_1 := b2.c1
    have b2_2 := b2.c2
    have b2_l := b2.lt
    have HB2 := Lib.hid (below_then HB.out hb)
    clear hb
    go_wp2
    go_ret
    exact gives_mk (by rw [H.out]; rfl) HB2.out
  have HI := Lib.hid (hasCell_calls h1)
  cases h2 : hasCellB h b
  · have H := Lib.hid (show apartAt h a b = -1 by simp [apartAt, h2])
    have HI2 := Lib.hid (hasCell_calls h2)
    clear hval h1 h2
    go_enter Tryd.func47, Tryd.ntmps47
    go_wp2_with fail
    refine (HW.out _ _ (HV.out.keep (below_new _ _))).mono ?_
    rintro e w1 ⟨rfl, hb⟩
    have b1 := (box3_new w _ _ _ _).keep hb
    have b1_0 := b1.c0
    have b1_1 := b1.c1
    have b1_2 := b1.c2
    have b1_l := b1.lt
    have HB := Lib.hid (below_alloc hb)
    clear hb
    go_wp2_with fail
    refine (HI.out _ _ (HV.out.keep HB.out)).mono ?_
    rintro e w2 ⟨rfl, hb⟩
    have b2 := b1.keep hb
    have b2_0 := b2.c0
    have b2_1 := b2.c1
    have b2_2 := b2.c2
    have b2_l := b2.lt
    have HB2 := Lib.hid (below_then HB.out hb)
    clear hb
    go_wp2_with fail
    refine (HI2.out _ _ (HV.out.keep HB2.out)).mono ?_
    rintro e w3 ⟨rfl, hb⟩
    have HB3 := Lib.hid (below_then HB2.out hb)
    clear hb
    go_wp2
    go_ret
    exact gives_mk (by rw [H.out]; rfl) HB3.out
  have HI2 := Lib.hid (hasCell_calls h2)
  have H := Lib.hid (show apartAt h a b = apartF h.wide a b by simp [apartAt, hval, h1, h2])
  have HA := Lib.hid (fun W : World => apart_any W h.wide a b (valid_size hval).1 (cell_small hval h1) (cell_small hval h2))
  clear hval h1 h2
  go_enter Tryd.func47, Tryd.ntmps47
  go_wp2_with fail
  refine (HW.out _ _ (HV.out.keep (below_new _ _))).mono ?_
  rintro e w1 ⟨rfl, hb⟩
  have b1 := (box3_new w _ _ _ _).keep hb
  have b1_0 := b1.c0
  have b1_1 := b1.c1
  have b1_2 := b1.c2
  have b1_l := b1.lt
  have HB := Lib.hid (below_alloc hb)
  clear hb
  go_wp2_with fail
  refine (HI.out _ _ (HV.out.keep HB.out)).mono ?_
  rintro e w2 ⟨rfl, hb⟩
  have b2 := b1.keep hb
  have b2_0 := b2.c0
  have b2_1 := b2.c1
  have b2_2 := b2.c2
  have b2_l := b2.lt
  have HB2 := Lib.hid (below_then HB.out hb)
  clear hb
  go_wp2_with fail
  refine (HI2.out _ _ (HV.out.keep HB2.out)).mono ?_
  rintro e w3 ⟨rfl, hb⟩
  have b3 := b2.keep hb
  have b3_0 := b3.c0
  have b3_1 := b3.c1
  have b3_2 := b3.c2
  have b3_l := b3.lt
  have HB3 := Lib.hid (below_then HB2.out hb)
  clear hb
  go_wp2_with fail
  refine (HA.out _).mono ?_
  rintro e w4 ⟨rfl, q2, rfl⟩
  go_wp2
  go_ret
  exact gives_mk (by rw [H.out]; rfl) (below_drewN HB3.out _)

end Go.Proofs.YtjdgbdakkdljmaaDoor
