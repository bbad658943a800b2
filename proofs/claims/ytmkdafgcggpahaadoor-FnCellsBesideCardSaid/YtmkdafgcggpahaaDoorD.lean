/-
  spec.HallFind, CellAt, CellPlace.
-/
import Derived.Test.YtmkdafgcggpahaaDoorC
set_option linter.unusedVariables false
namespace Go.Proofs.YtmkdafgcggpahaaDoor
open Go Go.RowKit Go.Park

/-- what a hall's validity comes to, as contracts of both functions -/
theorem valid_calls {h : PHall} {b : Bool} (hb : validB h = b) : ∀ (w' : World) (v : Value), HallAt w' v h → Calls Tryd.prog 16 #[v] w' (Gives (.bool b) w') := fun w' v hh => by rw [← hb]; exact hallValid_any w' _ h hh
theorem specValid_calls {h : PHall} {b : Bool} (hb : validB h = b) : ∀ (w' : World) (v : Value), HallAt w' v h → Calls Tryd.prog 17 #[v] w' (Gives (.bool b) w') := fun w' v hh => by rw [← hb]; exact specHallValid_any w' _ h hh
theorem valid_size {h : PHall} (hb : validB h = true) : (2 ≤ h.wide ∧ h.wide ≤ 4) ∧ (2 ≤ h.deep ∧ h.deep ≤ 3) ∧ (h.cells.length : Int) = h.wide * h.deep := by
  simp only [validB, Bool.and_eq_true] at hb
  exact sizeB_true.1 hb.1
theorem valid_len {h : PHall} (hb : validB h = true) : 4 ≤ h.cells.length ∧ h.cells.length ≤ 12 := by
  obtain ⟨⟨a, b⟩, ⟨c, d⟩, e⟩ := valid_size hb
  have h1 : h.wide * h.deep ≤ 4 * 3 := Int.mul_le_mul b d (by omega) (by omega)
  have h2 : 2 * 2 ≤ h.wide * h.deep := Int.mul_le_mul a c (by omega) (by omega)
  omega
theorem valid_mul {h : PHall} (hb : validB h = true) : 4 ≤ h.wide * h.deep ∧ h.wide * h.deep ≤ 12 := by
  have h1 := valid_len hb
  have h2 := (valid_size hb).2.2
  omega

set_option maxHeartbeats 400000 in
theorem specHallFind_any (w : World) (v : Value) (h : PHall) (x : Int) (hv : HallAt w v h) :
    Calls Tryd.prog 58 #[v, .int .i64 x] w (Gives (.int .i64 (hallFindF h x)) w) := by
  have HV := Lib.hid hv
  obtain ⟨cv, rfl, ao, c, rfl, hn, hcm, hx⟩ := hv
  have HX := Lib.hid hx
  clear hx
  cases hval : validB h
  · have H := Lib.hid (show hallFindF h x = -1 by simp [hallFindF, hval])
    have HW := Lib.hid (specValid_calls hval)
    clear hval
    go_enter Tryd.func58, Tryd.ntmps58
    go_wp2_with fail
    refine (HW.out _ _ (HV.out.keep (below_new _ _))).mono ?_
    rintro e w1 ⟨rfl, hb⟩
    have b1 := (box3_new w _ _ _ _).keep hb
    have b1_0 := b1.c0
    have b1_1 := b1.c1
    have b1_2 := b1.c2
    have b1_l := b1.lt
    have HB := Lib.hid (below_alloc hb)
    clear hb
    go_wp2
    go_ret
    exact gives_mk (by rw [H.out]; rfl) HB.out
  have HW := Lib.hid (specValid_calls hval)
  by_cases hx : 1 ≤ x
  rotate_left
  · have H := Lib.hid (show hallFindF h x = -1 by simp [hallFindF, hx])
    clear hval
    go_enter Tryd.func58, Tryd.ntmps58
    go_wp2_with fail
    refine (HW.out _ _ (HV.out.keep (below_new _ _))).mono ?_
    rintro e w1 ⟨rfl, hb⟩
    have b1 := (box3_new w _ _ _ _).keep hb
    have b1_0 := b1.c0
    have b1_1 := b1.c1
    have b1_2 := b1.c2
    have b1_l := b1.lt
    have HB := Lib.hid (below_alloc hb)
    clear hb
    go_wp2
    go_ret
    exact gives_mk (by rw [H.out]; rfl) HB.out
  have H := Lib.hid (show hallFindF h x = idxTo h.cells x h.cells.length by simp [hallFindF, hval, hx])
  have hlen := valid_len hval
  obtain ⟨n, hnn⟩ : ∃ n, n = h.cells.length := ⟨_, rfl⟩
  rw [← hnn] at hlen H HV HX ⊢
  clear hval hn hcm hnn
  go_enter Tryd.func58, Tryd.ntmps58
  go_wp2_with fail
  refine (HW.out _ _ (HV.out.keep (below_new _ _))).mono ?_
  rintro e w1 ⟨rfl, hb⟩
  have b1 := (box3_new w _ _ _ _).keep hb
  have b1_0 := b1.c0
  have b1_1 := b1.c1
  have b1_2 := b1.c2
  have b1_l := b1.lt
  have HB := Lib.hid (below_alloc hb)
  have hx1 := HX.out.keep HB.out
  clear hb
  go_wp2
  go_loopw [5] (fun i wr => ∃ k : Nat, k ≤ n ∧ i = .int .i64 k ∧ Hid (idxTo h.cells x k = -1) ∧ ∃ q, wr = w1.drewN q) (fun i _ => n - (intOf i).toNat)
  case atStart => exact ⟨0, Nat.zero_le _, rfl, rfl, 0, rfl⟩
  case round =>
    obtain ⟨k, hk, rfl, ha, q, rfl⟩ := hrel
    by_cases hlt : k < n
    · obtain ⟨b, o, rfl, h1⟩ := hx1 k hlt
      clear hx1
      by_cases he : gi h.cells k = x
      · have Hf := Lib.hid (idxTo_hit ha.out he n hlt)
        have hb : (gi h.cells k == x) = true := by simpa using he
        clear he ha
        go_wp2
        go_ret
        exact gives_mk (by rw [H.out, Hf.out]; rfl) (below_drewN HB.out _)
      · have Hf := Lib.hid (idxTo_no ha.out he)
        have hb : (gi h.cells k == x) = false := by simpa using he
        clear he ha
        go_wp2
        go_roundw
        case rel => exact ⟨k+1, by omega, by go_num, Hf, _, rfl⟩
        case measure => simp [intOf]; omega
    · obtain rfl : k = n := by omega
      clear hx1
      go_wp2
      go_ret
      exact gives_mk (by rw [H.out, ha.out]; rfl) (below_drewN HB.out _)

def cellAtF (h : PHall) (c r : Int) : Int := if validB h = true ∧ 0 ≤ c ∧ c < h.wide ∧ 0 ≤ r ∧ r < h.deep then r * h.wide + c else -1

theorem row_small {x r c : Int} (h1 : 2 ≤ x ∧ x ≤ 4) (h2 : 0 ≤ r ∧ r ≤ 3) (h3 : 0 ≤ c ∧ c ≤ 4) : 0 ≤ r * x ∧ r * x ≤ 12 ∧ 0 ≤ r * x + c ∧ r * x + c ≤ 16 := by
  have e1 : 0 ≤ r * x := Int.mul_nonneg (by omega) (by omega)
  have e2 : r * x ≤ 3 * 4 := Int.mul_le_mul h2.2 h1.2 (by omega) (by omega)
  omega

set_option maxHeartbeats 400000 in
theorem cellAt_any (w : World) (v : Value) (h : PHall) (c r : Int) (hv : HallAt w v h) :
    Calls Tryd.prog 20 #[v, .int .i64 c, .int .i64 r] w (Gives (.int .i64 (cellAtF h c r)) w) := by
  have HV := Lib.hid hv
  obtain ⟨cv, rfl, hc⟩ := hv
  clear hc
  cases hval : validB h
  · have H := Lib.hid (show cellAtF h c r = -1 by simp [cellAtF, hval])
    have HW := Lib.hid (valid_calls hval)
    clear hval
    go_enter Tryd.func20, Tryd.ntmps20
    go_wp2_with fail
    refine (HW.out _ _ (HV.out.keep (below_new _ _))).mono ?_
    rintro e w1 ⟨rfl, hb⟩
    have b1 := (box3_new w _ _ _ _).keep hb
    have b1_0 := b1.c0
    have b1_1 := b1.c1
    have b1_2 := b1.c2
    have b1_l := b1.lt
    have HB := Lib.hid (below_alloc hb)
    clear hb
    go_wp2
    go_ret
    exact gives_mk (by rw [H.out]; rfl) HB.out
  have HW := Lib.hid (valid_calls hval)
  have hs1 := (valid_size hval).1
  have hs2 := (valid_size hval).2.1
  by_cases h1 : 0 ≤ c
  rotate_left
  · have H := Lib.hid (show cellAtF h c r = -1 by simp [cellAtF, h1])
    clear hval
    go_enter Tryd.func20, Tryd.ntmps20
    go_wp2_with fail
    refine (HW.out _ _ (HV.out.keep (below_new _ _))).mono ?_
    rintro e w1 ⟨rfl, hb⟩
    have b1 := (box3_new w _ _ _ _).keep hb
    have b1_0 := b1.c0
    have b1_1 := b1.c1
    have b1_2 := b1.c2
    have b1_l := b1.lt
    have HB := Lib.hid (below_alloc hb)
    clear hb
    go_wp2
    go_ret
    exact gives_mk (by rw [H.out]; rfl) HB.out
  by_cases h2 : c < h.wide
  rotate_left
  · have H := Lib.hid (show cellAtF h c r = -1 by simp [cellAtF, h2])
    clear hval
    go_enter Tryd.func20, Tryd.ntmps20
    go_wp2_with fail
    refine (HW.out _ _ (HV.out.keep (below_new _ _))).mono ?_
    rintro e w1 ⟨rfl, hb⟩
    have b1 := (box3_new w _ _ _ _).keep hb
    have b1_0 := b1.c0
    have b1_1 := b1.c1
    have b1_2 := b1.c2
    have b1_l := b1.lt
    have HB := Lib.hid (below_alloc hb)
    clear hb
    go_wp2
    go_ret
    exact gives_mk (by rw [H.out]; rfl) HB.out
  by_cases h3 : 0 ≤ r
  rotate_left
  · have H := Lib.hid (show cellAtF h c r = -1 by simp [cellAtF, h3])
    clear hval
    go_enter Tryd.func20, Tryd.ntmps20
    go_wp2_with fail
    refine (HW.out _ _ (HV.out.keep (below_new _ _))).mono ?_
    rintro e w1 ⟨rfl, hb⟩
    have b1 := (box3_new w _ _ _ _).keep hb
    have b1_0 := b1.c0
    have b1_1 := b1.c1
    have b1_2 := b1.c2
    have b1_l := b1.lt
    have HB := Lib.hid (below_alloc hb)
    clear hb
    go_wp2
    go_ret
    exact gives_mk (by rw [H.out]; rfl) HB.out
  by_cases h4 : r < h.deep
  rotate_left
  · have H := Lib.hid (show cellAtF h c r = -1 by simp [cellAtF, h4])
    clear hval
    go_enter Tryd.func20, Tryd.ntmps20
    go_wp2_with fail
    refine (HW.out _ _ (HV.out.keep (below_new _ _))).mono ?_
    rintro e w1 ⟨rfl, hb⟩
    have b1 := (box3_new w _ _ _ _).keep hb
    have b1_0 := b1.c0
    have b1_1 := b1.c1
    have b1_2 := b1.c2
    have b1_l := b1.lt
    have HB := Lib.hid (below_alloc hb)
    clear hb
    go_wp2
    go_ret
    exact gives_mk (by rw [H.out]; rfl) HB.out
  have H := Lib.hid (show cellAtF h c r = r * h.wide + c by simp [cellAtF, hval, h1, h2, h3, h4])
  have hrs := row_small (r := r) (c := c) hs1 (by omega) (by omega)
  have e1 : wrap64 (r * h.wide) = r * h.wide := IntWalk.wrap64_in _ (by omega)
  clear hval
  go_enter Tryd.func20, Tryd.ntmps20
  go_wp2_with fail
  refine (HW.out _ _ (HV.out.keep (below_new _ _))).mono ?_
  rintro e w1 ⟨rfl, hb⟩
  have b1 := (box3_new w _ _ _ _).keep hb
  have b1_0 := b1.c0
  have b1_1 := b1.c1
  have b1_2 := b1.c2
  have b1_l := b1.lt
  have HB := Lib.hid (below_alloc hb)
  clear hb
  go_wp2
  go_ret
  exact gives_mk (by rw [H.out]; rfl) HB.out

set_option maxHeartbeats 400000 in
theorem specCellAt_any (w : World) (v : Value) (h : PHall) (c r : Int) (hv : HallAt w v h) :
    Calls Tryd.prog 21 #[v, .int .i64 c, .int .i64 r] w (Gives (.int .i64 (cellAtF h c r)) w) := by
  have HV := Lib.hid hv
  obtain ⟨cv, rfl, hc⟩ := hv
  clear hc
  cases hval : validB h
  · have H := Lib.hid (show cellAtF h c r = -1 by simp [cellAtF, hval])
    have HW := Lib.hid (specValid_calls hval)
    clear hval
    go_enter Tryd.func21, Tryd.ntmps21
    go_wp2_with fail
    refine (HW.out _ _ (HV.out.keep (below_new _ _))).mono ?_
    rintro e w1 ⟨rfl, hb⟩
    have b1 := (box3_new w _ _ _ _).keep hb
    have b1_0 := b1.c0
    have b1_1 := b1.c1
    have b1_2 := b1.c2
    have b1_l := b1.lt
    have HB := Lib.hid (below_alloc hb)
    clear hb
    go_wp2
    go_ret
    exact gives_mk (by rw [H.out]; rfl) HB.out
  have HW := Lib.hid (specValid_calls hval)
  have hs1 := (valid_size hval).1
  have hs2 := (valid_size hval).2.1
  cases h1 : inR c 0 (h.wide - 1)
  · have H := Lib.hid (show cellAtF h c r = -1 by rw [inR_false] at h1; unfold cellAtF; rw [if_neg (by omega)])
    have HI := Lib.hid (l1In_calls h1)
    clear hval h1
    go_enter Tryd.func21, Tryd.ntmps21
    go_wp2_with fail
    refine (HW.out _ _ (HV.out.keep (below_new _ _))).mono ?_
    rintro e w1 ⟨rfl, hb⟩
    have b1 := (box3_new w _ _ _ _).keep hb
    have b1_0 := b1.c0
    have b1_1 := b1.c1
    have b1_2 := b1.c2
    have b1_l := b1.lt
    have HB := Lib.hid (below_alloc hb)
    clear hb
    go_wp2_with fail
    refine (HI.out _).mono ?_
    rintro e w2 ⟨rfl, q, rfl⟩
    go_wp2
    go_ret
    exact gives_mk (by rw [H.out]; rfl) (below_drewN HB.out _)
  have HI := Lib.hid (l1In_calls h1)
  rw [inR_true] at h1
  cases h2 : inR r 0 (h.deep - 1)
  · have H := Lib.hid (show cellAtF h c r = -1 by rw [inR_false] at h2; unfold cellAtF; rw [if_neg (by omega)])
    have HI2 := Lib.hid (l1In_calls h2)
    clear hval h2
    go_enter Tryd.func21, Tryd.ntmps21
    go_wp2_with fail
    refine (HW.out _ _ (HV.out.keep (below_new _ _))).mono ?_
    rintro e w1 ⟨rfl, hb⟩
    have b1 := (box3_new w _ _ _ _).keep hb
    have b1_0 := b1.c0
    have b1_1 := b1.c1
    have b1_2 := b1.c2
    have b1_l := b1.lt
    have HB := Lib.hid (below_alloc hb)
    clear hb
    go_wp2_with fail
    refine (HI.out _).mono ?_
    rintro e w2 ⟨rfl, q, rfl⟩
    go_wp2_with fail
    refine (HI2.out _).mono ?_
    rintro e w2 ⟨rfl, q', rfl⟩
    go_wp2
    go_ret
    exact gives_mk (by rw [H.out]; rfl) (below_drewN HB.out _)
  have HI2 := Lib.hid (l1In_calls h2)
  rw [inR_true] at h2
  have H := Lib.hid (show cellAtF h c r = r * h.wide + c by unfold cellAtF; rw [if_pos ⟨hval, by omega, by omega, by omega, by omega⟩])
  have hrs := row_small (r := r) (c := c) hs1 (by omega) (by omega)
  have e1 : wrap64 (r * h.wide) = r * h.wide := IntWalk.wrap64_in _ (by omega)
  clear hval
  go_enter Tryd.func21, Tryd.ntmps21
  go_wp2_with fail
  refine (HW.out _ _ (HV.out.keep (below_new _ _))).mono ?_
  rintro e w1 ⟨rfl, hb⟩
  have b1 := (box3_new w _ _ _ _).keep hb
  have b1_0 := b1.c0
  have b1_1 := b1.c1
  have b1_2 := b1.c2
  have b1_l := b1.lt
  have HB := Lib.hid (below_alloc hb)
  clear hb
  go_wp2_with fail
  refine (HI.out _).mono ?_
  rintro e w2 ⟨rfl, q, rfl⟩
  go_wp2_with fail
  refine (HI2.out _).mono ?_
  rintro e w2 ⟨rfl, q', rfl⟩
  go_wp2
  go_ret
  exact gives_mk (by rw [H.out]; rfl) (below_drewN HB.out _)

end Go.Proofs.YtmkdafgcggpahaaDoor
