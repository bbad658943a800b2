/-
  slices.Reverse and HallTurn.
-/
import Derived.Test.YtjdgbdakkdljmaaDoorK2
set_option linter.unusedVariables false
namespace Go.Proofs.YtjdgbdakkdljmaaDoor
open Go Go.RowKit Go.Park

def tab (n : Nat) (f : Nat → Int) : List Int := (List.range n).map f
theorem tab_length (n : Nat) (f : Nat → Int) : (tab n f).length = n := by simp [tab]
theorem gi_tab {n : Nat} {f : Nat → Int} {j : Nat} (h : j < n) : gi (tab n f) j = f j := by simp [gi, tab, List.getD, h]
theorem gi_set {l : List Int} {i j : Nat} {x : Int} (hj : j < l.length) : gi (l.set i x) j = if i = j then x else gi l j := by
  simp only [gi, List.getD, List.getElem?_set]
  by_cases e : i = j
  · subst e; simp [hj]
  · simp [e]
theorem tab_set {n i : Nat} {f : Nat → Int} {x : Int} : (tab n f).set i x = tab n (fun j => if i = j then x else f j) := by
  refine ext_gi (by simp [tab_length]) (fun j hj => ?_)
  simp only [List.length_set, tab_length] at hj
  rw [gi_set (by rw [tab_length]; exact hj), gi_tab hj, gi_tab hj]
theorem tab_congr {n : Nat} {f g : Nat → Int} (h : ∀ j, j < n → f j = g j) : tab n f = tab n g := by
  refine ext_gi (by simp [tab_length]) (fun j hj => ?_)
  rw [tab_length] at hj
  rw [gi_tab hj, gi_tab hj, h j hj]
theorem tab_gi (l : List Int) : tab l.length (gi l) = l := ext_gi (tab_length _ _) (fun j hj => by rw [tab_length] at hj; rw [gi_tab hj])
theorem tab_rev (l : List Int) : tab l.length (fun j => gi l (l.length - 1 - j)) = l.reverse := by
  refine ext_gi (by simp [tab_length]) (fun j hj => ?_)
  rw [tab_length] at hj
  rw [gi_tab hj, gi_get (by omega), gi_get (by simpa using hj), List.getElem_reverse]

/-- k places at both ends exchanged -/
def revTo (l : List Int) (n k : Nat) : List Int := tab n (fun j => if j < k ∨ n - k ≤ j then gi l (n - 1 - j) else gi l j)
theorem revTo_zero (l : List Int) {n : Nat} (hn : n = l.length) : revTo l n 0 = l := by
  subst hn
  unfold revTo
  rw [tab_congr (g := gi l) (fun j hj => by rw [if_neg (by omega)]), tab_gi]
theorem revTo_all (l : List Int) {n k : Nat} (hn : n = l.length) (hk : n ≤ 2 * k + 1) : revTo l n k = l.reverse := by
  subst hn
  unfold revTo
  rw [← tab_rev]
  refine tab_congr (fun j hj => ?_)
  by_cases h : j < k ∨ l.length - k ≤ j
  · rw [if_pos h]
  · rw [if_neg h]; congr 1; omega
theorem revTo_step (l : List Int) {n k : Nat} (hk : k < n - 1 - k) : ((revTo l n k).set k (gi l (n - 1 - k))).set (n - 1 - k) (gi l k) = revTo l n (k + 1) := by
  unfold revTo
  rw [tab_set, tab_set]
  refine tab_congr (fun j hj => ?_)
  by_cases h1 : n - 1 - k = j
  · rw [if_pos h1, if_pos (by omega)]; congr 1; omega
  · rw [if_neg h1]
    by_cases h2 : k = j
    · rw [if_pos h2, if_pos (by omega)]; congr 1; omega
    · rw [if_neg h2]
      by_cases h3 : j < k ∨ n - k ≤ j
      · rw [if_pos h3, if_pos (by omega)]
      · rw [if_neg h3, if_neg (by omega)]
theorem gi_revTo_mid (l : List Int) {n k j : Nat} (h1 : k ≤ j) (h2 : j < n - k) : gi (revTo l n k) j = gi l j := by
  unfold revTo
  rw [gi_tab (by omega), if_neg (by omega)]
theorem grown_trans {w w1 w2 : World} {r : Option Nat} (h : w.grownBy w1 r) (k : w1.grownBy w2 r) : w.grownBy w2 r :=
  ⟨k.os.trans h.os, k.tape.trans h.tape, k.output.trans h.output, Nat.le_trans h.size k.size, fun i hi hr => (k.block i (Nat.lt_of_lt_of_le hi h.size) hr).trans (h.block i hi hr)⟩
theorem grown_drew {w w1 : World} {r : Option Nat} (h : w.grownBy w1 r) : w.grownBy w1.drew r := grown_trans h ⟨rfl, rfl, rfl, Nat.le_refl _, fun _ _ _ => rfl⟩

set_option maxRecDepth 100000 in
set_option maxHeartbeats 4000000 in
theorem reverse_any (w : World) (lo g cap n : Nat) (l : List Int) (hv : OwnInts lo w (.slice (some ⟨g, 0, none⟩) n cap) l) (hn : n = l.length) :
    Calls Tryd.prog 71 #[.slice (some ⟨g, 0, none⟩) n cap] w (fun e w' => e = .returned (.tuple #[]) ∧ OwnInts lo w' (.slice (some ⟨g, 0, none⟩) n cap) l.reverse ∧ w.grownBy w' (some g)) := by
  have hl := hv.1
  rw [lim_eq, ← hn] at hl
  have HN := Lib.hid hn
  have HV : Hid (OwnInts lo w (.slice (some ⟨g, 0, none⟩) n cap) (revTo l n 0)) := Lib.hid (by rw [revTo_zero l hn]; exact hv)
  clear hv hn
  go_enter Tryd.func71, Tryd.ntmps71
  go_wp2
  go_loopw [2, 3] (fun i j wr => ∃ k : Nat, 2 * k ≤ n + 1 ∧ i = .int .i64 k ∧ j = .int .i64 ((n : Int) - 1 - k) ∧ Hid (OwnInts lo wr (.slice (some ⟨g, 0, none⟩) n cap) (revTo l n k)) ∧ Hid (w.grownBy wr (some g))) (fun i _ _ => n - (intOf i).toNat)
  case atStart => exact ⟨0, by omega, rfl, by simp, HV, Lib.hid (grown_refl _ _)⟩
  case round =>
    obtain ⟨k, hk, rfl, rfl, ho, hg⟩ := hrel
    by_cases hlt : k < n - 1 - k
    · have h1 := own_cell ho.out (j := k) (by unfold revTo; rw [tab_length]; omega)
      have h2 := own_cell ho.out (j := n - 1 - k) (by unfold revTo; rw [tab_length]; omega)
      rw [gi_revTo_mid l (by omega) (by omega)] at h1 h2
      have f1 := own_free ho.out k
      have f2 := own_free ho.out (n - 1 - k)
      obtain ⟨j, hj⟩ : ∃ j, j = n - 1 - k := ⟨_, rfl⟩
      have hj' : (n : Int) - 1 - k = j := by omega
      rw [← hj] at h2 f2
      have hst := Lib.hid (revTo_step l hlt)
      rw [← hj] at hst
      have hnj : (k : Int) < j := by omega
      have hjn : (j : Int) < n := by omega
      have hkj : k ≠ j := by omega
      have HJ := Lib.hid hj
      rw [hj']
      have HS := Lib.hid (own_store (own_store ho.out k (gi l j)) j (gi l k))
      clear hj hj' hlt
      go_wp2
      go_region
      all_goals
        have HO : ∀ W : World, OwnInts lo W (.slice (some ⟨g, 0, none⟩) n cap) (((revTo l n k).set k (gi l j)).set j (gi l k)) → Hid (OwnInts lo W (.slice (some ⟨g, 0, none⟩) n cap) (revTo l n (k + 1))) := fun W h => by rw [← hst.out]; exact h
        go_wp2
        go_roundw
        case rel => exact ⟨k+1, by have := HJ.out; omega, by go_num, by have := HJ.out; congr 1; omega, HO _ (by first | exact HS.out.keep (below_drew1 _) | exact HS.out), Lib.hid (by repeat (first | exact hg.out | (refine grown_set ?_ _ _) | (refine grown_drew ?_)))⟩
        case measure => simp [intOf]; omega
    · have hj' : ¬ ((k : Int) < (n : Int) - 1 - k) := by omega
      have HO := Lib.hid (show OwnInts lo wr (.slice (some ⟨g, 0, none⟩) n cap) l.reverse by rw [← revTo_all l (k := k) HN.out (by omega)]; exact ho.out)
      go_wp2
      go_end0
      exact ⟨rfl, HO.out, hg.out⟩

def hallTurnF (h : PHall) : PHall := if validB h = true then ⟨h.wide, h.deep, h.cells.reverse⟩ else zeroHall

set_option maxRecDepth 100000 in
set_option maxHeartbeats 4000000 in
theorem hallTurn_any (w : World) (v : Value) (h : PHall) (hv : HallAt w v h) :
    Calls Tryd.prog 25 #[v] w (GivesHall (hallTurnF h) w) := by
  have HV := Lib.hid hv
  obtain ⟨cv, rfl, ao, cp, rfl, hn, hcm, hx⟩ := hv
  clear hx
  obtain ⟨W, hW⟩ : ∃ W, W = (w.alloc (.cells #[.int .i64 h.wide, .int .i64 h.deep, .slice ao h.cells.length cp] 25)).alloc (.cells #[.int .i64 0, .int .i64 0, .slice none 0 0] 25) := ⟨_, rfl⟩
  have hWs : W.heap.size = w.heap.size + 1 + 1 := by rw [hW]; simp
  have hb0 : Hid (Below w.heap.size w W) := Lib.hid (by rw [hW]; exact below_new2 _ _ _)
  have b0 : Hid (Box3 W w.heap.size (.int .i64 h.wide) (.int .i64 h.deep) (.slice ao h.cells.length cp)) := Lib.hid (by rw [hW]; exact (box3_new w _ _ _ _).keep (below_new _ _))
  have r0 : Hid (Blk3 W (w.heap.size + 1) (.int .i64 0) (.int .i64 0) (.slice none 0 0)) := Lib.hid (by rw [hW]; exact blk3_second w _ _ _ _ _)
  cases hval : validB h
  · have H := Lib.hid (show hallTurnF h = zeroHall by simp [hallTurnF, hval])
    have HW := Lib.hid (valid_calls hval)
    clear hval
    go_enter Tryd.func25, Tryd.ntmps25
    go_wp2_with fail
    rw [← hW]
    clear hW
    refine (HW.out _ _ (HV.out.keep hb0.out)).mono ?_
    rintro e w1 ⟨rfl, hb⟩
    have r1 := r0.out.keep hb
    have r1_0 := r1.box.c0
    have r1_1 := r1.box.c1
    have r1_2 := r1.box.c2
    have f0 := r1.f0
    have f1 := r1.f1
    have f2 := r1.f2
    have HB := Lib.hid (below_then hb0.out hb)
    clear hb
    go_wp2
    refine bodyPost_ret (v := .agg #[.int .i64 0, .int .i64 0, .slice none 0 0]) (by simp [results, Tryd.results25, go_sem, r1_0, r1_1, r1_2]) rfl ?_
    unfold GivesHall; rw [H.out]
    exact ⟨_, rfl, ownInts_nil _ _, HB.out.setCell (by simp) _ |>.setCell (by simp) _ |>.setCell (by simp) _⟩
  have HW := Lib.hid (valid_calls hval)
  have HCP := Lib.hid (fun (W' : World) (v' : Value) (hh : HallAt W' v' h) => copyHall_any W' v' h hh (valid_ne hval))
  have hne := Lib.hid (valid_ne hval)
  have H := Lib.hid (show hallTurnF h = ⟨h.wide, h.deep, h.cells.reverse⟩ by simp [hallTurnF, hval])
  clear hval
  go_enter Tryd.func25, Tryd.ntmps25
  go_wp2_with fail
  rw [← hW]
  clear hW
  refine (HW.out _ _ (HV.out.keep hb0.out)).mono ?_
  rintro e w1 ⟨rfl, hb⟩
  have b1 := b0.out.keep hb
  have b1_0 := b1.c0
  have b1_1 := b1.c1
  have b1_2 := b1.c2
  have b1_l := b1.lt
  have r1 := r0.out.keep hb
  have HB1 := Lib.hid (below_then hb0.out hb)
  have hz1 : w.heap.size + 1 + 1 ≤ w1.heap.size := by have := hb.size; omega
  clear hb
  go_wp2_with fail
  refine (HCP.out _ _ (HV.out.keep HB1.out)).mono ?_
  rintro e w2 ⟨cv2, rfl, ho2, hb2⟩
  obtain ⟨g, cap, rfl, hg1, hg2⟩ := ho2.head hne.out
  have b2 := b1.keep hb2
  have b2_0 := b2.c0
  have b2_1 := b2.c1
  have b2_2 := b2.c2
  have b2_l := b2.lt
  have r2 := r1.keep hb2
  have HO2 := Lib.hid ho2
  have HB2 := Lib.hid (below_then HB1.out hb2)
  have hz2 : w.heap.size + 1 + 1 ≤ w2.heap.size := by have := hb2.size; omega
  clear b1 b1_0 b1_1 b1_2 b1_l
  clear hb2 r1 ho2
  go_wp2_with fail
  refine (reverse_any _ _ g cap _ h.cells (HO2.out.keep (below_new _ _)) rfl).mono ?_
  rintro e w3 ⟨rfl, ho3, hg3⟩
  have hbk := blk_some g h.cells.length cap
  have r3 := (r2.keep (below_new _ _)).keepG (u := .slice (some ⟨g, 0, none⟩) h.cells.length cap) hg3 hbk (by omega)
  have d3 := (box3_new w2 _ _ _ _).keepG (u := .slice (some ⟨g, 0, none⟩) h.cells.length cap) hg3 hbk (by omega)
  have d3_0 := d3.c0
  have d3_1 := d3.c1
  have d3_2 := d3.c2
  have d3_l := d3.lt
  have HO3 := Lib.hid ho3
  have HB3 := Lib.hid (below_grownG (u := .slice (some ⟨g, 0, none⟩) h.cells.length cap) (below_then HB2.out (below_new _ _)) hg3 hbk (by omega))
  have r3_0 := r3.box.c0
  have r3_1 := r3.box.c1
  have r3_2 := r3.box.c2
  have f0 := r3.f0
  have f1 := r3.f1
  have f2 := r3.f2
  clear hg3 ho3
  go_wp2
  refine bodyPost_ret (v := .agg #[.int .i64 h.wide, .int .i64 h.deep, .slice (some ⟨g, 0, none⟩) h.cells.length cap]) (by simp [results, Tryd.results25, go_sem, r3_0, r3_1, r3_2]) rfl ?_
  unfold GivesHall; rw [H.out]
  refine ⟨_, rfl, ?_, HB3.out.setCell (by simp) _ |>.setCell (by simp) _ |>.setCell (by simp) _⟩
  exact (((HO3.out.setBelow (by simp; omega) _).setBelow (by simp; omega) _).setBelow (by simp; omega) _).base (by omega)

/-- k numbers turned over -/
def turnTo (l : List Int) (n k : Nat) : List Int := tab n (fun j => if n - k ≤ j then gi l (n - 1 - j) else 0)
theorem turnTo_zero (l : List Int) (n : Nat) : turnTo l n 0 = List.replicate n 0 := by
  refine ext_gi (by simp [turnTo, tab_length]) (fun j hj => ?_)
  rw [turnTo, tab_length] at hj
  unfold turnTo
  rw [gi_tab hj, if_neg (by omega)]
  simp [gi, List.getD, hj]
theorem turnTo_all (l : List Int) {n : Nat} (hn : n = l.length) : turnTo l n n = l.reverse := by
  subst hn
  rw [← tab_rev]
  exact tab_congr (fun j hj => by rw [if_pos (by omega)])
theorem turnTo_step (l : List Int) {n k : Nat} (hk : k < n) : (turnTo l n k).set (n - 1 - k) (gi l k) = turnTo l n (k + 1) := by
  unfold turnTo
  rw [tab_set]
  refine tab_congr (fun j hj => ?_)
  by_cases h1 : n - 1 - k = j
  · rw [if_pos h1, if_pos (by omega)]; congr 1; omega
  · rw [if_neg h1]
    by_cases h2 : n - k ≤ j
    · rw [if_pos h2, if_pos (by omega)]
    · rw [if_neg h2, if_neg (by omega)]

set_option maxRecDepth 100000 in
set_option maxHeartbeats 4000000 in
theorem specHallTurn_any (w : World) (v : Value) (h : PHall) (hv : HallAt w v h) :
    Calls Tryd.prog 27 #[v] w (GivesHall (hallTurnF h) w) := by
  have HV := Lib.hid hv
  obtain ⟨cv, rfl, ao, cp, rfl, hn, hcm, hx⟩ := hv
  have HX := Lib.hid hx
  clear hx
  obtain ⟨W, hW⟩ : ∃ W, W = (w.alloc (.cells #[.int .i64 h.wide, .int .i64 h.deep, .slice ao h.cells.length cp] 25)).alloc (.cells #[.int .i64 0, .int .i64 0, .slice none 0 0] 25) := ⟨_, rfl⟩
  have hWs : W.heap.size = w.heap.size + 1 + 1 := by rw [hW]; simp
  have hb0 : Hid (Below w.heap.size w W) := Lib.hid (by rw [hW]; exact below_new2 _ _ _)
  have b0 : Hid (Box3 W w.heap.size (.int .i64 h.wide) (.int .i64 h.deep) (.slice ao h.cells.length cp)) := Lib.hid (by rw [hW]; exact (box3_new w _ _ _ _).keep (below_new _ _))
  have r0 : Hid (Blk3 W (w.heap.size + 1) (.int .i64 0) (.int .i64 0) (.slice none 0 0)) := Lib.hid (by rw [hW]; exact blk3_second w _ _ _ _ _)
  cases hval : validB h
  · have H := Lib.hid (show hallTurnF h = zeroHall by simp [hallTurnF, hval])
    have HW := Lib.hid (specValid_calls hval)
    clear hval
    go_enter Tryd.func27, Tryd.ntmps27
    go_wp2_with fail
    rw [← hW]
    clear hW
    refine (HW.out _ _ (HV.out.keep hb0.out)).mono ?_
    rintro e w1 ⟨rfl, hb⟩
    have r1 := r0.out.keep hb
    have r1_0 := r1.box.c0
    have r1_1 := r1.box.c1
    have r1_2 := r1.box.c2
    have f0 := r1.f0
    have f1 := r1.f1
    have f2 := r1.f2
    have HB := Lib.hid (below_then hb0.out hb)
    clear hb
    go_wp2
    refine bodyPost_ret (v := .agg #[.int .i64 0, .int .i64 0, .slice none 0 0]) (by simp [results, Tryd.results27, go_sem, r1_0, r1_1, r1_2]) rfl ?_
    unfold GivesHall; rw [H.out]
    exact ⟨_, rfl, ownInts_nil _ _, HB.out.setCell (by simp) _ |>.setCell (by simp) _ |>.setCell (by simp) _⟩
  have HW := Lib.hid (specValid_calls hval)
  have hs1 := (valid_size hval).1
  have hs2 := (valid_size hval).2.1
  have hlen := (valid_len hval).2
  have H := Lib.hid (show hallTurnF h = ⟨h.wide, h.deep, h.cells.reverse⟩ by simp [hallTurnF, hval])
  obtain ⟨n, hnn⟩ : ∃ n, n = h.cells.length := ⟨_, rfl⟩
  have hE := Lib.hid (show hallEmptyF h.wide h.deep = ⟨h.wide, h.deep, List.replicate n 0⟩ by
    have e := (valid_size hval).2.2
    unfold hallEmptyF
    rw [if_pos ⟨inR_true.2 hs1, inR_true.2 hs2⟩, ← e, hnn]
    simp)
  have hn0 := (valid_len hval).1
  rw [← hnn] at hlen hn0 HV HX b0 hW ⊢
  have HN := Lib.hid hnn
  clear hval hs1 hs2 hn hcm hnn
  go_enter Tryd.func27, Tryd.ntmps27
  go_wp2_with fail
  rw [← hW]
  clear hW
  refine (HW.out _ _ (HV.out.keep hb0.out)).mono ?_
  rintro e w1 ⟨rfl, hb⟩
  have b1 := b0.out.keep hb
  have b1_0 := b1.c0
  have b1_1 := b1.c1
  have b1_2 := b1.c2
  have b1_l := b1.lt
  have r1 := r0.out.keep hb
  have HB1 := Lib.hid (below_then hb0.out hb)
  have hz1 : w.heap.size + 1 + 1 ≤ w1.heap.size := by have := hb.size; omega
  clear hb
  go_wp2_with fail
  refine (specHallEmpty_any _ _ _).mono ?_
  rintro e w2 ⟨cv2, rfl, ho2, hb2⟩
  rw [hE.out] at ho2 ⊢
  obtain ⟨g, cap, hcv, hg1, hg2⟩ := ho2.head (by intro e; have := congrArg List.length e; simp at this; omega)
  rw [List.length_replicate] at hcv
  subst hcv
  have b2 := b1.keep hb2
  have b2_0 := b2.c0
  have b2_1 := b2.c1
  have b2_2 := b2.c2
  have b2_l := b2.lt
  have r2 := r1.keep hb2
  have HO2 : Hid (OwnInts w1.heap.size w2 (.slice (some ⟨g, 0, none⟩) n cap) (turnTo h.cells n 0)) := Lib.hid (by rw [turnTo_zero]; exact ho2)
  have HB2 := Lib.hid (below_then HB1.out hb2)
  have hz2 : w.heap.size + 1 + 1 ≤ w2.heap.size := by have := hb2.size; omega
  clear b1 b1_0 b1_1 b1_2 b1_l
  clear hb2 r1 ho2
  go_wp2
  obtain ⟨w3, hw3⟩ : ∃ w3, w3 = w2.alloc (.cells #[.int .i64 h.wide, .int .i64 h.deep, .slice (some ⟨g, 0, none⟩) n cap] 25) := ⟨_, rfl⟩
  rw [← hw3]
  have HA3 := Lib.hid (show Below w2.heap.size w2 w3 by rw [hw3]; exact below_new _ _)
  have b3 := b2.keep HA3.out
  have b3_0 := b3.c0
  have b3_1 := b3.c1
  have b3_2 := b3.c2
  have b3_l := b3.lt
  have r3 := r2.keep HA3.out
  have D3 : Hid (Box3 w3 w2.heap.size _ _ _) := Lib.hid (by rw [hw3]; exact box3_new _ _ _ _ _)
  have HO3 := Lib.hid (HO2.out.keep HA3.out)
  have HB3 := Lib.hid (below_then HB2.out HA3.out)
  have hz3 : w2.heap.size < w3.heap.size := by rw [hw3]; simp
  have hbk := blk_some g n cap
  clear b2 b2_0 b2_1 b2_2 b2_l
  clear hw3 r2
  go_loopw [4] (fun i wr => ∃ k : Nat, k ≤ n ∧ i = .int .i64 k ∧ Hid (OwnInts w1.heap.size wr (.slice (some ⟨g, 0, none⟩) n cap) (turnTo h.cells n k)) ∧ Hid (w3.grownBy wr (some g))) (fun i _ => n - (intOf i).toNat)
  case atStart => exact ⟨0, by omega, rfl, HO3, Lib.hid (grown_refl _ _)⟩
  case round =>
    obtain ⟨k, hk, rfl, ho, hg⟩ := hrel
    have HBr := Lib.hid (below_grownG (u := .slice (some ⟨g, 0, none⟩) n cap) HB3.out hg.out hbk (by omega))
    have b4 := b3.keepG (u := .slice (some ⟨g, 0, none⟩) n cap) hg.out hbk (by omega)
    have b4_0 := b4.c0
    have b4_1 := b4.c1
    have b4_2 := b4.c2
    have b4_l := b4.lt
    have d4 := D3.out.keepG (u := .slice (some ⟨g, 0, none⟩) n cap) hg.out hbk (by omega)
    have d4_0 := d4.c0
    have d4_1 := d4.c1
    have d4_2 := d4.c2
    have d4_l := d4.lt
    have r4 := r3.keepG (u := .slice (some ⟨g, 0, none⟩) n cap) hg.out hbk (by omega)
    clear b3 b3_0 b3_1 b3_2 b3_l
    by_cases hlt : k < n
    · obtain ⟨b, o, rfl, h1⟩ := (HX.out.keep HBr.out) k hlt
      have hl : (turnTo h.cells n k).length = n := by unfold turnTo; rw [tab_length]
      have h2 := own_cell ho.out (j := n - 1 - k) (by rw [hl]; omega)
      have f2 := own_free ho.out (n - 1 - k)
      obtain ⟨j, hj⟩ : ∃ j, j = n - 1 - k := ⟨_, rfl⟩
      have hj' : (n : Int) - 1 - k = j := by omega
      have hst := Lib.hid (turnTo_step h.cells hlt)
      rw [← hj] at h2 f2 hst
      obtain ⟨uj, huj⟩ : ∃ u, u = gi (turnTo h.cells n k) j := ⟨_, rfl⟩
      rw [← huj] at h2
      have hk1 : (k : Int) < n := by omega
      have hjn : (j : Int) < n := by omega
      have hj0 : (0 : Int) ≤ j := by omega
      have HJ := Lib.hid hj'
      have hwr : IntKind.i64.wrap ((n : Int) - 1 - k) = j := by rw [hj']; exact IntWalk.i64_in _ (by omega)
      have hwr2 : IntKind.i64.wrap ((n : Int) - 1) = (n : Int) - 1 := IntWalk.i64_in _ (by omega)
      have HS := Lib.hid (own_store ho.out j (gi h.cells k))
      have gb : b ≠ g := by
        have := (cell_lt h1)
        intro e
        have hbw : b < w.heap.size := by obtain ⟨b', o', e', h1'⟩ := HX.out k hlt; cases e'; exact cell_lt h1'
        omega
      clear hj hl huj hj' hlt
      go_wp2
      go_region
      go_wp2
      go_roundw
      case rel => exact ⟨k+1, by omega, by go_num, by rw [← hst.out]; exact HS.out.keep (below_drew1 _), Lib.hid (grown_drew (grown_set hg.out _ _))⟩
      case measure => simp [intOf]; omega
    · obtain rfl : k = n := by omega
      have HO4 : Hid (OwnInts w1.heap.size wr (.slice (some ⟨g, 0, none⟩) k cap) h.cells.reverse) := Lib.hid (by rw [← turnTo_all h.cells HN.out]; exact ho.out)
      have r4_0 := r4.box.c0
      have r4_1 := r4.box.c1
      have r4_2 := r4.box.c2
      have f0 := r4.f0
      have f1 := r4.f1
      have f2 := r4.f2
      clear ho hg
      go_wp2
      refine bodyPost_ret (v := .agg #[.int .i64 h.wide, .int .i64 h.deep, .slice (some ⟨g, 0, none⟩) k cap]) (by simp [results, Tryd.results27, go_sem, r4_0, r4_1, r4_2]) rfl ?_
      unfold GivesHall; rw [H.out]
      refine ⟨_, rfl, ?_, HBr.out.setCell (by simp) _ |>.setCell (by simp) _ |>.setCell (by simp) _⟩
      exact (((HO4.out.setBelow (by simp; omega) _).setBelow (by simp; omega) _).setBelow (by simp; omega) _).base (by omega)

end Go.Proofs.YtjdgbdakkdljmaaDoor
