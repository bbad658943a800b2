/-
  HallFree and CellsBeside.
-/
import Derived.Test.YtjdgbdakkdljmaaDoorF
import Derived.Deep.DeepMust
set_option linter.unusedVariables false
namespace Go.Proofs.YtjdgbdakkdljmaaDoor
open Go Go.RowKit Go.Park

/-- of the first numbers those that are picked -/
def selTo (p : Nat → Bool) : Nat → List Int
  | 0 => []
  | k+1 => if p k = true then selTo p k ++ [(k : Int)] else selTo p k
theorem selTo_length (p : Nat → Bool) (k : Nat) : (selTo p k).length ≤ k := by
  induction k with
  | zero => simp [selTo]
  | succ k ih =>
    simp only [selTo]
    split
    · simp; omega
    · omega
theorem selTo_yes {p : Nat → Bool} {k : Nat} (h : p k = true) : selTo p (k+1) = selTo p k ++ [(k : Int)] := by simp [selTo, h]
theorem selTo_no {p : Nat → Bool} {k : Nat} (h : p k = false) : selTo p (k+1) = selTo p k := by simp [selTo, h]
theorem selTo_mem {p : Nat → Bool} {k : Nat} {x : Int} : x ∈ selTo p k ↔ ∃ j : Nat, j < k ∧ p j = true ∧ x = j := by
  induction k with
  | zero => simp [selTo]
  | succ k ih =>
    by_cases h : p k = true
    · rw [selTo_yes h, List.mem_append, ih]
      constructor
      · rintro (⟨j, h1, h2, h3⟩ | h1)
        · exact ⟨j, by omega, h2, h3⟩
        · simp at h1; exact ⟨k, by omega, h, h1⟩
      · rintro ⟨j, h1, h2, h3⟩
        by_cases e : j = k
        · subst e; right; simp [h3]
        · left; exact ⟨j, by omega, h2, h3⟩
    · rw [selTo_no (by simpa using h), ih]
      constructor
      · rintro ⟨j, h1, h2, h3⟩; exact ⟨j, by omega, h2, h3⟩
      · rintro ⟨j, h1, h2, h3⟩
        have : j ≠ k := by rintro rfl; exact h h2
        exact ⟨j, by omega, h2, h3⟩

theorem ownInts_append {lo : Nat} {w' : World} {v' : Value} {l : List Int} {a : Int} (hl : l.length + 1 ≤ lim)
    (h : w'.ownsRow lo 3 1 v' (l.length + 1) (l.map (Value.int .i64) ++ [.int .i64 a])) : OwnInts lo w' v' (l ++ [a]) := by
  refine ⟨by simpa using hl, ?_⟩
  rw [List.map_append, List.length_append]
  exact h
theorem ownInts_empty (w : World) : OwnInts w.heap.size (w.alloc (.cells #[] 3)) (.slice (some ⟨w.heap.size, 0, none⟩) 0 0) [] :=
  ⟨by simp [lim], World.ownsRow_made w #[] 0 (Nat.le_refl _) (by simp) (by simp)⟩
/-- a call returns ints of its own -/
def GivesInts (l : List Int) (w : World) (e : Ending) (w' : World) : Prop :=
  ∃ v, e = .returned v ∧ OwnInts w.heap.size w' v l ∧ Below w.heap.size w w'
theorem below_app {B : Nat} {W wr w1 : World} {v : Value} {o : Obj} (hb : Below B W wr) (hl : B ≤ wr.heap.size) (ho : Blk v B wr.heap.size) (hg : (wr.alloc o).grownBy w1 v.ownBlock) : Below B W w1 :=
  (hb.trans ((Below.refl B wr).alloc hl o)).grown hg (by simp; omega) (fun k hk => (ho k hk).1)

def hallFreeF (h : PHall) : List Int := if validB h = true then selTo (fun j => decide (gi h.cells j = 0)) h.cells.length else []

set_option maxHeartbeats 1000000 in
theorem hallFree_any (w : World) (v : Value) (h : PHall) (hv : HallAt w v h) :
    Calls Tryd.prog 22 #[v] w (GivesInts (hallFreeF h) w) := by
  have HV := Lib.hid hv
  obtain ⟨cv, rfl, ao, c, rfl, hn, hcm, hx⟩ := hv
  have HX := Lib.hid hx
  clear hx
  cases hval : validB h
  · have H := Lib.hid (show hallFreeF h = [] by simp [hallFreeF, hval])
    have HW := Lib.hid (valid_calls hval)
    clear hval
    go_enter Tryd.func22, Tryd.ntmps22
    go_wp2_with fail
    refine (HW.out _ _ (HV.out.keep (below_new _ _))).mono ?_
    rintro e w1 ⟨rfl, hb⟩
    have b1 := (box3_new w _ _ _ _).keep hb
    have b1_0 := b1.c0
    have b1_1 := b1.c1
    have b1_2 := b1.c2
    have b1_l := b1.lt
    have HB := Lib.hid (below_alloc hb)
    clear hb
    go_wp2
    go_ret
    exact ⟨_, rfl, by rw [H.out]; exact ownInts_nil _ _, HB.out⟩
  have HW := Lib.hid (valid_calls hval)
  have H := Lib.hid (show hallFreeF h = selTo (fun j => decide (gi h.cells j = 0)) h.cells.length by simp [hallFreeF, hval])
  have hlen := (valid_len hval).2
  obtain ⟨n, hnn⟩ : ∃ n, n = h.cells.length := ⟨_, rfl⟩
  rw [← hnn] at hlen H HV HX ⊢
  obtain ⟨i0, hi, hz0, hz1, hz2⟩ := info_parts Tryd.infoInt
  clear hval hn hcm hnn
  go_enter Tryd.func22, Tryd.ntmps22
  go_wp2_with fail
  refine (HW.out _ _ (HV.out.keep (below_new _ _))).mono ?_
  rintro e w1 ⟨rfl, hb⟩
  have b1 := (box3_new w _ _ _ _).keep hb
  have b1_0 := b1.c0
  have b1_1 := b1.c1
  have b1_2 := b1.c2
  have b1_l := b1.lt
  have HB := Lib.hid (below_alloc hb)
  have hx1 := HX.out.keep HB.out
  clear hb
  go_wp2
  go_loopw [3, 12] (fun q i wr => ∃ k : Nat, k ≤ n ∧ i = .int .i64 k ∧ Hid (OwnInts w1.heap.size wr q (selTo (fun j => decide (gi h.cells j = 0)) k)) ∧ Below w1.heap.size w1 wr) (fun _ i _ => n - (intOf i).toNat)
  case atStart => exact ⟨0, Nat.zero_le _, rfl, Lib.hid (ownInts_nil _ _), Below.refl _ _⟩
  case round =>
    obtain ⟨k, hk, rfl, ho, hbr⟩ := hrel
    have HR := Lib.hid hbr
    have hsz := hbr.size
    clear hbr
    by_cases hlt : k < n
    · obtain ⟨b, o, rfl, h1⟩ := (hx1.keep HR.out) k hlt
      clear hx1
      have hll := selTo_length (fun j => decide (gi h.cells j = 0)) k
      obtain ⟨L, hL⟩ : ∃ L, L = selTo (fun j => decide (gi h.cells j = 0)) k := ⟨_, rfl⟩
      rw [← hL] at hll ho
      by_cases he : gi h.cells k = 0
      · have hsel := Lib.hid (selTo_yes (p := fun j => decide (gi h.cells j = 0)) (k := k) (by simpa using he))
        rw [← hL] at hsel
        have hbq : (gi h.cells k == 0) = true := by simpa using he
        clear he hL
        go_wp2_with (at_builtin; go_must (refine wpList_append_own _ rfl _ _ 23 rfl w1.heap.size 3 i0 (.int .i64 0) 1 8 Tryd.underlying23 hi hz0 hz1 hz2 rfl (by decide) _ _ _ rfl (ho.out.2.alloc _) ⟨wr.heap.size, 0, none⟩ 1 1 [.int .i64 k] rfl rfl (cell_one_new _ _ _) ?_ ?_ ?_ ?_ ?_; (intro u hu; simp at hu; subst hu; rfl); (unfold maxLen; omega); (omega); (simp; omega); intro v' w2 hown' hgrow _hh; have HO := Lib.hid (ownInts_append (by unfold lim; omega) hown'); have HB2 := Lib.hid (below_app HR.out hsz ho.out.blk hgrow); clear hown' hgrow _hh h1))
        go_roundw
        case rel => exact ⟨k+1, by omega, by go_num, by rw [hsel.out]; exact HO, HB2.out⟩
        case measure => simp [intOf]; omega
      · have hsel := Lib.hid (selTo_no (p := fun j => decide (gi h.cells j = 0)) (k := k) (by simpa using he))
        rw [← hL] at hsel
        have hbq : (gi h.cells k == 0) = false := by simpa using he
        clear he hL
        go_wp2
        go_roundw
        case rel => exact ⟨k+1, by omega, by go_num, by rw [hsel.out]; exact ho, HR.out⟩
        case measure => simp [intOf]; omega
    · obtain rfl : k = n := by omega
      have HF := Lib.hid (below_then HB.out HR.out)
      have hz := HB.out.size
      clear hx1
      go_wp2
      go_ret
      exact ⟨_, rfl, by rw [H.out]; exact ho.out.base hz, HF.out⟩

set_option maxHeartbeats 1000000 in
theorem specHallFree_any (w : World) (v : Value) (h : PHall) (hv : HallAt w v h) :
    Calls Tryd.prog 83 #[v] w (GivesInts (hallFreeF h) w) := by
  have HV := Lib.hid hv
  obtain ⟨cv, rfl, ao, c, rfl, hn, hcm, hx⟩ := hv
  have HX := Lib.hid hx
  clear hx
  obtain ⟨W, hW⟩ : ∃ W, W = w.alloc (.cells #[.int .i64 h.wide, .int .i64 h.deep, .slice ao h.cells.length c] 25) := ⟨_, rfl⟩
  have hWs : W.heap.size = w.heap.size + 1 := by rw [hW]; simp
  have HBW : Hid (Below w.heap.size w W) := Lib.hid (by rw [hW]; exact below_new _ _)
  have HE : Hid (OwnInts (w.heap.size + 1) (W.alloc (.cells #[] 3)) (.slice (some ⟨w.heap.size + 1, 0, none⟩) 0 0) []) := Lib.hid (by rw [← hWs]; exact ownInts_empty W)
  have HBX := Lib.hid (show Box3 W w.heap.size _ _ _ by rw [hW]; exact box3_new _ _ _ _ _)
  have HHV := Lib.hid (HV.out.keep HBW.out)
  cases hval : validB h
  · have H := Lib.hid (show hallFreeF h = [] by simp [hallFreeF, hval])
    have HW := Lib.hid (specValid_calls hval)
    clear hval
    go_enter Tryd.func83, Tryd.ntmps83
    go_wp2_with fail
    have eW := Lib.hid hW
    rw [← hW]
    clear hW
    refine (HW.out _ _ (HHV.out.keep (below_new _ _))).mono ?_
    rintro e w1 ⟨rfl, hb⟩
    have b1 := (HBX.out.keep (below_new _ _)).keep hb
    have b1_0 := b1.c0
    have b1_1 := b1.c1
    have b1_2 := b1.c2
    have b1_l := b1.lt
    have HB := Lib.hid (below_then HBW.out (below_alloc hb))
    have HO := Lib.hid (HE.out.keep hb)
    clear hb
    go_wp2
    go_ret
    exact ⟨_, rfl, by rw [H.out]; exact HO.out.base (by omega), HB.out⟩
  have HW := Lib.hid (specValid_calls hval)
  have H := Lib.hid (show hallFreeF h = selTo (fun j => decide (gi h.cells j = 0)) h.cells.length by simp [hallFreeF, hval])
  have hlen := (valid_len hval).2
  obtain ⟨n, hnn⟩ : ∃ n, n = h.cells.length := ⟨_, rfl⟩
  rw [← hnn] at hlen H HV HX HBX HHV hW ⊢
  obtain ⟨i0, hi, hz0, hz1, hz2⟩ := info_parts Tryd.infoInt
  clear hval hn hcm hnn
  go_enter Tryd.func83, Tryd.ntmps83
  go_wp2_with fail
  rw [← hW]
  clear hW
  refine (HW.out _ _ (HHV.out.keep (below_new _ _))).mono ?_
  rintro e w1 ⟨rfl, hb⟩
  have b1 := (HBX.out.keep (below_new _ _)).keep hb
  have b1_0 := b1.c0
  have b1_1 := b1.c1
  have b1_2 := b1.c2
  have b1_l := b1.lt
  have HB1 := Lib.hid (below_alloc hb)
  have HO := Lib.hid (HE.out.keep hb)
  have hx1 := HX.out.keep (below_then HBW.out HB1.out)
  clear hb
  go_wp2
  go_loopw [3, 4] (fun q i wr => ∃ k : Nat, k ≤ n ∧ i = .int .i64 k ∧ Hid (OwnInts (w.heap.size + 1) wr q (selTo (fun j => decide (gi h.cells j = 0)) k)) ∧ Below (w.heap.size + 1) W wr) (fun _ i _ => n - (intOf i).toNat)
  case atStart => exact ⟨0, Nat.zero_le _, rfl, HO, by rw [← hWs]; exact HB1.out⟩
  case round =>
    obtain ⟨k, hk, rfl, ho, hbr⟩ := hrel
    have HR := Lib.hid hbr
    have hsz : w.heap.size + 1 ≤ wr.heap.size := by have := HR.out.size; omega
    have HRW' := Lib.hid (show Below W.heap.size W wr by rw [hWs]; exact HR.out)
    have HRW := Lib.hid (HBW.out.trans (HR.out.mono (by omega)))
    have b2 := HBX.out.keep HRW'.out
    have b2_0 := b2.c0
    have b2_1 := b2.c1
    have b2_2 := b2.c2
    have b2_l := b2.lt
    clear hbr
    clear b1 b1_0 b1_1 b1_2 b1_l
    by_cases hlt : k < n
    · obtain ⟨b, o, rfl, h1⟩ := (HX.out.keep HRW.out) k hlt
      clear hx1
      have hll := selTo_length (fun j => decide (gi h.cells j = 0)) k
      obtain ⟨L, hL⟩ : ∃ L, L = selTo (fun j => decide (gi h.cells j = 0)) k := ⟨_, rfl⟩
      rw [← hL] at hll ho
      by_cases he : gi h.cells k = 0
      · have hsel := Lib.hid (selTo_yes (p := fun j => decide (gi h.cells j = 0)) (k := k) (by simpa using he))
        rw [← hL] at hsel
        have hbq : (gi h.cells k == 0) = true := by simpa using he
        clear he hL
        go_wp2_with (at_builtin; go_must (refine wpList_append_own _ rfl _ _ 23 rfl (w.heap.size + 1) 3 i0 (.int .i64 0) 1 8 Tryd.underlying23 hi hz0 hz1 hz2 rfl (by decide) _ _ _ rfl (ho.out.2.alloc _) ⟨wr.heap.size, 0, none⟩ 1 1 [.int .i64 k] rfl rfl (cell_one_new _ _ _) ?_ ?_ ?_ ?_ ?_; (intro u hu; simp at hu; subst hu; rfl); (unfold maxLen; omega); (omega); (simp; omega); intro v' w2 hown' hgrow _hh; have HO := Lib.hid (ownInts_append (by unfold lim; omega) hown'); have HB2 := Lib.hid (below_app HR.out hsz ho.out.blk hgrow); clear hown' hgrow _hh))
        go_roundw
        case rel => exact ⟨k+1, by omega, by go_num, by rw [hsel.out]; exact HO, HB2.out⟩
        case measure => simp [intOf]; omega
      · have hsel := Lib.hid (selTo_no (p := fun j => decide (gi h.cells j = 0)) (k := k) (by simpa using he))
        rw [← hL] at hsel
        have hbq : (gi h.cells k == 0) = false := by simpa using he
        clear he hL
        go_wp2
        go_roundw
        case rel => exact ⟨k+1, by omega, by go_num, by rw [hsel.out]; exact ho, HR.out⟩
        case measure => simp [intOf]; omega
    · obtain rfl : k = n := by omega
      clear hx1
      go_wp2
      go_ret
      exact ⟨_, rfl, by rw [H.out]; exact ho.out.base (by omega), HRW.out⟩

theorem selTo_congr {p q : Nat → Bool} {n : Nat} (h : ∀ j, j < n → p j = q j) : selTo p n = selTo q n := by
  induction n with
  | zero => rfl
  | succ n ih =>
    simp only [selTo]
    rw [h n (by omega), ih (fun j hj => h j (by omega))]
theorem selTo_none {p : Nat → Bool} {n : Nat} (h : ∀ j, j < n → p j = false) : selTo p n = [] := by
  induction n with
  | zero => rfl
  | succ n ih =>
    simp only [selTo]
    rw [h n (by omega), ih (fun j hj => h j (by omega))]
    simp
/-- the cells beside a cell -/
def besideF (h : PHall) (c : Int) : List Int := if validB h = true ∧ hasCellB h c = true then selTo (fun j => decide (apartF h.wide c j = 1)) h.cells.length else []
theorem beside_apart (h : PHall) (c : Int) : besideF h c = selTo (fun j => decide (apartAt h c j = 1)) h.cells.length := by
  unfold besideF
  by_cases hv : validB h = true ∧ hasCellB h c = true
  · rw [if_pos hv]
    refine selTo_congr fun j hj => ?_
    have : hasCellB h j = true := hasCell_iff.2 (by omega)
    simp [apartAt, hv.1, hv.2, this]
  · rw [if_neg hv, selTo_none]
    intro j hj
    unfold apartAt
    rw [if_neg (by intro hh; exact hv ⟨hh.1, hh.2.1⟩)]
    simp

set_option maxHeartbeats 1000000 in
theorem cellsBeside_any (w : World) (v : Value) (h : PHall) (x : Int) (hv : HallAt w v h) :
    Calls Tryd.prog 48 #[v, .int .i64 x] w (GivesInts (besideF h x) w) := by
  have HV := Lib.hid hv
  obtain ⟨cv, rfl, ao, c, rfl, hn, hcm, hx⟩ := hv
  clear hx
  cases hval : validB h
  · have H := Lib.hid (show besideF h x = [] by simp [besideF, hval])
    have HW := Lib.hid (valid_calls hval)
    clear hval
    go_enter Tryd.func48, Tryd.ntmps48
    go_wp2_with fail
    refine (HW.out _ _ (HV.out.keep (below_new _ _))).mono ?_
    rintro e w1 ⟨rfl, hb⟩
    have b1 := (box3_new w _ _ _ _).keep hb
    have b1_0 := b1.c0
    have b1_1 := b1.c1
    have b1_2 := b1.c2
    have b1_l := b1.lt
    have HB := Lib.hid (below_alloc hb)
    clear hb
    go_wp2
    go_ret
    exact ⟨_, rfl, by rw [H.out]; exact ownInts_nil _ _, HB.out⟩
  have HW := Lib.hid (valid_calls hval)
  cases h1 : hasCellB h x
  · have H := Lib.hid (show besideF h x = [] by simp [besideF, h1])
    have HI := Lib.hid (hasCell_calls h1)
    clear hval h1
    go_enter Tryd.func48, Tryd.ntmps48
    go_wp2_with fail
    refine (HW.out _ _ (HV.out.keep (below_new _ _))).mono ?_
    rintro e w1 ⟨rfl, hb⟩
    have b1 := (box3_new w _ _ _ _).keep hb
    have b1_0 := b1.c0
    have b1_1 := b1.c1
    have b1_2 := b1.c2
    have b1_l := b1.lt
    have HB := Lib.hid (below_alloc hb)
    clear hb
    go_wp2_with fail
    refine (HI.out _ _ (HV.out.keep HB.out)).mono ?_
    rintro e w2 ⟨rfl, hb⟩
    have HB2 := Lib.hid (below_then HB.out hb)
    clear hb
    go_wp2
    go_ret
    exact ⟨_, rfl, by rw [H.out]; exact ownInts_nil _ _, HB2.out⟩
  have HI := Lib.hid (hasCell_calls h1)
  have H := Lib.hid (show besideF h x = selTo (fun j => decide (apartF h.wide x j = 1)) h.cells.length by simp [besideF, hval, h1])
  have hlen := (valid_len hval).2
  have HA := Lib.hid (fun (W : World) (j : Nat) (hj : j < h.cells.length) => apart_any W h.wide x j (valid_size hval).1 (cell_small hval h1) ⟨by omega, by omega⟩)
  obtain ⟨n, hnn⟩ : ∃ n, n = h.cells.length := ⟨_, rfl⟩
  rw [← hnn] at hlen H HV HA ⊢
  obtain ⟨i0, hi, hz0, hz1, hz2⟩ := info_parts Tryd.infoInt
  clear hval hn hcm hnn h1
  go_enter Tryd.func48, Tryd.ntmps48
  go_wp2_with fail
  refine (HW.out _ _ (HV.out.keep (below_new _ _))).mono ?_
  rintro e w1 ⟨rfl, hb⟩
  have b1 := (box3_new w _ _ _ _).keep hb
  have b1_0 := b1.c0
  have b1_1 := b1.c1
  have b1_2 := b1.c2
  have b1_l := b1.lt
  have HB := Lib.hid (below_alloc hb)
  clear hb
  go_wp2_with fail
  refine (HI.out _ _ (HV.out.keep HB.out)).mono ?_
  rintro e w3 ⟨rfl, hb⟩
  have b3 := b1.keep hb
  have b3_0 := b3.c0
  have b3_1 := b3.c1
  have b3_2 := b3.c2
  have b3_l := b3.lt
  have HB3 := Lib.hid (below_then HB.out hb)
  clear b1 b1_0 b1_1 b1_2 b1_l
  clear hb
  go_wp2
  go_loopw [5, 19] (fun q i wr => ∃ k : Nat, k ≤ n ∧ i = .int .i64 k ∧ Hid (OwnInts w3.heap.size wr q (selTo (fun j => decide (apartF h.wide x j = 1)) k)) ∧ Below w3.heap.size w3 wr) (fun _ i _ => n - (intOf i).toNat)
  case atStart => exact ⟨0, Nat.zero_le _, rfl, Lib.hid (ownInts_nil _ _), Below.refl _ _⟩
  case round =>
    obtain ⟨k, hk, rfl, ho, hbr⟩ := hrel
    have HR := Lib.hid hbr
    have hsz := hbr.size
    have b4 := b3.keep HR.out
    have b4_0 := b4.c0
    have b4_1 := b4.c1
    have b4_2 := b4.c2
    have b4_l := b4.lt
    clear b3 b3_0 b3_1 b3_2 b3_l
    clear hbr
    by_cases hlt : k < n
    · have hll := selTo_length (fun j => decide (apartF h.wide x j = 1)) k
      obtain ⟨L, hL⟩ : ∃ L, L = selTo (fun j => decide (apartF h.wide x j = 1)) k := ⟨_, rfl⟩
      rw [← hL] at hll ho
      have hc := Lib.hid (HA.out wr k hlt)
      by_cases he : apartF h.wide x k = 1
      · have hsel := Lib.hid (selTo_yes (p := fun j => decide (apartF h.wide x j = 1)) (k := k) (by simpa using he))
        rw [← hL] at hsel
        have hbq : (apartF h.wide x k == 1) = true := by simpa using he
        clear he hL
        go_wp2_with fail
        refine (hc.out).mono ?_
        rintro e wa ⟨rfl, q, rfl⟩
        have HOX := Lib.hid (ho.out.keep (below_drewN (Below.refl _ _) q))
        have HRX := Lib.hid (below_drewN HR.out q)
        go_wp2_with (at_builtin; go_must (refine wpList_append_own _ rfl _ _ 23 rfl w3.heap.size 3 i0 (.int .i64 0) 1 8 Tryd.underlying23 hi hz0 hz1 hz2 rfl (by decide) _ _ _ rfl (HOX.out.2.alloc _) ⟨wr.heap.size, 0, none⟩ 1 1 [.int .i64 k] rfl rfl (cell_one_new _ _ _) ?_ ?_ ?_ ?_ ?_; (intro u hu; simp at hu; subst hu; rfl); (unfold maxLen; omega); (omega); (simp; omega); intro v' w2 hown' hgrow _hh; have HO := Lib.hid (ownInts_append (by unfold lim; omega) hown'); have HB2 := Lib.hid (below_app HRX.out hsz HOX.out.blk hgrow); clear hown' hgrow _hh))
        go_roundw
        case rel => exact ⟨k+1, by omega, by go_num, by rw [hsel.out]; exact HO, HB2.out⟩
        case measure => simp [intOf]; omega
      · have hsel := Lib.hid (selTo_no (p := fun j => decide (apartF h.wide x j = 1)) (k := k) (by simpa using he))
        rw [← hL] at hsel
        have hbq : (apartF h.wide x k == 1) = false := by simpa using he
        clear he hL
        go_wp2_with fail
        refine (hc.out).mono ?_
        rintro e wa ⟨rfl, q, rfl⟩
        have HOX := Lib.hid (ho.out.keep (below_drewN (Below.refl _ _) q))
        have HRX := Lib.hid (below_drewN HR.out q)
        go_wp2
        go_roundw
        case rel => exact ⟨k+1, by omega, by go_num, by rw [hsel.out]; exact HOX, HRX.out⟩
        case measure => simp [intOf]; omega
    · obtain rfl : k = n := by omega
      have HF := Lib.hid (below_then HB3.out HR.out)
      have hz := HB3.out.size
      go_wp2
      go_ret
      exact ⟨_, rfl, by rw [H.out]; exact ho.out.base hz, HF.out⟩

set_option maxHeartbeats 1000000 in
theorem specCellsBeside_any (w : World) (v : Value) (h : PHall) (x : Int) (hv : HallAt w v h) :
    Calls Tryd.prog 89 #[v, .int .i64 x] w (GivesInts (besideF h x) w) := by
  have HV := Lib.hid hv
  obtain ⟨cv, rfl, ao, c, rfl, hn, hcm, hx⟩ := hv
  clear hx
  rw [lim_eq] at hn
  obtain ⟨W, hW⟩ : ∃ W, W = w.alloc (.cells #[.int .i64 h.wide, .int .i64 h.deep, .slice ao h.cells.length c] 25) := ⟨_, rfl⟩
  have hWs : W.heap.size = w.heap.size + 1 := by rw [hW]; simp
  have HBW : Hid (Below w.heap.size w W) := Lib.hid (by rw [hW]; exact below_new _ _)
  have HE : Hid (OwnInts (w.heap.size + 1) (W.alloc (.cells #[] 3)) (.slice (some ⟨w.heap.size + 1, 0, none⟩) 0 0) []) := Lib.hid (by rw [← hWs]; exact ownInts_empty W)
  have HBX := Lib.hid (show Box3 W w.heap.size _ _ _ by rw [hW]; exact box3_new _ _ _ _ _)
  have H := Lib.hid (beside_apart h x)
  have HA := Lib.hid (fun (W' : World) (v' : Value) (hh : HallAt W' v' h) (j : Nat) => specCellsApart_any W' v' h x j hh)
  obtain ⟨n, hnn⟩ : ∃ n, n = h.cells.length := ⟨_, rfl⟩
  rw [← hnn] at H HV HBX hW hn ⊢
  obtain ⟨i0, hi, hz0, hz1, hz2⟩ := info_parts Tryd.infoInt
  clear hcm hnn
  go_enter Tryd.func89, Tryd.ntmps89
  go_wp2
  rw [← hW]
  clear hW
  go_loopw [5, 6] (fun q i wr => ∃ k : Nat, k ≤ n ∧ i = .int .i64 k ∧ Hid (OwnInts (w.heap.size + 1) wr q (selTo (fun j => decide (apartAt h x j = 1)) k)) ∧ Below (w.heap.size + 1) W wr) (fun _ i _ => n - (intOf i).toNat)
  case atStart => exact ⟨0, Nat.zero_le _, rfl, HE, by rw [← hWs]; exact below_new _ _⟩
  case round =>
    obtain ⟨k, hk, rfl, ho, hbr⟩ := hrel
    have HR := Lib.hid hbr
    have hsz : w.heap.size + 1 ≤ wr.heap.size := by have := HR.out.size; omega
    have HRW' := Lib.hid (show Below W.heap.size W wr by rw [hWs]; exact HR.out)
    have HRW := Lib.hid (HBW.out.trans (HR.out.mono (by omega)))
    have b2 := HBX.out.keep HRW'.out
    have b2_0 := b2.c0
    have b2_1 := b2.c1
    have b2_2 := b2.c2
    have b2_l := b2.lt
    clear hbr
    by_cases hlt : k < n
    · have hll := selTo_length (fun j => decide (apartAt h x j = 1)) k
      obtain ⟨L, hL⟩ : ∃ L, L = selTo (fun j => decide (apartAt h x j = 1)) k := ⟨_, rfl⟩
      rw [← hL] at hll ho
      have hc := Lib.hid (HA.out wr _ (HV.out.keep HRW.out) k)
      by_cases he : apartAt h x k = 1
      · have hsel := Lib.hid (selTo_yes (p := fun j => decide (apartAt h x j = 1)) (k := k) (by simpa using he))
        rw [← hL] at hsel
        have hbq : (apartAt h x k == 1) = true := by simpa using he
        clear he hL
        go_wp2_with fail
        refine (hc.out).mono ?_
        rintro e wa ⟨rfl, hba⟩
        have HOX := Lib.hid (ho.out.keep hba)
        have HRX := Lib.hid (HR.out.trans (hba.mono hsz))
        have hsz : w.heap.size + 1 ≤ wa.heap.size := Nat.le_trans hsz hba.size
        clear hba
        go_wp2_with (at_builtin; go_must (refine wpList_append_own _ rfl _ _ 23 rfl (w.heap.size + 1) 3 i0 (.int .i64 0) 1 8 Tryd.underlying23 hi hz0 hz1 hz2 rfl (by decide) _ _ _ rfl (HOX.out.2.alloc _) ⟨wa.heap.size, 0, none⟩ 1 1 [.int .i64 k] rfl rfl (cell_one_new _ _ _) ?_ ?_ ?_ ?_ ?_; (intro u hu; simp at hu; subst hu; rfl); (unfold maxLen; omega); (omega); (simp; omega); intro v' w2 hown' hgrow _hh; have HO := Lib.hid (ownInts_append (by unfold lim; omega) hown'); have HB2 := Lib.hid (below_app HRX.out hsz HOX.out.blk hgrow); clear hown' hgrow _hh))
        go_roundw
        case rel => exact ⟨k+1, by omega, by go_num, by rw [hsel.out]; exact HO, HB2.out⟩
        case measure => simp [intOf]; omega
      · have hsel := Lib.hid (selTo_no (p := fun j => decide (apartAt h x j = 1)) (k := k) (by simpa using he))
        rw [← hL] at hsel
        have hbq : (apartAt h x k == 1) = false := by simpa using he
        clear he hL
        go_wp2_with fail
        refine (hc.out).mono ?_
        rintro e wa ⟨rfl, hba⟩
        have HOX := Lib.hid (ho.out.keep hba)
        have HRX := Lib.hid (HR.out.trans (hba.mono hsz))
        clear hba
        go_wp2
        go_roundw
        case rel => exact ⟨k+1, by omega, by go_num, by rw [hsel.out]; exact HOX, HRX.out⟩
        case measure => simp [intOf]; omega
    · obtain rfl : k = n := by omega
      go_wp2
      go_ret
      exact ⟨_, rfl, by rw [H.out]; exact ho.out.base (by omega), HRW.out⟩

end Go.Proofs.YtjdgbdakkdljmaaDoor
