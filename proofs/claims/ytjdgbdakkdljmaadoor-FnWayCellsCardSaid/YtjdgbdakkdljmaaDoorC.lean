/-
  hasCell, CellAt, CellPlace, HallFind, slices.Index: what the program and the reference return.
-/
import Derived.Test.YtjdgbdakkdljmaaDoorW
set_option linter.unusedVariables false
namespace Go.Proofs.YtjdgbdakkdljmaaDoor
open Go Go.RowKit Go.Park

/-- a cell of a hall, as the program asks -/
def hasCellB (h : PHall) (c : Int) : Bool := inR c 0 ((h.cells.length : Int) - 1)

set_option maxHeartbeats 400000 in
theorem hasCell_any (w : World) (v : Value) (h : PHall) (c : Int) (hv : HallAt w v h) :
    Calls Tryd.prog 75 #[v, .int .i64 c] w (Gives (.bool (hasCellB h c)) w) := by
  obtain ⟨cv, rfl, ao, cp, rfl, hn, _, hx⟩ := hv
  rw [lim_eq] at hn
  obtain ⟨n, hnn⟩ : ∃ n, n = h.cells.length := ⟨_, rfl⟩
  have H0 : Hid (hasCellB h c = inR c 0 ((n : Int) - 1)) := Lib.hid (by rw [hnn]; rfl)
  rw [← hnn] at hn hx ⊢
  clear hnn hx
  by_cases h1 : 0 ≤ c
  · by_cases h2 : c < n
    · have H := Lib.hid (show hasCellB h c = true by rw [H0.out, inR_true]; omega)
      go_enter Tryd.func75, Tryd.ntmps75
      go_wp2
      go_ret
      exact gives_mk (by rw [H.out]; rfl) (below_new _ _)
    · have H := Lib.hid (show hasCellB h c = false by rw [H0.out, inR_false]; omega)
      go_enter Tryd.func75, Tryd.ntmps75
      go_wp2
      go_ret
      exact gives_mk (by rw [H.out]; rfl) (below_new _ _)
  · have H := Lib.hid (show hasCellB h c = false by rw [H0.out, inR_false]; omega)
    go_enter Tryd.func75, Tryd.ntmps75
    go_wp2
    go_ret
    exact gives_mk (by rw [H.out]; rfl) (below_new _ _)

/-- the first place of a number in a list, up to n -/
def idxTo (l : List Int) (x : Int) : Nat → Int
  | 0 => -1
  | k+1 => if idxTo l x k = -1 then (if gi l k = x then (k : Int) else -1) else idxTo l x k
theorem idxTo_no {l : List Int} {x : Int} {k : Nat} (h : idxTo l x k = -1) (e : ¬ gi l k = x) : idxTo l x (k+1) = -1 := by simp [idxTo, h, e]
theorem idxTo_hit {l : List Int} {x : Int} {k : Nat} (h : idxTo l x k = -1) (e : gi l k = x) : ∀ n, k < n → idxTo l x n = k := by
  intro n hn
  induction n with
  | zero => omega
  | succ n ih =>
    by_cases hkn : k = n
    · subst hkn; simp [idxTo, h, e]
    · have := ih (by omega)
      simp only [idxTo]
      rw [this, if_neg (by omega)]

set_option maxHeartbeats 400000 in
theorem index_any (w : World) (v : Value) (l : List Int) (x : Int) (hv : IntsAt w v l) :
    Calls Tryd.prog 69 #[v, .int .i64 x] w (Tells (.int .i64 (idxTo l x l.length)) w) := by
  obtain ⟨ao, c, rfl, hn, _, hx⟩ := hv
  rw [lim_eq] at hn
  obtain ⟨n, hnn⟩ : ∃ n, n = l.length := ⟨_, rfl⟩
  rw [← hnn] at hn hx ⊢
  clear hnn
  go_enter Tryd.func69, Tryd.ntmps69
  go_wp2
  go_loopw [8] (fun i wr => ∃ k : Nat, k ≤ n ∧ i = .int .i64 k ∧ Hid (idxTo l x k = -1) ∧ ∃ q, wr = w.drewN q) (fun i _ => n - (intOf i).toNat)
  case atStart => exact ⟨0, Nat.zero_le _, rfl, rfl, 0, rfl⟩
  case round =>
    obtain ⟨k, hk, rfl, ha, q, rfl⟩ := hrel
    by_cases hlt : k < n
    · obtain ⟨b, o, rfl, h1⟩ := hx k hlt
      clear hx
      by_cases he : gi l k = x
      · have Hf := Lib.hid (idxTo_hit ha.out he n hlt)
        have hb : (x == gi l k) = true := by simpa using he.symm
        clear he ha
        go_wp2
        go_ret
        exact tells_mk (by rw [Hf.out]; rfl) (drewN1 _ _)
      · have Hf := Lib.hid (idxTo_no ha.out he)
        have hb : (x == gi l k) = false := by simpa using fun e : x = gi l k => he e.symm
        clear he ha
        go_wp2
        go_roundw
        case rel => exact ⟨k+1, by omega, by go_num, Hf, _, rfl⟩
        case measure => simp [intOf]; omega
    · obtain rfl : k = n := by omega
      clear hx
      go_wp2
      go_ret
      exact tells_mk (by rw [ha.out]; rfl) (drewN1 _ _)

def hallFindF (h : PHall) (x : Int) : Int := if validB h = true ∧ 1 ≤ x then idxTo h.cells x h.cells.length else -1

set_option maxHeartbeats 400000 in
theorem hallFind_any (w : World) (v : Value) (h : PHall) (x : Int) (hv : HallAt w v h) :
    Calls Tryd.prog 19 #[v, .int .i64 x] w (Gives (.int .i64 (hallFindF h x)) w) := by
  have HV := Lib.hid hv
  obtain ⟨cv, rfl, hc⟩ := hv
  have HC := Lib.hid hc
  clear hc
  cases hval : validB h
  · have H := Lib.hid (show hallFindF h x = -1 by simp [hallFindF, hval])
    have HW : Hid (∀ w' : World, HallAt w' _ h → Calls Tryd.prog 21 #[.agg #[.int .i64 h.wide, .int .i64 h.deep, cv]] w' (Gives (.bool false) w')) := fun w' hh => by rw [← hval]; exact hallValid_any w' _ h hh
    clear hval
    go_enter Tryd.func19, Tryd.ntmps19
    go_wp2_with fail
    refine (HW.out _ (HV.out.keep (below_new _ _))).mono ?_
    rintro e w1 ⟨rfl, hb⟩
    have b1 := (box3_new w _ _ _ _).keep hb
    have b1_0 := b1.c0
    have b1_1 := b1.c1
    have b1_2 := b1.c2
    have b1_l := b1.lt
    have HB := Lib.hid (below_alloc hb)
    clear hb
    go_wp2
    go_ret
    exact gives_mk (by rw [H.out]; rfl) HB.out
  · have HW : Hid (∀ w' : World, HallAt w' _ h → Calls Tryd.prog 21 #[.agg #[.int .i64 h.wide, .int .i64 h.deep, cv]] w' (Gives (.bool true) w')) := fun w' hh => by rw [← hval]; exact hallValid_any w' _ h hh
    by_cases hx : 1 ≤ x
    · have H := Lib.hid (show hallFindF h x = idxTo h.cells x h.cells.length by simp [hallFindF, hval, hx])
      clear hval
      go_enter Tryd.func19, Tryd.ntmps19
      go_wp2_with fail
      refine (HW.out _ (HV.out.keep (below_new _ _))).mono ?_
      rintro e w1 ⟨rfl, hb⟩
      have b1 := (box3_new w _ _ _ _).keep hb
      have b1_0 := b1.c0
      have b1_1 := b1.c1
      have b1_2 := b1.c2
      have b1_l := b1.lt
      have HB := Lib.hid (below_alloc hb)
      clear hb
      go_wp2_with fail
      refine (index_any _ _ h.cells _ (HC.out.keep HB.out)).mono ?_
      rintro e w2 ⟨rfl, q, rfl⟩
      go_wp2
      go_ret
      exact gives_mk (by rw [H.out]; rfl) (below_drewN HB.out _)
    · have H := Lib.hid (show hallFindF h x = -1 by simp [hallFindF, hx])
      clear hval
      go_enter Tryd.func19, Tryd.ntmps19
      go_wp2_with fail
      refine (HW.out _ (HV.out.keep (below_new _ _))).mono ?_
      rintro e w1 ⟨rfl, hb⟩
      have b1 := (box3_new w _ _ _ _).keep hb
      have b1_0 := b1.c0
      have b1_1 := b1.c1
      have b1_2 := b1.c2
      have b1_l := b1.lt
      have HB := Lib.hid (below_alloc hb)
      clear hb
      go_wp2
      go_ret
      exact gives_mk (by rw [H.out]; rfl) HB.out

end Go.Proofs.YtjdgbdakkdljmaaDoor
