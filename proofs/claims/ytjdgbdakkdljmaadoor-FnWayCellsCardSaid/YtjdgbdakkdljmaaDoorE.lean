/-
  CellPlace and HallEmpty.
-/
import Derived.Test.YtjdgbdakkdljmaaDoorD
import Derived.Deep.DeepMust
set_option linter.unusedVariables false
set_option maxRecDepth 100000
namespace Go.Proofs.YtjdgbdakkdljmaaDoor
open Go Go.RowKit Go.Park

def placeF (h : PHall) (c : Int) : Int × Int := if validB h = true ∧ hasCellB h c = true then (c % h.wide, c / h.wide) else (-1, -1)
def pairV (p : Int × Int) : Value := .tuple #[.int .i64 p.1, .int .i64 p.2]
theorem hasCell_iff {h : PHall} {c : Int} : hasCellB h c = true ↔ 0 ≤ c ∧ c < h.cells.length := by unfold hasCellB; rw [inR_true]; omega
theorem hasCell_no {h : PHall} {c : Int} : hasCellB h c = false ↔ ¬ (0 ≤ c ∧ c < h.cells.length) := by
  rw [← hasCell_iff]; simp
theorem hasCell_calls {h : PHall} {c : Int} {b : Bool} (hb : hasCellB h c = b) : ∀ (w' : World) (v : Value), HallAt w' v h → Calls Tryd.prog 75 #[v, .int .i64 c] w' (Gives (.bool b) w') := fun w' v hh => by rw [← hb]; exact hasCell_any w' _ h c hh



/-! HallEmpty -/
def hallEmptyF (x y : Int) : PHall := if inR x 2 4 = true ∧ inR y 2 3 = true then ⟨x, y, List.replicate (x * y).toNat 0⟩ else ⟨0, 0, []⟩
/-- a call returns a hall of its own -/
def GivesHall (h : PHall) (w : World) (e : Ending) (w' : World) : Prop :=
  ∃ cv, e = .returned (.agg #[.int .i64 h.wide, .int .i64 h.deep, cv]) ∧ OwnInts w.heap.size w' cv h.cells ∧ Below w.heap.size w w'
theorem ownInts_nil (lo : Nat) (w : World) : OwnInts lo w (.slice none 0 0) [] := ⟨by simp [lim], World.ownsRow_nil _ _ _ _⟩
theorem ownInts_zero {lo n : Nat} {w : World} {v : Value} (hn : n ≤ 12) (h : w.ownsRow lo 3 1 v n (madeCells (Value.int .i64 0).cells (n * 1)).toList) : OwnInts lo w v (List.replicate n 0) := by
  refine ⟨by simp [lim]; omega, ?_⟩
  have e : (madeCells (Value.int .i64 0).cells (n * 1)).toList = (List.replicate n (0 : Int)).map (Value.int .i64) := by
    rw [show (Value.int .i64 0).cells = #[Value.int .i64 0] from rfl, toList_madeCells_one, List.map_replicate, Nat.mul_one]
  rw [e] at h
  simpa using h

set_option maxHeartbeats 400000 in
theorem specHallEmpty_any (w : World) (x y : Int) :
    Calls Tryd.prog 72 #[.int .i64 x, .int .i64 y] w (GivesHall (hallEmptyF x y) w) := by
  cases h1 : inR x 2 4
  · have H := Lib.hid (show hallEmptyF x y = ⟨0, 0, []⟩ by simp [hallEmptyF, h1])
    have HI := Lib.hid (l1In_calls h1)
    clear h1
    go_enter Tryd.func72, Tryd.ntmps72
    go_wp2_with fail
    refine (HI.out _).mono ?_
    rintro e w2 ⟨rfl, q, rfl⟩
    go_wp2
    refine bodyPost_ret (v := .agg #[.int .i64 0, .int .i64 0, .slice none 0 0]) (by simp [results, Tryd.results72, go_sem]) rfl ?_
    unfold GivesHall; rw [H.out]
    exact ⟨_, rfl, ownInts_nil _ _, by repeat (first | exact below_new _ _ | refine below_drewN ?_ _ | refine Below.setCell ?_ (by simp) _)⟩
  have HI := Lib.hid (l1In_calls h1)
  cases h2 : inR y 2 3
  · have H := Lib.hid (show hallEmptyF x y = ⟨0, 0, []⟩ by simp [hallEmptyF, h2])
    have HI2 := Lib.hid (l1In_calls h2)
    clear h1 h2
    go_enter Tryd.func72, Tryd.ntmps72
    go_wp2_with fail
    refine (HI.out _).mono ?_
    rintro e w2 ⟨rfl, q, rfl⟩
    go_wp2_with fail
    refine (HI2.out _).mono ?_
    rintro e w2 ⟨rfl, q', rfl⟩
    go_wp2
    refine bodyPost_ret (v := .agg #[.int .i64 0, .int .i64 0, .slice none 0 0]) (by simp [results, Tryd.results72, go_sem]) rfl ?_
    unfold GivesHall; rw [H.out]
    exact ⟨_, rfl, ownInts_nil _ _, by repeat (first | exact below_new _ _ | refine below_drewN ?_ _ | refine Below.setCell ?_ (by simp) _)⟩
  have HI2 := Lib.hid (l1In_calls h2)
  have H := Lib.hid (show hallEmptyF x y = ⟨x, y, List.replicate (x * y).toNat 0⟩ by simp [hallEmptyF, h1, h2])
  have hm := mul_small (inR_true.1 h1) (inR_true.1 h2)
  have e1 : wrap64 (x * y) = x * y := IntWalk.wrap64_in _ (by omega)
  obtain ⟨n, hn⟩ := Int.eq_ofNat_of_zero_le hm.1
  have hn12 : n ≤ 12 := by omega
  have HN := Lib.hid hn
  obtain ⟨i0, hi, hz0, hz1, hz2⟩ := info_parts Tryd.infoInt
  clear h1 h2 hn hm
  go_enter Tryd.func72, Tryd.ntmps72
  go_wp2_with fail
  refine (HI.out _).mono ?_
  rintro e w2 ⟨rfl, q, rfl⟩
  go_wp2_with fail
  refine (HI2.out _).mono ?_
  rintro e w2 ⟨rfl, q', rfl⟩
  go_wp2_with (at_make; go_must (refine wpList_make_full _ rfl _ _ 23 rfl (w.heap.size + 1) 3 i0 (.int .i64 0) 1 Tryd.underlying23 hi hz0 hz1 _ _ _ _ n rfl rfl ?_ ?_ ?_ ?_ ?_ ?_; (rw [e1]; exact HN.out); (rw [e1]; exact HN.out); (rw [hz2]; omega); (unfold maxLen; omega); (simp); intro w1 hown hgr; have hh0 := hgr.block w.heap.size (by simp) (by simp); have hh := blk3_of (w := w1) (g := w.heap.size) (t := 25) (hh0.trans (heap_alloc_new w _)); clear hh0; have c0 := hh.box.c0; have c1 := hh.box.c1; have c2 := hh.box.c2; have f0 := hh.f0; have f1 := hh.f1; have f2 := hh.f2))
  refine bodyPost_ret (v := .agg #[.int .i64 x, .int .i64 y, .slice (some ⟨w.heap.size + 1, 0, none⟩) n n]) (by simp [results, Tryd.results72, go_sem, c0, c1, c2]) rfl ?_
  have HB := below_then (below_drewN (below_new w _) (q + q')) (below_of_grown hgr)
  have e2 : (x * y).toNat = n := by rw [HN.out]; simp
  unfold GivesHall; rw [H.out, e2]
  refine ⟨_, rfl, OwnInts.base (lo := w.heap.size + 1) ?_ (by omega), ?_⟩
  · refine ownInts_zero hn12 ?_
    repeat (first | exact hown | (refine ownsRow_setCell_below ?_ (by simp) _) | (simpa using hown))
  · exact HB.setCell (by simp) _ |>.setCell (by simp) _ |>.setCell (by simp) _




end Go.Proofs.YtjdgbdakkdljmaaDoor
