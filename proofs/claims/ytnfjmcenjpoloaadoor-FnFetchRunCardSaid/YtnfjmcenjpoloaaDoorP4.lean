/-
  The texts K K2 K4 H K5 O M S2 B J in one.
-/
import Derived.Test.YtnfjmcenjpoloaaDoorP3
import Derived.Deep.RegionHeld3
import Derived.Deep.AppendLies
import Derived.Laws.AppendOwnNone
import Derived.BigRegion
import Derived.Test.YtnfjmcenjpoloaaDoorP2
import Derived.Test.YtnfjmcenjpoloaaDoorA
import Derived.Maps.AppendAt
section
/-
  Copies of halls; HallTake.
-/
set_option linter.unusedVariables false
namespace Go.Proofs.YtnfjmcenjpoloaaDoor
open Go Go.RowKit Go.Park

/-- an owned row that is not empty begins somewhere -/
theorem OwnInts.head {lo : Nat} {w : World} {v : Value} {l : List Int} (h : OwnInts lo w v l) (hl : l ≠ []) : ∃ g cap, v = .slice (some ⟨g, 0, none⟩) l.length cap ∧ lo ≤ g ∧ g < w.heap.size := by
  rcases h.2.2 with ⟨_, h0⟩ | ⟨g, cap, cur, e, hg, hh, _⟩
  · exact absurd (List.eq_nil_of_length_eq_zero h0) hl
  · exact ⟨g, cap, e, hg, (Array.getElem?_eq_some_iff.1 hh).1⟩
theorem own_cell {lo : Nat} {w : World} {g cap n : Nat} {l : List Int} (h : OwnInts lo w (.slice (some ⟨g, 0, none⟩) n cap) l) {j : Nat} (hj : j < l.length) : w.cell? ⟨g, j, none⟩ = some (.int .i64 (gi l j)) := by
  have h2 := h.2
  have e : n = l.length := by rcases h2.2 with ⟨e, _⟩ | ⟨_, _, _, e, _⟩ <;> cases e; rfl
  subst e
  rw [h2.cellAt j (by omega)]
  simp [gi_of_lt hj]
theorem own_free {lo : Nat} {w : World} {g cap n : Nat} {l : List Int} (h : OwnInts lo w (.slice (some ⟨g, 0, none⟩) n cap) l) (j : Nat) : w.frozen? ⟨g, j, none⟩ = false := by
  have h2 := h.2
  have e : n = l.length := by rcases h2.2 with ⟨e, _⟩ | ⟨_, _, _, e, _⟩ <;> cases e; rfl
  subst e
  exact h2.frozenAt j
theorem own_store {lo : Nat} {w : World} {g cap n : Nat} {l : List Int} (h : OwnInts lo w (.slice (some ⟨g, 0, none⟩) n cap) l) (j : Nat) (x : Int) : OwnInts lo (w.setCell ⟨g, j, none⟩ (.int .i64 x)) (.slice (some ⟨g, 0, none⟩) n cap) (l.set j x) := by
  have h2 := h.2
  have e : n = l.length := by rcases h2.2 with ⟨e, _⟩ | ⟨_, _, _, e, _⟩ <;> cases e; rfl
  subst e
  refine ⟨by simpa using h.1, ?_⟩
  have := (h2.stored j (.int .i64 x)).1
  rw [List.map_set, List.length_set]
  exact this
theorem OwnInts.setBelow {lo : Nat} {w : World} {v : Value} {l : List Int} (h : OwnInts lo w v l) {a : Addr} (ha : a.block < lo) (u : Value) : OwnInts lo (w.setCell a u) v l := ⟨h.1, ownsRow_setCell_below h.2 ha u⟩
theorem news_of_cells {w : World} {b off : Nat} {l : List Int} (h : ∀ j, j < l.length → w.cell? ⟨b, off + j, none⟩ = some (.int .i64 (gi l j))) :
    ∀ j u, (l.map (Value.int .i64))[j]? = some u → w.cell? ((⟨b, off, none⟩ : Addr).add j) = some u := by
  intro j u hu
  rw [List.getElem?_map] at hu
  by_cases hj : j < l.length
  · rw [gi_of_lt hj] at hu
    simp at hu
    subst hu
    rw [← h j hj]
    unfold Addr.add
    split <;> simp_all
  · rw [List.getElem?_eq_none (by omega)] at hu; cases hu
theorem ints_one (l : List Int) : ∀ u ∈ l.map (Value.int .i64), u.oneCell' = true := by
  intro u hu
  simp at hu
  obtain ⟨x, _, rfl⟩ := hu
  rfl
theorem cells_some {w : World} {ao : Option Addr} {l : List Int} (hx : CellsAt w ao l.length (gi l)) (hl : l ≠ []) :
    ∃ b off, ao = some ⟨b, off, none⟩ ∧ b < w.heap.size ∧ ∀ j, j < l.length → w.cell? ⟨b, off + j, none⟩ = some (.int .i64 (gi l j)) := by
  have h0 : 0 < l.length := List.length_pos_iff.2 hl
  obtain ⟨b, off, rfl, h⟩ := hx 0 h0
  refine ⟨b, off, rfl, cell_lt h, fun j hj => ?_⟩
  obtain ⟨b', off', e, hc⟩ := hx j hj
  cases e
  exact hc
theorem own_of_append {lo : Nat} {w' : World} {v' : Value} {l : List Int} (hl : l.length ≤ lim) (h : w'.ownsRow lo 3 1 v' (0 + l.length) ([] ++ l.map (Value.int .i64))) : OwnInts lo w' v' l := by
  rw [Nat.zero_add, List.nil_append] at h
  exact ⟨hl, h⟩

set_option maxHeartbeats 1000000 in
theorem clone_any (w : World) (v : Value) (l : List Int) (hv : IntsAt w v l) (hl : l ≠ []) :
    Calls Tryd.prog 102 #[v] w (GivesInts l w) := by
  obtain ⟨ao, c, rfl, hn, hcm, hx⟩ := hv
  obtain ⟨b, off, rfl, hbw, hcell⟩ := cells_some hx hl
  have hlim := hn
  have h0 : 0 < l.length := List.length_pos_iff.2 hl
  rw [lim_eq] at hn
  obtain ⟨i0, hi, hz0, hz1, hz2⟩ := info_parts Tryd.infoInt
  have HC := Lib.hid (news_of_cells (w := w.alloc (.cells #[] 3)) (fun j hj => ((below_new w (.cells #[] 3)).cell (p := ⟨b, off + j, none⟩) hbw).trans (hcell j hj)))
  have HE : Hid ((w.alloc (.cells #[] 3)).ownsRow w.heap.size 3 1 (.slice (some ⟨w.heap.size, 0, none⟩) 0 0) 0 []) := Lib.hid (ownInts_empty w).2
  have hnil := fun (w' : World) => Lib.run_eql_slice_nil (P := Tryd.prog) w' 23 3 (some ⟨b, off, none⟩) l.length c 0 0 Tryd.underlying23
  clear hx hcell hcm
  go_enter Tryd.func102, Tryd.ntmps102
  go_wp2_with (at_builtin; go_must (refine wpList_append_own _ rfl _ _ 23 rfl w.heap.size 3 i0 (.int .i64 0) 1 8 Tryd.underlying23 hi hz0 hz1 hz2 rfl (by decide) _ _ _ rfl HE.out ⟨b, off, none⟩ l.length c (l.map (Value.int .i64)) rfl ?_ HC.out (ints_one l) ?_ ?_ ?_ ?_; (simp); (unfold maxLen; omega); (omega); (simp); intro v' w2 hown' hgrow _hh; have HO := Lib.hid (own_of_append hlim hown'); have HB2 := Lib.hid ((below_new w (.cells #[] 3)).grown hgrow (by simp) (fun k hk => Nat.le_of_eq (Option.some.inj (show some w.heap.size = some k from hk)))); clear hown' hgrow _hh))
  go_ret
  exact ⟨_, rfl, HO.out, HB2.out⟩

set_option maxRecDepth 100000 in
set_option maxHeartbeats 4000000 in
theorem copyHall_any (w : World) (v : Value) (h : PHall) (hv : HallAt w v h) (hl : h.cells ≠ []) :
    Calls Tryd.prog 62 #[v] w (GivesHall h w) := by
  obtain ⟨cv, rfl, hc⟩ := hv
  have HC := Lib.hid hc
  obtain ⟨ao, c, rfl, _, _, _⟩ := hc
  have HCL := Lib.hid (fun (W : World) (hh : IntsAt W (.slice ao h.cells.length c) h.cells) => clone_any W _ h.cells hh hl)
  clear hl
  go_enter Tryd.func62, Tryd.ntmps62
  go_wp2_with fail
  have b0 := Lib.hid ((box3_new w (.int .i64 h.wide) (.int .i64 h.deep) (.slice ao h.cells.length c) 25).keep (below_new _ (.cells #[.int .i64 0, .int .i64 0, .slice none 0 0] 25)))
  have r0 := Lib.hid (blk3_second w (.cells #[.int .i64 h.wide, .int .i64 h.deep, .slice ao h.cells.length c] 25) (.int .i64 0) (.int .i64 0) (.slice none 0 0) 25)
  have hb0 := Lib.hid (below_new2 w (.cells #[.int .i64 h.wide, .int .i64 h.deep, .slice ao h.cells.length c] 25) (.cells #[.int .i64 0, .int .i64 0, .slice none 0 0] 25))
  go_region_held3 (fun w' => w'.cell? ⟨w.heap.size, 0, none⟩ = some (.int .i64 h.wide) ∧ w'.cell? ⟨w.heap.size, 1, none⟩ = some (.int .i64 h.deep) ∧ w'.cell? ⟨w.heap.size, 2, none⟩ = some (.slice ao h.cells.length c)) (((try dsimp only); (repeat' apply And.intro); all_goals first | (with_reducible assumption) | go_keep))
    (first | (go_at_call 102; go_must (refine (HCL.out _ ?_).mono ?_; exact HC.out.keep (below_then hb0.out (below_drew1 _)); rintro e w1 ⟨v1, rfl, ho, hb⟩; obtain ⟨a1, c1, rfl⟩ := ho.slice; have b1 := (b0.out.keep (below_drew1 _)).keep hb; have b1_0 := b1.c0; have b1_1 := b1.c1; have b1_2 := b1.c2; have b1_l := b1.lt; have r1 := (r0.out.keep (below_drew1 _)).keep hb; have r1_0 := r1.box.c0; have r1_1 := r1.box.c1; have r1_2 := r1.box.c2; have f0 := r1.f0; have f1 := r1.f1; have f2 := r1.f2; have HO := Lib.hid (show OwnInts (w.heap.size + 1 + 1) w1 _ _ from (by simpa using ho)); have HB := Lib.hid (below_then (below_then hb0.out (below_drew1 _)) hb); have hz := hb.size; simp at hz; clear hb ho)))
  go_wp2
  refine bodyPost_ret (v := .agg #[.int .i64 h.wide, .int .i64 h.deep, .slice a1 h.cells.length c1]) (by simp [results, Tryd.results62, go_sem, r1_0, r1_1, r1_2]) rfl ⟨_, rfl, ?_, ?_⟩
  · exact (((HO.out.setBelow (by simp) _).setBelow (by simp) _).setBelow (by simp) _).base (by omega)
  · exact HB.out.setCell (by simp) _ |>.setCell (by simp) _ |>.setCell (by simp) _

set_option maxRecDepth 100000 in
set_option maxHeartbeats 4000000 in
theorem l1Hall_any (w : World) (v : Value) (h : PHall) (hv : HallAt w v h) (hl : h.cells ≠ []) :
    Calls Tryd.prog 50 #[v] w (GivesHall h w) := by
  obtain ⟨cv, rfl, ao, c, rfl, hn, hcm, hx⟩ := hv
  have hlim := hn
  have h0 : 0 < h.cells.length := List.length_pos_iff.2 hl
  rw [lim_eq] at hn
  obtain ⟨b, off, rfl, hbw, hcell⟩ := cells_some hx hl
  obtain ⟨i0, hi, hz0, hz1, hz2⟩ := info_parts Tryd.infoInt
  obtain ⟨W, hW⟩ : ∃ W, W = (w.alloc (.cells #[.int .i64 h.wide, .int .i64 h.deep, .slice (some ⟨b, off, none⟩) h.cells.length c] 25)).alloc (.cells #[.int .i64 0, .int .i64 0, .slice none 0 0] 25) := ⟨_, rfl⟩
  have hWs : W.heap.size = w.heap.size + 1 + 1 := by rw [hW]; simp
  have hb0 : Hid (Below w.heap.size w W) := Lib.hid (by rw [hW]; exact below_new2 _ _ _)
  have b0 : Hid (Box3 W w.heap.size (.int .i64 h.wide) (.int .i64 h.deep) (.slice (some ⟨b, off, none⟩) h.cells.length c)) := Lib.hid (by rw [hW]; exact (box3_new w _ _ _ _).keep (below_new _ _))
  have r0 : Hid (Blk3 W (w.heap.size + 1) (.int .i64 0) (.int .i64 0) (.slice none 0 0)) := Lib.hid (by rw [hW]; exact blk3_second w _ _ _ _ _)
  have HE : Hid ((W.alloc (.cells #[] 3)).drew.ownsRow (w.heap.size + 1 + 1) 3 1 (.slice (some ⟨w.heap.size + 1 + 1, 0, none⟩) 0 0) 0 []) := Lib.hid (by
    have := (ownInts_empty W).2
    rw [hWs] at this
    exact own_keep this (below_drew1 _))
  have HCN : Hid (∀ (j : Nat) (u : Value), (h.cells.map (Value.int .i64))[j]? = some u → (W.alloc (.cells #[] 3)).drew.cell? ((⟨b, off, none⟩ : Addr).add j) = some u) := Lib.hid (by
    refine news_of_cells (fun j hj => ?_)
    have := (below_then (below_then hb0.out (below_new W (.cells #[] 3))) (below_drew1 _)).cell (p := ⟨b, off + j, none⟩) hbw
    rw [this]; exact hcell j hj)
  clear hx hcell hcm hl
  go_enter Tryd.func50, Tryd.ntmps50
  go_wp2_with fail
  rw [← hW]
  clear hW
  have g0 := b0.out.c0
  have g1 := b0.out.c1
  have g2 := b0.out.c2
  have gl := b0.out.lt
  go_region_held3 (fun w' => w'.cell? ⟨w.heap.size, 0, none⟩ = some (.int .i64 h.wide) ∧ w'.cell? ⟨w.heap.size, 1, none⟩ = some (.int .i64 h.deep) ∧ w'.cell? ⟨w.heap.size, 2, none⟩ = some (.slice (some ⟨b, off, none⟩) h.cells.length c)) (((try dsimp only); (repeat' apply And.intro); all_goals first | (with_reducible assumption) | go_keep))
    ((go_must (refine step_append_lies _ (by rfl) _ _ _ (by rfl) (w.heap.size + 1 + 1) 3 i0 _ 1 8 Tryd.underlying23 hi hz0 hz1 hz2 rfl (by omega) _ _ _ (by rfl) HE.out ⟨b, off, none⟩ h.cells.length c (h.cells.map (Value.int .i64)) (by rfl) (by simp) HCN.out (ints_one _) h0 (by unfold maxLen; omega) (by omega) (by simp; omega) (w.heap.size + 1 + 1 + 1) (by simp; omega) ?_; intro gg cap w1 hown1 hgrow hat hlt; have hbk := blk_some (w.heap.size + 1 + 1) 0 0; have b1 := ((b0.out.keep (below_new _ _)).keep (below_drew1 _)).keepG hgrow hbk (by omega); have b1_0 := b1.c0; have b1_1 := b1.c1; have b1_2 := b1.c2; have r1 := ((r0.out.keep (below_new _ _)).keep (below_drew1 _)).keepG hgrow hbk (by omega); have r1_0 := r1.box.c0; have r1_1 := r1.box.c1; have r1_2 := r1.box.c2; have r1_l := r1.box.lt; have f0 := r1.f0; have f1 := r1.f1; have f2 := r1.f2; have HO := Lib.hid (own_of_append hlim hown1); have HB := Lib.hid (below_grownG (below_then (below_then hb0.out (below_new _ _)) (below_drew1 _)) hgrow hbk (by omega)); clear hown1 hgrow hat hlt)))
  go_wp2
  refine bodyPost_ret (v := .agg #[.int .i64 h.wide, .int .i64 h.deep, .slice (some ⟨gg, 0, none⟩) h.cells.length cap]) (by simp [results, Tryd.results50, go_sem, r1_0, r1_1, r1_2]) rfl ⟨_, rfl, ?_, ?_⟩
  · have HO := HO.out
    rw [Nat.zero_add] at HO
    exact (((HO.setBelow (by simp) _).setBelow (by simp) _).setBelow (by simp) _).base (by omega)
  · exact HB.out.setCell (by simp) _ |>.setCell (by simp) _ |>.setCell (by simp) _

end Go.Proofs.YtnfjmcenjpoloaaDoor
end

section
/-
  HallTake.
-/
set_option linter.unusedVariables false
namespace Go.Proofs.YtnfjmcenjpoloaaDoor
open Go Go.RowKit Go.Park

/-- a call returns a hall of its own and a value -/
def GivesHallV (h : PHall) (x : Value) (w : World) (e : Ending) (w' : World) : Prop :=
  ∃ cv, e = .returned (.tuple #[.agg #[.int .i64 h.wide, .int .i64 h.deep, cv], x]) ∧ OwnInts w.heap.size w' cv h.cells ∧ Below w.heap.size w w'
def zeroHall : PHall := ⟨0, 0, []⟩
def hallTakeF (h : PHall) (c : Int) : PHall × Int :=
  if validB h = true then (if hasCellB h c = true then (⟨h.wide, h.deep, h.cells.set c.toNat 0⟩, gi h.cells c.toNat) else (h, 0)) else (zeroHall, 0)
theorem valid_ne {h : PHall} (hv : validB h = true) : h.cells ≠ [] := by
  have := (valid_len hv).1
  intro e
  rw [e] at this
  simp at this


theorem hasCell_gives {h : PHall} {c : Int} {r : Bool} (hr : hasCellB h c = r) : ∀ w' : World, Calls Tryd.prog 63 #[.int .i64 c, .int .i64 0, .int .i64 ((h.cells.length : Int) - 1)] w' (Gives (.bool r) w') := fun w' => tells_gives (l1In_has hr w')

set_option maxRecDepth 100000 in
set_option maxHeartbeats 4000000 in
theorem specHallTake_any (w : World) (v : Value) (h : PHall) (c : Int) (hv : HallAt w v h) :
    Calls Tryd.prog 70 #[v, .int .i64 c] w (GivesHallV (hallTakeF h c).1 (.int .i64 (hallTakeF h c).2) w) := by
  have HV := Lib.hid hv
  obtain ⟨cv, rfl, ao, cp, rfl, hn, hcm, hx⟩ := hv; rw [lim_eq] at hn
  have HX := Lib.hid hx
  clear hx
  obtain ⟨W, hW⟩ : ∃ W, W = (w.alloc (.cells #[.int .i64 h.wide, .int .i64 h.deep, .slice ao h.cells.length cp] 25)).alloc (.cells #[.int .i64 0, .int .i64 0, .slice none 0 0] 25) := ⟨_, rfl⟩
  have hWs : W.heap.size = w.heap.size + 1 + 1 := by rw [hW]; simp
  have hb0 : Hid (Below w.heap.size w W) := Lib.hid (by rw [hW]; exact below_new2 _ _ _)
  have b0 : Hid (Box3 W w.heap.size (.int .i64 h.wide) (.int .i64 h.deep) (.slice ao h.cells.length cp)) := Lib.hid (by rw [hW]; exact (box3_new w _ _ _ _).keep (below_new _ _))
  have r0 : Hid (Blk3 W (w.heap.size + 1) (.int .i64 0) (.int .i64 0) (.slice none 0 0)) := Lib.hid (by rw [hW]; exact blk3_second w _ _ _ _ _)
  cases hval : validB h
  · have H := Lib.hid (show hallTakeF h c = (zeroHall, 0) by simp [hallTakeF, hval])
    have HW := Lib.hid (specValid_calls hval)
    clear hval
    go_enter Tryd.func70, Tryd.ntmps70
    go_wp2_with fail
    rw [← hW]
    clear hW
    refine (HW.out _ _ (HV.out.keep hb0.out)).mono ?_
    rintro e w1 ⟨rfl, hb⟩
    have r1 := r0.out.keep hb
    have r1_0 := r1.box.c0
    have r1_1 := r1.box.c1
    have r1_2 := r1.box.c2
    have f0 := r1.f0
    have f1 := r1.f1
    have f2 := r1.f2
    have HB := Lib.hid (below_then hb0.out hb)
    clear hb
    go_wp2
    refine bodyPost_ret (v := .tuple #[.agg #[.int .i64 0, .int .i64 0, .slice none 0 0], .int .i64 0]) (by simp [results, Tryd.results70, go_sem, r1_0, r1_1, r1_2]) rfl ?_
    unfold GivesHallV; rw [H.out]
    exact ⟨_, rfl, ownInts_nil _ _, HB.out.setCell (by simp) _ |>.setCell (by simp) _ |>.setCell (by simp) _⟩
  have HW := Lib.hid (specValid_calls hval)
  have HCP := Lib.hid (fun (W' : World) (v' : Value) (hh : HallAt W' v' h) => l1Hall_any W' v' h hh (valid_ne hval))
  have hne := Lib.hid (valid_ne hval)
  cases h1 : hasCellB h c
  · have H := Lib.hid (show hallTakeF h c = (h, 0) by simp [hallTakeF, hval, h1])
    have HI := Lib.hid (hasCell_gives h1)
    clear hval h1
    go_enter Tryd.func70, Tryd.ntmps70
    go_wp2_with fail
    rw [← hW]
    clear hW
    refine (HW.out _ _ (HV.out.keep hb0.out)).mono ?_
    rintro e w1 ⟨rfl, hb⟩
    have b1 := b0.out.keep hb
    have b1_0 := b1.c0
    have b1_1 := b1.c1
    have b1_2 := b1.c2
    have b1_l := b1.lt
    have r1 := r0.out.keep hb
    have HB1 := Lib.hid (below_then hb0.out hb)
    have hz1 : w.heap.size + 1 + 1 ≤ w1.heap.size := by have := hb.size; omega
    clear hb
    go_wp2_with fail
    refine (HCP.out _ _ (HV.out.keep HB1.out)).mono ?_
    rintro e w2 ⟨cv2, rfl, ho2, hb2⟩
    obtain ⟨g, cap, rfl, hg1, hg2⟩ := ho2.head hne.out
    have b2 := b1.keep hb2
    have b2_0 := b2.c0
    have b2_1 := b2.c1
    have b2_2 := b2.c2
    have b2_l := b2.lt
    have r2 := r1.keep hb2
    have HO2 := Lib.hid ho2
    have HB2 := Lib.hid (below_then HB1.out hb2)
    have hz2 : w.heap.size + 1 + 1 ≤ w2.heap.size := by have := hb2.size; omega
    clear b1 b1_0 b1_1 b1_2 b1_l
    clear hb2 r1 ho2
    go_wp2_with fail
    refine (HI.out _).mono ?_
    rintro e w3 ⟨rfl, hb3⟩
    have b3 := (b2.keep (below_new _ _)).keep hb3
    have b3_0 := b3.c0
    have b3_1 := b3.c1
    have b3_2 := b3.c2
    have b3_l := b3.lt
    have r3 := (r2.keep (below_new _ _)).keep hb3
    have d3 := (box3_new w2 _ _ _ _).keep hb3
    have d3_0 := d3.c0
    have d3_1 := d3.c1
    have d3_2 := d3.c2
    have d3_l := d3.lt
    have HO3 := Lib.hid ((HO2.out.keep (below_new _ _)).keep hb3)
    have HB3 := Lib.hid (below_then (below_then HB2.out (below_new _ _)) hb3)
    have r3_0 := r3.box.c0
    have r3_1 := r3.box.c1
    have r3_2 := r3.box.c2
    have f0 := r3.f0
    have f1 := r3.f1
    have f2 := r3.f2
    clear hb3
    go_wp2
    refine bodyPost_ret (v := .tuple #[.agg #[.int .i64 h.wide, .int .i64 h.deep, .slice (some ⟨g, 0, none⟩) h.cells.length cap], .int .i64 0]) (by simp [results, Tryd.results70, go_sem, r3_0, r3_1, r3_2]) rfl ?_
    unfold GivesHallV; rw [H.out]
    refine ⟨_, rfl, ?_, HB3.out.setCell (by simp) _ |>.setCell (by simp) _ |>.setCell (by simp) _⟩
    exact (((HO3.out.setBelow (by simp; omega) _).setBelow (by simp; omega) _).setBelow (by simp; omega) _).base (by omega)
  have HI := Lib.hid (hasCell_gives h1)
  have hlen := (valid_len hval).2
  have e1 := hasCell_iff.1 h1
  obtain ⟨x, rfl⟩ := Int.eq_ofNat_of_zero_le e1.1
  have hxn : x < h.cells.length := by omega
  have H := Lib.hid (show hallTakeF h x = (⟨h.wide, h.deep, h.cells.set x 0⟩, gi h.cells x) by simp [hallTakeF, hval, h1])
  obtain ⟨b, o, rfl, hcx⟩ := HX.out x hxn
  have hbw : b < w.heap.size := cell_lt hcx
  clear hval h1 e1
  go_enter Tryd.func70, Tryd.ntmps70
  go_wp2_with fail
  rw [← hW]
  clear hW
  refine (HW.out _ _ (HV.out.keep hb0.out)).mono ?_
  rintro e w1 ⟨rfl, hb⟩
  have b1 := b0.out.keep hb
  have b1_0 := b1.c0
  have b1_1 := b1.c1
  have b1_2 := b1.c2
  have b1_l := b1.lt
  have r1 := r0.out.keep hb
  have HB1 := Lib.hid (below_then hb0.out hb)
  have hz1 : w.heap.size + 1 + 1 ≤ w1.heap.size := by have := hb.size; omega
  clear hb
  go_wp2_with fail
  refine (HCP.out _ _ (HV.out.keep HB1.out)).mono ?_
  rintro e w2 ⟨cv2, rfl, ho2, hb2⟩
  obtain ⟨g, cap, rfl, hg1, hg2⟩ := ho2.head hne.out
  have b2 := b1.keep hb2
  have b2_0 := b2.c0
  have b2_1 := b2.c1
  have b2_2 := b2.c2
  have b2_l := b2.lt
  have r2 := r1.keep hb2
  have HO2 := Lib.hid ho2
  have HB2 := Lib.hid (below_then HB1.out hb2)
  have hz2 : w.heap.size + 1 + 1 ≤ w2.heap.size := by have := hb2.size; omega
  clear b1 b1_0 b1_1 b1_2 b1_l
  clear hb2 r1 ho2
  go_wp2_with fail
  refine (HI.out _).mono ?_
  rintro e w3 ⟨rfl, hb3⟩
  have b3 := (b2.keep (below_new _ _)).keep hb3
  have b3_0 := b3.c0
  have b3_1 := b3.c1
  have b3_2 := b3.c2
  have b3_l := b3.lt
  have r3 := (r2.keep (below_new _ _)).keep hb3
  have d3 := (box3_new w2 _ _ _ _).keep hb3
  have d3_0 := d3.c0
  have d3_1 := d3.c1
  have d3_2 := d3.c2
  have d3_l := d3.lt
  have HO3 := Lib.hid ((HO2.out.keep (below_new _ _)).keep hb3)
  have HB3 := Lib.hid (below_then (below_then HB2.out (below_new _ _)) hb3)
  have hz3 : w2.heap.size < w3.heap.size := by have := hb3.size; simp at this; omega
  have cg := own_cell HO3.out hxn
  have fg := own_free HO3.out x
  clear hb3
  go_wp2
  have hbk := blk_some g h.cells.length cap
  obtain ⟨w4, hw4⟩ : ∃ w4, w4 = w3.setCell ⟨g, x, none⟩ (.int .i64 0) := ⟨_, rfl⟩
  have hg4 := grown_set (g := g) (grown_refl w3 (some g)) x (.int .i64 0)
  rw [← hw4] at hg4 ⊢
  have b4 := b3.keepG (u := .slice (some ⟨g, 0, none⟩) h.cells.length cap) hg4 hbk (by omega)
  have b4_0 := b4.c0
  have b4_1 := b4.c1
  have b4_2 := b4.c2
  have b4_l := b4.lt
  have d4 := d3.keepG (u := .slice (some ⟨g, 0, none⟩) h.cells.length cap) hg4 hbk (by omega)
  have d4_0 := d4.c0
  have d4_1 := d4.c1
  have d4_2 := d4.c2
  have d4_l := d4.lt
  have r4 := r3.keepG (u := .slice (some ⟨g, 0, none⟩) h.cells.length cap) hg4 hbk (by omega)
  have HO4 : Hid (OwnInts w1.heap.size w4 _ _) := Lib.hid (by rw [hw4]; exact own_store HO3.out x 0)
  have HB4 := Lib.hid (below_grownG (u := .slice (some ⟨g, 0, none⟩) h.cells.length cap) HB3.out hg4 hbk (by omega))
  have r4_0 := r4.box.c0
  have r4_1 := r4.box.c1
  have r4_2 := r4.box.c2
  have f0 := r4.f0
  have f1 := r4.f1
  have f2 := r4.f2
  have cx := (HB4.out.cell (p := ⟨b, o + x, none⟩) hbw).trans hcx
  have hx0 : (0 : Int) ≤ x := by omega
  have hx1 : (x : Int) < h.cells.length := by omega
  clear b3 b3_0 b3_1 b3_2 b3_l
  clear d3 d3_0 d3_1 d3_2 d3_l
  clear hw4 hg4 r3 cg fg
  go_region
  all_goals
    go_wp2
    refine bodyPost_ret (v := .tuple #[.agg #[.int .i64 h.wide, .int .i64 h.deep, .slice (some ⟨g, 0, none⟩) h.cells.length cap], .int .i64 (gi h.cells x)]) (by simp [results, Tryd.results70, go_sem, r4_0, r4_1, r4_2]) rfl ?_
    unfold GivesHallV; rw [H.out]
    refine ⟨_, rfl, OwnInts.base (lo := w1.heap.size) ?_ (by omega), ?_⟩
    · repeat (first | exact HO4.out | (refine OwnInts.setBelow ?_ (by simp; omega) _) | (refine OwnInts.keep ?_ (below_drew1 _)))
    · repeat (first | exact HB4.out | (refine Below.setCell ?_ (by simp) _) | (refine Below.drew ?_))

end Go.Proofs.YtnfjmcenjpoloaaDoor
end

section
/-
  slices.Reverse and HallTurn.
-/
set_option linter.unusedVariables false
namespace Go.Proofs.YtnfjmcenjpoloaaDoor
open Go Go.RowKit Go.Park

def tab (n : Nat) (f : Nat → Int) : List Int := (List.range n).map f
theorem grown_trans {w w1 w2 : World} {r : Option Nat} (h : w.grownBy w1 r) (k : w1.grownBy w2 r) : w.grownBy w2 r :=
  ⟨k.os.trans h.os, k.tape.trans h.tape, k.output.trans h.output, Nat.le_trans h.size k.size, fun i hi hr => (k.block i (Nat.lt_of_lt_of_le hi h.size) hr).trans (h.block i hi hr)⟩
theorem grown_drew {w w1 : World} {r : Option Nat} (h : w.grownBy w1 r) : w.grownBy w1.drew r := grown_trans h ⟨rfl, rfl, rfl, Nat.le_refl _, fun _ _ _ => rfl⟩


end Go.Proofs.YtnfjmcenjpoloaaDoor
end

section
/-
  Copies of halls, and SlideMay.
-/
set_option linter.unusedVariables false
namespace Go.Proofs.YtnfjmcenjpoloaaDoor
open Go Go.RowKit Go.Park

/-- whether a slide can be done -/
def slideMayB (h : PHall) (a b : Int) : Bool :=
  validB h && (hasCellB h a && (hasCellB h b && (decide (gi h.cells a.toNat ≠ 0) && (decide (gi h.cells b.toNat = 0) && decide (apartF h.wide a b = 1)))))
theorem valid_cell {h : PHall} (hv : validB h = true) {j : Nat} (hj : j < h.cells.length) : 0 ≤ gi h.cells j ∧ gi h.cells j ≤ 99 := by
  simp only [validB, Bool.and_eq_true] at hv
  have := okTo_iff.1 hv.2 j hj
  simp only [okAt, Bool.and_eq_true] at this
  exact inR_true.1 this.1

set_option maxHeartbeats 1000000 in
theorem slideMay_any (w : World) (v : Value) (h : PHall) (a b : Int) (hv : HallAt w v h) :
    Calls Tryd.prog 79 #[v, .agg #[.int .i64 a, .int .i64 b]] w (Gives (.bool (slideMayB h a b)) w) := by
  have HV := Lib.hid hv
  obtain ⟨cv, rfl, ao, c, rfl, hn, hcm, hx⟩ := hv
  have HX := Lib.hid hx
  clear hx
  cases hval : validB h
  · have H := Lib.hid (show slideMayB h a b = false by simp [slideMayB, hval])
    have HW := Lib.hid (valid_calls hval)
    clear hval
    go_enter Tryd.func79, Tryd.ntmps79
    go_wp2_with fail
    refine (HW.out _ _ (HV.out.keep (below_new2 _ _ _))).mono ?_
    rintro e w1 ⟨rfl, hb⟩
    have HB := Lib.hid (below_then (below_new2 _ _ _) hb)
    clear hb
    go_wp2
    go_ret
    exact gives_mk (by rw [H.out]; rfl) HB.out
  have HW := Lib.hid (valid_calls hval)
  cases h1 : hasCellB h a
  · have H := Lib.hid (show slideMayB h a b = false by simp [slideMayB, h1])
    have HI := Lib.hid (hasCell_calls h1)
    clear hval h1
    go_enter Tryd.func79, Tryd.ntmps79
    go_wp2_with fail
    refine (HW.out _ _ (HV.out.keep (below_new2 _ _ _))).mono ?_
    rintro e w1 ⟨rfl, hb⟩
    have b1 := ((box3_new w _ _ _ _).keep (below_new _ _)).keep hb
    have b1_0 := b1.c0
    have b1_1 := b1.c1
    have b1_2 := b1.c2
    have b1_l := b1.lt
    have d1 := (box2_second w _ _ _ _).keep hb
    have d1_0 := d1.c0
    have d1_1 := d1.c1
    have HB := Lib.hid (below_then (below_new2 _ _ _) hb)
    clear hb
    go_wp2_with fail
    refine (HI.out _ _ (HV.out.keep HB.out)).mono ?_
    rintro e w2 ⟨rfl, hb⟩
    have HB2 := Lib.hid (below_then HB.out hb)
    clear hb
    go_wp2
    go_ret
    exact gives_mk (by rw [H.out]; rfl) HB2.out
  have HI := Lib.hid (hasCell_calls h1)
  cases h2 : hasCellB h b
  · have H := Lib.hid (show slideMayB h a b = false by simp [slideMayB, h2])
    have HI2 := Lib.hid (hasCell_calls h2)
    clear hval h1 h2
    go_enter Tryd.func79, Tryd.ntmps79
    go_wp2_with fail
    refine (HW.out _ _ (HV.out.keep (below_new2 _ _ _))).mono ?_
    rintro e w1 ⟨rfl, hb⟩
    have b1 := ((box3_new w _ _ _ _).keep (below_new _ _)).keep hb
    have b1_0 := b1.c0
    have b1_1 := b1.c1
    have b1_2 := b1.c2
    have b1_l := b1.lt
    have d1 := (box2_second w _ _ _ _).keep hb
    have d1_0 := d1.c0
    have d1_1 := d1.c1
    have HB := Lib.hid (below_then (below_new2 _ _ _) hb)
    clear hb
    go_wp2_with fail
    refine (HI.out _ _ (HV.out.keep HB.out)).mono ?_
    rintro e w2 ⟨rfl, hb⟩
    have b2 := b1.keep hb
    have b2_0 := b2.c0
    have b2_1 := b2.c1
    have b2_2 := b2.c2
    have b2_l := b2.lt
    have d2 := d1.keep hb
    have d2_0 := d2.c0
    have d2_1 := d2.c1
    have HB2 := Lib.hid (below_then HB.out hb)
    clear hb
    go_wp2_with fail
    refine (HI2.out _ _ (HV.out.keep HB2.out)).mono ?_
    rintro e w3 ⟨rfl, hb⟩
    have HB3 := Lib.hid (below_then HB2.out hb)
    clear hb
    go_wp2
    go_ret
    exact gives_mk (by rw [H.out]; rfl) HB3.out
  have HI2 := Lib.hid (hasCell_calls h2)
  have HA := Lib.hid (fun W : World => apart_any W h.wide a b (valid_size hval).1 (cell_small hval h1) (cell_small hval h2))
  have hlen := (valid_len hval).2
  obtain ⟨n, hnn⟩ : ∃ n, n = h.cells.length := ⟨_, rfl⟩
  have e1 := hasCell_iff.1 h1
  have e2 := hasCell_iff.1 h2
  rw [← hnn] at HV HX hlen e1 e2 ⊢
  obtain ⟨x, rfl⟩ := Int.eq_ofNat_of_zero_le e1.1
  obtain ⟨y, rfl⟩ := Int.eq_ofNat_of_zero_le e2.1
  have hxn : x < n := by omega
  have hyn : y < n := by omega
  have H0 := Lib.hid (show slideMayB h x y = (decide (gi h.cells x ≠ 0) && (decide (gi h.cells y = 0) && decide (apartF h.wide x y = 1))) by simp [slideMayB, hval, h1, h2])
  obtain ⟨b0, o, rfl, hcx⟩ := HX.out x hxn
  obtain ⟨b', o', e, hcy⟩ := HX.out y hyn
  cases e
  have hbw : b0 < w.heap.size := cell_lt hcx
  clear hval h1 h2 e1 e2 hnn hn hcm
  by_cases h3 : gi h.cells x = 0
  · have H := Lib.hid (show slideMayB h x y = false by rw [H0.out]; simp [h3])
    have h3' : (gi h.cells x != 0) = false := by simpa using h3
    clear h3
    go_enter Tryd.func79, Tryd.ntmps79
    go_wp2_with fail
    refine (HW.out _ _ (HV.out.keep (below_new2 _ _ _))).mono ?_
    rintro e w1 ⟨rfl, hb⟩
    have b1 := ((box3_new w _ _ _ _).keep (below_new _ _)).keep hb
    have b1_0 := b1.c0
    have b1_1 := b1.c1
    have b1_2 := b1.c2
    have b1_l := b1.lt
    have d1 := (box2_second w _ _ _ _).keep hb
    have d1_0 := d1.c0
    have d1_1 := d1.c1
    have HB := Lib.hid (below_then (below_new2 _ _ _) hb)
    clear hb
    go_wp2_with fail
    refine (HI.out _ _ (HV.out.keep HB.out)).mono ?_
    rintro e w2 ⟨rfl, hb⟩
    have b2 := b1.keep hb
    have b2_0 := b2.c0
    have b2_1 := b2.c1
    have b2_2 := b2.c2
    have b2_l := b2.lt
    have d2 := d1.keep hb
    have d2_0 := d2.c0
    have d2_1 := d2.c1
    have HB2 := Lib.hid (below_then HB.out hb)
    clear hb
    go_wp2_with fail
    refine (HI2.out _ _ (HV.out.keep HB2.out)).mono ?_
    rintro e w3 ⟨rfl, hb⟩
    have b3 := b2.keep hb
    have b3_0 := b3.c0
    have b3_1 := b3.c1
    have b3_2 := b3.c2
    have b3_l := b3.lt
    have d3 := d2.keep hb
    have d3_0 := d3.c0
    have d3_1 := d3.c1
    have HB3 := Lib.hid (below_then HB2.out hb)
    have cx := (HB3.out.cell (p := ⟨b0, o + x, none⟩) hbw).trans hcx
    have cy := (HB3.out.cell (p := ⟨b0, o + y, none⟩) hbw).trans hcy
    clear hb
    go_wp2
    go_ret
    exact gives_mk (by rw [H.out]; rfl) HB3.out
  have h3' : (gi h.cells x != 0) = true := by simpa using h3
  by_cases h4 : gi h.cells y = 0
  rotate_left
  · have H := Lib.hid (show slideMayB h x y = false by rw [H0.out]; simp [h4])
    have h4' : (gi h.cells y == 0) = false := by simpa using h4
    clear h3 h4
    go_enter Tryd.func79, Tryd.ntmps79
    go_wp2_with fail
    refine (HW.out _ _ (HV.out.keep (below_new2 _ _ _))).mono ?_
    rintro e w1 ⟨rfl, hb⟩
    have b1 := ((box3_new w _ _ _ _).keep (below_new _ _)).keep hb
    have b1_0 := b1.c0
    have b1_1 := b1.c1
    have b1_2 := b1.c2
    have b1_l := b1.lt
    have d1 := (box2_second w _ _ _ _).keep hb
    have d1_0 := d1.c0
    have d1_1 := d1.c1
    have HB := Lib.hid (below_then (below_new2 _ _ _) hb)
    clear hb
    go_wp2_with fail
    refine (HI.out _ _ (HV.out.keep HB.out)).mono ?_
    rintro e w2 ⟨rfl, hb⟩
    have b2 := b1.keep hb
    have b2_0 := b2.c0
    have b2_1 := b2.c1
    have b2_2 := b2.c2
    have b2_l := b2.lt
    have d2 := d1.keep hb
    have d2_0 := d2.c0
    have d2_1 := d2.c1
    have HB2 := Lib.hid (below_then HB.out hb)
    clear hb
    go_wp2_with fail
    refine (HI2.out _ _ (HV.out.keep HB2.out)).mono ?_
    rintro e w3 ⟨rfl, hb⟩
    have b3 := b2.keep hb
    have b3_0 := b3.c0
    have b3_1 := b3.c1
    have b3_2 := b3.c2
    have b3_l := b3.lt
    have d3 := d2.keep hb
    have d3_0 := d3.c0
    have d3_1 := d3.c1
    have HB3 := Lib.hid (below_then HB2.out hb)
    have cx := (HB3.out.cell (p := ⟨b0, o + x, none⟩) hbw).trans hcx
    have cy := (HB3.out.cell (p := ⟨b0, o + y, none⟩) hbw).trans hcy
    clear hb
    go_wp2
    go_ret
    exact gives_mk (by rw [H.out]; rfl) HB3.out
  have h4' : (gi h.cells y == 0) = true := by simpa using h4
  have H := Lib.hid (show slideMayB h x y = decide (apartF h.wide x y = 1) by rw [H0.out]; simp [h3, h4])
  clear h3 h4
  go_enter Tryd.func79, Tryd.ntmps79
  go_wp2_with fail
  refine (HW.out _ _ (HV.out.keep (below_new2 _ _ _))).mono ?_
  rintro e w1 ⟨rfl, hb⟩
  have b1 := ((box3_new w _ _ _ _).keep (below_new _ _)).keep hb
  have b1_0 := b1.c0
  have b1_1 := b1.c1
  have b1_2 := b1.c2
  have b1_l := b1.lt
  have d1 := (box2_second w _ _ _ _).keep hb
  have d1_0 := d1.c0
  have d1_1 := d1.c1
  have HB := Lib.hid (below_then (below_new2 _ _ _) hb)
  clear hb
  go_wp2_with fail
  refine (HI.out _ _ (HV.out.keep HB.out)).mono ?_
  rintro e w2 ⟨rfl, hb⟩
  have b2 := b1.keep hb
  have b2_0 := b2.c0
  have b2_1 := b2.c1
  have b2_2 := b2.c2
  have b2_l := b2.lt
  have d2 := d1.keep hb
  have d2_0 := d2.c0
  have d2_1 := d2.c1
  have HB2 := Lib.hid (below_then HB.out hb)
  clear hb
  go_wp2_with fail
  refine (HI2.out _ _ (HV.out.keep HB2.out)).mono ?_
  rintro e w3 ⟨rfl, hb⟩
  have b3 := b2.keep hb
  have b3_0 := b3.c0
  have b3_1 := b3.c1
  have b3_2 := b3.c2
  have b3_l := b3.lt
  have d3 := d2.keep hb
  have d3_0 := d3.c0
  have d3_1 := d3.c1
  have HB3 := Lib.hid (below_then HB2.out hb)
  have cx := (HB3.out.cell (p := ⟨b0, o + x, none⟩) hbw).trans hcx
  have cy := (HB3.out.cell (p := ⟨b0, o + y, none⟩) hbw).trans hcy
  clear hb
  go_wp2_with fail
  refine (HA.out _).mono ?_
  rintro e w4 ⟨rfl, q2, rfl⟩
  go_wp2
  go_ret
  exact gives_mk (by rw [H.out]; rfl) (below_drewN HB3.out _)

set_option maxHeartbeats 1000000 in
theorem specSlideMay_any (w : World) (v : Value) (h : PHall) (a b : Int) (hv : HallAt w v h) :
    Calls Tryd.prog 97 #[v, .agg #[.int .i64 a, .int .i64 b]] w (Gives (.bool (slideMayB h a b)) w) := by
  have HV := Lib.hid hv
  obtain ⟨cv, rfl, ao, c, rfl, hn, hcm, hx⟩ := hv
  have HX := Lib.hid hx
  clear hx
  have HA := Lib.hid (fun (W : World) (v' : Value) (hh : HallAt W v' h) => specCellsApart_any W v' h a b hh)
  by_cases h1 : apartAt h a b = 1
  rotate_left
  · have H := Lib.hid (show slideMayB h a b = false by
      cases hm : slideMayB h a b with
      | false => rfl
      | true =>
        simp only [slideMayB, Bool.and_eq_true, decide_eq_true_eq] at hm
        exact absurd (by simp [apartAt, hm.1, hm.2.1, hm.2.2.1, hm.2.2.2.2.2]) h1)
    have h1' : (apartAt h a b == 1) = false := by simpa using h1
    clear h1
    go_enter Tryd.func97, Tryd.ntmps97
    go_wp2_with fail
    refine (HA.out _ _ (HV.out.keep (below_new2 _ _ _))).mono ?_
    rintro e w1 ⟨rfl, hb⟩
    have HB := Lib.hid (below_then (below_new2 _ _ _) hb)
    clear hb
    go_wp2
    go_ret
    exact gives_mk (by rw [H.out]; rfl) HB.out
  have h1' : (apartAt h a b == 1) = true := by simpa using h1
  have h1x := h1
  unfold apartAt at h1x
  by_cases h0 : validB h = true ∧ hasCellB h a = true ∧ hasCellB h b = true
  rotate_left
  · rw [if_neg h0] at h1x; exact absurd h1x (by omega)
  rw [if_pos h0] at h1x
  obtain ⟨hval, h2, h3⟩ := h0
  have hlen := (valid_len hval).2
  obtain ⟨n, hnn⟩ : ∃ n, n = h.cells.length := ⟨_, rfl⟩
  have e1 := hasCell_iff.1 h2
  have e2 := hasCell_iff.1 h3
  rw [← hnn] at HV HX hlen e1 e2 ⊢
  obtain ⟨x, rfl⟩ := Int.eq_ofNat_of_zero_le e1.1
  obtain ⟨y, rfl⟩ := Int.eq_ofNat_of_zero_le e2.1
  have hxn : x < n := by omega
  have hyn : y < n := by omega
  have hx0 := (valid_cell hval (j := x) (by omega)).1
  have H0 := Lib.hid (show slideMayB h x y = (decide (gi h.cells x ≠ 0) && decide (gi h.cells y = 0)) by simp [slideMayB, hval, h2, h3, h1x])
  obtain ⟨b0, o, rfl, hcx⟩ := HX.out x hxn
  obtain ⟨b', o', e, hcy⟩ := HX.out y hyn
  cases e
  have hbw : b0 < w.heap.size := cell_lt hcx
  clear hval h2 h3 e1 e2 hnn hn hcm h1 h1x
  by_cases h4 : 0 < gi h.cells x
  · by_cases h5 : gi h.cells y = 0
    all_goals
      have H := Lib.hid H0.out
      have hne : gi h.cells x ≠ 0 := by omega
      simp only [ne_eq, hne, not_false_eq_true, decide_true, Bool.true_and] at H
      have HH : Hid (slideMayB h x y = decide (gi h.cells y = 0)) := H
      have h5' : (gi h.cells y == 0) = decide (gi h.cells y = 0) := by rfl
      have H5 := Lib.hid h5
      first | rw [decide_eq_true h5] at h5' HH | rw [decide_eq_false h5] at h5' HH
      clear h5 hne H
      go_enter Tryd.func97, Tryd.ntmps97
      go_wp2_with fail
      refine (HA.out _ _ (HV.out.keep (below_new2 _ _ _))).mono ?_
      rintro e w1 ⟨rfl, hb⟩
      have b1 := ((box3_new w _ _ _ _).keep (below_new _ _)).keep hb
      have b1_0 := b1.c0
      have b1_1 := b1.c1
      have b1_2 := b1.c2
      have b1_l := b1.lt
      have d1 := (box2_second w _ _ _ _).keep hb
      have d1_0 := d1.c0
      have d1_1 := d1.c1
      have HB := Lib.hid (below_then (below_new2 _ _ _) hb)
      have cx := (HB.out.cell (p := ⟨b0, o + x, none⟩) hbw).trans hcx
      have cy := (HB.out.cell (p := ⟨b0, o + y, none⟩) hbw).trans hcy
      clear hb
      go_wp2
      go_ret
      exact gives_mk (by rw [HH.out]; rfl) HB.out
  · have hne : gi h.cells x = 0 := by omega
    have H := Lib.hid (show slideMayB h x y = false by rw [H0.out]; simp [hne])
    clear hne
    go_enter Tryd.func97, Tryd.ntmps97
    go_wp2_with fail
    refine (HA.out _ _ (HV.out.keep (below_new2 _ _ _))).mono ?_
    rintro e w1 ⟨rfl, hb⟩
    have b1 := ((box3_new w _ _ _ _).keep (below_new _ _)).keep hb
    have b1_0 := b1.c0
    have b1_1 := b1.c1
    have b1_2 := b1.c2
    have b1_l := b1.lt
    have d1 := (box2_second w _ _ _ _).keep hb
    have d1_0 := d1.c0
    have d1_1 := d1.c1
    have HB := Lib.hid (below_then (below_new2 _ _ _) hb)
    have cx := (HB.out.cell (p := ⟨b0, o + x, none⟩) hbw).trans hcx
    clear hb
    go_wp2
    go_ret
    exact gives_mk (by rw [H.out]; rfl) HB.out

end Go.Proofs.YtnfjmcenjpoloaaDoor
end

section
/-
  SlideDo.
-/
set_option linter.unusedVariables false
namespace Go.Proofs.YtnfjmcenjpoloaaDoor
open Go Go.RowKit Go.Park

def slidH (h : PHall) (a b : Nat) : PHall := ⟨h.wide, h.deep, (h.cells.set b (gi h.cells a)).set a 0⟩
def slideDoF (h : PHall) (a b : Int) : PHall × Bool :=
  if validB h = true then (if slideMayB h a b = true then (slidH h a.toNat b.toNat, true) else (h, false)) else (zeroHall, false)
theorem may_cells {h : PHall} {a b : Int} (hm : slideMayB h a b = true) : hasCellB h a = true ∧ hasCellB h b = true ∧ gi h.cells a.toNat ≠ 0 ∧ gi h.cells b.toNat = 0 ∧ apartF h.wide a b = 1 := by
  simp only [slideMayB, Bool.and_eq_true, decide_eq_true_eq] at hm
  exact ⟨hm.2.1, hm.2.2.1, hm.2.2.2.1, hm.2.2.2.2.1, hm.2.2.2.2.2⟩
theorem blk3_third (w : World) (o o' : Obj) (a b c : Value) (t : TypeId) : Blk3 (((w.alloc o).alloc o').alloc (.cells #[a, b, c] t)) (w.heap.size + 1 + 1) a b c := by
  have := blk3_new ((w.alloc o).alloc o') a b c t
  simpa using this
theorem below_new3 (w : World) (o o' o'' : Obj) : Below w.heap.size w (((w.alloc o).alloc o').alloc o'') := below_then (below_new2 _ _ _) (below_new _ _)

theorem slideMay_calls {h : PHall} {a b : Int} {r : Bool} (hr : slideMayB h a b = r) : ∀ (w' : World) (v : Value), HallAt w' v h → Calls Tryd.prog 79 #[v, .agg #[.int .i64 a, .int .i64 b]] w' (Gives (.bool r) w') := fun w' v hh => by rw [← hr]; exact slideMay_any w' v h a b hh

set_option maxRecDepth 100000 in
set_option maxHeartbeats 4000000 in
theorem slideDo_any (w : World) (v : Value) (h : PHall) (a b : Int) (hv : HallAt w v h) :
    Calls Tryd.prog 35 #[v, .agg #[.int .i64 a, .int .i64 b]] w (GivesHallV (slideDoF h a b).1 (.bool (slideDoF h a b).2) w) := by
  have HV := Lib.hid hv
  obtain ⟨cv, rfl, ao, cp, rfl, hn, hcm, hx⟩ := hv
  have HX := Lib.hid hx
  clear hx
  obtain ⟨W, hW⟩ : ∃ W, W = ((w.alloc (.cells #[.int .i64 h.wide, .int .i64 h.deep, .slice ao h.cells.length cp] 25)).alloc (.cells #[.int .i64 a, .int .i64 b] 53)).alloc (.cells #[.int .i64 0, .int .i64 0, .slice none 0 0] 25) := ⟨_, rfl⟩
  have hWs : W.heap.size = w.heap.size + 1 + 1 + 1 := by rw [hW]; simp
  have hb0 : Hid (Below w.heap.size w W) := Lib.hid (by rw [hW]; exact below_new3 _ _ _ _)
  have b0 : Hid (Box3 W w.heap.size (.int .i64 h.wide) (.int .i64 h.deep) (.slice ao h.cells.length cp)) := Lib.hid (by rw [hW]; exact ((box3_new w _ _ _ _).keep (below_new _ _)).keep (below_new _ _))
  have s0 : Hid (Box2 W (w.heap.size + 1) (.int .i64 a) (.int .i64 b)) := Lib.hid (by rw [hW]; exact (box2_second w _ _ _ _).keep (below_new _ _))
  have r0 : Hid (Blk3 W (w.heap.size + 1 + 1) (.int .i64 0) (.int .i64 0) (.slice none 0 0)) := Lib.hid (by rw [hW]; exact blk3_third w _ _ _ _ _ _)
  cases hval : validB h
  · have H := Lib.hid (show slideDoF h a b = (zeroHall, false) by simp [slideDoF, hval])
    have HW := Lib.hid (valid_calls hval)
    clear hval
    go_enter Tryd.func35, Tryd.ntmps35
    go_wp2_with fail
    rw [← hW]
    clear hW
    refine (HW.out _ _ (HV.out.keep hb0.out)).mono ?_
    rintro e w1 ⟨rfl, hb⟩
    have r1 := r0.out.keep hb
    have r1_0 := r1.box.c0
    have r1_1 := r1.box.c1
    have r1_2 := r1.box.c2
    have f0 := r1.f0
    have f1 := r1.f1
    have f2 := r1.f2
    have HB := Lib.hid (below_then hb0.out hb)
    clear hb
    go_wp2
    refine bodyPost_ret (v := .tuple #[.agg #[.int .i64 0, .int .i64 0, .slice none 0 0], .bool false]) (by simp [results, Tryd.results35, go_sem, r1_0, r1_1, r1_2]) rfl ?_
    unfold GivesHallV; rw [H.out]
    exact ⟨_, rfl, ownInts_nil _ _, HB.out.setCell (by simp; omega) _ |>.setCell (by simp; omega) _ |>.setCell (by simp; omega) _⟩
  have HW := Lib.hid (valid_calls hval)
  have HCP := Lib.hid (fun (W' : World) (v' : Value) (hh : HallAt W' v' h) => copyHall_any W' v' h hh (valid_ne hval))
  have hne := Lib.hid (valid_ne hval)
  cases hm : slideMayB h a b
  · have H := Lib.hid (show slideDoF h a b = (h, false) by simp [slideDoF, hval, hm])
    have HI := Lib.hid (slideMay_calls hm)
    clear hval hm
    go_enter Tryd.func35, Tryd.ntmps35
    go_wp2_with fail
    rw [← hW]
    clear hW
    refine (HW.out _ _ (HV.out.keep hb0.out)).mono ?_
    rintro e w1 ⟨rfl, hb⟩
    have b1 := b0.out.keep hb
    have b1_0 := b1.c0
    have b1_1 := b1.c1
    have b1_2 := b1.c2
    have b1_l := b1.lt
    have s1 := s0.out.keep hb
    have r1 := r0.out.keep hb
    have HB1 := Lib.hid (below_then hb0.out hb)
    have hz1 : w.heap.size + 1 + 1 + 1 ≤ w1.heap.size := by have := hb.size; omega
    clear hb
    go_wp2_with fail
    refine (HCP.out _ _ (HV.out.keep HB1.out)).mono ?_
    rintro e w2 ⟨cv2, rfl, ho2, hb2⟩
    obtain ⟨g, cap, rfl, hg1, hg2⟩ := ho2.head hne.out
    have b2 := b1.keep hb2
    have b2_0 := b2.c0
    have b2_1 := b2.c1
    have b2_2 := b2.c2
    have b2_l := b2.lt
    have s2 := s1.keep hb2
    have s2_0 := s2.c0
    have s2_1 := s2.c1
    have s2_l := s2.lt
    have r2 := r1.keep hb2
    have HO2 := Lib.hid ho2
    have HB2 := Lib.hid (below_then HB1.out hb2)
    have hz2 : w.heap.size + 1 + 1 + 1 ≤ w2.heap.size := by have := hb2.size; omega
    clear b1 b1_0 b1_1 b1_2 b1_l
    clear hb2 r1 ho2 s1
    go_wp2_with fail
    refine (HI.out _ _ (HV.out.keep (below_then HB2.out (below_new _ _)))).mono ?_
    rintro e w3 ⟨rfl, hb3⟩
    have r3 := (r2.keep (below_new _ _)).keep hb3
    have d3 := (box3_new w2 _ _ _ _).keep hb3
    have d3_0 := d3.c0
    have d3_1 := d3.c1
    have d3_2 := d3.c2
    have d3_l := d3.lt
    have HO3 := Lib.hid ((HO2.out.keep (below_new _ _)).keep hb3)
    have HB3 := Lib.hid (below_then (below_then HB2.out (below_new _ _)) hb3)
    have r3_0 := r3.box.c0
    have r3_1 := r3.box.c1
    have r3_2 := r3.box.c2
    have f0 := r3.f0
    have f1 := r3.f1
    have f2 := r3.f2
    clear hb3
    go_wp2
    refine bodyPost_ret (v := .tuple #[.agg #[.int .i64 h.wide, .int .i64 h.deep, .slice (some ⟨g, 0, none⟩) h.cells.length cap], .bool false]) (by simp [results, Tryd.results35, go_sem, r3_0, r3_1, r3_2]) rfl ?_
    unfold GivesHallV; rw [H.out]
    refine ⟨_, rfl, ?_, HB3.out.setCell (by simp; omega) _ |>.setCell (by simp; omega) _ |>.setCell (by simp; omega) _⟩
    exact (((HO3.out.setBelow (by simp; omega) _).setBelow (by simp; omega) _).setBelow (by simp; omega) _).base (by omega)
  have HI := Lib.hid (slideMay_calls hm)
  obtain ⟨h1, h2, h3, h4, h5⟩ := may_cells hm
  have hlen := (valid_len hval).2
  have e1 := hasCell_iff.1 h1
  have e2 := hasCell_iff.1 h2
  obtain ⟨x, rfl⟩ := Int.eq_ofNat_of_zero_le e1.1
  obtain ⟨y, rfl⟩ := Int.eq_ofNat_of_zero_le e2.1
  have hxn : x < h.cells.length := by omega
  have hyn : y < h.cells.length := by omega
  have hxy : x ≠ y := by rintro rfl; exact h3 h4
  have H := Lib.hid (show slideDoF h x y = (slidH h x y, true) by simp [slideDoF, hval, hm])
  obtain ⟨b, o, rfl, hcx⟩ := HX.out x hxn
  have hbw : b < w.heap.size := cell_lt hcx
  clear hval hm h1 h2 h3 h4 h5 e1 e2
  go_enter Tryd.func35, Tryd.ntmps35
  go_wp2_with fail
  rw [← hW]
  clear hW
  refine (HW.out _ _ (HV.out.keep hb0.out)).mono ?_
  rintro e w1 ⟨rfl, hb⟩
  have b1 := b0.out.keep hb
  have b1_0 := b1.c0
  have b1_1 := b1.c1
  have b1_2 := b1.c2
  have b1_l := b1.lt
  have s1 := s0.out.keep hb
  have r1 := r0.out.keep hb
  have HB1 := Lib.hid (below_then hb0.out hb)
  have hz1 : w.heap.size + 1 + 1 + 1 ≤ w1.heap.size := by have := hb.size; omega
  clear hb
  go_wp2_with fail
  refine (HCP.out _ _ (HV.out.keep HB1.out)).mono ?_
  rintro e w2 ⟨cv2, rfl, ho2, hb2⟩
  obtain ⟨g, cap, rfl, hg1, hg2⟩ := ho2.head hne.out
  have b2 := b1.keep hb2
  have b2_0 := b2.c0
  have b2_1 := b2.c1
  have b2_2 := b2.c2
  have b2_l := b2.lt
  have s2 := s1.keep hb2
  have s2_0 := s2.c0
  have s2_1 := s2.c1
  have s2_l := s2.lt
  have r2 := r1.keep hb2
  have HO2 := Lib.hid ho2
  have HB2 := Lib.hid (below_then HB1.out hb2)
  have hz2 : w.heap.size + 1 + 1 + 1 ≤ w2.heap.size := by have := hb2.size; omega
  clear b1 b1_0 b1_1 b1_2 b1_l
  clear hb2 r1 ho2 s1
  go_wp2_with fail
  refine (HI.out _ _ (HV.out.keep (below_then HB2.out (below_new _ _)))).mono ?_
  rintro e w3 ⟨rfl, hb3⟩
  have b3 := (b2.keep (below_new _ _)).keep hb3
  have b3_0 := b3.c0
  have b3_1 := b3.c1
  have b3_2 := b3.c2
  have b3_l := b3.lt
  have s3 := (s2.keep (below_new _ _)).keep hb3
  have s3_0 := s3.c0
  have s3_1 := s3.c1
  have s3_l := s3.lt
  have r3 := (r2.keep (below_new _ _)).keep hb3
  have d3 := (box3_new w2 _ _ _ _).keep hb3
  have d3_0 := d3.c0
  have d3_1 := d3.c1
  have d3_2 := d3.c2
  have d3_l := d3.lt
  have HO3 := Lib.hid ((HO2.out.keep (below_new _ _)).keep hb3)
  have HB3 := Lib.hid (below_then (below_then HB2.out (below_new _ _)) hb3)
  have hz3 : w2.heap.size < w3.heap.size := by have := hb3.size; simp at this; omega
  have cx := (HB3.out.cell (p := ⟨b, o + x, none⟩) hbw).trans hcx
  have cg1 := own_cell HO3.out hxn
  have cg2 := own_cell HO3.out hyn
  have fg1 := own_free HO3.out x
  have fg2 := own_free HO3.out y
  have hx0 : (0 : Int) ≤ x := by omega
  have hx1 : (x : Int) < h.cells.length := by omega
  have hy0 : (0 : Int) ≤ y := by omega
  have hy1 : (y : Int) < h.cells.length := by omega
  clear b2 b2_0 b2_1 b2_2 b2_l
  clear hb3 s2 s2_0 s2_1 s2_l r2
  go_wp2
  go_region
  have hbk := blk_some g h.cells.length cap
  obtain ⟨w4, hw4⟩ : ∃ w4, w4 = (w3.setCell ⟨g, y, none⟩ (.int .i64 (gi h.cells x))).setCell ⟨g, x, none⟩ (.int .i64 0) := ⟨_, rfl⟩
  have hg4 := grown_set (g := g) (grown_set (g := g) (grown_refl w3 (some g)) y (.int .i64 (gi h.cells x))) x (.int .i64 0)
  rw [← hw4] at hg4 ⊢
  have d4 := d3.keepG (u := .slice (some ⟨g, 0, none⟩) h.cells.length cap) hg4 hbk (by omega)
  have d4_0 := d4.c0
  have d4_1 := d4.c1
  have d4_2 := d4.c2
  have d4_l := d4.lt
  have r4 := r3.keepG (u := .slice (some ⟨g, 0, none⟩) h.cells.length cap) hg4 hbk (by omega)
  have HO4 : Hid (OwnInts w1.heap.size w4 _ (slidH h x y).cells) := Lib.hid (by rw [hw4]; exact own_store (own_store HO3.out y (gi h.cells x)) x 0)
  have HB4 := Lib.hid (below_grownG (u := .slice (some ⟨g, 0, none⟩) h.cells.length cap) HB3.out hg4 hbk (by omega))
  have r4_0 := r4.box.c0
  have r4_1 := r4.box.c1
  have r4_2 := r4.box.c2
  have f0 := r4.f0
  have f1 := r4.f1
  have f2 := r4.f2
  clear b3 b3_0 b3_1 b3_2 b3_l
  clear d3 d3_0 d3_1 d3_2 d3_l
  clear hw4 hg4 r3 cg1 cg2 fg1 fg2 cx
  go_wp2
  refine bodyPost_ret (v := .tuple #[.agg #[.int .i64 h.wide, .int .i64 h.deep, .slice (some ⟨g, 0, none⟩) h.cells.length cap], .bool true]) (by simp [results, Tryd.results35, go_sem, r4_0, r4_1, r4_2]) rfl ?_
  unfold GivesHallV; rw [H.out]
  have HLn : (slidH h x y).cells.length = h.cells.length := by simp [slidH]
  refine ⟨_, rfl, OwnInts.base (lo := w1.heap.size) ?_ (by omega), ?_⟩
  · repeat (first | exact HO4.out | (refine OwnInts.setBelow ?_ (by simp; omega) _) | (refine OwnInts.keep ?_ (below_drew1 _)))
  · repeat (first | exact HB4.out | (refine Below.setCell ?_ (by (try simp); omega) _) | (refine Below.drew ?_))

theorem specSlideMay_calls {h : PHall} {a b : Int} {r : Bool} (hr : slideMayB h a b = r) : ∀ (w' : World) (v : Value), HallAt w' v h → Calls Tryd.prog 97 #[v, .agg #[.int .i64 a, .int .i64 b]] w' (Gives (.bool r) w') := fun w' v hh => by rw [← hr]; exact specSlideMay_any w' v h a b hh

set_option maxRecDepth 100000 in
set_option maxHeartbeats 4000000 in
theorem specSlideDo_any (w : World) (v : Value) (h : PHall) (a b : Int) (hv : HallAt w v h) :
    Calls Tryd.prog 53 #[v, .agg #[.int .i64 a, .int .i64 b]] w (GivesHallV (slideDoF h a b).1 (.bool (slideDoF h a b).2) w) := by
  have HV := Lib.hid hv
  obtain ⟨cv, rfl, ao, cp, rfl, hn, hcm, hx⟩ := hv; rw [lim_eq] at hn
  have HX := Lib.hid hx
  clear hx
  obtain ⟨W, hW⟩ : ∃ W, W = ((w.alloc (.cells #[.int .i64 h.wide, .int .i64 h.deep, .slice ao h.cells.length cp] 25)).alloc (.cells #[.int .i64 a, .int .i64 b] 53)).alloc (.cells #[.int .i64 0, .int .i64 0, .slice none 0 0] 25) := ⟨_, rfl⟩
  have hWs : W.heap.size = w.heap.size + 1 + 1 + 1 := by rw [hW]; simp
  have hb0 : Hid (Below w.heap.size w W) := Lib.hid (by rw [hW]; exact below_new3 _ _ _ _)
  have b0 : Hid (Box3 W w.heap.size (.int .i64 h.wide) (.int .i64 h.deep) (.slice ao h.cells.length cp)) := Lib.hid (by rw [hW]; exact ((box3_new w _ _ _ _).keep (below_new _ _)).keep (below_new _ _))
  have s0 : Hid (Box2 W (w.heap.size + 1) (.int .i64 a) (.int .i64 b)) := Lib.hid (by rw [hW]; exact (box2_second w _ _ _ _).keep (below_new _ _))
  have r0 : Hid (Blk3 W (w.heap.size + 1 + 1) (.int .i64 0) (.int .i64 0) (.slice none 0 0)) := Lib.hid (by rw [hW]; exact blk3_third w _ _ _ _ _ _)
  cases hval : validB h
  · have H := Lib.hid (show slideDoF h a b = (zeroHall, false) by simp [slideDoF, hval])
    have HW := Lib.hid (specValid_calls hval)
    clear hval
    go_enter Tryd.func53, Tryd.ntmps53
    go_wp2_with fail
    rw [← hW]
    clear hW
    refine (HW.out _ _ (HV.out.keep hb0.out)).mono ?_
    rintro e w1 ⟨rfl, hb⟩
    have r1 := r0.out.keep hb
    have r1_0 := r1.box.c0
    have r1_1 := r1.box.c1
    have r1_2 := r1.box.c2
    have f0 := r1.f0
    have f1 := r1.f1
    have f2 := r1.f2
    have HB := Lib.hid (below_then hb0.out hb)
    clear hb
    go_wp2
    refine bodyPost_ret (v := .tuple #[.agg #[.int .i64 0, .int .i64 0, .slice none 0 0], .bool false]) (by simp [results, Tryd.results53, go_sem, r1_0, r1_1, r1_2]) rfl ?_
    unfold GivesHallV; rw [H.out]
    exact ⟨_, rfl, ownInts_nil _ _, HB.out.setCell (by simp; omega) _ |>.setCell (by simp; omega) _ |>.setCell (by simp; omega) _⟩
  have HW := Lib.hid (specValid_calls hval)
  have HCP := Lib.hid (fun (W' : World) (v' : Value) (hh : HallAt W' v' h) => l1Hall_any W' v' h hh (valid_ne hval))
  have hne := Lib.hid (valid_ne hval)
  cases hm : slideMayB h a b
  · have H := Lib.hid (show slideDoF h a b = (h, false) by simp [slideDoF, hval, hm])
    have HI := Lib.hid (specSlideMay_calls hm)
    clear hval hm
    go_enter Tryd.func53, Tryd.ntmps53
    go_wp2_with fail
    rw [← hW]
    clear hW
    refine (HW.out _ _ (HV.out.keep hb0.out)).mono ?_
    rintro e w1 ⟨rfl, hb⟩
    have b1 := b0.out.keep hb
    have b1_0 := b1.c0
    have b1_1 := b1.c1
    have b1_2 := b1.c2
    have b1_l := b1.lt
    have s1 := s0.out.keep hb
    have r1 := r0.out.keep hb
    have HB1 := Lib.hid (below_then hb0.out hb)
    have hz1 : w.heap.size + 1 + 1 + 1 ≤ w1.heap.size := by have := hb.size; omega
    clear hb
    go_wp2_with fail
    refine (HCP.out _ _ (HV.out.keep HB1.out)).mono ?_
    rintro e w2 ⟨cv2, rfl, ho2, hb2⟩
    obtain ⟨g, cap, rfl, hg1, hg2⟩ := ho2.head hne.out
    have b2 := b1.keep hb2
    have b2_0 := b2.c0
    have b2_1 := b2.c1
    have b2_2 := b2.c2
    have b2_l := b2.lt
    have s2 := s1.keep hb2
    have s2_0 := s2.c0
    have s2_1 := s2.c1
    have s2_l := s2.lt
    have r2 := r1.keep hb2
    have HO2 := Lib.hid ho2
    have HB2 := Lib.hid (below_then HB1.out hb2)
    have hz2 : w.heap.size + 1 + 1 + 1 ≤ w2.heap.size := by have := hb2.size; omega
    clear b1 b1_0 b1_1 b1_2 b1_l
    clear hb2 r1 ho2 s1
    go_wp2_with fail
    refine (HI.out _ _ (HV.out.keep (below_then HB2.out (below_new _ _)))).mono ?_
    rintro e w3 ⟨rfl, hb3⟩
    have r3 := (r2.keep (below_new _ _)).keep hb3
    have d3 := (box3_new w2 _ _ _ _).keep hb3
    have d3_0 := d3.c0
    have d3_1 := d3.c1
    have d3_2 := d3.c2
    have d3_l := d3.lt
    have HO3 := Lib.hid ((HO2.out.keep (below_new _ _)).keep hb3)
    have HB3 := Lib.hid (below_then (below_then HB2.out (below_new _ _)) hb3)
    have r3_0 := r3.box.c0
    have r3_1 := r3.box.c1
    have r3_2 := r3.box.c2
    have f0 := r3.f0
    have f1 := r3.f1
    have f2 := r3.f2
    clear hb3
    go_wp2
    refine bodyPost_ret (v := .tuple #[.agg #[.int .i64 h.wide, .int .i64 h.deep, .slice (some ⟨g, 0, none⟩) h.cells.length cap], .bool false]) (by simp [results, Tryd.results53, go_sem, r3_0, r3_1, r3_2]) rfl ?_
    unfold GivesHallV; rw [H.out]
    refine ⟨_, rfl, ?_, HB3.out.setCell (by simp; omega) _ |>.setCell (by simp; omega) _ |>.setCell (by simp; omega) _⟩
    exact (((HO3.out.setBelow (by simp; omega) _).setBelow (by simp; omega) _).setBelow (by simp; omega) _).base (by omega)
  have HI := Lib.hid (specSlideMay_calls hm)
  obtain ⟨h1, h2, h3, h4, h5⟩ := may_cells hm
  have hlen := (valid_len hval).2
  have e1 := hasCell_iff.1 h1
  have e2 := hasCell_iff.1 h2
  obtain ⟨x, rfl⟩ := Int.eq_ofNat_of_zero_le e1.1
  obtain ⟨y, rfl⟩ := Int.eq_ofNat_of_zero_le e2.1
  have hxn : x < h.cells.length := by omega
  have hyn : y < h.cells.length := by omega
  have hxy : x ≠ y := by rintro rfl; exact h3 h4
  have H := Lib.hid (show slideDoF h x y = (slidH h x y, true) by simp [slideDoF, hval, hm])
  obtain ⟨b, o, rfl, hcx⟩ := HX.out x hxn
  have hbw : b < w.heap.size := cell_lt hcx
  clear hval hm h1 h2 h3 h4 h5 e1 e2
  go_enter Tryd.func53, Tryd.ntmps53
  go_wp2_with fail
  rw [← hW]
  clear hW
  refine (HW.out _ _ (HV.out.keep hb0.out)).mono ?_
  rintro e w1 ⟨rfl, hb⟩
  have b1 := b0.out.keep hb
  have b1_0 := b1.c0
  have b1_1 := b1.c1
  have b1_2 := b1.c2
  have b1_l := b1.lt
  have s1 := s0.out.keep hb
  have r1 := r0.out.keep hb
  have HB1 := Lib.hid (below_then hb0.out hb)
  have hz1 : w.heap.size + 1 + 1 + 1 ≤ w1.heap.size := by have := hb.size; omega
  clear hb
  go_wp2_with fail
  refine (HCP.out _ _ (HV.out.keep HB1.out)).mono ?_
  rintro e w2 ⟨cv2, rfl, ho2, hb2⟩
  obtain ⟨g, cap, rfl, hg1, hg2⟩ := ho2.head hne.out
  have b2 := b1.keep hb2
  have b2_0 := b2.c0
  have b2_1 := b2.c1
  have b2_2 := b2.c2
  have b2_l := b2.lt
  have s2 := s1.keep hb2
  have s2_0 := s2.c0
  have s2_1 := s2.c1
  have s2_l := s2.lt
  have r2 := r1.keep hb2
  have HO2 := Lib.hid ho2
  have HB2 := Lib.hid (below_then HB1.out hb2)
  have hz2 : w.heap.size + 1 + 1 + 1 ≤ w2.heap.size := by have := hb2.size; omega
  clear b1 b1_0 b1_1 b1_2 b1_l
  clear hb2 r1 ho2 s1
  go_wp2_with fail
  refine (HI.out _ _ (HV.out.keep (below_then HB2.out (below_new _ _)))).mono ?_
  rintro e w3 ⟨rfl, hb3⟩
  have b3 := (b2.keep (below_new _ _)).keep hb3
  have b3_0 := b3.c0
  have b3_1 := b3.c1
  have b3_2 := b3.c2
  have b3_l := b3.lt
  have s3 := (s2.keep (below_new _ _)).keep hb3
  have s3_0 := s3.c0
  have s3_1 := s3.c1
  have s3_l := s3.lt
  have r3 := (r2.keep (below_new _ _)).keep hb3
  have d3 := (box3_new w2 _ _ _ _).keep hb3
  have d3_0 := d3.c0
  have d3_1 := d3.c1
  have d3_2 := d3.c2
  have d3_l := d3.lt
  have HO3 := Lib.hid ((HO2.out.keep (below_new _ _)).keep hb3)
  have HB3 := Lib.hid (below_then (below_then HB2.out (below_new _ _)) hb3)
  have hz3 : w2.heap.size < w3.heap.size := by have := hb3.size; simp at this; omega
  have cx := (HB3.out.cell (p := ⟨b, o + x, none⟩) hbw).trans hcx
  have cg1 := own_cell HO3.out hxn
  have cg2 := own_cell HO3.out hyn
  have fg1 := own_free HO3.out x
  have fg2 := own_free HO3.out y
  have hx0 : (0 : Int) ≤ x := by omega
  have hx1 : (x : Int) < h.cells.length := by omega
  have hy0 : (0 : Int) ≤ y := by omega
  have hy1 : (y : Int) < h.cells.length := by omega
  clear b2 b2_0 b2_1 b2_2 b2_l
  clear hb3 s2 s2_0 s2_1 s2_l r2
  go_wp2
  go_region
  have hbk := blk_some g h.cells.length cap
  obtain ⟨w4, hw4⟩ : ∃ w4, w4 = (w3.setCell ⟨g, y, none⟩ (.int .i64 (gi h.cells x))).drew := ⟨_, rfl⟩
  have hg4 := grown_drew (grown_set (g := g) (grown_refl w3 (some g)) y (.int .i64 (gi h.cells x)))
  rw [← hw4] at hg4 ⊢
  have d4 := d3.keepG (u := .slice (some ⟨g, 0, none⟩) h.cells.length cap) hg4 hbk (by omega)
  have d4_0 := d4.c0
  have d4_1 := d4.c1
  have d4_2 := d4.c2
  have d4_l := d4.lt
  have s4 := s3.keepG (u := .slice (some ⟨g, 0, none⟩) h.cells.length cap) hg4 hbk (by omega)
  have s4_0 := s4.c0
  have s4_1 := s4.c1
  have r4 := r3.keepG (u := .slice (some ⟨g, 0, none⟩) h.cells.length cap) hg4 hbk (by omega)
  have HO4 : Hid (OwnInts w1.heap.size w4 (.slice (some ⟨g, 0, none⟩) h.cells.length cap) (h.cells.set y (gi h.cells x))) := Lib.hid (by rw [hw4]; exact (own_store HO3.out y (gi h.cells x)).keep (below_drew1 _))
  have HB4 := Lib.hid (below_grownG (u := .slice (some ⟨g, 0, none⟩) h.cells.length cap) HB3.out hg4 hbk (by omega))
  have cg4 := own_cell HO4.out (j := x) (by simpa using hxn)
  have fg4 := own_free HO4.out x
  have hg5 := grown_set (g := g) (grown_refl w4 (some g)) x (.int .i64 0)
  have d5 := d4.keepG (u := .slice (some ⟨g, 0, none⟩) h.cells.length cap) hg5 hbk (by omega)
  have d5_0 := d5.c0
  have d5_1 := d5.c1
  have d5_2 := d5.c2
  have d5_l := d5.lt
  have r5 := r4.keepG (u := .slice (some ⟨g, 0, none⟩) h.cells.length cap) hg5 hbk (by omega)
  have HO5 : Hid (OwnInts w1.heap.size (w4.setCell ⟨g, x, none⟩ (.int .i64 0)) _ (slidH h x y).cells) := Lib.hid (own_store HO4.out x 0)
  have HB5 := Lib.hid (below_grownG (u := .slice (some ⟨g, 0, none⟩) h.cells.length cap) HB4.out hg5 hbk (by omega))
  have r5_0 := r5.box.c0
  have r5_1 := r5.box.c1
  have r5_2 := r5.box.c2
  have f0 := r5.f0
  have f1 := r5.f1
  have f2 := r5.f2
  clear b3 b3_0 b3_1 b3_2 b3_l
  clear d3 d3_0 d3_1 d3_2 d3_l
  clear hw4 hg4 hg5 r3 r4 cg1 cg2 fg1 fg2 cx s3 s3_0 s3_1 s3_l
  go_wp2
  refine bodyPost_ret (v := .tuple #[.agg #[.int .i64 h.wide, .int .i64 h.deep, .slice (some ⟨g, 0, none⟩) h.cells.length cap], .bool true]) (by simp [results, Tryd.results53, go_sem, r5_0, r5_1, r5_2]) rfl ?_
  unfold GivesHallV; rw [H.out]
  have HLn : (slidH h x y).cells.length = h.cells.length := by simp [slidH]
  refine ⟨_, rfl, OwnInts.base (lo := w1.heap.size) ?_ (by omega), ?_⟩
  · repeat (first | exact HO5.out | (refine OwnInts.setBelow ?_ (by simp; omega) _) | (refine OwnInts.keep ?_ (below_drew1 _)))
  · repeat (first | exact HB5.out | (refine Below.setCell ?_ (by (try simp); omega) _) | (refine Below.drew ?_))

end Go.Proofs.YtnfjmcenjpoloaaDoor
end

section
/-
  Valid halls and slides, plainly: nothing of the program's text stands here.
-/
set_option linter.unusedVariables false
namespace Go.Proofs.YtnfjmcenjpoloaaDoor
open Go Go.RowKit Go.Park

structure OkCells (l : List Int) : Prop where
  rng : ∀ k, k < l.length → 0 ≤ gi l k ∧ gi l k ≤ 99
  one : ∀ i j, i < l.length → j < l.length → 0 < gi l i → gi l i = gi l j → i = j
theorem okTo_cells {l : List Int} : okTo l l.length = true ↔ OkCells l := by
  rw [okTo_iff]
  constructor
  · intro h
    have hr : ∀ k, k < l.length → 0 ≤ gi l k ∧ gi l k ≤ 99 := fun k hk => by
      have := h k hk
      simp only [okAt, Bool.and_eq_true, inR_true] at this
      exact this.1
    have hn : ∀ i j, i < j → j < l.length → 0 < gi l j → gi l i ≠ gi l j := fun i j hij hj h0 e => by
      have := h j hj
      simp only [okAt, Bool.and_eq_true, inR_true, Bool.not_eq_true', Bool.and_eq_false_iff, decide_eq_false_iff_not] at this
      rcases this.2 with h1 | h1
      · exact h1 h0
      · rw [hasTo_yes hij e] at h1; cases h1
    refine ⟨hr, fun i j hi hj h0 e => ?_⟩
    rcases Nat.lt_trichotomy i j with h1 | h1 | h1
    · exact absurd e (hn i j h1 hj (by omega))
    · exact h1
    · exact absurd e.symm (hn j i h1 hi h0)
  · intro h k hk
    simp only [okAt, Bool.and_eq_true, inR_true, Bool.not_eq_true', Bool.and_eq_false_iff, decide_eq_false_iff_not]
    refine ⟨h.rng k hk, ?_⟩
    by_cases h0 : 0 < gi l k
    · right
      cases hh : hasTo l (gi l k) k with
      | false => rfl
      | true =>
        obtain ⟨j, hj, e⟩ := hasTo_iff.1 hh
        have := h.one k j hk (by omega) h0 e.symm
        omega
    · exact .inl h0
theorem valid_iff {h : PHall} : validB h = true ↔ ((2 ≤ h.wide ∧ h.wide ≤ 4) ∧ (2 ≤ h.deep ∧ h.deep ≤ 3) ∧ (h.cells.length : Int) = h.wide * h.deep) ∧ OkCells h.cells := by
  unfold validB
  rw [Bool.and_eq_true, sizeB_true, okTo_cells]
theorem gi_upd2 {l : List Int} {a b : Nat} {x y : Int} (ha : a < l.length) (hb : b < l.length) (j : Nat) :
    gi ((l.set b x).set a y) j = if a = j then y else if b = j then x else gi l j := by
  rw [gi_upd (by simpa using ha), gi_upd hb]
theorem ok_slid {l : List Int} {a b : Nat} (ha : a < l.length) (hb : b < l.length) (hab : a ≠ b) (h : OkCells l) (h0 : gi l b = 0) : OkCells ((l.set b (gi l a)).set a 0) := by
  have hl : ((l.set b (gi l a)).set a 0).length = l.length := by simp
  have hg := fun j => gi_upd2 (x := gi l a) (y := 0) ha hb j
  refine ⟨fun k hk => ?_, fun i j hi hj hp e => ?_⟩
  · rw [hl] at hk
    rw [hg]
    split
    · omega
    · split
      · exact h.rng a ha
      · exact h.rng k hk
  · rw [hl] at hi hj
    rw [hg] at hp e
    rw [hg j] at e
    by_cases e1 : a = i
    · rw [if_pos e1] at hp; omega
    rw [if_neg e1] at hp e
    by_cases e2 : a = j
    · rw [if_pos e2] at e; omega
    rw [if_neg e2] at e
    by_cases e3 : b = i
    · rw [if_pos e3] at hp e
      by_cases e4 : b = j
      · omega
      · rw [if_neg e4] at e
        have := h.one a j ha hj hp e
        exact absurd this e2
    · rw [if_neg e3] at hp e
      by_cases e4 : b = j
      · rw [if_pos e4] at e
        have := h.one i a hi ha hp e
        exact absurd this.symm e1
      · rw [if_neg e4] at e
        exact h.one i j hi hj hp e
theorem valid_slid {h : PHall} {a b : Nat} (hv : validB h = true) (ha : a < h.cells.length) (hb : b < h.cells.length) (hab : a ≠ b) (h0 : gi h.cells b = 0) : validB (slidH h a b) = true := by
  rw [valid_iff] at hv ⊢
  refine ⟨⟨hv.1.1, hv.1.2.1, ?_⟩, ok_slid ha hb hab hv.2 h0⟩
  have : (slidH h a b).cells.length = h.cells.length := by simp [slidH]
  rw [this]; exact hv.1.2.2
theorem slid_len (h : PHall) (a b : Nat) : (slidH h a b).cells.length = h.cells.length := by simp [slidH]
theorem slideDo_valid {h : PHall} (hv : validB h = true) (a b : Int) : validB (slideDoF h a b).1 = true := by
  unfold slideDoF
  rw [if_pos hv]
  split
  · rename_i hm
    obtain ⟨h1, h2, h3, h4, h5⟩ := may_cells hm
    have e1 := hasCell_iff.1 h1
    have e2 := hasCell_iff.1 h2
    exact valid_slid hv (by omega) (by omega) (by intro e; rw [e] at h3; exact h3 h4) h4
  · exact hv
theorem slideDo_len {h : PHall} (hv : validB h = true) (a b : Int) : (slideDoF h a b).1.cells.length = h.cells.length ∧ (slideDoF h a b).1.wide = h.wide ∧ (slideDoF h a b).1.deep = h.deep := by
  unfold slideDoF
  rw [if_pos hv]
  split
  · exact ⟨slid_len _ _ _, rfl, rfl⟩
  · exact ⟨rfl, rfl, rfl⟩

/-! HoleSlides -/
def wayTo (h : PHall) (way : List Int) : Nat → Bool
  | 0 => true
  | k+1 => wayTo h way k && decide (apartAt h (gi way k) (gi way (k+1)) = 1)
def holeOk (h : PHall) (way : List Int) : Bool := validB h && (decide (way ≠ []) && (hasCellB h (gi way 0) && (decide (gi h.cells (gi way 0).toNat = 0) && wayTo h way (way.length - 1))))
def holeS (cells way : List Int) : Nat → List (Int × Int) × List Int
  | 0 => ([], cells)
  | k+1 => if gi (holeS cells way k).2 (gi way (k+1)).toNat ≠ 0 then
      ((holeS cells way k).1 ++ [(gi way (k+1), gi way k)], ((holeS cells way k).2.set (gi way k).toNat (gi (holeS cells way k).2 (gi way (k+1)).toNat)).set (gi way (k+1)).toNat 0)
    else holeS cells way k
def holeF (h : PHall) (way : List Int) : List (Int × Int) := if holeOk h way = true then (holeS h.cells way (way.length - 1)).1 else []
theorem holeS_yes {cells way : List Int} {k : Nat} (h : gi (holeS cells way k).2 (gi way (k+1)).toNat ≠ 0) : holeS cells way (k+1) = ((holeS cells way k).1 ++ [(gi way (k+1), gi way k)], ((holeS cells way k).2.set (gi way k).toNat (gi (holeS cells way k).2 (gi way (k+1)).toNat)).set (gi way (k+1)).toNat 0) := by
  simp only [holeS]; rw [if_pos h]
theorem holeS_no {cells way : List Int} {k : Nat} (h : gi (holeS cells way k).2 (gi way (k+1)).toNat = 0) : holeS cells way (k+1) = holeS cells way k := by
  simp only [holeS]; rw [if_neg (by simpa using h)]
theorem wayTo_iff {h : PHall} {way : List Int} {n : Nat} : wayTo h way n = true ↔ ∀ k, k < n → apartAt h (gi way k) (gi way (k+1)) = 1 := by
  induction n with
  | zero => simp [wayTo]
  | succ n ih =>
    simp only [wayTo, Bool.and_eq_true, ih, decide_eq_true_eq]
    constructor
    · rintro ⟨h1, h2⟩ k hk
      by_cases e : k = n
      · subst e; exact h2
      · exact h1 k (by omega)
    · intro h1; exact ⟨fun k hk => h1 k (by omega), h1 n (by omega)⟩
theorem wayTo_no {h : PHall} {way : List Int} {n k : Nat} (hk : k < n) (e : ¬ apartAt h (gi way k) (gi way (k+1)) = 1) : wayTo h way n = false := by
  cases hw : wayTo h way n with
  | false => rfl
  | true => exact absurd (wayTo_iff.1 hw k hk) e
theorem apartAt_cells {h : PHall} {a b : Int} (e : apartAt h a b = 1) : hasCellB h a = true ∧ hasCellB h b = true ∧ apartF h.wide a b = 1 ∧ a ≠ b := by
  unfold apartAt at e
  split at e
  · rename_i hh
    refine ⟨hh.2.1, hh.2.2, e, ?_⟩
    rintro rfl
    unfold apartF farF at e
    omega
  · omega
/-- what holds behind each cell of the way -/
structure Hole (h : PHall) (way : List Int) (k : Nat) : Prop where
  valid : validB ⟨h.wide, h.deep, (holeS h.cells way k).2⟩ = true
  len : (holeS h.cells way k).2.length = h.cells.length
  free : gi (holeS h.cells way k).2 (gi way k).toNat = 0
  many : (holeS h.cells way k).1.length ≤ k
theorem hole_ok {h : PHall} {way : List Int} (ho : holeOk h way = true) : validB h = true ∧ way ≠ [] ∧ hasCellB h (gi way 0) = true ∧ gi h.cells (gi way 0).toNat = 0 ∧ ∀ k, k + 1 < way.length → apartAt h (gi way k) (gi way (k+1)) = 1 := by
  simp only [holeOk, Bool.and_eq_true, decide_eq_true_eq] at ho
  exact ⟨ho.1, ho.2.1, ho.2.2.1, ho.2.2.2.1, fun k hk => wayTo_iff.1 ho.2.2.2.2 k (by omega)⟩
theorem hole_start {h : PHall} {way : List Int} (ho : holeOk h way = true) : Hole h way 0 := by
  obtain ⟨h1, h2, h3, h4, _⟩ := hole_ok ho
  exact ⟨h1, rfl, h4, by simp [holeS]⟩
theorem hole_next {h : PHall} {way : List Int} (ho : holeOk h way = true) {k : Nat} (hk : k + 1 < way.length) (H : Hole h way k) : Hole h way (k + 1) := by
  obtain ⟨h1, _, _, _, h5⟩ := hole_ok ho
  obtain ⟨a1, a2, a3, a4⟩ := apartAt_cells (h5 k hk)
  have e1 := hasCell_iff.1 a1
  have e2 := hasCell_iff.1 a2
  have hl := H.len
  by_cases hz : gi (holeS h.cells way k).2 (gi way (k+1)).toNat = 0
  · have e := holeS_no hz
    exact ⟨by rw [e]; exact H.valid, by rw [e]; exact H.len, by rw [e]; exact hz, by rw [e]; have := H.many; omega⟩
  · have e := holeS_yes hz
    have hab : (gi way (k+1)).toNat ≠ (gi way k).toNat := by omega
    refine ⟨?_, ?_, ?_, ?_⟩
    · rw [e]
      exact valid_slid (h := ⟨h.wide, h.deep, (holeS h.cells way k).2⟩) H.valid (by show _ < (holeS h.cells way k).2.length; omega) (by show _ < (holeS h.cells way k).2.length; omega) hab H.free
    · rw [e]; simp; exact hl
    · rw [e, gi_upd2 (by omega) (by omega), if_pos rfl]
    · rw [e, List.length_append]; have := H.many; simp; omega
theorem hole_all {h : PHall} {way : List Int} (ho : holeOk h way = true) : ∀ k, k < way.length → Hole h way k := by
  intro k
  induction k with
  | zero => intro _; exact hole_start ho
  | succ k ih => intro hk; exact hole_next ho hk (ih (by omega))
/-- a slide of the way, as SlideDo does it -/
theorem hole_slide {h : PHall} {way : List Int} (ho : holeOk h way = true) {k : Nat} (hk : k + 1 < way.length) :
    slideDoF ⟨h.wide, h.deep, (holeS h.cells way k).2⟩ (gi way (k+1)) (gi way k) =
      (⟨h.wide, h.deep, (holeS h.cells way (k+1)).2⟩, decide (gi (holeS h.cells way k).2 (gi way (k+1)).toNat ≠ 0)) := by
  have H := hole_all ho k (by omega)
  obtain ⟨h1, _, _, _, h5⟩ := hole_ok ho
  obtain ⟨a1, a2, a3, a4⟩ := apartAt_cells (h5 k hk)
  have b1 : hasCellB ⟨h.wide, h.deep, (holeS h.cells way k).2⟩ (gi way k) = true := by unfold hasCellB at a1 ⊢; rw [H.len]; exact a1
  have b2 : hasCellB ⟨h.wide, h.deep, (holeS h.cells way k).2⟩ (gi way (k+1)) = true := by unfold hasCellB at a2 ⊢; rw [H.len]; exact a2
  have b3 : apartF h.wide (gi way (k+1)) (gi way k) = 1 := by rw [apartF_comm]; exact a3
  unfold slideDoF
  rw [if_pos H.valid]
  by_cases hz : gi (holeS h.cells way k).2 (gi way (k+1)).toNat = 0
  · have hm : slideMayB ⟨h.wide, h.deep, (holeS h.cells way k).2⟩ (gi way (k+1)) (gi way k) = false := by simp [slideMayB, hz]
    rw [hm, holeS_no hz]; simp [hz]
  · have hm : slideMayB ⟨h.wide, h.deep, (holeS h.cells way k).2⟩ (gi way (k+1)) (gi way k) = true := by
      simp only [slideMayB, Bool.and_eq_true, decide_eq_true_eq]
      exact ⟨H.valid, b2, b1, hz, H.free, b3⟩
    rw [hm, holeS_yes hz]; simp [hz, slidH]

end Go.Proofs.YtnfjmcenjpoloaaDoor
end

section
/-
  The marks that the laws write into results, and how they are held.
-/
set_option linter.unusedVariables false
namespace Go.Proofs.YtnfjmcenjpoloaaDoor
open Go Go.RowKit Go.Park

def marks (k : Int) (n : Nat) : List Int := (List.range n).map (fun (i : Nat) => k + (i : Int))
theorem marks_length (k : Int) (n : Nat) : (marks k n).length = n := by simp [marks]
theorem gi_marks {k : Int} {n j : Nat} (h : j < n) : gi (marks k n) j = k + j := by simp [gi, marks, List.getD, h]

/-- the marks in an owned row, up to the i-th -/
def Mark (w wr : World) (b g n c : Nat) (k : Int) (i : Nat) : Prop :=
  w.grownBy wr (some g) ∧ ∃ xs : List Value, wr.ownsRow b 3 1 (.slice (some ⟨g, 0, none⟩) n c) n xs ∧ ∀ j, j < i → xs[j]? = some (.int .i64 (k + (j : Int)))
theorem mark_start {w : World} {b g n c : Nat} {k : Int} {xs : List Value} (h : w.ownsRow b 3 1 (.slice (some ⟨g, 0, none⟩) n c) n xs) : Mark w w b g n c k 0 :=
  ⟨grown_refl _ _, xs, h, fun j hj => by omega⟩
theorem mark_cell {w wr : World} {b g n c : Nat} {k : Int} {i : Nat} (h : Mark w wr b g n c k i) {j : Nat} (hj : j < n) : ∃ u, wr.cell? ⟨g, j, none⟩ = some u := by
  obtain ⟨_, xs, ho, _⟩ := h
  rw [ho.cellAt j (by omega)]
  have := ho.1
  exact ⟨xs[j]'(by omega), by simp [show j < xs.length by omega]⟩
theorem mark_free {w wr : World} {b g n c : Nat} {k : Int} {i : Nat} (h : Mark w wr b g n c k i) (j : Nat) : wr.frozen? ⟨g, j, none⟩ = false := by
  obtain ⟨_, xs, ho, _⟩ := h
  exact ho.frozenAt j
theorem mark_step {w wr : World} {b g n c : Nat} {k : Int} {i : Nat} (h : Mark w wr b g n c k i) (hi : i < n) : Mark w (wr.setCell ⟨g, i, none⟩ (.int .i64 (k + (i : Int)))) b g n c k (i+1) := by
  obtain ⟨hg, xs, ho, hx⟩ := h
  refine ⟨grown_set hg _ _, _, (ho.stored i _).1, ?_⟩
  intro j hj
  have := ho.1
  rw [List.getElem?_set]
  by_cases e : i = j
  · subst e; simp; omega
  · rw [if_neg e]; exact hx j (by omega)
theorem mark_all {w wr : World} {b g n c : Nat} {k : Int} (h : Mark w wr b g n c k n) : wr.ownsRow b 3 1 (.slice (some ⟨g, 0, none⟩) n c) n ((marks k n).map (Value.int .i64)) := by
  obtain ⟨_, xs, ho, hx⟩ := h
  have e : xs = (marks k n).map (Value.int .i64) := by
    apply List.ext_getElem?
    intro i
    rw [List.getElem?_map]
    by_cases hi : i < n
    · rw [hx i hi, gi_of_lt (by rw [marks_length]; exact hi), gi_marks hi]; rfl
    · have := ho.1
      rw [List.getElem?_eq_none (by omega), List.getElem?_eq_none (by rw [marks_length]; omega)]; rfl
  rw [← e]; exact ho

set_option maxHeartbeats 400000 in
theorem markIntS_row (w : World) (b : Nat) (v : Value) (n : Nat) (xs : List Value) (k : Int) (hv : w.ownsRow b 3 1 v n xs) (hn : n ≤ lim) (h0 : 0 ≤ k) (h1 : k ≤ 1152921504606846976) :
    Calls Tryd.prog 94 #[v, .int .i64 k] w (fun e w' => e = .returned (.int .i64 (k + n)) ∧ w'.ownsRow b 3 1 v n ((marks k n).map (Value.int .i64)) ∧ w.grownBy w' v.ownBlock) := by
  rw [lim_eq] at hn
  have hv2 := hv.2
  rcases hv2 with ⟨rfl, rfl⟩ | ⟨g, cap, cur, rfl, hg, _⟩
  · clear hv
    go_enter Tryd.func94, Tryd.ntmps94
    go_wp2_with fail
    refine wp_loop_rounds 1 ?_
    rw [rounds_succ]
    go_wp2
    go_ret
    exact ⟨by simp, by simpa [marks] using World.ownsRow_nil _ _ _ _, grown_refl _ _⟩
  · have HM : Hid (Mark w w b g n cap k 0) := mark_start hv
    clear hv
    go_enter Tryd.func94, Tryd.ntmps94
    go_wp2
    go_loopw [1, 5] (fun q i wr => ∃ j : Nat, j ≤ n ∧ i = .int .i64 j ∧ q = .int .i64 (k + j) ∧ Hid (Mark w wr b g n cap k j)) (fun _ i _ => n - (intOf i).toNat)
    case atStart => exact ⟨0, Nat.zero_le _, rfl, by simp, HM⟩
    case round =>
      obtain ⟨j, hj, rfl, rfl, hm⟩ := hrel
      by_cases hlt : j < n
      · obtain ⟨u, hc⟩ := mark_cell hm.out hlt
        have hf := mark_free hm.out j
        have HS := Lib.hid (mark_step hm.out hlt)
        clear hm HM
        go_wp2
        go_roundw
        case rel => exact ⟨j+1, by omega, by go_num, by congr 1; omega, HS⟩
        case measure => simp [intOf]; omega
      · obtain rfl : j = n := by omega
        have HA := Lib.hid (mark_all hm.out)
        have HG := Lib.hid hm.out.1
        clear hm HM
        go_wp2
        go_ret
        exact ⟨rfl, HA.out, HG.out⟩

set_option maxHeartbeats 400000 in
theorem heldIntS_any (w : World) (v : Value) (n : Nat) (k : Int) (hv : IntsAt w v (marks k n)) (h0 : 0 ≤ k) (h1 : k ≤ 1152921504606846976) :
    Calls Tryd.prog 95 #[v, .int .i64 k] w (Tells (.int .i64 (k + n)) w) := by
  obtain ⟨ao, c, rfl, hn, _, hx⟩ := hv
  rw [lim_eq] at hn
  rw [marks_length] at hn hx ⊢
  go_enter Tryd.func95, Tryd.ntmps95
  go_wp2
  go_loopw [1, 5] (fun q i wr => ∃ j : Nat, j ≤ n ∧ i = .int .i64 j ∧ q = .int .i64 (k + j) ∧ ∃ q, wr = w.drewN q) (fun _ i _ => n - (intOf i).toNat)
  case atStart => exact ⟨0, Nat.zero_le _, rfl, by simp, 0, rfl⟩
  case round =>
    obtain ⟨j, hj, rfl, rfl, q, rfl⟩ := hrel
    by_cases hlt : j < n
    · obtain ⟨b, o, rfl, hc⟩ := hx j hlt
      rw [gi_marks hlt] at hc
      clear hx
      go_wp2
      go_roundw
      case rel => exact ⟨j+1, by omega, by go_num, by congr 1; omega, _, rfl⟩
      case measure => simp [intOf]; omega
    · obtain rfl : j = n := by omega
      clear hx
      go_wp2
      go_ret
      exact tells_mk rfl (drewN1 _ _)


set_option maxHeartbeats 400000 in
theorem markHall_row (w : World) (b : Nat) (x y : Int) (v : Value) (n : Nat) (xs : List Value) (k : Int) (hv : w.ownsRow b 3 1 v n xs) (hn : n ≤ lim) (h0 : 0 ≤ k) (h1 : k ≤ 1152921504606846976) :
    Calls Tryd.prog 46 #[.agg #[.int .i64 x, .int .i64 y, v], .int .i64 k] w (fun e w' => e = .returned (.int .i64 (k + n)) ∧ w'.ownsRow b 3 1 v n ((marks k n).map (Value.int .i64)) ∧ w.grownBy w' v.ownBlock) := by
  have HV := Lib.hid hv
  clear hv
  go_enter Tryd.func46, Tryd.ntmps46
  go_wp2_with (go_at_call 94; refine (markIntS_row _ _ _ n _ _ (HV.out.alloc _) hn h0 h1).mono ?_; rintro e w' ⟨rfl, ho, hg⟩)
  go_ret
  exact ⟨rfl, ho, grown_alloc hg⟩

set_option maxHeartbeats 400000 in
theorem heldHall_any (w : World) (x y : Int) (v : Value) (n : Nat) (k : Int) (hv : IntsAt w v (marks k n)) (h0 : 0 ≤ k) (h1 : k ≤ 1152921504606846976) (hn : n ≤ lim) :
    Calls Tryd.prog 47 #[.agg #[.int .i64 x, .int .i64 y, v], .int .i64 k] w (Gives (.int .i64 (k + n)) w) := by
  have HV := Lib.hid hv
  rw [lim_eq] at hn
  clear hv
  go_enter Tryd.func47, Tryd.ntmps47
  go_wp2_with (go_at_call 95; refine (heldIntS_any _ _ n _ (HV.out.keep ((Below.refl _ _).alloc (Nat.le_refl _) _)) h0 h1).mono ?_; rintro e w' ⟨rfl, q, rfl⟩)
  go_ret
  exact gives_mk rfl (below_drewN ((Below.refl _ _).alloc (Nat.le_refl _) _) _)

end Go.Proofs.YtnfjmcenjpoloaaDoor
end

section
/-
  The laws' helpers for slices of slides: copies, comparison, marks.
-/
set_option linter.unusedVariables false
namespace Go.Proofs.YtnfjmcenjpoloaaDoor
open Go Go.RowKit Go.Park

theorem Tryd.infoSlide : (Tryd.prog.info? 53).map (fun i => (i.zero, i.size, i.bytes)) = some (some (.agg #[.int .i64 0, .int .i64 0]), 2, 16) := by kernel_rfl








end Go.Proofs.YtnfjmcenjpoloaaDoor
end

section
/-
  SlidesBack.
-/
set_option linter.unusedVariables false
namespace Go.Proofs.YtnfjmcenjpoloaaDoor
open Go Go.RowKit Go.Park

/-- a call returns slides of its own -/
def GivesSlides (l : List (Int × Int)) (w : World) (e : Ending) (w' : World) : Prop :=
  ∃ v, e = .returned v ∧ OwnSlides w.heap.size w' v l ∧ Below w.heap.size w w'

theorem own_append {lo : Nat} {w' : World} {v' : Value} {l : List (Int × Int)} {a b : Int} (hl : l.length + 1 ≤ lim)
    (h : w'.ownsRow lo 53 2 v' (l.length + 1) (flat l ++ [.int .i64 a, .int .i64 b])) : OwnSlides lo w' v' (l ++ [(a, b)]) := by
  refine ⟨by simpa using hl, ?_⟩
  rw [flat_append, List.length_append]
  exact h
theorem own_empty_row (w : World) : OwnSlides w.heap.size (w.alloc (.cells #[] 53)) (.slice (some ⟨w.heap.size, 0, none⟩) 0 0) [] :=
  ⟨by simp [lim], World.ownsRow_made w #[] 0 (Nat.le_refl _) (by simp) (by simp)⟩



end Go.Proofs.YtnfjmcenjpoloaaDoor
end

section
/-
  SlidesAll.
-/
set_option linter.unusedVariables false
namespace Go.Proofs.YtnfjmcenjpoloaaDoor
open Go Go.RowKit Go.Park

def mayRow (h : PHall) (k m : Nat) : List (Int × Int) := (selTo (fun j => slideMayB h k j) m).map (fun x => ((k : Int), x))
def mayTo (h : PHall) : Nat → List (Int × Int)
  | 0 => []
  | k+1 => mayTo h k ++ mayRow h k h.cells.length
def slidesAllF (h : PHall) : List (Int × Int) := mayTo h h.cells.length

theorem mayRow_len (h : PHall) (k m : Nat) : (mayRow h k m).length ≤ m := by
  unfold mayRow; rw [List.length_map]; exact selTo_length _ _
theorem mayRow_yes {h : PHall} {k j : Nat} (e : slideMayB h k j = true) : mayRow h k (j + 1) = mayRow h k j ++ [((k : Int), (j : Int))] := by
  unfold mayRow
  rw [selTo_yes (p := fun j => slideMayB h k j) (k := j) e, List.map_append]
  rfl
theorem mayRow_no {h : PHall} {k j : Nat} (e : slideMayB h k j = false) : mayRow h k (j + 1) = mayRow h k j := by
  unfold mayRow
  rw [selTo_no (p := fun j => slideMayB h k j) (k := j) e]
theorem mayRow_bad {h : PHall} (hv : validB h = false) (k m : Nat) : mayRow h k m = [] := by
  unfold mayRow
  rw [selTo_none (fun j _ => by simp [slideMayB, hv])]
  rfl
theorem mayTo_bad {h : PHall} (hv : validB h = false) (k : Nat) : mayTo h k = [] := by
  induction k with
  | zero => rfl
  | succ k ih => simp [mayTo, ih, mayRow_bad hv]
theorem mayTo_len (h : PHall) (k : Nat) : (mayTo h k).length ≤ h.cells.length * k := by
  induction k with
  | zero => simp [mayTo]
  | succ k ih =>
    have := mayRow_len h k h.cells.length
    simp only [mayTo, List.length_append, Nat.mul_add, Nat.mul_one]
    omega
theorem may_small (h : PHall) (k j : Nat) (hk : k ≤ h.cells.length) (hj : j ≤ h.cells.length) : (mayTo h k ++ mayRow h k j).length ≤ 200 := by
  cases hv : validB h
  · rw [mayTo_bad hv, mayRow_bad hv]; simp
  · have h1 := (valid_len hv).2
    have h2 := mayTo_len h k
    have h3 := mayRow_len h k j
    have h4 : h.cells.length * k ≤ 12 * 12 := Nat.mul_le_mul h1 (by omega)
    rw [List.length_append]
    omega
set_option maxRecDepth 100000 in
set_option maxHeartbeats 4000000 in
theorem specSlidesAll_any (w : World) (v : Value) (h : PHall) (hv : HallAt w v h) :
    Calls Tryd.prog 52 #[v] w (GivesSlides (slidesAllF h) w) := by
  have HV := Lib.hid hv
  obtain ⟨cv, rfl, ao, c, rfl, hn, hcm, hx⟩ := hv
  clear hx
  rw [lim_eq] at hn
  obtain ⟨W, hW⟩ : ∃ W, W = w.alloc (.cells #[.int .i64 h.wide, .int .i64 h.deep, .slice ao h.cells.length c] 25) := ⟨_, rfl⟩
  have hWs : W.heap.size = w.heap.size + 1 := by rw [hW]; simp
  have HBW : Hid (Below w.heap.size w W) := Lib.hid (by rw [hW]; exact below_new _ _)
  have HE : Hid (OwnSlides (w.heap.size + 1) (W.alloc (.cells #[] 53)) (.slice (some ⟨w.heap.size + 1, 0, none⟩) 0 0) []) := Lib.hid (by rw [← hWs]; exact own_empty_row W)
  have HBX := Lib.hid (show Box3 W w.heap.size _ _ _ by rw [hW]; exact box3_new _ _ _ _ _)
  have H := Lib.hid (show slidesAllF h = mayTo h h.cells.length from rfl)
  have HS := Lib.hid (fun k => show mayTo h (k + 1) = mayTo h k ++ mayRow h k h.cells.length from rfl)
  have HM := Lib.hid (may_small h)
  have HA := Lib.hid (fun (W' : World) (v' : Value) (hh : HallAt W' v' h) (k j : Nat) => specSlideMay_any W' v' h k j hh)
  obtain ⟨n, hnn⟩ : ∃ n, n = h.cells.length := ⟨_, rfl⟩
  rw [← hnn] at H HV HBX hW hn HS HM ⊢
  obtain ⟨i0, hi, hz0, hz1, hz2⟩ := info_parts Tryd.infoSlide
  clear hcm hnn
  go_enter Tryd.func52, Tryd.ntmps52
  go_wp2
  rw [← hW]
  clear hW
  go_loopw [3, 4] (fun q i wr => ∃ k : Nat, k ≤ n ∧ i = .int .i64 k ∧ Hid (OwnSlides (w.heap.size + 1) wr q (mayTo h k)) ∧ Below (w.heap.size + 1) W wr) (fun _ i _ => n - (intOf i).toNat)
  case atStart => exact ⟨0, Nat.zero_le _, rfl, HE, by rw [← hWs]; exact below_new _ _⟩
  case round =>
    obtain ⟨k, hk, rfl, ho, hbr⟩ := hrel
    have HR := Lib.hid hbr
    have hsz : w.heap.size + 1 ≤ wr.heap.size := by have := HR.out.size; omega
    have HRW' := Lib.hid (show Below W.heap.size W wr by rw [hWs]; exact HR.out)
    have HRW := Lib.hid (HBW.out.trans (HR.out.mono (by omega)))
    have b2 := HBX.out.keep HRW'.out
    have b2_0 := b2.c0
    have b2_1 := b2.c1
    have b2_2 := b2.c2
    have b2_l := b2.lt
    clear hbr
    by_cases hlt : k < n
    · go_wp2
      clear b2 b2_0 b2_1 b2_2 b2_l
      go_loopw [3, 5] (fun q i wr => ∃ j : Nat, j ≤ n ∧ i = .int .i64 j ∧ Hid (OwnSlides (w.heap.size + 1) wr q (mayTo h k ++ mayRow h k j)) ∧ Below (w.heap.size + 1) W wr) (fun _ i _ => n - (intOf i).toNat)
      case atStart => exact ⟨0, Nat.zero_le _, rfl, by rw [show mayRow h k 0 = [] from rfl, List.append_nil]; exact ho, HR.out⟩
      case round =>
        clear ho HR hsz HRW' HRW
        obtain ⟨j, hj, rfl, ho, hbr⟩ := hrel
        have HR := Lib.hid hbr
        have hsz : w.heap.size + 1 ≤ wr.heap.size := by have := HR.out.size; omega
        have HRW' := Lib.hid (show Below W.heap.size W wr by rw [hWs]; exact HR.out)
        have HRW := Lib.hid (HBW.out.trans (HR.out.mono (by omega)))
        have b3 := HBX.out.keep HRW'.out
        have b3_0 := b3.c0
        have b3_1 := b3.c1
        have b3_2 := b3.c2
        have b3_l := b3.lt
        clear hbr
        by_cases hjn : j < n
        · have hll := HM.out k j (by omega) (by omega)
          have HL : Hid (∀ r, slideMayB h k j = true → r = mayTo h k ++ mayRow h k j → mayTo h k ++ mayRow h k (j + 1) = r ++ [((k : Int), (j : Int))]) := Lib.hid (fun r e hr => by rw [hr, mayRow_yes e, List.append_assoc])
          have HL0 : Hid (∀ r, slideMayB h k j = false → r = mayTo h k ++ mayRow h k j → mayTo h k ++ mayRow h k (j + 1) = r) := Lib.hid (fun r e hr => by rw [hr, mayRow_no e])
          obtain ⟨L, hL⟩ : ∃ L, L = mayTo h k ++ mayRow h k j := ⟨_, rfl⟩
          rw [← hL] at hll ho
          have hc := Lib.hid (HA.out wr _ (HV.out.keep HRW.out) k j)
          cases he : slideMayB h k j
          · have hsel := Lib.hid (HL0.out _ he hL)
            rw [he] at hc
            clear he hL HL HL0
            go_wp2_with fail
            refine (hc.out).mono ?_
            rintro e wa ⟨rfl, hba⟩
            have HOX := Lib.hid (ho.out.keep hba)
            have HRX := Lib.hid (HR.out.trans (hba.mono hsz))
            clear hba
            go_wp2
            go_roundw
            case rel => exact ⟨j+1, by omega, by go_num, by rw [hsel.out]; exact HOX, HRX.out⟩
            case measure => simp [intOf]; omega
          · have hsel := Lib.hid (HL.out _ he hL)
            rw [he] at hc
            clear he hL HL HL0
            go_wp2_with fail
            refine (hc.out).mono ?_
            rintro e wa ⟨rfl, hba⟩
            have HOX := Lib.hid (ho.out.keep hba)
            have HRX := Lib.hid (HR.out.trans (hba.mono hsz))
            have hsz : w.heap.size + 1 ≤ wa.heap.size := Nat.le_trans hsz hba.size
            clear hba
            go_wp2_with (at_builtin; go_must (refine wpList_append_own _ rfl _ _ 29 rfl (w.heap.size + 1) 53 i0 (.agg #[.int .i64 0, .int .i64 0]) 2 16 Tryd.underlying29 hi hz0 hz1 hz2 rfl (by decide) _ _ _ rfl (HOX.out.2.alloc _) ⟨wa.heap.size, 0, none⟩ 1 1 [.int .i64 k, .int .i64 j] rfl rfl (World.news_of_block (cs := #[.int .i64 k, .int .i64 j]) (t := 53) (fr := (0, 0)) (heap_alloc_new wa _)) ?_ ?_ ?_ ?_ ?_; (simp [Value.oneCell']); (unfold maxLen; omega); (omega); (simp; omega); intro v' w2 hown' hgrow _hh; have HO := Lib.hid (own_append (by unfold lim; omega) hown'); have HB2 := Lib.hid (below_app HRX.out hsz HOX.out.blk hgrow); clear hown' hgrow _hh))
            go_roundw
            case rel => exact ⟨j+1, by omega, by go_num, by rw [hsel.out]; exact HO, HB2.out⟩
            case measure => simp [intOf]; omega
        · obtain rfl : j = n := by omega
          go_wp2
          go_roundw
          case rel => exact ⟨k+1, by omega, by go_num, by rw [HS.out]; exact ho, HR.out⟩
          case measure => simp [intOf]; omega
    · obtain rfl : k = n := by omega
      go_wp2
      go_ret
      exact ⟨_, rfl, by rw [H.out]; exact ho.out.base (by omega), HRW.out⟩

/-! impl.SlidesAll goes over the cells beside -/
def beRow (h : PHall) (k : Nat) (B : List Int) (t : Nat) : List (Int × Int) := ((B.take t).filter (fun x => slideMayB h k x)).map (fun x => ((k : Int), x))
theorem beRow_yes {h : PHall} {k t : Nat} {B : List Int} (ht : t < B.length) (e : slideMayB h k (gi B t) = true) : beRow h k B (t + 1) = beRow h k B t ++ [((k : Int), gi B t)] := by
  unfold beRow
  rw [List.take_add_one, List.filter_append, List.map_append, gi_of_lt ht]
  simp [e]
theorem beRow_no {h : PHall} {k t : Nat} {B : List Int} (ht : t < B.length) (e : slideMayB h k (gi B t) = false) : beRow h k B (t + 1) = beRow h k B t := by
  unfold beRow
  rw [List.take_add_one, List.filter_append, List.map_append, gi_of_lt ht]
  simp [e]
theorem sel_filter (p : Nat → Bool) (f : Int → Bool) (n : Nat) : (selTo p n).filter f = selTo (fun j => p j && f j) n := by
  induction n with
  | zero => rfl
  | succ n ih =>
    simp only [selTo]
    by_cases hp : p n = true <;> by_cases hf : f (n : Int) = true <;> simp [hp, hf, List.filter_append, ih]
theorem beRow_all (h : PHall) (k : Nat) : beRow h k (besideF h k) (besideF h k).length = mayRow h k h.cells.length := by
  unfold beRow mayRow
  rw [List.take_length]
  by_cases hv : validB h = true ∧ hasCellB h k = true
  · simp only [besideF, if_pos hv]
    rw [sel_filter]
    congr 1
    refine selTo_congr fun j _ => ?_
    cases hm : slideMayB h k j
    · simp
    · simp only [slideMayB, Bool.and_eq_true, decide_eq_true_eq] at hm
      simp [hm.2.2.2.2.2]
  · simp only [besideF, if_neg hv]
    rw [selTo_none]
    · rfl
    · intro j _
      cases hm : slideMayB h k j
      · rfl
      · simp only [slideMayB, Bool.and_eq_true] at hm
        exact absurd ⟨hm.1, hm.2.1⟩ hv
theorem be_small (h : PHall) (k t : Nat) (hk : k ≤ h.cells.length) : (mayTo h k ++ beRow h k (besideF h k) t).length ≤ 200 := by
  cases hv : validB h
  · rw [mayTo_bad hv]; simp [besideF, hv, beRow]
  · have h1 := (valid_len hv).2
    have h2 := mayTo_len h k
    have h3 : (besideF h k).length ≤ h.cells.length := by
      unfold besideF; split
      · exact selTo_length _ _
      · simp
    have h4 : h.cells.length * k ≤ 12 * 12 := Nat.mul_le_mul h1 (by omega)
    have h5 : (beRow h k (besideF h k) t).length ≤ (besideF h k).length := by
      unfold beRow
      rw [List.length_map]
      refine Nat.le_trans (List.length_filter_le _ _) ?_
      rw [List.length_take]; omega
    rw [List.length_append]
    omega
def ApartRow (wr : World) (q : Value) (ao : Option Addr) (B : List Int) : Prop :=
  ∀ t, t < B.length → ∃ g, ao = some ⟨g, 0, none⟩ ∧ wr.cell? ⟨g, t, none⟩ = some (.int .i64 (gi B t)) ∧ q.ownBlock ≠ some g
theorem ApartRow.keep {wr wa : World} {q : Value} {ao : Option Addr} {B : List Int} (h : ApartRow wr q ao B) (hb : Below wr.heap.size wr wa) : ApartRow wa q ao B := by
  intro t ht
  obtain ⟨g, e, h1, h2⟩ := h t ht
  exact ⟨g, e, (hb.cell (p := ⟨g, t, none⟩) (cell_lt h1)).trans h1, h2⟩
theorem ApartRow.app {wa w2 : World} {q v' : Value} {ao : Option Addr} {B : List Int} {o : Obj} (h : ApartRow wa q ao B)
    (hg : (wa.alloc o).grownBy w2 q.ownBlock) (hv : v'.ownBlock = q.ownBlock ∨ v'.ownBlock = some (wa.alloc o).heap.size) : ApartRow w2 v' ao B := by
  intro t ht
  obtain ⟨g, e, h1, h2⟩ := (h.keep (below_new wa o)) t ht
  refine ⟨g, e, ?_, ?_⟩
  · rw [hg.cell_far _ (cell_lt h1) (Ne.symm h2)]; exact h1
  · rcases hv with hv | hv
    · rw [hv]; exact h2
    · rw [hv]; intro e2
      have := cell_lt h1
      simp only [Option.some.injEq] at e2
      simp only at this
      omega
theorem apartRow_of {w0 w1 : World} {q : Value} {ao : Option Addr} {c : Nat} {lo : Nat} {B : List Int} (h : OwnInts w0.heap.size w1 (.slice ao B.length c) B) (hq : Blk q lo w0.heap.size) : ApartRow w1 q ao B := by
  intro t ht
  obtain ⟨g, cap, e, h1, h2⟩ := h.head (by intro hb; rw [hb] at ht; simp at ht)
  cases e
  refine ⟨g, rfl, own_cell h ht, ?_⟩
  intro hh
  have := (hq g hh).2
  omega
theorem ownSlides_nil (lo : Nat) (w : World) : OwnSlides lo w (.slice none 0 0) [] := ⟨by simp [lim], World.ownsRow_nil _ _ _ _⟩

set_option maxRecDepth 100000 in
set_option maxHeartbeats 4000000 in
theorem slidesAll_any (w : World) (v : Value) (h : PHall) (hv : HallAt w v h) :
    Calls Tryd.prog 34 #[v] w (GivesSlides (slidesAllF h) w) := by
  have HV := Lib.hid hv
  obtain ⟨cv, rfl, ao, c, rfl, hn, hcm, hx⟩ := hv
  clear hx
  rw [lim_eq] at hn
  obtain ⟨W, hW⟩ : ∃ W, W = w.alloc (.cells #[.int .i64 h.wide, .int .i64 h.deep, .slice ao h.cells.length c] 25) := ⟨_, rfl⟩
  have hWs : W.heap.size = w.heap.size + 1 := by rw [hW]; simp
  have HBW : Hid (Below w.heap.size w W) := Lib.hid (by rw [hW]; exact below_new _ _)
  have HBX := Lib.hid (show Box3 W w.heap.size _ _ _ by rw [hW]; exact box3_new _ _ _ _ _)
  have H := Lib.hid (show slidesAllF h = mayTo h h.cells.length from rfl)
  have HS := Lib.hid (fun k => show mayTo h (k + 1) = mayTo h k ++ beRow h k (besideF h k) (besideF h k).length from by rw [beRow_all]; rfl)
  have HM := Lib.hid (be_small h)
  have HA := Lib.hid (fun (W' : World) (v' : Value) (hh : HallAt W' v' h) (k : Nat) (j : Int) => slideMay_any W' v' h k j hh)
  have HC := Lib.hid (fun (W' : World) (v' : Value) (hh : HallAt W' v' h) (k : Nat) => cellsBeside_any W' v' h k hh)
  obtain ⟨n, hnn⟩ : ∃ n, n = h.cells.length := ⟨_, rfl⟩
  rw [← hnn] at H HV HBX hW hn HM ⊢
  obtain ⟨i0, hi, hz0, hz1, hz2⟩ := info_parts Tryd.infoSlide
  clear hcm hnn
  go_enter Tryd.func34, Tryd.ntmps34
  go_wp2
  rw [← hW]
  clear hW
  go_loopw [3, 11] (fun q i wr => ∃ k : Nat, k ≤ n ∧ i = .int .i64 k ∧ Hid (OwnSlides (w.heap.size + 1) wr q (mayTo h k)) ∧ Below (w.heap.size + 1) W wr) (fun _ i _ => n - (intOf i).toNat)
  case atStart => exact ⟨0, Nat.zero_le _, rfl, Lib.hid (ownSlides_nil _ _), Below.refl _ _⟩
  case round =>
    obtain ⟨k, hk, rfl, ho, hbr⟩ := hrel
    have HR := Lib.hid hbr
    have hsz : w.heap.size + 1 ≤ wr.heap.size := by have := HR.out.size; omega
    have HRW' := Lib.hid (show Below W.heap.size W wr by rw [hWs]; exact HR.out)
    have HRW := Lib.hid (HBW.out.trans (HR.out.mono (by omega)))
    have b2 := HBX.out.keep HRW'.out
    have b2_0 := b2.c0
    have b2_1 := b2.c1
    have b2_2 := b2.c2
    have b2_l := b2.lt
    clear hbr
    by_cases hlt : k < n
    · have hc := Lib.hid (HC.out wr _ (HV.out.keep HRW.out) k)
      have HSk := Lib.hid (HS.out k)
      have HMk := Lib.hid (fun t => HM.out k t hk)
      obtain ⟨B, hB⟩ : ∃ B, B = besideF h k := ⟨_, rfl⟩
      rw [← hB] at hc HSk HMk
      clear hB
      go_wp2_with fail
      refine (hc.out).mono ?_
      rintro e wb ⟨cv2, rfl, hob, hbb⟩
      obtain ⟨ao2, cp2, rfl⟩ := hob.slice
      have HAR := Lib.hid (apartRow_of hob ho.out.blk)
      have hBl : B.length ≤ 1073741824 := hob.1
      have HO1 := Lib.hid (ho.out.keep hbb)
      have HR1 := Lib.hid (HR.out.trans (hbb.mono hsz))
      have b3 := b2.keep hbb
      have b3_0 := b3.c0
      have b3_1 := b3.c1
      have b3_2 := b3.c2
      have b3_l := b3.lt
      clear b2 b2_0 b2_1 b2_2 b2_l
      clear hob hbb ho HR hsz HRW' HRW
      go_wp2
      clear b3 b3_0 b3_1 b3_2 b3_l
      go_loopw [3, 18] (fun q i wr => ∃ j : Nat, j ≤ B.length ∧ i = .int .i64 j ∧ Hid (OwnSlides (w.heap.size + 1) wr q (mayTo h k ++ beRow h k B j)) ∧ Hid (ApartRow wr q ao2 B) ∧ Below (w.heap.size + 1) W wr) (fun _ i _ => B.length - (intOf i).toNat)
      case atStart => exact ⟨0, Nat.zero_le _, rfl, by rw [show beRow h k B 0 = [] from rfl, List.append_nil]; exact HO1, HAR, HR1.out⟩
      case round =>
        clear HO1 HAR HR1
        obtain ⟨j, hj, rfl, ho, har, hbr⟩ := hrel
        have HR := Lib.hid hbr
        have hsz : w.heap.size + 1 ≤ wr.heap.size := by have := HR.out.size; omega
        have HRW' := Lib.hid (show Below W.heap.size W wr by rw [hWs]; exact HR.out)
        have HRW := Lib.hid (HBW.out.trans (HR.out.mono (by omega)))
        have b3 := HBX.out.keep HRW'.out
        have b3_0 := b3.c0
        have b3_1 := b3.c1
        have b3_2 := b3.c2
        have b3_l := b3.lt
        clear hbr
        by_cases hjn : j < B.length
        · have hll := HMk.out j
          obtain ⟨g, rfl, hcell, _⟩ := har.out j hjn
          have HL := Lib.hid (fun r (e : slideMayB h k (gi B j) = true) (hr : r = mayTo h k ++ beRow h k B j) => show mayTo h k ++ beRow h k B (j + 1) = r ++ [((k : Int), gi B j)] by rw [hr, beRow_yes hjn e, List.append_assoc])
          have HL0 := Lib.hid (fun r (e : slideMayB h k (gi B j) = false) (hr : r = mayTo h k ++ beRow h k B j) => show mayTo h k ++ beRow h k B (j + 1) = r by rw [hr, beRow_no hjn e])
          obtain ⟨L, hL⟩ : ∃ L, L = mayTo h k ++ beRow h k B j := ⟨_, rfl⟩
          rw [← hL] at hll ho
          obtain ⟨x, hx⟩ : ∃ x, x = gi B j := ⟨_, rfl⟩
          have hc := Lib.hid (HA.out (wr.alloc (.cells #[.int .i64 k, .int .i64 x] 53)) _ (HV.out.keep (below_then HRW.out (below_new _ _))) k x)
          rw [← hx] at hcell HL HL0
          cases he : slideMayB h k x
          · have hsel := Lib.hid (HL0.out _ he hL)
            rw [he] at hc
            clear he hL HL HL0 hx
            go_wp2_with fail
            refine (hc.out).mono ?_
            rintro e wa ⟨rfl, hba⟩
            have hba := below_alloc hba
            have HOX := Lib.hid (ho.out.keep hba)
            have HAX := Lib.hid (har.out.keep hba)
            have HRX := Lib.hid (HR.out.trans (hba.mono hsz))
            clear hba
            go_wp2
            go_roundw
            case rel => exact ⟨j+1, by omega, by go_num, by rw [hsel.out]; exact HOX, HAX, HRX.out⟩
            case measure => simp [intOf]; omega
          · have hsel := Lib.hid (HL.out _ he hL)
            rw [he] at hc
            clear he hL HL HL0 hx
            go_wp2_with fail
            refine (hc.out).mono ?_
            rintro e wa ⟨rfl, hba⟩
            have s4 := (box2_new wr _ _ _).keep hba
            have s4_0 := s4.c0
            have s4_1 := s4.c1
            have hba := below_alloc hba
            have HOX := Lib.hid (ho.out.keep hba)
            have HAX := Lib.hid (har.out.keep hba)
            have HRX := Lib.hid (HR.out.trans (hba.mono hsz))
            have hsz : w.heap.size + 1 ≤ wa.heap.size := Nat.le_trans hsz hba.size
            clear hba
            go_wp2_with (at_builtin; go_must (refine wpList_append_own_at _ rfl _ _ 29 rfl (w.heap.size + 1) 53 i0 (.agg #[.int .i64 0, .int .i64 0]) 2 16 Tryd.underlying29 hi hz0 hz1 hz2 rfl (by decide) _ _ _ rfl (HOX.out.2.alloc _) ⟨wa.heap.size, 0, none⟩ 1 1 [.int .i64 k, .int .i64 x] rfl rfl (World.news_of_block (cs := #[.int .i64 k, .int .i64 x]) (t := 53) (fr := (0, 0)) (heap_alloc_new wa _)) ?_ ?_ ?_ ?_ ?_; (simp [Value.oneCell']); (unfold maxLen; omega); (omega); (simp; omega); intro v' w2 hown' hgrow _hh hat; have HO := Lib.hid (own_append (by unfold lim; omega) hown'); have HB2 := Lib.hid (below_app HRX.out hsz HOX.out.blk hgrow); have HA2 := Lib.hid (HAX.out.app hgrow hat); clear hown' hgrow _hh hat))
            go_roundw
            case rel => exact ⟨j+1, by omega, by go_num, by rw [hsel.out]; exact HO, HA2, HB2.out⟩
            case measure => simp [intOf]; omega
        · obtain rfl : j = B.length := by omega
          go_wp2
          go_roundw
          case rel => exact ⟨k+1, by omega, by go_num, by rw [HSk.out]; exact ho, HR.out⟩
          case measure => simp [intOf]; omega
    · obtain rfl : k = n := by omega
      go_wp2
      go_ret
      exact ⟨_, rfl, by rw [H.out]; exact ho.out.base (by omega), HRW.out⟩

end Go.Proofs.YtnfjmcenjpoloaaDoor
end
