/-
  Copies of halls; HallTake.
-/
import Derived.Test.YtjdgbdakkdljmaaDoorG
import Derived.Deep.RegionHeld3
import Derived.Deep.AppendLies
import Derived.Laws.AppendOwnNone
set_option linter.unusedVariables false
namespace Go.Proofs.YtjdgbdakkdljmaaDoor
open Go Go.RowKit Go.Park

/-- an owned row that is not empty begins somewhere -/
theorem OwnInts.head {lo : Nat} {w : World} {v : Value} {l : List Int} (h : OwnInts lo w v l) (hl : l ≠ []) : ∃ g cap, v = .slice (some ⟨g, 0, none⟩) l.length cap ∧ lo ≤ g ∧ g < w.heap.size := by
  rcases h.2.2 with ⟨_, h0⟩ | ⟨g, cap, cur, e, hg, hh, _⟩
  · exact absurd (List.eq_nil_of_length_eq_zero h0) hl
  · exact ⟨g, cap, e, hg, (Array.getElem?_eq_some_iff.1 hh).1⟩
theorem own_cell {lo : Nat} {w : World} {g cap n : Nat} {l : List Int} (h : OwnInts lo w (.slice (some ⟨g, 0, none⟩) n cap) l) {j : Nat} (hj : j < l.length) : w.cell? ⟨g, j, none⟩ = some (.int .i64 (gi l j)) := by
  have h2 := h.2
  have e : n = l.length := by rcases h2.2 with ⟨e, _⟩ | ⟨_, _, _, e, _⟩ <;> cases e; rfl
  subst e
  rw [h2.cellAt j (by omega)]
  simp [gi_of_lt hj]
theorem own_free {lo : Nat} {w : World} {g cap n : Nat} {l : List Int} (h : OwnInts lo w (.slice (some ⟨g, 0, none⟩) n cap) l) (j : Nat) : w.frozen? ⟨g, j, none⟩ = false := by
  have h2 := h.2
  have e : n = l.length := by rcases h2.2 with ⟨e, _⟩ | ⟨_, _, _, e, _⟩ <;> cases e; rfl
  subst e
  exact h2.frozenAt j
theorem own_store {lo : Nat} {w : World} {g cap n : Nat} {l : List Int} (h : OwnInts lo w (.slice (some ⟨g, 0, none⟩) n cap) l) (j : Nat) (x : Int) : OwnInts lo (w.setCell ⟨g, j, none⟩ (.int .i64 x)) (.slice (some ⟨g, 0, none⟩) n cap) (l.set j x) := by
  have h2 := h.2
  have e : n = l.length := by rcases h2.2 with ⟨e, _⟩ | ⟨_, _, _, e, _⟩ <;> cases e; rfl
  subst e
  refine ⟨by simpa using h.1, ?_⟩
  have := (h2.stored j (.int .i64 x)).1
  rw [List.map_set, List.length_set]
  exact this
theorem OwnInts.setBelow {lo : Nat} {w : World} {v : Value} {l : List Int} (h : OwnInts lo w v l) {a : Addr} (ha : a.block < lo) (u : Value) : OwnInts lo (w.setCell a u) v l := ⟨h.1, ownsRow_setCell_below h.2 ha u⟩
theorem news_of_cells {w : World} {b off : Nat} {l : List Int} (h : ∀ j, j < l.length → w.cell? ⟨b, off + j, none⟩ = some (.int .i64 (gi l j))) :
    ∀ j u, (l.map (Value.int .i64))[j]? = some u → w.cell? ((⟨b, off, none⟩ : Addr).add j) = some u := by
  intro j u hu
  rw [List.getElem?_map] at hu
  by_cases hj : j < l.length
  · rw [gi_of_lt hj] at hu
    simp at hu
    subst hu
    rw [← h j hj]
    unfold Addr.add
    split <;> simp_all
  · rw [List.getElem?_eq_none (by omega)] at hu; cases hu
theorem ints_one (l : List Int) : ∀ u ∈ l.map (Value.int .i64), u.oneCell' = true := by
  intro u hu
  simp at hu
  obtain ⟨x, _, rfl⟩ := hu
  rfl
theorem cells_some {w : World} {ao : Option Addr} {l : List Int} (hx : CellsAt w ao l.length (gi l)) (hl : l ≠ []) :
    ∃ b off, ao = some ⟨b, off, none⟩ ∧ b < w.heap.size ∧ ∀ j, j < l.length → w.cell? ⟨b, off + j, none⟩ = some (.int .i64 (gi l j)) := by
  have h0 : 0 < l.length := List.length_pos_iff.2 hl
  obtain ⟨b, off, rfl, h⟩ := hx 0 h0
  refine ⟨b, off, rfl, cell_lt h, fun j hj => ?_⟩
  obtain ⟨b', off', e, hc⟩ := hx j hj
  cases e
  exact hc
theorem own_of_append {lo : Nat} {w' : World} {v' : Value} {l : List Int} (hl : l.length ≤ lim) (h : w'.ownsRow lo 3 1 v' (0 + l.length) ([] ++ l.map (Value.int .i64))) : OwnInts lo w' v' l := by
  rw [Nat.zero_add, List.nil_append] at h
  exact ⟨hl, h⟩

set_option maxHeartbeats 1000000 in
theorem clone_any (w : World) (v : Value) (l : List Int) (hv : IntsAt w v l) (hl : l ≠ []) :
    Calls Tryd.prog 106 #[v] w (GivesInts l w) := by
  obtain ⟨ao, c, rfl, hn, hcm, hx⟩ := hv
  obtain ⟨b, off, rfl, hbw, hcell⟩ := cells_some hx hl
  have hlim := hn
  have h0 : 0 < l.length := List.length_pos_iff.2 hl
  rw [lim_eq] at hn
  obtain ⟨i0, hi, hz0, hz1, hz2⟩ := info_parts Tryd.infoInt
  have HC := Lib.hid (news_of_cells (w := w.alloc (.cells #[] 3)) (fun j hj => ((below_new w (.cells #[] 3)).cell (p := ⟨b, off + j, none⟩) hbw).trans (hcell j hj)))
  have HE : Hid ((w.alloc (.cells #[] 3)).ownsRow w.heap.size 3 1 (.slice (some ⟨w.heap.size, 0, none⟩) 0 0) 0 []) := Lib.hid (ownInts_empty w).2
  have hnil := fun (w' : World) => Lib.run_eql_slice_nil (P := Tryd.prog) w' 23 3 (some ⟨b, off, none⟩) l.length c 0 0 Tryd.underlying23
  clear hx hcell hcm
  go_enter Tryd.func106, Tryd.ntmps106
  go_wp2_with (at_builtin; go_must (refine wpList_append_own _ rfl _ _ 23 rfl w.heap.size 3 i0 (.int .i64 0) 1 8 Tryd.underlying23 hi hz0 hz1 hz2 rfl (by decide) _ _ _ rfl HE.out ⟨b, off, none⟩ l.length c (l.map (Value.int .i64)) rfl ?_ HC.out (ints_one l) ?_ ?_ ?_ ?_; (simp); (unfold maxLen; omega); (omega); (simp); intro v' w2 hown' hgrow _hh; have HO := Lib.hid (own_of_append hlim hown'); have HB2 := Lib.hid ((below_new w (.cells #[] 3)).grown hgrow (by simp) (fun k hk => Nat.le_of_eq (Option.some.inj (show some w.heap.size = some k from hk)))); clear hown' hgrow _hh))
  go_ret
  exact ⟨_, rfl, HO.out, HB2.out⟩

set_option maxRecDepth 100000 in
set_option maxHeartbeats 4000000 in
theorem copyHall_any (w : World) (v : Value) (h : PHall) (hv : HallAt w v h) (hl : h.cells ≠ []) :
    Calls Tryd.prog 70 #[v] w (GivesHall h w) := by
  obtain ⟨cv, rfl, hc⟩ := hv
  have HC := Lib.hid hc
  obtain ⟨ao, c, rfl, _, _, _⟩ := hc
  have HCL := Lib.hid (fun (W : World) (hh : IntsAt W (.slice ao h.cells.length c) h.cells) => clone_any W _ h.cells hh hl)
  clear hl
  go_enter Tryd.func70, Tryd.ntmps70
  go_wp2_with fail
  have b0 := Lib.hid ((box3_new w (.int .i64 h.wide) (.int .i64 h.deep) (.slice ao h.cells.length c) 25).keep (below_new _ (.cells #[.int .i64 0, .int .i64 0, .slice none 0 0] 25)))
  have r0 := Lib.hid (blk3_second w (.cells #[.int .i64 h.wide, .int .i64 h.deep, .slice ao h.cells.length c] 25) (.int .i64 0) (.int .i64 0) (.slice none 0 0) 25)
  have hb0 := Lib.hid (below_new2 w (.cells #[.int .i64 h.wide, .int .i64 h.deep, .slice ao h.cells.length c] 25) (.cells #[.int .i64 0, .int .i64 0, .slice none 0 0] 25))
  go_region_held3 (fun w' => w'.cell? ⟨w.heap.size, 0, none⟩ = some (.int .i64 h.wide) ∧ w'.cell? ⟨w.heap.size, 1, none⟩ = some (.int .i64 h.deep) ∧ w'.cell? ⟨w.heap.size, 2, none⟩ = some (.slice ao h.cells.length c)) (((try dsimp only); (repeat' apply And.intro); all_goals first | (with_reducible assumption) | go_keep))
    (first | (go_at_call 106; go_must (refine (HCL.out _ ?_).mono ?_; exact HC.out.keep (below_then hb0.out (below_drew1 _)); rintro e w1 ⟨v1, rfl, ho, hb⟩; obtain ⟨a1, c1, rfl⟩ := ho.slice; have b1 := (b0.out.keep (below_drew1 _)).keep hb; have b1_0 := b1.c0; have b1_1 := b1.c1; have b1_2 := b1.c2; have b1_l := b1.lt; have r1 := (r0.out.keep (below_drew1 _)).keep hb; have r1_0 := r1.box.c0; have r1_1 := r1.box.c1; have r1_2 := r1.box.c2; have f0 := r1.f0; have f1 := r1.f1; have f2 := r1.f2; have HO := Lib.hid (show OwnInts (w.heap.size + 1 + 1) w1 _ _ from (by simpa using ho)); have HB := Lib.hid (below_then (below_then hb0.out (below_drew1 _)) hb); have hz := hb.size; simp at hz; clear hb ho)))
  go_wp2
  refine bodyPost_ret (v := .agg #[.int .i64 h.wide, .int .i64 h.deep, .slice a1 h.cells.length c1]) (by simp [results, Tryd.results70, go_sem, r1_0, r1_1, r1_2]) rfl ⟨_, rfl, ?_, ?_⟩
  · exact (((HO.out.setBelow (by simp) _).setBelow (by simp) _).setBelow (by simp) _).base (by omega)
  · exact HB.out.setCell (by simp) _ |>.setCell (by simp) _ |>.setCell (by simp) _

set_option maxRecDepth 100000 in
set_option maxHeartbeats 4000000 in
theorem l1Hall_any (w : World) (v : Value) (h : PHall) (hv : HallAt w v h) (hl : h.cells ≠ []) :
    Calls Tryd.prog 79 #[v] w (GivesHall h w) := by
  obtain ⟨cv, rfl, ao, c, rfl, hn, hcm, hx⟩ := hv
  have hlim := hn
  have h0 : 0 < h.cells.length := List.length_pos_iff.2 hl
  rw [lim_eq] at hn
  obtain ⟨b, off, rfl, hbw, hcell⟩ := cells_some hx hl
  obtain ⟨i0, hi, hz0, hz1, hz2⟩ := info_parts Tryd.infoInt
  obtain ⟨W, hW⟩ : ∃ W, W = (w.alloc (.cells #[.int .i64 h.wide, .int .i64 h.deep, .slice (some ⟨b, off, none⟩) h.cells.length c] 25)).alloc (.cells #[.int .i64 0, .int .i64 0, .slice none 0 0] 25) := ⟨_, rfl⟩
  have hWs : W.heap.size = w.heap.size + 1 + 1 := by rw [hW]; simp
  have hb0 : Hid (Below w.heap.size w W) := Lib.hid (by rw [hW]; exact below_new2 _ _ _)
  have b0 : Hid (Box3 W w.heap.size (.int .i64 h.wide) (.int .i64 h.deep) (.slice (some ⟨b, off, none⟩) h.cells.length c)) := Lib.hid (by rw [hW]; exact (box3_new w _ _ _ _).keep (below_new _ _))
  have r0 : Hid (Blk3 W (w.heap.size + 1) (.int .i64 0) (.int .i64 0) (.slice none 0 0)) := Lib.hid (by rw [hW]; exact blk3_second w _ _ _ _ _)
  have HE : Hid ((W.alloc (.cells #[] 3)).drew.ownsRow (w.heap.size + 1 + 1) 3 1 (.slice (some ⟨w.heap.size + 1 + 1, 0, none⟩) 0 0) 0 []) := Lib.hid (by
    have := (ownInts_empty W).2
    rw [hWs] at this
    exact own_keep this (below_drew1 _))
  have HCN : Hid (∀ (j : Nat) (u : Value), (h.cells.map (Value.int .i64))[j]? = some u → (W.alloc (.cells #[] 3)).drew.cell? ((⟨b, off, none⟩ : Addr).add j) = some u) := Lib.hid (by
    refine news_of_cells (fun j hj => ?_)
    have := (below_then (below_then hb0.out (below_new W (.cells #[] 3))) (below_drew1 _)).cell (p := ⟨b, off + j, none⟩) hbw
    rw [this]; exact hcell j hj)
  clear hx hcell hcm hl
  go_enter Tryd.func79, Tryd.ntmps79
  go_wp2_with fail
  rw [← hW]
  clear hW
  have g0 := b0.out.c0
  have g1 := b0.out.c1
  have g2 := b0.out.c2
  have gl := b0.out.lt
  go_region_held3 (fun w' => w'.cell? ⟨w.heap.size, 0, none⟩ = some (.int .i64 h.wide) ∧ w'.cell? ⟨w.heap.size, 1, none⟩ = some (.int .i64 h.deep) ∧ w'.cell? ⟨w.heap.size, 2, none⟩ = some (.slice (some ⟨b, off, none⟩) h.cells.length c)) (((try dsimp only); (repeat' apply And.intro); all_goals first | (with_reducible assumption) | go_keep))
    ((go_must (refine step_append_lies _ (by rfl) _ _ _ (by rfl) (w.heap.size + 1 + 1) 3 i0 _ 1 8 Tryd.underlying23 hi hz0 hz1 hz2 rfl (by omega) _ _ _ (by rfl) HE.out ⟨b, off, none⟩ h.cells.length c (h.cells.map (Value.int .i64)) (by rfl) (by simp) HCN.out (ints_one _) h0 (by unfold maxLen; omega) (by omega) (by simp; omega) (w.heap.size + 1 + 1 + 1) (by simp; omega) ?_; intro gg cap w1 hown1 hgrow hat hlt; have hbk := blk_some (w.heap.size + 1 + 1) 0 0; have b1 := ((b0.out.keep (below_new _ _)).keep (below_drew1 _)).keepG hgrow hbk (by omega); have b1_0 := b1.c0; have b1_1 := b1.c1; have b1_2 := b1.c2; have r1 := ((r0.out.keep (below_new _ _)).keep (below_drew1 _)).keepG hgrow hbk (by omega); have r1_0 := r1.box.c0; have r1_1 := r1.box.c1; have r1_2 := r1.box.c2; have r1_l := r1.box.lt; have f0 := r1.f0; have f1 := r1.f1; have f2 := r1.f2; have HO := Lib.hid (own_of_append hlim hown1); have HB := Lib.hid (below_grownG (below_then (below_then hb0.out (below_new _ _)) (below_drew1 _)) hgrow hbk (by omega)); clear hown1 hgrow hat hlt)))
  go_wp2
  refine bodyPost_ret (v := .agg #[.int .i64 h.wide, .int .i64 h.deep, .slice (some ⟨gg, 0, none⟩) h.cells.length cap]) (by simp [results, Tryd.results79, go_sem, r1_0, r1_1, r1_2]) rfl ⟨_, rfl, ?_, ?_⟩
  · have HO := HO.out
    rw [Nat.zero_add] at HO
    exact (((HO.setBelow (by simp) _).setBelow (by simp) _).setBelow (by simp) _).base (by omega)
  · exact HB.out.setCell (by simp) _ |>.setCell (by simp) _ |>.setCell (by simp) _

end Go.Proofs.YtjdgbdakkdljmaaDoor
