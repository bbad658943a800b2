/-
  The texts K K2 K4 H K5 O M S2 B J in one.
-/
import Derived.Test.YtlmkdhbemgkbjaaP3
import Derived.Deep.RegionHeld3
import Derived.Deep.AppendLies
import Derived.Laws.AppendOwnNone
import Derived.BigRegion
import Derived.Test.YtlmkdhbemgkbjaaP2
import Derived.Test.YtlmkdhbemgkbjaaA
import Derived.Maps.AppendAt
section
/-
  Copies of halls; HallTake.
-/
set_option linter.unusedVariables false
namespace Go.Proofs.Ytlmkdhbemgkbjaa
open Go Go.RowKit Go.Park

/-- an owned row that is not empty begins somewhere -/
theorem OwnInts.head {lo : Nat} {w : World} {v : Value} {l : List Int} (h : OwnInts lo w v l) (hl : l ≠ []) : ∃ g cap, v = .slice (some ⟨g, 0, none⟩) l.length cap ∧ lo ≤ g ∧ g < w.heap.size := by
  rcases h.2.2 with ⟨_, h0⟩ | ⟨g, cap, cur, e, hg, hh, _⟩
  · exact absurd (List.eq_nil_of_length_eq_zero h0) hl
  · exact ⟨g, cap, e, hg, (Array.getElem?_eq_some_iff.1 hh).1⟩
theorem own_cell {lo : Nat} {w : World} {g cap n : Nat} {l : List Int} (h : OwnInts lo w (.slice (some ⟨g, 0, none⟩) n cap) l) {j : Nat} (hj : j < l.length) : w.cell? ⟨g, j, none⟩ = some (.int .i64 (gi l j)) := by
  have h2 := h.2
  have e : n = l.length := by rcases h2.2 with ⟨e, _⟩ | ⟨_, _, _, e, _⟩ <;> cases e; rfl
  subst e
  rw [h2.cellAt j (by omega)]
  simp [gi_of_lt hj]
theorem own_free {lo : Nat} {w : World} {g cap n : Nat} {l : List Int} (h : OwnInts lo w (.slice (some ⟨g, 0, none⟩) n cap) l) (j : Nat) : w.frozen? ⟨g, j, none⟩ = false := by
  have h2 := h.2
  have e : n = l.length := by rcases h2.2 with ⟨e, _⟩ | ⟨_, _, _, e, _⟩ <;> cases e; rfl
  subst e
  exact h2.frozenAt j
theorem own_store {lo : Nat} {w : World} {g cap n : Nat} {l : List Int} (h : OwnInts lo w (.slice (some ⟨g, 0, none⟩) n cap) l) (j : Nat) (x : Int) : OwnInts lo (w.setCell ⟨g, j, none⟩ (.int .i64 x)) (.slice (some ⟨g, 0, none⟩) n cap) (l.set j x) := by
  have h2 := h.2
  have e : n = l.length := by rcases h2.2 with ⟨e, _⟩ | ⟨_, _, _, e, _⟩ <;> cases e; rfl
  subst e
  refine ⟨by simpa using h.1, ?_⟩
  have := (h2.stored j (.int .i64 x)).1
  rw [List.map_set, List.length_set]
  exact this
theorem OwnInts.setBelow {lo : Nat} {w : World} {v : Value} {l : List Int} (h : OwnInts lo w v l) {a : Addr} (ha : a.block < lo) (u : Value) : OwnInts lo (w.setCell a u) v l := ⟨h.1, ownsRow_setCell_below h.2 ha u⟩
theorem news_of_cells {w : World} {b off : Nat} {l : List Int} (h : ∀ j, j < l.length → w.cell? ⟨b, off + j, none⟩ = some (.int .i64 (gi l j))) :
    ∀ j u, (l.map (Value.int .i64))[j]? = some u → w.cell? ((⟨b, off, none⟩ : Addr).add j) = some u := by
  intro j u hu
  rw [List.getElem?_map] at hu
  by_cases hj : j < l.length
  · rw [gi_of_lt hj] at hu
    simp at hu
    subst hu
    rw [← h j hj]
    unfold Addr.add
    split <;> simp_all
  · rw [List.getElem?_eq_none (by omega)] at hu; cases hu
theorem ints_one (l : List Int) : ∀ u ∈ l.map (Value.int .i64), u.oneCell' = true := by
  intro u hu
  simp at hu
  obtain ⟨x, _, rfl⟩ := hu
  rfl
theorem cells_some {w : World} {ao : Option Addr} {l : List Int} (hx : CellsAt w ao l.length (gi l)) (hl : l ≠ []) :
    ∃ b off, ao = some ⟨b, off, none⟩ ∧ b < w.heap.size ∧ ∀ j, j < l.length → w.cell? ⟨b, off + j, none⟩ = some (.int .i64 (gi l j)) := by
  have h0 : 0 < l.length := List.length_pos_iff.2 hl
  obtain ⟨b, off, rfl, h⟩ := hx 0 h0
  refine ⟨b, off, rfl, cell_lt h, fun j hj => ?_⟩
  obtain ⟨b', off', e, hc⟩ := hx j hj
  cases e
  exact hc
theorem own_of_append {lo : Nat} {w' : World} {v' : Value} {l : List Int} (hl : l.length ≤ lim) (h : w'.ownsRow lo 3 1 v' (0 + l.length) ([] ++ l.map (Value.int .i64))) : OwnInts lo w' v' l := by
  rw [Nat.zero_add, List.nil_append] at h
  exact ⟨hl, h⟩

set_option maxHeartbeats 1000000 in
theorem clone_any (w : World) (v : Value) (l : List Int) (hv : IntsAt w v l) (hl : l ≠ []) :
    Calls Try.prog 45 #[v] w (GivesInts l w) := by
  obtain ⟨ao, c, rfl, hn, hcm, hx⟩ := hv
  obtain ⟨b, off, rfl, hbw, hcell⟩ := cells_some hx hl
  have hlim := hn
  have h0 : 0 < l.length := List.length_pos_iff.2 hl
  rw [lim_eq] at hn
  obtain ⟨i0, hi, hz0, hz1, hz2⟩ := info_parts Try.infoInt
  have HC := Lib.hid (news_of_cells (w := w.alloc (.cells #[] 3)) (fun j hj => ((below_new w (.cells #[] 3)).cell (p := ⟨b, off + j, none⟩) hbw).trans (hcell j hj)))
  have HE : Hid ((w.alloc (.cells #[] 3)).ownsRow w.heap.size 3 1 (.slice (some ⟨w.heap.size, 0, none⟩) 0 0) 0 []) := Lib.hid (ownInts_empty w).2
  have hnil := fun (w' : World) => Lib.run_eql_slice_nil (P := Try.prog) w' 22 3 (some ⟨b, off, none⟩) l.length c 0 0 Try.underlying22
  clear hx hcell hcm
  go_enter Try.func45, Try.ntmps45
  go_wp2_with (at_builtin; go_must (refine wpList_append_own _ rfl _ _ 22 rfl w.heap.size 3 i0 (.int .i64 0) 1 8 Try.underlying22 hi hz0 hz1 hz2 rfl (by decide) _ _ _ rfl HE.out ⟨b, off, none⟩ l.length c (l.map (Value.int .i64)) rfl ?_ HC.out (ints_one l) ?_ ?_ ?_ ?_; (simp); (unfold maxLen; omega); (omega); (simp); intro v' w2 hown' hgrow _hh; have HO := Lib.hid (own_of_append hlim hown'); have HB2 := Lib.hid ((below_new w (.cells #[] 3)).grown hgrow (by simp) (fun k hk => Nat.le_of_eq (Option.some.inj (show some w.heap.size = some k from hk)))); clear hown' hgrow _hh))
  go_ret
  exact ⟨_, rfl, HO.out, HB2.out⟩

set_option maxRecDepth 100000 in
set_option maxHeartbeats 4000000 in
theorem copyHall_any (w : World) (v : Value) (h : PHall) (hv : HallAt w v h) (hl : h.cells ≠ []) :
    Calls Try.prog 32 #[v] w (GivesHall h w) := by
  obtain ⟨cv, rfl, hc⟩ := hv
  have HC := Lib.hid hc
  obtain ⟨ao, c, rfl, _, _, _⟩ := hc
  have HCL := Lib.hid (fun (W : World) (hh : IntsAt W (.slice ao h.cells.length c) h.cells) => clone_any W _ h.cells hh hl)
  clear hl
  go_enter Try.func32, Try.ntmps32
  go_wp2_with fail
  have b0 := Lib.hid ((box3_new w (.int .i64 h.wide) (.int .i64 h.deep) (.slice ao h.cells.length c) 27).keep (below_new _ (.cells #[.int .i64 0, .int .i64 0, .slice none 0 0] 27)))
  have r0 := Lib.hid (blk3_second w (.cells #[.int .i64 h.wide, .int .i64 h.deep, .slice ao h.cells.length c] 27) (.int .i64 0) (.int .i64 0) (.slice none 0 0) 27)
  have hb0 := Lib.hid (below_new2 w (.cells #[.int .i64 h.wide, .int .i64 h.deep, .slice ao h.cells.length c] 27) (.cells #[.int .i64 0, .int .i64 0, .slice none 0 0] 27))
  go_region_held3 (fun w' => w'.cell? ⟨w.heap.size, 0, none⟩ = some (.int .i64 h.wide) ∧ w'.cell? ⟨w.heap.size, 1, none⟩ = some (.int .i64 h.deep) ∧ w'.cell? ⟨w.heap.size, 2, none⟩ = some (.slice ao h.cells.length c)) (((try dsimp only); (repeat' apply And.intro); all_goals first | (with_reducible assumption) | go_keep))
    (first | (go_at_call 45; go_must (refine (HCL.out _ ?_).mono ?_; exact HC.out.keep (below_then hb0.out (below_drew1 _)); rintro e w1 ⟨v1, rfl, ho, hb⟩; obtain ⟨a1, c1, rfl⟩ := ho.slice; have b1 := (b0.out.keep (below_drew1 _)).keep hb; have b1_0 := b1.c0; have b1_1 := b1.c1; have b1_2 := b1.c2; have b1_l := b1.lt; have r1 := (r0.out.keep (below_drew1 _)).keep hb; have r1_0 := r1.box.c0; have r1_1 := r1.box.c1; have r1_2 := r1.box.c2; have f0 := r1.f0; have f1 := r1.f1; have f2 := r1.f2; have HO := Lib.hid (show OwnInts (w.heap.size + 1 + 1) w1 _ _ from (by simpa using ho)); have HB := Lib.hid (below_then (below_then hb0.out (below_drew1 _)) hb); have hz := hb.size; simp at hz; clear hb ho)))
  go_wp2
  refine bodyPost_ret (v := .agg #[.int .i64 h.wide, .int .i64 h.deep, .slice a1 h.cells.length c1]) (by simp [results, Try.results32, go_sem, r1_0, r1_1, r1_2]) rfl ⟨_, rfl, ?_, ?_⟩
  · exact (((HO.out.setBelow (by simp) _).setBelow (by simp) _).setBelow (by simp) _).base (by omega)
  · exact HB.out.setCell (by simp) _ |>.setCell (by simp) _ |>.setCell (by simp) _

set_option maxRecDepth 100000 in
set_option maxHeartbeats 4000000 in
theorem l1Hall_any (w : World) (v : Value) (h : PHall) (hv : HallAt w v h) (hl : h.cells ≠ []) :
    Calls Try.prog 29 #[v] w (GivesHall h w) := by
  obtain ⟨cv, rfl, ao, c, rfl, hn, hcm, hx⟩ := hv
  have hlim := hn
  have h0 : 0 < h.cells.length := List.length_pos_iff.2 hl
  rw [lim_eq] at hn
  obtain ⟨b, off, rfl, hbw, hcell⟩ := cells_some hx hl
  obtain ⟨i0, hi, hz0, hz1, hz2⟩ := info_parts Try.infoInt
  obtain ⟨W, hW⟩ : ∃ W, W = (w.alloc (.cells #[.int .i64 h.wide, .int .i64 h.deep, .slice (some ⟨b, off, none⟩) h.cells.length c] 27)).alloc (.cells #[.int .i64 0, .int .i64 0, .slice none 0 0] 27) := ⟨_, rfl⟩
  have hWs : W.heap.size = w.heap.size + 1 + 1 := by rw [hW]; simp
  have hb0 : Hid (Below w.heap.size w W) := Lib.hid (by rw [hW]; exact below_new2 _ _ _)
  have b0 : Hid (Box3 W w.heap.size (.int .i64 h.wide) (.int .i64 h.deep) (.slice (some ⟨b, off, none⟩) h.cells.length c)) := Lib.hid (by rw [hW]; exact (box3_new w _ _ _ _).keep (below_new _ _))
  have r0 : Hid (Blk3 W (w.heap.size + 1) (.int .i64 0) (.int .i64 0) (.slice none 0 0)) := Lib.hid (by rw [hW]; exact blk3_second w _ _ _ _ _)
  have HE : Hid ((W.alloc (.cells #[] 3)).drew.ownsRow (w.heap.size + 1 + 1) 3 1 (.slice (some ⟨w.heap.size + 1 + 1, 0, none⟩) 0 0) 0 []) := Lib.hid (by
    have := (ownInts_empty W).2
    rw [hWs] at this
    exact own_keep this (below_drew1 _))
  have HCN : Hid (∀ (j : Nat) (u : Value), (h.cells.map (Value.int .i64))[j]? = some u → (W.alloc (.cells #[] 3)).drew.cell? ((⟨b, off, none⟩ : Addr).add j) = some u) := Lib.hid (by
    refine news_of_cells (fun j hj => ?_)
    have := (below_then (below_then hb0.out (below_new W (.cells #[] 3))) (below_drew1 _)).cell (p := ⟨b, off + j, none⟩) hbw
    rw [this]; exact hcell j hj)
  clear hx hcell hcm hl
  go_enter Try.func29, Try.ntmps29
  go_wp2_with fail
  rw [← hW]
  clear hW
  have g0 := b0.out.c0
  have g1 := b0.out.c1
  have g2 := b0.out.c2
  have gl := b0.out.lt
  go_region_held3 (fun w' => w'.cell? ⟨w.heap.size, 0, none⟩ = some (.int .i64 h.wide) ∧ w'.cell? ⟨w.heap.size, 1, none⟩ = some (.int .i64 h.deep) ∧ w'.cell? ⟨w.heap.size, 2, none⟩ = some (.slice (some ⟨b, off, none⟩) h.cells.length c)) (((try dsimp only); (repeat' apply And.intro); all_goals first | (with_reducible assumption) | go_keep))
    ((go_must (refine step_append_lies _ (by rfl) _ _ _ (by rfl) (w.heap.size + 1 + 1) 3 i0 _ 1 8 Try.underlying22 hi hz0 hz1 hz2 rfl (by omega) _ _ _ (by rfl) HE.out ⟨b, off, none⟩ h.cells.length c (h.cells.map (Value.int .i64)) (by rfl) (by simp) HCN.out (ints_one _) h0 (by unfold maxLen; omega) (by omega) (by simp; omega) (w.heap.size + 1 + 1 + 1) (by simp; omega) ?_; intro gg cap w1 hown1 hgrow hat hlt; have hbk := blk_some (w.heap.size + 1 + 1) 0 0; have b1 := ((b0.out.keep (below_new _ _)).keep (below_drew1 _)).keepG hgrow hbk (by omega); have b1_0 := b1.c0; have b1_1 := b1.c1; have b1_2 := b1.c2; have r1 := ((r0.out.keep (below_new _ _)).keep (below_drew1 _)).keepG hgrow hbk (by omega); have r1_0 := r1.box.c0; have r1_1 := r1.box.c1; have r1_2 := r1.box.c2; have r1_l := r1.box.lt; have f0 := r1.f0; have f1 := r1.f1; have f2 := r1.f2; have HO := Lib.hid (own_of_append hlim hown1); have HB := Lib.hid (below_grownG (below_then (below_then hb0.out (below_new _ _)) (below_drew1 _)) hgrow hbk (by omega)); clear hown1 hgrow hat hlt)))
  go_wp2
  refine bodyPost_ret (v := .agg #[.int .i64 h.wide, .int .i64 h.deep, .slice (some ⟨gg, 0, none⟩) h.cells.length cap]) (by simp [results, Try.results29, go_sem, r1_0, r1_1, r1_2]) rfl ⟨_, rfl, ?_, ?_⟩
  · have HO := HO.out
    rw [Nat.zero_add] at HO
    exact (((HO.setBelow (by simp) _).setBelow (by simp) _).setBelow (by simp) _).base (by omega)
  · exact HB.out.setCell (by simp) _ |>.setCell (by simp) _ |>.setCell (by simp) _

end Go.Proofs.Ytlmkdhbemgkbjaa
end

section
/-
  HallTake.
-/
set_option linter.unusedVariables false
namespace Go.Proofs.Ytlmkdhbemgkbjaa
open Go Go.RowKit Go.Park

/-- a call returns a hall of its own and a value -/
def GivesHallV (h : PHall) (x : Value) (w : World) (e : Ending) (w' : World) : Prop :=
  ∃ cv, e = .returned (.tuple #[.agg #[.int .i64 h.wide, .int .i64 h.deep, cv], x]) ∧ OwnInts w.heap.size w' cv h.cells ∧ Below w.heap.size w w'
def zeroHall : PHall := ⟨0, 0, []⟩
def hallTakeF (h : PHall) (c : Int) : PHall × Int :=
  if validB h = true then (if hasCellB h c = true then (⟨h.wide, h.deep, h.cells.set c.toNat 0⟩, gi h.cells c.toNat) else (h, 0)) else (zeroHall, 0)
theorem valid_ne {h : PHall} (hv : validB h = true) : h.cells ≠ [] := by
  have := (valid_len hv).1
  intro e
  rw [e] at this
  simp at this


theorem hasCell_gives {h : PHall} {c : Int} {r : Bool} (hr : hasCellB h c = r) : ∀ w' : World, Calls Try.prog 38 #[.int .i64 c, .int .i64 0, .int .i64 ((h.cells.length : Int) - 1)] w' (Gives (.bool r) w') := fun w' => tells_gives (l1In_has hr w')


end Go.Proofs.Ytlmkdhbemgkbjaa
end

section
/-
  slices.Reverse and HallTurn.
-/
set_option linter.unusedVariables false
namespace Go.Proofs.Ytlmkdhbemgkbjaa
open Go Go.RowKit Go.Park

def tab (n : Nat) (f : Nat → Int) : List Int := (List.range n).map f
theorem tab_length (n : Nat) (f : Nat → Int) : (tab n f).length = n := by simp [tab]
theorem gi_tab {n : Nat} {f : Nat → Int} {j : Nat} (h : j < n) : gi (tab n f) j = f j := by simp [gi, tab, List.getD, h]
theorem gi_set {l : List Int} {i j : Nat} {x : Int} (hj : j < l.length) : gi (l.set i x) j = if i = j then x else gi l j := by
  simp only [gi, List.getD, List.getElem?_set]
  by_cases e : i = j
  · subst e; simp [hj]
  · simp [e]
theorem tab_set {n i : Nat} {f : Nat → Int} {x : Int} : (tab n f).set i x = tab n (fun j => if i = j then x else f j) := by
  refine ext_gi (by simp [tab_length]) (fun j hj => ?_)
  simp only [List.length_set, tab_length] at hj
  rw [gi_set (by rw [tab_length]; exact hj), gi_tab hj, gi_tab hj]
theorem tab_congr {n : Nat} {f g : Nat → Int} (h : ∀ j, j < n → f j = g j) : tab n f = tab n g := by
  refine ext_gi (by simp [tab_length]) (fun j hj => ?_)
  rw [tab_length] at hj
  rw [gi_tab hj, gi_tab hj, h j hj]
theorem tab_gi (l : List Int) : tab l.length (gi l) = l := ext_gi (tab_length _ _) (fun j hj => by rw [tab_length] at hj; rw [gi_tab hj])
theorem tab_rev (l : List Int) : tab l.length (fun j => gi l (l.length - 1 - j)) = l.reverse := by
  refine ext_gi (by simp [tab_length]) (fun j hj => ?_)
  rw [tab_length] at hj
  rw [gi_tab hj, gi_get (by omega), gi_get (by simpa using hj), List.getElem_reverse]

/-- k places at both ends exchanged -/
def revTo (l : List Int) (n k : Nat) : List Int := tab n (fun j => if j < k ∨ n - k ≤ j then gi l (n - 1 - j) else gi l j)
theorem revTo_zero (l : List Int) {n : Nat} (hn : n = l.length) : revTo l n 0 = l := by
  subst hn
  unfold revTo
  rw [tab_congr (g := gi l) (fun j hj => by rw [if_neg (by omega)]), tab_gi]
theorem revTo_all (l : List Int) {n k : Nat} (hn : n = l.length) (hk : n ≤ 2 * k + 1) : revTo l n k = l.reverse := by
  subst hn
  unfold revTo
  rw [← tab_rev]
  refine tab_congr (fun j hj => ?_)
  by_cases h : j < k ∨ l.length - k ≤ j
  · rw [if_pos h]
  · rw [if_neg h]; congr 1; omega
theorem revTo_step (l : List Int) {n k : Nat} (hk : k < n - 1 - k) : ((revTo l n k).set k (gi l (n - 1 - k))).set (n - 1 - k) (gi l k) = revTo l n (k + 1) := by
  unfold revTo
  rw [tab_set, tab_set]
  refine tab_congr (fun j hj => ?_)
  by_cases h1 : n - 1 - k = j
  · rw [if_pos h1, if_pos (by omega)]; congr 1; omega
  · rw [if_neg h1]
    by_cases h2 : k = j
    · rw [if_pos h2, if_pos (by omega)]; congr 1; omega
    · rw [if_neg h2]
      by_cases h3 : j < k ∨ n - k ≤ j
      · rw [if_pos h3, if_pos (by omega)]
      · rw [if_neg h3, if_neg (by omega)]
theorem gi_revTo_mid (l : List Int) {n k j : Nat} (h1 : k ≤ j) (h2 : j < n - k) : gi (revTo l n k) j = gi l j := by
  unfold revTo
  rw [gi_tab (by omega), if_neg (by omega)]
theorem grown_trans {w w1 w2 : World} {r : Option Nat} (h : w.grownBy w1 r) (k : w1.grownBy w2 r) : w.grownBy w2 r :=
  ⟨k.os.trans h.os, k.tape.trans h.tape, k.output.trans h.output, Nat.le_trans h.size k.size, fun i hi hr => (k.block i (Nat.lt_of_lt_of_le hi h.size) hr).trans (h.block i hi hr)⟩
theorem grown_drew {w w1 : World} {r : Option Nat} (h : w.grownBy w1 r) : w.grownBy w1.drew r := grown_trans h ⟨rfl, rfl, rfl, Nat.le_refl _, fun _ _ _ => rfl⟩


def hallTurnF (h : PHall) : PHall := if validB h = true then ⟨h.wide, h.deep, h.cells.reverse⟩ else zeroHall


/-- k numbers turned over -/
def turnTo (l : List Int) (n k : Nat) : List Int := tab n (fun j => if n - k ≤ j then gi l (n - 1 - j) else 0)
theorem turnTo_zero (l : List Int) (n : Nat) : turnTo l n 0 = List.replicate n 0 := by
  refine ext_gi (by simp [turnTo, tab_length]) (fun j hj => ?_)
  rw [turnTo, tab_length] at hj
  unfold turnTo
  rw [gi_tab hj, if_neg (by omega)]
  simp [gi, List.getD, hj]
theorem turnTo_all (l : List Int) {n : Nat} (hn : n = l.length) : turnTo l n n = l.reverse := by
  subst hn
  rw [← tab_rev]
  exact tab_congr (fun j hj => by rw [if_pos (by omega)])
theorem turnTo_step (l : List Int) {n k : Nat} (hk : k < n) : (turnTo l n k).set (n - 1 - k) (gi l k) = turnTo l n (k + 1) := by
  unfold turnTo
  rw [tab_set]
  refine tab_congr (fun j hj => ?_)
  by_cases h1 : n - 1 - k = j
  · rw [if_pos h1, if_pos (by omega)]; congr 1; omega
  · rw [if_neg h1]
    by_cases h2 : n - k ≤ j
    · rw [if_pos h2, if_pos (by omega)]
    · rw [if_neg h2, if_neg (by omega)]


end Go.Proofs.Ytlmkdhbemgkbjaa
end

section
/-
  Copies of halls, and SlideMay.
-/
set_option linter.unusedVariables false
namespace Go.Proofs.Ytlmkdhbemgkbjaa
open Go Go.RowKit Go.Park

/-- whether a slide can be done -/
def slideMayB (h : PHall) (a b : Int) : Bool :=
  validB h && (hasCellB h a && (hasCellB h b && (decide (gi h.cells a.toNat ≠ 0) && (decide (gi h.cells b.toNat = 0) && decide (apartF h.wide a b = 1)))))
theorem valid_cell {h : PHall} (hv : validB h = true) {j : Nat} (hj : j < h.cells.length) : 0 ≤ gi h.cells j ∧ gi h.cells j ≤ 99 := by
  simp only [validB, Bool.and_eq_true] at hv
  have := okTo_iff.1 hv.2 j hj
  simp only [okAt, Bool.and_eq_true] at this
  exact inR_true.1 this.1

set_option maxHeartbeats 1000000 in
theorem slideMay_any (w : World) (v : Value) (h : PHall) (a b : Int) (hv : HallAt w v h) :
    Calls Try.prog 46 #[v, .agg #[.int .i64 a, .int .i64 b]] w (Gives (.bool (slideMayB h a b)) w) := by
  have HV := Lib.hid hv
  obtain ⟨cv, rfl, ao, c, rfl, hn, hcm, hx⟩ := hv
  have HX := Lib.hid hx
  clear hx
  cases hval : validB h
  · have H := Lib.hid (show slideMayB h a b = false by simp [slideMayB, hval])
    have HW := Lib.hid (valid_calls hval)
    clear hval
    go_enter Try.func46, Try.ntmps46
    go_wp2_with fail
    refine (HW.out _ _ (HV.out.keep (below_new2 _ _ _))).mono ?_
    rintro e w1 ⟨rfl, hb⟩
    have HB := Lib.hid (below_then (below_new2 _ _ _) hb)
    clear hb
    go_wp2
    go_ret
    exact gives_mk (by rw [H.out]; rfl) HB.out
  have HW := Lib.hid (valid_calls hval)
  cases h1 : hasCellB h a
  · have H := Lib.hid (show slideMayB h a b = false by simp [slideMayB, h1])
    have HI := Lib.hid (hasCell_calls h1)
    clear hval h1
    go_enter Try.func46, Try.ntmps46
    go_wp2_with fail
    refine (HW.out _ _ (HV.out.keep (below_new2 _ _ _))).mono ?_
    rintro e w1 ⟨rfl, hb⟩
    have b1 := ((box3_new w _ _ _ _).keep (below_new _ _)).keep hb
    have b1_0 := b1.c0
    have b1_1 := b1.c1
    have b1_2 := b1.c2
    have b1_l := b1.lt
    have d1 := (box2_second w _ _ _ _).keep hb
    have d1_0 := d1.c0
    have d1_1 := d1.c1
    have HB := Lib.hid (below_then (below_new2 _ _ _) hb)
    clear hb
    go_wp2_with fail
    refine (HI.out _ _ (HV.out.keep HB.out)).mono ?_
    rintro e w2 ⟨rfl, hb⟩
    have HB2 := Lib.hid (below_then HB.out hb)
    clear hb
    go_wp2
    go_ret
    exact gives_mk (by rw [H.out]; rfl) HB2.out
  have HI := Lib.hid (hasCell_calls h1)
  cases h2 : hasCellB h b
  · have H := Lib.hid (show slideMayB h a b = false by simp [slideMayB, h2])
    have HI2 := Lib.hid (hasCell_calls h2)
    clear hval h1 h2
    go_enter Try.func46, Try.ntmps46
    go_wp2_with fail
    refine (HW.out _ _ (HV.out.keep (below_new2 _ _ _))).mono ?_
    rintro e w1 ⟨rfl, hb⟩
    have b1 := ((box3_new w _ _ _ _).keep (below_new _ _)).keep hb
    have b1_0 := b1.c0
    have b1_1 := b1.c1
    have b1_2 := b1.c2
    have b1_l := b1.lt
    have d1 := (box2_second w _ _ _ _).keep hb
    have d1_0 := d1.c0
    have d1_1 := d1.c1
    have HB := Lib.hid (below_then (below_new2 _ _ _) hb)
    clear hb
    go_wp2_with fail
    refine (HI.out _ _ (HV.out.keep HB.out)).mono ?_
    rintro e w2 ⟨rfl, hb⟩
    have b2 := b1.keep hb
    have b2_0 := b2.c0
    have b2_1 := b2.c1
    have b2_2 := b2.c2
    have b2_l := b2.lt
    have d2 := d1.keep hb
    have d2_0 := d2.c0
    have d2_1 := d2.c1
    have HB2 := Lib.hid (below_then HB.out hb)
    clear hb
    go_wp2_with fail
    refine (HI2.out _ _ (HV.out.keep HB2.out)).mono ?_
    rintro e w3 ⟨rfl, hb⟩
    have HB3 := Lib.hid (below_then HB2.out hb)
    clear hb
    go_wp2
    go_ret
    exact gives_mk (by rw [H.out]; rfl) HB3.out
  have HI2 := Lib.hid (hasCell_calls h2)
  have HA := Lib.hid (fun W : World => apart_any W h.wide a b (valid_size hval).1 (cell_small hval h1) (cell_small hval h2))
  have hlen := (valid_len hval).2
  obtain ⟨n, hnn⟩ : ∃ n, n = h.cells.length := ⟨_, rfl⟩
  have e1 := hasCell_iff.1 h1
  have e2 := hasCell_iff.1 h2
  rw [← hnn] at HV HX hlen e1 e2 ⊢
  obtain ⟨x, rfl⟩ := Int.eq_ofNat_of_zero_le e1.1
  obtain ⟨y, rfl⟩ := Int.eq_ofNat_of_zero_le e2.1
  have hxn : x < n := by omega
  have hyn : y < n := by omega
  have H0 := Lib.hid (show slideMayB h x y = (decide (gi h.cells x ≠ 0) && (decide (gi h.cells y = 0) && decide (apartF h.wide x y = 1))) by simp [slideMayB, hval, h1, h2])
  obtain ⟨b0, o, rfl, hcx⟩ := HX.out x hxn
  obtain ⟨b', o', e, hcy⟩ := HX.out y hyn
  cases e
  have hbw : b0 < w.heap.size := cell_lt hcx
  clear hval h1 h2 e1 e2 hnn hn hcm
  by_cases h3 : gi h.cells x = 0
  · have H := Lib.hid (show slideMayB h x y = false by rw [H0.out]; simp [h3])
    have h3' : (gi h.cells x != 0) = false := by simpa using h3
    clear h3
    go_enter Try.func46, Try.ntmps46
    go_wp2_with fail
    refine (HW.out _ _ (HV.out.keep (below_new2 _ _ _))).mono ?_
    rintro e w1 ⟨rfl, hb⟩
    have b1 := ((box3_new w _ _ _ _).keep (below_new _ _)).keep hb
    have b1_0 := b1.c0
    have b1_1 := b1.c1
    have b1_2 := b1.c2
    have b1_l := b1.lt
    have d1 := (box2_second w _ _ _ _).keep hb
    have d1_0 := d1.c0
    have d1_1 := d1.c1
    have HB := Lib.hid (below_then (below_new2 _ _ _) hb)
    clear hb
    go_wp2_with fail
    refine (HI.out _ _ (HV.out.keep HB.out)).mono ?_
    rintro e w2 ⟨rfl, hb⟩
    have b2 := b1.keep hb
    have b2_0 := b2.c0
    have b2_1 := b2.c1
    have b2_2 := b2.c2
    have b2_l := b2.lt
    have d2 := d1.keep hb
    have d2_0 := d2.c0
    have d2_1 := d2.c1
    have HB2 := Lib.hid (below_then HB.out hb)
    clear hb
    go_wp2_with fail
    refine (HI2.out _ _ (HV.out.keep HB2.out)).mono ?_
    rintro e w3 ⟨rfl, hb⟩
    have b3 := b2.keep hb
    have b3_0 := b3.c0
    have b3_1 := b3.c1
    have b3_2 := b3.c2
    have b3_l := b3.lt
    have d3 := d2.keep hb
    have d3_0 := d3.c0
    have d3_1 := d3.c1
    have HB3 := Lib.hid (below_then HB2.out hb)
    have cx := (HB3.out.cell (p := ⟨b0, o + x, none⟩) hbw).trans hcx
    have cy := (HB3.out.cell (p := ⟨b0, o + y, none⟩) hbw).trans hcy
    clear hb
    go_wp2
    go_ret
    exact gives_mk (by rw [H.out]; rfl) HB3.out
  have h3' : (gi h.cells x != 0) = true := by simpa using h3
  by_cases h4 : gi h.cells y = 0
  rotate_left
  · have H := Lib.hid (show slideMayB h x y = false by rw [H0.out]; simp [h4])
    have h4' : (gi h.cells y == 0) = false := by simpa using h4
    clear h3 h4
    go_enter Try.func46, Try.ntmps46
    go_wp2_with fail
    refine (HW.out _ _ (HV.out.keep (below_new2 _ _ _))).mono ?_
    rintro e w1 ⟨rfl, hb⟩
    have b1 := ((box3_new w _ _ _ _).keep (below_new _ _)).keep hb
    have b1_0 := b1.c0
    have b1_1 := b1.c1
    have b1_2 := b1.c2
    have b1_l := b1.lt
    have d1 := (box2_second w _ _ _ _).keep hb
    have d1_0 := d1.c0
    have d1_1 := d1.c1
    have HB := Lib.hid (below_then (below_new2 _ _ _) hb)
    clear hb
    go_wp2_with fail
    refine (HI.out _ _ (HV.out.keep HB.out)).mono ?_
    rintro e w2 ⟨rfl, hb⟩
    have b2 := b1.keep hb
    have b2_0 := b2.c0
    have b2_1 := b2.c1
    have b2_2 := b2.c2
    have b2_l := b2.lt
    have d2 := d1.keep hb
    have d2_0 := d2.c0
    have d2_1 := d2.c1
    have HB2 := Lib.hid (below_then HB.out hb)
    clear hb
    go_wp2_with fail
    refine (HI2.out _ _ (HV.out.keep HB2.out)).mono ?_
    rintro e w3 ⟨rfl, hb⟩
    have b3 := b2.keep hb
    have b3_0 := b3.c0
    have b3_1 := b3.c1
    have b3_2 := b3.c2
    have b3_l := b3.lt
    have d3 := d2.keep hb
    have d3_0 := d3.c0
    have d3_1 := d3.c1
    have HB3 := Lib.hid (below_then HB2.out hb)
    have cx := (HB3.out.cell (p := ⟨b0, o + x, none⟩) hbw).trans hcx
    have cy := (HB3.out.cell (p := ⟨b0, o + y, none⟩) hbw).trans hcy
    clear hb
    go_wp2
    go_ret
    exact gives_mk (by rw [H.out]; rfl) HB3.out
  have h4' : (gi h.cells y == 0) = true := by simpa using h4
  have H := Lib.hid (show slideMayB h x y = decide (apartF h.wide x y = 1) by rw [H0.out]; simp [h3, h4])
  clear h3 h4
  go_enter Try.func46, Try.ntmps46
  go_wp2_with fail
  refine (HW.out _ _ (HV.out.keep (below_new2 _ _ _))).mono ?_
  rintro e w1 ⟨rfl, hb⟩
  have b1 := ((box3_new w _ _ _ _).keep (below_new _ _)).keep hb
  have b1_0 := b1.c0
  have b1_1 := b1.c1
  have b1_2 := b1.c2
  have b1_l := b1.lt
  have d1 := (box2_second w _ _ _ _).keep hb
  have d1_0 := d1.c0
  have d1_1 := d1.c1
  have HB := Lib.hid (below_then (below_new2 _ _ _) hb)
  clear hb
  go_wp2_with fail
  refine (HI.out _ _ (HV.out.keep HB.out)).mono ?_
  rintro e w2 ⟨rfl, hb⟩
  have b2 := b1.keep hb
  have b2_0 := b2.c0
  have b2_1 := b2.c1
  have b2_2 := b2.c2
  have b2_l := b2.lt
  have d2 := d1.keep hb
  have d2_0 := d2.c0
  have d2_1 := d2.c1
  have HB2 := Lib.hid (below_then HB.out hb)
  clear hb
  go_wp2_with fail
  refine (HI2.out _ _ (HV.out.keep HB2.out)).mono ?_
  rintro e w3 ⟨rfl, hb⟩
  have b3 := b2.keep hb
  have b3_0 := b3.c0
  have b3_1 := b3.c1
  have b3_2 := b3.c2
  have b3_l := b3.lt
  have d3 := d2.keep hb
  have d3_0 := d3.c0
  have d3_1 := d3.c1
  have HB3 := Lib.hid (below_then HB2.out hb)
  have cx := (HB3.out.cell (p := ⟨b0, o + x, none⟩) hbw).trans hcx
  have cy := (HB3.out.cell (p := ⟨b0, o + y, none⟩) hbw).trans hcy
  clear hb
  go_wp2_with fail
  refine (HA.out _).mono ?_
  rintro e w4 ⟨rfl, q2, rfl⟩
  go_wp2
  go_ret
  exact gives_mk (by rw [H.out]; rfl) (below_drewN HB3.out _)

set_option maxHeartbeats 1000000 in
theorem specSlideMay_any (w : World) (v : Value) (h : PHall) (a b : Int) (hv : HallAt w v h) :
    Calls Try.prog 44 #[v, .agg #[.int .i64 a, .int .i64 b]] w (Gives (.bool (slideMayB h a b)) w) := by
  have HV := Lib.hid hv
  obtain ⟨cv, rfl, ao, c, rfl, hn, hcm, hx⟩ := hv
  have HX := Lib.hid hx
  clear hx
  have HA := Lib.hid (fun (W : World) (v' : Value) (hh : HallAt W v' h) => specCellsApart_any W v' h a b hh)
  by_cases h1 : apartAt h a b = 1
  rotate_left
  · have H := Lib.hid (show slideMayB h a b = false by
      cases hm : slideMayB h a b with
      | false => rfl
      | true =>
        simp only [slideMayB, Bool.and_eq_true, decide_eq_true_eq] at hm
        exact absurd (by simp [apartAt, hm.1, hm.2.1, hm.2.2.1, hm.2.2.2.2.2]) h1)
    have h1' : (apartAt h a b == 1) = false := by simpa using h1
    clear h1
    go_enter Try.func44, Try.ntmps44
    go_wp2_with fail
    refine (HA.out _ _ (HV.out.keep (below_new2 _ _ _))).mono ?_
    rintro e w1 ⟨rfl, hb⟩
    have HB := Lib.hid (below_then (below_new2 _ _ _) hb)
    clear hb
    go_wp2
    go_ret
    exact gives_mk (by rw [H.out]; rfl) HB.out
  have h1' : (apartAt h a b == 1) = true := by simpa using h1
  have h1x := h1
  unfold apartAt at h1x
  by_cases h0 : validB h = true ∧ hasCellB h a = true ∧ hasCellB h b = true
  rotate_left
  · rw [if_neg h0] at h1x; exact absurd h1x (by omega)
  rw [if_pos h0] at h1x
  obtain ⟨hval, h2, h3⟩ := h0
  have hlen := (valid_len hval).2
  obtain ⟨n, hnn⟩ : ∃ n, n = h.cells.length := ⟨_, rfl⟩
  have e1 := hasCell_iff.1 h2
  have e2 := hasCell_iff.1 h3
  rw [← hnn] at HV HX hlen e1 e2 ⊢
  obtain ⟨x, rfl⟩ := Int.eq_ofNat_of_zero_le e1.1
  obtain ⟨y, rfl⟩ := Int.eq_ofNat_of_zero_le e2.1
  have hxn : x < n := by omega
  have hyn : y < n := by omega
  have hx0 := (valid_cell hval (j := x) (by omega)).1
  have H0 := Lib.hid (show slideMayB h x y = (decide (gi h.cells x ≠ 0) && decide (gi h.cells y = 0)) by simp [slideMayB, hval, h2, h3, h1x])
  obtain ⟨b0, o, rfl, hcx⟩ := HX.out x hxn
  obtain ⟨b', o', e, hcy⟩ := HX.out y hyn
  cases e
  have hbw : b0 < w.heap.size := cell_lt hcx
  clear hval h2 h3 e1 e2 hnn hn hcm h1 h1x
  by_cases h4 : 0 < gi h.cells x
  · by_cases h5 : gi h.cells y = 0
    all_goals
      have H := Lib.hid H0.out
      have hne : gi h.cells x ≠ 0 := by omega
      simp only [ne_eq, hne, not_false_eq_true, decide_true, Bool.true_and] at H
      have HH : Hid (slideMayB h x y = decide (gi h.cells y = 0)) := H
      have h5' : (gi h.cells y == 0) = decide (gi h.cells y = 0) := by rfl
      have H5 := Lib.hid h5
      first | rw [decide_eq_true h5] at h5' HH | rw [decide_eq_false h5] at h5' HH
      clear h5 hne H
      go_enter Try.func44, Try.ntmps44
      go_wp2_with fail
      refine (HA.out _ _ (HV.out.keep (below_new2 _ _ _))).mono ?_
      rintro e w1 ⟨rfl, hb⟩
      have b1 := ((box3_new w _ _ _ _).keep (below_new _ _)).keep hb
      have b1_0 := b1.c0
      have b1_1 := b1.c1
      have b1_2 := b1.c2
      have b1_l := b1.lt
      have d1 := (box2_second w _ _ _ _).keep hb
      have d1_0 := d1.c0
      have d1_1 := d1.c1
      have HB := Lib.hid (below_then (below_new2 _ _ _) hb)
      have cx := (HB.out.cell (p := ⟨b0, o + x, none⟩) hbw).trans hcx
      have cy := (HB.out.cell (p := ⟨b0, o + y, none⟩) hbw).trans hcy
      clear hb
      go_wp2
      go_ret
      exact gives_mk (by rw [HH.out]; rfl) HB.out
  · have hne : gi h.cells x = 0 := by omega
    have H := Lib.hid (show slideMayB h x y = false by rw [H0.out]; simp [hne])
    clear hne
    go_enter Try.func44, Try.ntmps44
    go_wp2_with fail
    refine (HA.out _ _ (HV.out.keep (below_new2 _ _ _))).mono ?_
    rintro e w1 ⟨rfl, hb⟩
    have b1 := ((box3_new w _ _ _ _).keep (below_new _ _)).keep hb
    have b1_0 := b1.c0
    have b1_1 := b1.c1
    have b1_2 := b1.c2
    have b1_l := b1.lt
    have d1 := (box2_second w _ _ _ _).keep hb
    have d1_0 := d1.c0
    have d1_1 := d1.c1
    have HB := Lib.hid (below_then (below_new2 _ _ _) hb)
    have cx := (HB.out.cell (p := ⟨b0, o + x, none⟩) hbw).trans hcx
    clear hb
    go_wp2
    go_ret
    exact gives_mk (by rw [H.out]; rfl) HB.out

end Go.Proofs.Ytlmkdhbemgkbjaa
end

section
/-
  SlideDo.
-/
set_option linter.unusedVariables false
namespace Go.Proofs.Ytlmkdhbemgkbjaa
open Go Go.RowKit Go.Park

def slidH (h : PHall) (a b : Nat) : PHall := ⟨h.wide, h.deep, (h.cells.set b (gi h.cells a)).set a 0⟩
def slideDoF (h : PHall) (a b : Int) : PHall × Bool :=
  if validB h = true then (if slideMayB h a b = true then (slidH h a.toNat b.toNat, true) else (h, false)) else (zeroHall, false)
theorem may_cells {h : PHall} {a b : Int} (hm : slideMayB h a b = true) : hasCellB h a = true ∧ hasCellB h b = true ∧ gi h.cells a.toNat ≠ 0 ∧ gi h.cells b.toNat = 0 ∧ apartF h.wide a b = 1 := by
  simp only [slideMayB, Bool.and_eq_true, decide_eq_true_eq] at hm
  exact ⟨hm.2.1, hm.2.2.1, hm.2.2.2.1, hm.2.2.2.2.1, hm.2.2.2.2.2⟩
theorem blk3_third (w : World) (o o' : Obj) (a b c : Value) (t : TypeId) : Blk3 (((w.alloc o).alloc o').alloc (.cells #[a, b, c] t)) (w.heap.size + 1 + 1) a b c := by
  have := blk3_new ((w.alloc o).alloc o') a b c t
  simpa using this
theorem below_new3 (w : World) (o o' o'' : Obj) : Below w.heap.size w (((w.alloc o).alloc o').alloc o'') := below_then (below_new2 _ _ _) (below_new _ _)

theorem slideMay_calls {h : PHall} {a b : Int} {r : Bool} (hr : slideMayB h a b = r) : ∀ (w' : World) (v : Value), HallAt w' v h → Calls Try.prog 46 #[v, .agg #[.int .i64 a, .int .i64 b]] w' (Gives (.bool r) w') := fun w' v hh => by rw [← hr]; exact slideMay_any w' v h a b hh

set_option maxRecDepth 100000 in
set_option maxHeartbeats 4000000 in
theorem slideDo_any (w : World) (v : Value) (h : PHall) (a b : Int) (hv : HallAt w v h) :
    Calls Try.prog 33 #[v, .agg #[.int .i64 a, .int .i64 b]] w (GivesHallV (slideDoF h a b).1 (.bool (slideDoF h a b).2) w) := by
  have HV := Lib.hid hv
  obtain ⟨cv, rfl, ao, cp, rfl, hn, hcm, hx⟩ := hv
  have HX := Lib.hid hx
  clear hx
  obtain ⟨W, hW⟩ : ∃ W, W = ((w.alloc (.cells #[.int .i64 h.wide, .int .i64 h.deep, .slice ao h.cells.length cp] 27)).alloc (.cells #[.int .i64 a, .int .i64 b] 50)).alloc (.cells #[.int .i64 0, .int .i64 0, .slice none 0 0] 27) := ⟨_, rfl⟩
  have hWs : W.heap.size = w.heap.size + 1 + 1 + 1 := by rw [hW]; simp
  have hb0 : Hid (Below w.heap.size w W) := Lib.hid (by rw [hW]; exact below_new3 _ _ _ _)
  have b0 : Hid (Box3 W w.heap.size (.int .i64 h.wide) (.int .i64 h.deep) (.slice ao h.cells.length cp)) := Lib.hid (by rw [hW]; exact ((box3_new w _ _ _ _).keep (below_new _ _)).keep (below_new _ _))
  have s0 : Hid (Box2 W (w.heap.size + 1) (.int .i64 a) (.int .i64 b)) := Lib.hid (by rw [hW]; exact (box2_second w _ _ _ _).keep (below_new _ _))
  have r0 : Hid (Blk3 W (w.heap.size + 1 + 1) (.int .i64 0) (.int .i64 0) (.slice none 0 0)) := Lib.hid (by rw [hW]; exact blk3_third w _ _ _ _ _ _)
  cases hval : validB h
  · have H := Lib.hid (show slideDoF h a b = (zeroHall, false) by simp [slideDoF, hval])
    have HW := Lib.hid (valid_calls hval)
    clear hval
    go_enter Try.func33, Try.ntmps33
    go_wp2_with fail
    rw [← hW]
    clear hW
    refine (HW.out _ _ (HV.out.keep hb0.out)).mono ?_
    rintro e w1 ⟨rfl, hb⟩
    have r1 := r0.out.keep hb
    have r1_0 := r1.box.c0
    have r1_1 := r1.box.c1
    have r1_2 := r1.box.c2
    have f0 := r1.f0
    have f1 := r1.f1
    have f2 := r1.f2
    have HB := Lib.hid (below_then hb0.out hb)
    clear hb
    go_wp2
    refine bodyPost_ret (v := .tuple #[.agg #[.int .i64 0, .int .i64 0, .slice none 0 0], .bool false]) (by simp [results, Try.results33, go_sem, r1_0, r1_1, r1_2]) rfl ?_
    unfold GivesHallV; rw [H.out]
    exact ⟨_, rfl, ownInts_nil _ _, HB.out.setCell (by simp; omega) _ |>.setCell (by simp; omega) _ |>.setCell (by simp; omega) _⟩
  have HW := Lib.hid (valid_calls hval)
  have HCP := Lib.hid (fun (W' : World) (v' : Value) (hh : HallAt W' v' h) => copyHall_any W' v' h hh (valid_ne hval))
  have hne := Lib.hid (valid_ne hval)
  cases hm : slideMayB h a b
  · have H := Lib.hid (show slideDoF h a b = (h, false) by simp [slideDoF, hval, hm])
    have HI := Lib.hid (slideMay_calls hm)
    clear hval hm
    go_enter Try.func33, Try.ntmps33
    go_wp2_with fail
    rw [← hW]
    clear hW
    refine (HW.out _ _ (HV.out.keep hb0.out)).mono ?_
    rintro e w1 ⟨rfl, hb⟩
    have b1 := b0.out.keep hb
    have b1_0 := b1.c0
    have b1_1 := b1.c1
    have b1_2 := b1.c2
    have b1_l := b1.lt
    have s1 := s0.out.keep hb
    have r1 := r0.out.keep hb
    have HB1 := Lib.hid (below_then hb0.out hb)
    have hz1 : w.heap.size + 1 + 1 + 1 ≤ w1.heap.size := by have := hb.size; omega
    clear hb
    go_wp2_with fail
    refine (HCP.out _ _ (HV.out.keep HB1.out)).mono ?_
    rintro e w2 ⟨cv2, rfl, ho2, hb2⟩
    obtain ⟨g, cap, rfl, hg1, hg2⟩ := ho2.head hne.out
    have b2 := b1.keep hb2
    have b2_0 := b2.c0
    have b2_1 := b2.c1
    have b2_2 := b2.c2
    have b2_l := b2.lt
    have s2 := s1.keep hb2
    have s2_0 := s2.c0
    have s2_1 := s2.c1
    have s2_l := s2.lt
    have r2 := r1.keep hb2
    have HO2 := Lib.hid ho2
    have HB2 := Lib.hid (below_then HB1.out hb2)
    have hz2 : w.heap.size + 1 + 1 + 1 ≤ w2.heap.size := by have := hb2.size; omega
    clear b1 b1_0 b1_1 b1_2 b1_l
    clear hb2 r1 ho2 s1
    go_wp2_with fail
    refine (HI.out _ _ (HV.out.keep (below_then HB2.out (below_new _ _)))).mono ?_
    rintro e w3 ⟨rfl, hb3⟩
    have r3 := (r2.keep (below_new _ _)).keep hb3
    have d3 := (box3_new w2 _ _ _ _).keep hb3
    have d3_0 := d3.c0
    have d3_1 := d3.c1
    have d3_2 := d3.c2
    have d3_l := d3.lt
    have HO3 := Lib.hid ((HO2.out.keep (below_new _ _)).keep hb3)
    have HB3 := Lib.hid (below_then (below_then HB2.out (below_new _ _)) hb3)
    have r3_0 := r3.box.c0
    have r3_1 := r3.box.c1
    have r3_2 := r3.box.c2
    have f0 := r3.f0
    have f1 := r3.f1
    have f2 := r3.f2
    clear hb3
    go_wp2
    refine bodyPost_ret (v := .tuple #[.agg #[.int .i64 h.wide, .int .i64 h.deep, .slice (some ⟨g, 0, none⟩) h.cells.length cap], .bool false]) (by simp [results, Try.results33, go_sem, r3_0, r3_1, r3_2]) rfl ?_
    unfold GivesHallV; rw [H.out]
    refine ⟨_, rfl, ?_, HB3.out.setCell (by simp; omega) _ |>.setCell (by simp; omega) _ |>.setCell (by simp; omega) _⟩
    exact (((HO3.out.setBelow (by simp; omega) _).setBelow (by simp; omega) _).setBelow (by simp; omega) _).base (by omega)
  have HI := Lib.hid (slideMay_calls hm)
  obtain ⟨h1, h2, h3, h4, h5⟩ := may_cells hm
  have hlen := (valid_len hval).2
  have e1 := hasCell_iff.1 h1
  have e2 := hasCell_iff.1 h2
  obtain ⟨x, rfl⟩ := Int.eq_ofNat_of_zero_le e1.1
  obtain ⟨y, rfl⟩ := Int.eq_ofNat_of_zero_le e2.1
  have hxn : x < h.cells.length := by omega
  have hyn : y < h.cells.length := by omega
  have hxy : x ≠ y := by rintro rfl; exact h3 h4
  have H := Lib.hid (show slideDoF h x y = (slidH h x y, true) by simp [slideDoF, hval, hm])
  obtain ⟨b, o, rfl, hcx⟩ := HX.out x hxn
  have hbw : b < w.heap.size := cell_lt hcx
  clear hval hm h1 h2 h3 h4 h5 e1 e2
  go_enter Try.func33, Try.ntmps33
  go_wp2_with fail
  rw [← hW]
  clear hW
  refine (HW.out _ _ (HV.out.keep hb0.out)).mono ?_
  rintro e w1 ⟨rfl, hb⟩
  have b1 := b0.out.keep hb
  have b1_0 := b1.c0
  have b1_1 := b1.c1
  have b1_2 := b1.c2
  have b1_l := b1.lt
  have s1 := s0.out.keep hb
  have r1 := r0.out.keep hb
  have HB1 := Lib.hid (below_then hb0.out hb)
  have hz1 : w.heap.size + 1 + 1 + 1 ≤ w1.heap.size := by have := hb.size; omega
  clear hb
  go_wp2_with fail
  refine (HCP.out _ _ (HV.out.keep HB1.out)).mono ?_
  rintro e w2 ⟨cv2, rfl, ho2, hb2⟩
  obtain ⟨g, cap, rfl, hg1, hg2⟩ := ho2.head hne.out
  have b2 := b1.keep hb2
  have b2_0 := b2.c0
  have b2_1 := b2.c1
  have b2_2 := b2.c2
  have b2_l := b2.lt
  have s2 := s1.keep hb2
  have s2_0 := s2.c0
  have s2_1 := s2.c1
  have s2_l := s2.lt
  have r2 := r1.keep hb2
  have HO2 := Lib.hid ho2
  have HB2 := Lib.hid (below_then HB1.out hb2)
  have hz2 : w.heap.size + 1 + 1 + 1 ≤ w2.heap.size := by have := hb2.size; omega
  clear b1 b1_0 b1_1 b1_2 b1_l
  clear hb2 r1 ho2 s1
  go_wp2_with fail
  refine (HI.out _ _ (HV.out.keep (below_then HB2.out (below_new _ _)))).mono ?_
  rintro e w3 ⟨rfl, hb3⟩
  have b3 := (b2.keep (below_new _ _)).keep hb3
  have b3_0 := b3.c0
  have b3_1 := b3.c1
  have b3_2 := b3.c2
  have b3_l := b3.lt
  have s3 := (s2.keep (below_new _ _)).keep hb3
  have s3_0 := s3.c0
  have s3_1 := s3.c1
  have s3_l := s3.lt
  have r3 := (r2.keep (below_new _ _)).keep hb3
  have d3 := (box3_new w2 _ _ _ _).keep hb3
  have d3_0 := d3.c0
  have d3_1 := d3.c1
  have d3_2 := d3.c2
  have d3_l := d3.lt
  have HO3 := Lib.hid ((HO2.out.keep (below_new _ _)).keep hb3)
  have HB3 := Lib.hid (below_then (below_then HB2.out (below_new _ _)) hb3)
  have hz3 : w2.heap.size < w3.heap.size := by have := hb3.size; simp at this; omega
  have cx := (HB3.out.cell (p := ⟨b, o + x, none⟩) hbw).trans hcx
  have cg1 := own_cell HO3.out hxn
  have cg2 := own_cell HO3.out hyn
  have fg1 := own_free HO3.out x
  have fg2 := own_free HO3.out y
  have hx0 : (0 : Int) ≤ x := by omega
  have hx1 : (x : Int) < h.cells.length := by omega
  have hy0 : (0 : Int) ≤ y := by omega
  have hy1 : (y : Int) < h.cells.length := by omega
  clear b2 b2_0 b2_1 b2_2 b2_l
  clear hb3 s2 s2_0 s2_1 s2_l r2
  go_wp2
  go_region
  have hbk := blk_some g h.cells.length cap
  obtain ⟨w4, hw4⟩ : ∃ w4, w4 = (w3.setCell ⟨g, y, none⟩ (.int .i64 (gi h.cells x))).setCell ⟨g, x, none⟩ (.int .i64 0) := ⟨_, rfl⟩
  have hg4 := grown_set (g := g) (grown_set (g := g) (grown_refl w3 (some g)) y (.int .i64 (gi h.cells x))) x (.int .i64 0)
  rw [← hw4] at hg4 ⊢
  have d4 := d3.keepG (u := .slice (some ⟨g, 0, none⟩) h.cells.length cap) hg4 hbk (by omega)
  have d4_0 := d4.c0
  have d4_1 := d4.c1
  have d4_2 := d4.c2
  have d4_l := d4.lt
  have r4 := r3.keepG (u := .slice (some ⟨g, 0, none⟩) h.cells.length cap) hg4 hbk (by omega)
  have HO4 : Hid (OwnInts w1.heap.size w4 _ (slidH h x y).cells) := Lib.hid (by rw [hw4]; exact own_store (own_store HO3.out y (gi h.cells x)) x 0)
  have HB4 := Lib.hid (below_grownG (u := .slice (some ⟨g, 0, none⟩) h.cells.length cap) HB3.out hg4 hbk (by omega))
  have r4_0 := r4.box.c0
  have r4_1 := r4.box.c1
  have r4_2 := r4.box.c2
  have f0 := r4.f0
  have f1 := r4.f1
  have f2 := r4.f2
  clear b3 b3_0 b3_1 b3_2 b3_l
  clear d3 d3_0 d3_1 d3_2 d3_l
  clear hw4 hg4 r3 cg1 cg2 fg1 fg2 cx
  go_wp2
  refine bodyPost_ret (v := .tuple #[.agg #[.int .i64 h.wide, .int .i64 h.deep, .slice (some ⟨g, 0, none⟩) h.cells.length cap], .bool true]) (by simp [results, Try.results33, go_sem, r4_0, r4_1, r4_2]) rfl ?_
  unfold GivesHallV; rw [H.out]
  have HLn : (slidH h x y).cells.length = h.cells.length := by simp [slidH]
  refine ⟨_, rfl, OwnInts.base (lo := w1.heap.size) ?_ (by omega), ?_⟩
  · repeat (first | exact HO4.out | (refine OwnInts.setBelow ?_ (by simp; omega) _) | (refine OwnInts.keep ?_ (below_drew1 _)))
  · repeat (first | exact HB4.out | (refine Below.setCell ?_ (by (try simp); omega) _) | (refine Below.drew ?_))

theorem specSlideMay_calls {h : PHall} {a b : Int} {r : Bool} (hr : slideMayB h a b = r) : ∀ (w' : World) (v : Value), HallAt w' v h → Calls Try.prog 44 #[v, .agg #[.int .i64 a, .int .i64 b]] w' (Gives (.bool r) w') := fun w' v hh => by rw [← hr]; exact specSlideMay_any w' v h a b hh

set_option maxRecDepth 100000 in
set_option maxHeartbeats 4000000 in
theorem specSlideDo_any (w : World) (v : Value) (h : PHall) (a b : Int) (hv : HallAt w v h) :
    Calls Try.prog 30 #[v, .agg #[.int .i64 a, .int .i64 b]] w (GivesHallV (slideDoF h a b).1 (.bool (slideDoF h a b).2) w) := by
  have HV := Lib.hid hv
  obtain ⟨cv, rfl, ao, cp, rfl, hn, hcm, hx⟩ := hv; rw [lim_eq] at hn
  have HX := Lib.hid hx
  clear hx
  obtain ⟨W, hW⟩ : ∃ W, W = ((w.alloc (.cells #[.int .i64 h.wide, .int .i64 h.deep, .slice ao h.cells.length cp] 27)).alloc (.cells #[.int .i64 a, .int .i64 b] 50)).alloc (.cells #[.int .i64 0, .int .i64 0, .slice none 0 0] 27) := ⟨_, rfl⟩
  have hWs : W.heap.size = w.heap.size + 1 + 1 + 1 := by rw [hW]; simp
  have hb0 : Hid (Below w.heap.size w W) := Lib.hid (by rw [hW]; exact below_new3 _ _ _ _)
  have b0 : Hid (Box3 W w.heap.size (.int .i64 h.wide) (.int .i64 h.deep) (.slice ao h.cells.length cp)) := Lib.hid (by rw [hW]; exact ((box3_new w _ _ _ _).keep (below_new _ _)).keep (below_new _ _))
  have s0 : Hid (Box2 W (w.heap.size + 1) (.int .i64 a) (.int .i64 b)) := Lib.hid (by rw [hW]; exact (box2_second w _ _ _ _).keep (below_new _ _))
  have r0 : Hid (Blk3 W (w.heap.size + 1 + 1) (.int .i64 0) (.int .i64 0) (.slice none 0 0)) := Lib.hid (by rw [hW]; exact blk3_third w _ _ _ _ _ _)
  cases hval : validB h
  · have H := Lib.hid (show slideDoF h a b = (zeroHall, false) by simp [slideDoF, hval])
    have HW := Lib.hid (specValid_calls hval)
    clear hval
    go_enter Try.func30, Try.ntmps30
    go_wp2_with fail
    rw [← hW]
    clear hW
    refine (HW.out _ _ (HV.out.keep hb0.out)).mono ?_
    rintro e w1 ⟨rfl, hb⟩
    have r1 := r0.out.keep hb
    have r1_0 := r1.box.c0
    have r1_1 := r1.box.c1
    have r1_2 := r1.box.c2
    have f0 := r1.f0
    have f1 := r1.f1
    have f2 := r1.f2
    have HB := Lib.hid (below_then hb0.out hb)
    clear hb
    go_wp2
    refine bodyPost_ret (v := .tuple #[.agg #[.int .i64 0, .int .i64 0, .slice none 0 0], .bool false]) (by simp [results, Try.results30, go_sem, r1_0, r1_1, r1_2]) rfl ?_
    unfold GivesHallV; rw [H.out]
    exact ⟨_, rfl, ownInts_nil _ _, HB.out.setCell (by simp; omega) _ |>.setCell (by simp; omega) _ |>.setCell (by simp; omega) _⟩
  have HW := Lib.hid (specValid_calls hval)
  have HCP := Lib.hid (fun (W' : World) (v' : Value) (hh : HallAt W' v' h) => l1Hall_any W' v' h hh (valid_ne hval))
  have hne := Lib.hid (valid_ne hval)
  cases hm : slideMayB h a b
  · have H := Lib.hid (show slideDoF h a b = (h, false) by simp [slideDoF, hval, hm])
    have HI := Lib.hid (specSlideMay_calls hm)
    clear hval hm
    go_enter Try.func30, Try.ntmps30
    go_wp2_with fail
    rw [← hW]
    clear hW
    refine (HW.out _ _ (HV.out.keep hb0.out)).mono ?_
    rintro e w1 ⟨rfl, hb⟩
    have b1 := b0.out.keep hb
    have b1_0 := b1.c0
    have b1_1 := b1.c1
    have b1_2 := b1.c2
    have b1_l := b1.lt
    have s1 := s0.out.keep hb
    have r1 := r0.out.keep hb
    have HB1 := Lib.hid (below_then hb0.out hb)
    have hz1 : w.heap.size + 1 + 1 + 1 ≤ w1.heap.size := by have := hb.size; omega
    clear hb
    go_wp2_with fail
    refine (HCP.out _ _ (HV.out.keep HB1.out)).mono ?_
    rintro e w2 ⟨cv2, rfl, ho2, hb2⟩
    obtain ⟨g, cap, rfl, hg1, hg2⟩ := ho2.head hne.out
    have b2 := b1.keep hb2
    have b2_0 := b2.c0
    have b2_1 := b2.c1
    have b2_2 := b2.c2
    have b2_l := b2.lt
    have s2 := s1.keep hb2
    have s2_0 := s2.c0
    have s2_1 := s2.c1
    have s2_l := s2.lt
    have r2 := r1.keep hb2
    have HO2 := Lib.hid ho2
    have HB2 := Lib.hid (below_then HB1.out hb2)
    have hz2 : w.heap.size + 1 + 1 + 1 ≤ w2.heap.size := by have := hb2.size; omega
    clear b1 b1_0 b1_1 b1_2 b1_l
    clear hb2 r1 ho2 s1
    go_wp2_with fail
    refine (HI.out _ _ (HV.out.keep (below_then HB2.out (below_new _ _)))).mono ?_
    rintro e w3 ⟨rfl, hb3⟩
    have r3 := (r2.keep (below_new _ _)).keep hb3
    have d3 := (box3_new w2 _ _ _ _).keep hb3
    have d3_0 := d3.c0
    have d3_1 := d3.c1
    have d3_2 := d3.c2
    have d3_l := d3.lt
    have HO3 := Lib.hid ((HO2.out.keep (below_new _ _)).keep hb3)
    have HB3 := Lib.hid (below_then (below_then HB2.out (below_new _ _)) hb3)
    have r3_0 := r3.box.c0
    have r3_1 := r3.box.c1
    have r3_2 := r3.box.c2
    have f0 := r3.f0
    have f1 := r3.f1
    have f2 := r3.f2
    clear hb3
    go_wp2
    refine bodyPost_ret (v := .tuple #[.agg #[.int .i64 h.wide, .int .i64 h.deep, .slice (some ⟨g, 0, none⟩) h.cells.length cap], .bool false]) (by simp [results, Try.results30, go_sem, r3_0, r3_1, r3_2]) rfl ?_
    unfold GivesHallV; rw [H.out]
    refine ⟨_, rfl, ?_, HB3.out.setCell (by simp; omega) _ |>.setCell (by simp; omega) _ |>.setCell (by simp; omega) _⟩
    exact (((HO3.out.setBelow (by simp; omega) _).setBelow (by simp; omega) _).setBelow (by simp; omega) _).base (by omega)
  have HI := Lib.hid (specSlideMay_calls hm)
  obtain ⟨h1, h2, h3, h4, h5⟩ := may_cells hm
  have hlen := (valid_len hval).2
  have e1 := hasCell_iff.1 h1
  have e2 := hasCell_iff.1 h2
  obtain ⟨x, rfl⟩ := Int.eq_ofNat_of_zero_le e1.1
  obtain ⟨y, rfl⟩ := Int.eq_ofNat_of_zero_le e2.1
  have hxn : x < h.cells.length := by omega
  have hyn : y < h.cells.length := by omega
  have hxy : x ≠ y := by rintro rfl; exact h3 h4
  have H := Lib.hid (show slideDoF h x y = (slidH h x y, true) by simp [slideDoF, hval, hm])
  obtain ⟨b, o, rfl, hcx⟩ := HX.out x hxn
  have hbw : b < w.heap.size := cell_lt hcx
  clear hval hm h1 h2 h3 h4 h5 e1 e2
  go_enter Try.func30, Try.ntmps30
  go_wp2_with fail
  rw [← hW]
  clear hW
  refine (HW.out _ _ (HV.out.keep hb0.out)).mono ?_
  rintro e w1 ⟨rfl, hb⟩
  have b1 := b0.out.keep hb
  have b1_0 := b1.c0
  have b1_1 := b1.c1
  have b1_2 := b1.c2
  have b1_l := b1.lt
  have s1 := s0.out.keep hb
  have r1 := r0.out.keep hb
  have HB1 := Lib.hid (below_then hb0.out hb)
  have hz1 : w.heap.size + 1 + 1 + 1 ≤ w1.heap.size := by have := hb.size; omega
  clear hb
  go_wp2_with fail
  refine (HCP.out _ _ (HV.out.keep HB1.out)).mono ?_
  rintro e w2 ⟨cv2, rfl, ho2, hb2⟩
  obtain ⟨g, cap, rfl, hg1, hg2⟩ := ho2.head hne.out
  have b2 := b1.keep hb2
  have b2_0 := b2.c0
  have b2_1 := b2.c1
  have b2_2 := b2.c2
  have b2_l := b2.lt
  have s2 := s1.keep hb2
  have s2_0 := s2.c0
  have s2_1 := s2.c1
  have s2_l := s2.lt
  have r2 := r1.keep hb2
  have HO2 := Lib.hid ho2
  have HB2 := Lib.hid (below_then HB1.out hb2)
  have hz2 : w.heap.size + 1 + 1 + 1 ≤ w2.heap.size := by have := hb2.size; omega
  clear b1 b1_0 b1_1 b1_2 b1_l
  clear hb2 r1 ho2 s1
  go_wp2_with fail
  refine (HI.out _ _ (HV.out.keep (below_then HB2.out (below_new _ _)))).mono ?_
  rintro e w3 ⟨rfl, hb3⟩
  have b3 := (b2.keep (below_new _ _)).keep hb3
  have b3_0 := b3.c0
  have b3_1 := b3.c1
  have b3_2 := b3.c2
  have b3_l := b3.lt
  have s3 := (s2.keep (below_new _ _)).keep hb3
  have s3_0 := s3.c0
  have s3_1 := s3.c1
  have s3_l := s3.lt
  have r3 := (r2.keep (below_new _ _)).keep hb3
  have d3 := (box3_new w2 _ _ _ _).keep hb3
  have d3_0 := d3.c0
  have d3_1 := d3.c1
  have d3_2 := d3.c2
  have d3_l := d3.lt
  have HO3 := Lib.hid ((HO2.out.keep (below_new _ _)).keep hb3)
  have HB3 := Lib.hid (below_then (below_then HB2.out (below_new _ _)) hb3)
  have hz3 : w2.heap.size < w3.heap.size := by have := hb3.size; simp at this; omega
  have cx := (HB3.out.cell (p := ⟨b, o + x, none⟩) hbw).trans hcx
  have cg1 := own_cell HO3.out hxn
  have cg2 := own_cell HO3.out hyn
  have fg1 := own_free HO3.out x
  have fg2 := own_free HO3.out y
  have hx0 : (0 : Int) ≤ x := by omega
  have hx1 : (x : Int) < h.cells.length := by omega
  have hy0 : (0 : Int) ≤ y := by omega
  have hy1 : (y : Int) < h.cells.length := by omega
  clear b2 b2_0 b2_1 b2_2 b2_l
  clear hb3 s2 s2_0 s2_1 s2_l r2
  go_wp2
  go_region
  have hbk := blk_some g h.cells.length cap
  obtain ⟨w4, hw4⟩ : ∃ w4, w4 = (w3.setCell ⟨g, y, none⟩ (.int .i64 (gi h.cells x))).drew := ⟨_, rfl⟩
  have hg4 := grown_drew (grown_set (g := g) (grown_refl w3 (some g)) y (.int .i64 (gi h.cells x)))
  rw [← hw4] at hg4 ⊢
  have d4 := d3.keepG (u := .slice (some ⟨g, 0, none⟩) h.cells.length cap) hg4 hbk (by omega)
  have d4_0 := d4.c0
  have d4_1 := d4.c1
  have d4_2 := d4.c2
  have d4_l := d4.lt
  have s4 := s3.keepG (u := .slice (some ⟨g, 0, none⟩) h.cells.length cap) hg4 hbk (by omega)
  have s4_0 := s4.c0
  have s4_1 := s4.c1
  have r4 := r3.keepG (u := .slice (some ⟨g, 0, none⟩) h.cells.length cap) hg4 hbk (by omega)
  have HO4 : Hid (OwnInts w1.heap.size w4 (.slice (some ⟨g, 0, none⟩) h.cells.length cap) (h.cells.set y (gi h.cells x))) := Lib.hid (by rw [hw4]; exact (own_store HO3.out y (gi h.cells x)).keep (below_drew1 _))
  have HB4 := Lib.hid (below_grownG (u := .slice (some ⟨g, 0, none⟩) h.cells.length cap) HB3.out hg4 hbk (by omega))
  have cg4 := own_cell HO4.out (j := x) (by simpa using hxn)
  have fg4 := own_free HO4.out x
  have hg5 := grown_set (g := g) (grown_refl w4 (some g)) x (.int .i64 0)
  have d5 := d4.keepG (u := .slice (some ⟨g, 0, none⟩) h.cells.length cap) hg5 hbk (by omega)
  have d5_0 := d5.c0
  have d5_1 := d5.c1
  have d5_2 := d5.c2
  have d5_l := d5.lt
  have r5 := r4.keepG (u := .slice (some ⟨g, 0, none⟩) h.cells.length cap) hg5 hbk (by omega)
  have HO5 : Hid (OwnInts w1.heap.size (w4.setCell ⟨g, x, none⟩ (.int .i64 0)) _ (slidH h x y).cells) := Lib.hid (own_store HO4.out x 0)
  have HB5 := Lib.hid (below_grownG (u := .slice (some ⟨g, 0, none⟩) h.cells.length cap) HB4.out hg5 hbk (by omega))
  have r5_0 := r5.box.c0
  have r5_1 := r5.box.c1
  have r5_2 := r5.box.c2
  have f0 := r5.f0
  have f1 := r5.f1
  have f2 := r5.f2
  clear b3 b3_0 b3_1 b3_2 b3_l
  clear d3 d3_0 d3_1 d3_2 d3_l
  clear hw4 hg4 hg5 r3 r4 cg1 cg2 fg1 fg2 cx s3 s3_0 s3_1 s3_l
  go_wp2
  refine bodyPost_ret (v := .tuple #[.agg #[.int .i64 h.wide, .int .i64 h.deep, .slice (some ⟨g, 0, none⟩) h.cells.length cap], .bool true]) (by simp [results, Try.results30, go_sem, r5_0, r5_1, r5_2]) rfl ?_
  unfold GivesHallV; rw [H.out]
  have HLn : (slidH h x y).cells.length = h.cells.length := by simp [slidH]
  refine ⟨_, rfl, OwnInts.base (lo := w1.heap.size) ?_ (by omega), ?_⟩
  · repeat (first | exact HO5.out | (refine OwnInts.setBelow ?_ (by simp; omega) _) | (refine OwnInts.keep ?_ (below_drew1 _)))
  · repeat (first | exact HB5.out | (refine Below.setCell ?_ (by (try simp); omega) _) | (refine Below.drew ?_))

end Go.Proofs.Ytlmkdhbemgkbjaa
end

section
/-
  Valid halls and slides, plainly: nothing of the program's text stands here.
-/
set_option linter.unusedVariables false
namespace Go.Proofs.Ytlmkdhbemgkbjaa
open Go Go.RowKit Go.Park

structure OkCells (l : List Int) : Prop where
  rng : ∀ k, k < l.length → 0 ≤ gi l k ∧ gi l k ≤ 99
  one : ∀ i j, i < l.length → j < l.length → 0 < gi l i → gi l i = gi l j → i = j
theorem okTo_cells {l : List Int} : okTo l l.length = true ↔ OkCells l := by
  rw [okTo_iff]
  constructor
  · intro h
    have hr : ∀ k, k < l.length → 0 ≤ gi l k ∧ gi l k ≤ 99 := fun k hk => by
      have := h k hk
      simp only [okAt, Bool.and_eq_true, inR_true] at this
      exact this.1
    have hn : ∀ i j, i < j → j < l.length → 0 < gi l j → gi l i ≠ gi l j := fun i j hij hj h0 e => by
      have := h j hj
      simp only [okAt, Bool.and_eq_true, inR_true, Bool.not_eq_true', Bool.and_eq_false_iff, decide_eq_false_iff_not] at this
      rcases this.2 with h1 | h1
      · exact h1 h0
      · rw [hasTo_yes hij e] at h1; cases h1
    refine ⟨hr, fun i j hi hj h0 e => ?_⟩
    rcases Nat.lt_trichotomy i j with h1 | h1 | h1
    · exact absurd e (hn i j h1 hj (by omega))
    · exact h1
    · exact absurd e.symm (hn j i h1 hi h0)
  · intro h k hk
    simp only [okAt, Bool.and_eq_true, inR_true, Bool.not_eq_true', Bool.and_eq_false_iff, decide_eq_false_iff_not]
    refine ⟨h.rng k hk, ?_⟩
    by_cases h0 : 0 < gi l k
    · right
      cases hh : hasTo l (gi l k) k with
      | false => rfl
      | true =>
        obtain ⟨j, hj, e⟩ := hasTo_iff.1 hh
        have := h.one k j hk (by omega) h0 e.symm
        omega
    · exact .inl h0
theorem valid_iff {h : PHall} : validB h = true ↔ ((2 ≤ h.wide ∧ h.wide ≤ 4) ∧ (2 ≤ h.deep ∧ h.deep ≤ 3) ∧ (h.cells.length : Int) = h.wide * h.deep) ∧ OkCells h.cells := by
  unfold validB
  rw [Bool.and_eq_true, sizeB_true, okTo_cells]
theorem gi_upd2 {l : List Int} {a b : Nat} {x y : Int} (ha : a < l.length) (hb : b < l.length) (j : Nat) :
    gi ((l.set b x).set a y) j = if a = j then y else if b = j then x else gi l j := by
  rw [gi_upd (by simpa using ha), gi_upd hb]
theorem ok_slid {l : List Int} {a b : Nat} (ha : a < l.length) (hb : b < l.length) (hab : a ≠ b) (h : OkCells l) (h0 : gi l b = 0) : OkCells ((l.set b (gi l a)).set a 0) := by
  have hl : ((l.set b (gi l a)).set a 0).length = l.length := by simp
  have hg := fun j => gi_upd2 (x := gi l a) (y := 0) ha hb j
  refine ⟨fun k hk => ?_, fun i j hi hj hp e => ?_⟩
  · rw [hl] at hk
    rw [hg]
    split
    · omega
    · split
      · exact h.rng a ha
      · exact h.rng k hk
  · rw [hl] at hi hj
    rw [hg] at hp e
    rw [hg j] at e
    by_cases e1 : a = i
    · rw [if_pos e1] at hp; omega
    rw [if_neg e1] at hp e
    by_cases e2 : a = j
    · rw [if_pos e2] at e; omega
    rw [if_neg e2] at e
    by_cases e3 : b = i
    · rw [if_pos e3] at hp e
      by_cases e4 : b = j
      · omega
      · rw [if_neg e4] at e
        have := h.one a j ha hj hp e
        exact absurd this e2
    · rw [if_neg e3] at hp e
      by_cases e4 : b = j
      · rw [if_pos e4] at e
        have := h.one i a hi ha hp e
        exact absurd this.symm e1
      · rw [if_neg e4] at e
        exact h.one i j hi hj hp e
theorem valid_slid {h : PHall} {a b : Nat} (hv : validB h = true) (ha : a < h.cells.length) (hb : b < h.cells.length) (hab : a ≠ b) (h0 : gi h.cells b = 0) : validB (slidH h a b) = true := by
  rw [valid_iff] at hv ⊢
  refine ⟨⟨hv.1.1, hv.1.2.1, ?_⟩, ok_slid ha hb hab hv.2 h0⟩
  have : (slidH h a b).cells.length = h.cells.length := by simp [slidH]
  rw [this]; exact hv.1.2.2
theorem slid_len (h : PHall) (a b : Nat) : (slidH h a b).cells.length = h.cells.length := by simp [slidH]
theorem slideDo_valid {h : PHall} (hv : validB h = true) (a b : Int) : validB (slideDoF h a b).1 = true := by
  unfold slideDoF
  rw [if_pos hv]
  split
  · rename_i hm
    obtain ⟨h1, h2, h3, h4, h5⟩ := may_cells hm
    have e1 := hasCell_iff.1 h1
    have e2 := hasCell_iff.1 h2
    exact valid_slid hv (by omega) (by omega) (by intro e; rw [e] at h3; exact h3 h4) h4
  · exact hv
theorem slideDo_len {h : PHall} (hv : validB h = true) (a b : Int) : (slideDoF h a b).1.cells.length = h.cells.length ∧ (slideDoF h a b).1.wide = h.wide ∧ (slideDoF h a b).1.deep = h.deep := by
  unfold slideDoF
  rw [if_pos hv]
  split
  · exact ⟨slid_len _ _ _, rfl, rfl⟩
  · exact ⟨rfl, rfl, rfl⟩

/-! HoleSlides -/
def wayTo (h : PHall) (way : List Int) : Nat → Bool
  | 0 => true
  | k+1 => wayTo h way k && decide (apartAt h (gi way k) (gi way (k+1)) = 1)
def holeOk (h : PHall) (way : List Int) : Bool := validB h && (decide (way ≠ []) && (hasCellB h (gi way 0) && (decide (gi h.cells (gi way 0).toNat = 0) && wayTo h way (way.length - 1))))
def holeS (cells way : List Int) : Nat → List (Int × Int) × List Int
  | 0 => ([], cells)
  | k+1 => if gi (holeS cells way k).2 (gi way (k+1)).toNat ≠ 0 then
      ((holeS cells way k).1 ++ [(gi way (k+1), gi way k)], ((holeS cells way k).2.set (gi way k).toNat (gi (holeS cells way k).2 (gi way (k+1)).toNat)).set (gi way (k+1)).toNat 0)
    else holeS cells way k
def holeF (h : PHall) (way : List Int) : List (Int × Int) := if holeOk h way = true then (holeS h.cells way (way.length - 1)).1 else []
theorem holeS_yes {cells way : List Int} {k : Nat} (h : gi (holeS cells way k).2 (gi way (k+1)).toNat ≠ 0) : holeS cells way (k+1) = ((holeS cells way k).1 ++ [(gi way (k+1), gi way k)], ((holeS cells way k).2.set (gi way k).toNat (gi (holeS cells way k).2 (gi way (k+1)).toNat)).set (gi way (k+1)).toNat 0) := by
  simp only [holeS]; rw [if_pos h]
theorem holeS_no {cells way : List Int} {k : Nat} (h : gi (holeS cells way k).2 (gi way (k+1)).toNat = 0) : holeS cells way (k+1) = holeS cells way k := by
  simp only [holeS]; rw [if_neg (by simpa using h)]
theorem wayTo_iff {h : PHall} {way : List Int} {n : Nat} : wayTo h way n = true ↔ ∀ k, k < n → apartAt h (gi way k) (gi way (k+1)) = 1 := by
  induction n with
  | zero => simp [wayTo]
  | succ n ih =>
    simp only [wayTo, Bool.and_eq_true, ih, decide_eq_true_eq]
    constructor
    · rintro ⟨h1, h2⟩ k hk
      by_cases e : k = n
      · subst e; exact h2
      · exact h1 k (by omega)
    · intro h1; exact ⟨fun k hk => h1 k (by omega), h1 n (by omega)⟩
theorem wayTo_no {h : PHall} {way : List Int} {n k : Nat} (hk : k < n) (e : ¬ apartAt h (gi way k) (gi way (k+1)) = 1) : wayTo h way n = false := by
  cases hw : wayTo h way n with
  | false => rfl
  | true => exact absurd (wayTo_iff.1 hw k hk) e
theorem apartAt_cells {h : PHall} {a b : Int} (e : apartAt h a b = 1) : hasCellB h a = true ∧ hasCellB h b = true ∧ apartF h.wide a b = 1 ∧ a ≠ b := by
  unfold apartAt at e
  split at e
  · rename_i hh
    refine ⟨hh.2.1, hh.2.2, e, ?_⟩
    rintro rfl
    unfold apartF farF at e
    omega
  · omega
/-- what holds behind each cell of the way -/
structure Hole (h : PHall) (way : List Int) (k : Nat) : Prop where
  valid : validB ⟨h.wide, h.deep, (holeS h.cells way k).2⟩ = true
  len : (holeS h.cells way k).2.length = h.cells.length
  free : gi (holeS h.cells way k).2 (gi way k).toNat = 0
  many : (holeS h.cells way k).1.length ≤ k
theorem hole_ok {h : PHall} {way : List Int} (ho : holeOk h way = true) : validB h = true ∧ way ≠ [] ∧ hasCellB h (gi way 0) = true ∧ gi h.cells (gi way 0).toNat = 0 ∧ ∀ k, k + 1 < way.length → apartAt h (gi way k) (gi way (k+1)) = 1 := by
  simp only [holeOk, Bool.and_eq_true, decide_eq_true_eq] at ho
  exact ⟨ho.1, ho.2.1, ho.2.2.1, ho.2.2.2.1, fun k hk => wayTo_iff.1 ho.2.2.2.2 k (by omega)⟩
theorem hole_start {h : PHall} {way : List Int} (ho : holeOk h way = true) : Hole h way 0 := by
  obtain ⟨h1, h2, h3, h4, _⟩ := hole_ok ho
  exact ⟨h1, rfl, h4, by simp [holeS]⟩
theorem hole_next {h : PHall} {way : List Int} (ho : holeOk h way = true) {k : Nat} (hk : k + 1 < way.length) (H : Hole h way k) : Hole h way (k + 1) := by
  obtain ⟨h1, _, _, _, h5⟩ := hole_ok ho
  obtain ⟨a1, a2, a3, a4⟩ := apartAt_cells (h5 k hk)
  have e1 := hasCell_iff.1 a1
  have e2 := hasCell_iff.1 a2
  have hl := H.len
  by_cases hz : gi (holeS h.cells way k).2 (gi way (k+1)).toNat = 0
  · have e := holeS_no hz
    exact ⟨by rw [e]; exact H.valid, by rw [e]; exact H.len, by rw [e]; exact hz, by rw [e]; have := H.many; omega⟩
  · have e := holeS_yes hz
    have hab : (gi way (k+1)).toNat ≠ (gi way k).toNat := by omega
    refine ⟨?_, ?_, ?_, ?_⟩
    · rw [e]
      exact valid_slid (h := ⟨h.wide, h.deep, (holeS h.cells way k).2⟩) H.valid (by show _ < (holeS h.cells way k).2.length; omega) (by show _ < (holeS h.cells way k).2.length; omega) hab H.free
    · rw [e]; simp; exact hl
    · rw [e, gi_upd2 (by omega) (by omega), if_pos rfl]
    · rw [e, List.length_append]; have := H.many; simp; omega
theorem hole_all {h : PHall} {way : List Int} (ho : holeOk h way = true) : ∀ k, k < way.length → Hole h way k := by
  intro k
  induction k with
  | zero => intro _; exact hole_start ho
  | succ k ih => intro hk; exact hole_next ho hk (ih (by omega))
/-- a slide of the way, as SlideDo does it -/
theorem hole_slide {h : PHall} {way : List Int} (ho : holeOk h way = true) {k : Nat} (hk : k + 1 < way.length) :
    slideDoF ⟨h.wide, h.deep, (holeS h.cells way k).2⟩ (gi way (k+1)) (gi way k) =
      (⟨h.wide, h.deep, (holeS h.cells way (k+1)).2⟩, decide (gi (holeS h.cells way k).2 (gi way (k+1)).toNat ≠ 0)) := by
  have H := hole_all ho k (by omega)
  obtain ⟨h1, _, _, _, h5⟩ := hole_ok ho
  obtain ⟨a1, a2, a3, a4⟩ := apartAt_cells (h5 k hk)
  have b1 : hasCellB ⟨h.wide, h.deep, (holeS h.cells way k).2⟩ (gi way k) = true := by unfold hasCellB at a1 ⊢; rw [H.len]; exact a1
  have b2 : hasCellB ⟨h.wide, h.deep, (holeS h.cells way k).2⟩ (gi way (k+1)) = true := by unfold hasCellB at a2 ⊢; rw [H.len]; exact a2
  have b3 : apartF h.wide (gi way (k+1)) (gi way k) = 1 := by rw [apartF_comm]; exact a3
  unfold slideDoF
  rw [if_pos H.valid]
  by_cases hz : gi (holeS h.cells way k).2 (gi way (k+1)).toNat = 0
  · have hm : slideMayB ⟨h.wide, h.deep, (holeS h.cells way k).2⟩ (gi way (k+1)) (gi way k) = false := by simp [slideMayB, hz]
    rw [hm, holeS_no hz]; simp [hz]
  · have hm : slideMayB ⟨h.wide, h.deep, (holeS h.cells way k).2⟩ (gi way (k+1)) (gi way k) = true := by
      simp only [slideMayB, Bool.and_eq_true, decide_eq_true_eq]
      exact ⟨H.valid, b2, b1, hz, H.free, b3⟩
    rw [hm, holeS_yes hz]; simp [hz, slidH]

end Go.Proofs.Ytlmkdhbemgkbjaa
end

section
/-
  The marks that the laws write into results, and how they are held.
-/
set_option linter.unusedVariables false
namespace Go.Proofs.Ytlmkdhbemgkbjaa
open Go Go.RowKit Go.Park

def marks (k : Int) (n : Nat) : List Int := (List.range n).map (fun (i : Nat) => k + (i : Int))
theorem marks_length (k : Int) (n : Nat) : (marks k n).length = n := by simp [marks]
theorem gi_marks {k : Int} {n j : Nat} (h : j < n) : gi (marks k n) j = k + j := by simp [gi, marks, List.getD, h]

/-- the marks in an owned row, up to the i-th -/
def Mark (w wr : World) (b g n c : Nat) (k : Int) (i : Nat) : Prop :=
  w.grownBy wr (some g) ∧ ∃ xs : List Value, wr.ownsRow b 3 1 (.slice (some ⟨g, 0, none⟩) n c) n xs ∧ ∀ j, j < i → xs[j]? = some (.int .i64 (k + (j : Int)))
theorem mark_start {w : World} {b g n c : Nat} {k : Int} {xs : List Value} (h : w.ownsRow b 3 1 (.slice (some ⟨g, 0, none⟩) n c) n xs) : Mark w w b g n c k 0 :=
  ⟨grown_refl _ _, xs, h, fun j hj => by omega⟩
theorem mark_cell {w wr : World} {b g n c : Nat} {k : Int} {i : Nat} (h : Mark w wr b g n c k i) {j : Nat} (hj : j < n) : ∃ u, wr.cell? ⟨g, j, none⟩ = some u := by
  obtain ⟨_, xs, ho, _⟩ := h
  rw [ho.cellAt j (by omega)]
  have := ho.1
  exact ⟨xs[j]'(by omega), by simp [show j < xs.length by omega]⟩
theorem mark_free {w wr : World} {b g n c : Nat} {k : Int} {i : Nat} (h : Mark w wr b g n c k i) (j : Nat) : wr.frozen? ⟨g, j, none⟩ = false := by
  obtain ⟨_, xs, ho, _⟩ := h
  exact ho.frozenAt j
theorem mark_step {w wr : World} {b g n c : Nat} {k : Int} {i : Nat} (h : Mark w wr b g n c k i) (hi : i < n) : Mark w (wr.setCell ⟨g, i, none⟩ (.int .i64 (k + (i : Int)))) b g n c k (i+1) := by
  obtain ⟨hg, xs, ho, hx⟩ := h
  refine ⟨grown_set hg _ _, _, (ho.stored i _).1, ?_⟩
  intro j hj
  have := ho.1
  rw [List.getElem?_set]
  by_cases e : i = j
  · subst e; simp; omega
  · rw [if_neg e]; exact hx j (by omega)
theorem mark_all {w wr : World} {b g n c : Nat} {k : Int} (h : Mark w wr b g n c k n) : wr.ownsRow b 3 1 (.slice (some ⟨g, 0, none⟩) n c) n ((marks k n).map (Value.int .i64)) := by
  obtain ⟨_, xs, ho, hx⟩ := h
  have e : xs = (marks k n).map (Value.int .i64) := by
    apply List.ext_getElem?
    intro i
    rw [List.getElem?_map]
    by_cases hi : i < n
    · rw [hx i hi, gi_of_lt (by rw [marks_length]; exact hi), gi_marks hi]; rfl
    · have := ho.1
      rw [List.getElem?_eq_none (by omega), List.getElem?_eq_none (by rw [marks_length]; omega)]; rfl
  rw [← e]; exact ho

set_option maxHeartbeats 400000 in
theorem markIntS_row (w : World) (b : Nat) (v : Value) (n : Nat) (xs : List Value) (k : Int) (hv : w.ownsRow b 3 1 v n xs) (hn : n ≤ lim) (h0 : 0 ≤ k) (h1 : k ≤ 1152921504606846976) :
    Calls Try.prog 35 #[v, .int .i64 k] w (fun e w' => e = .returned (.int .i64 (k + n)) ∧ w'.ownsRow b 3 1 v n ((marks k n).map (Value.int .i64)) ∧ w.grownBy w' v.ownBlock) := by
  rw [lim_eq] at hn
  have hv2 := hv.2
  rcases hv2 with ⟨rfl, rfl⟩ | ⟨g, cap, cur, rfl, hg, _⟩
  · clear hv
    go_enter Try.func35, Try.ntmps35
    go_wp2_with fail
    refine wp_loop_rounds 1 ?_
    rw [rounds_succ]
    go_wp2
    go_ret
    exact ⟨by simp, by simpa [marks] using World.ownsRow_nil _ _ _ _, grown_refl _ _⟩
  · have HM : Hid (Mark w w b g n cap k 0) := mark_start hv
    clear hv
    go_enter Try.func35, Try.ntmps35
    go_wp2
    go_loopw [1, 5] (fun q i wr => ∃ j : Nat, j ≤ n ∧ i = .int .i64 j ∧ q = .int .i64 (k + j) ∧ Hid (Mark w wr b g n cap k j)) (fun _ i _ => n - (intOf i).toNat)
    case atStart => exact ⟨0, Nat.zero_le _, rfl, by simp, HM⟩
    case round =>
      obtain ⟨j, hj, rfl, rfl, hm⟩ := hrel
      by_cases hlt : j < n
      · obtain ⟨u, hc⟩ := mark_cell hm.out hlt
        have hf := mark_free hm.out j
        have HS := Lib.hid (mark_step hm.out hlt)
        clear hm HM
        go_wp2
        go_roundw
        case rel => exact ⟨j+1, by omega, by go_num, by congr 1; omega, HS⟩
        case measure => simp [intOf]; omega
      · obtain rfl : j = n := by omega
        have HA := Lib.hid (mark_all hm.out)
        have HG := Lib.hid hm.out.1
        clear hm HM
        go_wp2
        go_ret
        exact ⟨rfl, HA.out, HG.out⟩

set_option maxHeartbeats 400000 in
theorem markIntS_any (w : World) (lo : Nat) (v : Value) (l : List Int) (k : Int) (hv : OwnInts lo w v l) (h0 : 0 ≤ k) (h1 : k ≤ 1152921504606846976) :
    Calls Try.prog 35 #[v, .int .i64 k] w (fun e w' => e = .returned (.int .i64 (k + l.length)) ∧ OwnInts lo w' v (marks k l.length) ∧ w.grownBy w' v.ownBlock) := by
  have hn := hv.1
  obtain ⟨n, hnn⟩ : ∃ n, n = l.length := ⟨_, rfl⟩
  have hv2 := hv.2
  unfold OwnInts
  simp only [marks_length]
  rw [← hnn] at hv2 hn ⊢
  have HL := Lib.hid hn
  have HX := markIntS_row w lo v n _ k hv2 hn h0 h1
  exact HX.mono fun e w' ⟨h1, h2, h3⟩ => ⟨h1, ⟨hn, h2⟩, h3⟩

set_option maxHeartbeats 400000 in
theorem heldIntS_any (w : World) (v : Value) (n : Nat) (k : Int) (hv : IntsAt w v (marks k n)) (h0 : 0 ≤ k) (h1 : k ≤ 1152921504606846976) :
    Calls Try.prog 36 #[v, .int .i64 k] w (Tells (.int .i64 (k + n)) w) := by
  obtain ⟨ao, c, rfl, hn, _, hx⟩ := hv
  rw [lim_eq] at hn
  rw [marks_length] at hn hx ⊢
  go_enter Try.func36, Try.ntmps36
  go_wp2
  go_loopw [1, 5] (fun q i wr => ∃ j : Nat, j ≤ n ∧ i = .int .i64 j ∧ q = .int .i64 (k + j) ∧ ∃ q, wr = w.drewN q) (fun _ i _ => n - (intOf i).toNat)
  case atStart => exact ⟨0, Nat.zero_le _, rfl, by simp, 0, rfl⟩
  case round =>
    obtain ⟨j, hj, rfl, rfl, q, rfl⟩ := hrel
    by_cases hlt : j < n
    · obtain ⟨b, o, rfl, hc⟩ := hx j hlt
      rw [gi_marks hlt] at hc
      clear hx
      go_wp2
      go_roundw
      case rel => exact ⟨j+1, by omega, by go_num, by congr 1; omega, _, rfl⟩
      case measure => simp [intOf]; omega
    · obtain rfl : j = n := by omega
      clear hx
      go_wp2
      go_ret
      exact tells_mk rfl (drewN1 _ _)


set_option maxHeartbeats 400000 in
theorem markHall_row (w : World) (b : Nat) (x y : Int) (v : Value) (n : Nat) (xs : List Value) (k : Int) (hv : w.ownsRow b 3 1 v n xs) (hn : n ≤ lim) (h0 : 0 ≤ k) (h1 : k ≤ 1152921504606846976) :
    Calls Try.prog 15 #[.agg #[.int .i64 x, .int .i64 y, v], .int .i64 k] w (fun e w' => e = .returned (.int .i64 (k + n)) ∧ w'.ownsRow b 3 1 v n ((marks k n).map (Value.int .i64)) ∧ w.grownBy w' v.ownBlock) := by
  have HV := Lib.hid hv
  clear hv
  go_enter Try.func15, Try.ntmps15
  go_wp2_with (go_at_call 35; refine (markIntS_row _ _ _ n _ _ (HV.out.alloc _) hn h0 h1).mono ?_; rintro e w' ⟨rfl, ho, hg⟩)
  go_ret
  exact ⟨rfl, ho, grown_alloc hg⟩

set_option maxHeartbeats 400000 in
theorem heldHall_any (w : World) (x y : Int) (v : Value) (n : Nat) (k : Int) (hv : IntsAt w v (marks k n)) (h0 : 0 ≤ k) (h1 : k ≤ 1152921504606846976) (hn : n ≤ lim) :
    Calls Try.prog 17 #[.agg #[.int .i64 x, .int .i64 y, v], .int .i64 k] w (Gives (.int .i64 (k + n)) w) := by
  have HV := Lib.hid hv
  rw [lim_eq] at hn
  clear hv
  go_enter Try.func17, Try.ntmps17
  go_wp2_with (go_at_call 36; refine (heldIntS_any _ _ n _ (HV.out.keep ((Below.refl _ _).alloc (Nat.le_refl _) _)) h0 h1).mono ?_; rintro e w' ⟨rfl, q, rfl⟩)
  go_ret
  exact gives_mk rfl (below_drewN ((Below.refl _ _).alloc (Nat.le_refl _) _) _)

theorem markHall_any (w : World) (lo : Nat) (x y : Int) (v : Value) (l : List Int) (k : Int) (hv : OwnInts lo w v l) (h0 : 0 ≤ k) (h1 : k ≤ 1152921504606846976) :
    Calls Try.prog 15 #[.agg #[.int .i64 x, .int .i64 y, v], .int .i64 k] w (fun e w' => e = .returned (.int .i64 (k + l.length)) ∧ OwnInts lo w' v (marks k l.length) ∧ w.grownBy w' v.ownBlock) := by
  refine (markHall_row w lo x y v l.length _ k hv.2 hv.1 h0 h1).mono fun e w' ⟨h1, h2, h3⟩ => ⟨h1, ?_, h3⟩
  unfold OwnInts
  simp only [marks_length]
  exact ⟨hv.1, h2⟩

end Go.Proofs.Ytlmkdhbemgkbjaa
end

section
/-
  The laws' helpers for slices of slides: copies, comparison, marks.
-/
set_option linter.unusedVariables false
namespace Go.Proofs.Ytlmkdhbemgkbjaa
open Go Go.RowKit Go.Park

theorem Try.infoSlide : (Try.prog.info? 50).map (fun i => (i.zero, i.size, i.bytes)) = some (some (.agg #[.int .i64 0, .int .i64 0]), 2, 16) := by kernel_rfl

/-! the copy of a slice of slides -/
def SCpy (w wr : World) (g : Nat) (n k : Nat) (f : Nat → Int × Int) : Prop :=
  Below w.heap.size w wr ∧ ∃ cur, wr.heap[g]? = some (.cells cur 50 (0, 0)) ∧ cur.size = n * 2 ∧ ∀ j, j < k → cur[j * 2]? = some (.int .i64 (f j).1) ∧ cur[j * 2 + 1]? = some (.int .i64 (f j).2)
theorem scpy_below {w wr wr' : World} {g n k : Nat} {f : Nat → Int × Int} (h : SCpy w wr g n k f) (hb : Below wr.heap.size wr wr') : SCpy w wr' g n k f := by
  obtain ⟨hw, cur, hc, r⟩ := h
  exact ⟨below_then hw hb, cur, by rw [hb.block g (Array.getElem?_eq_some_iff.1 hc).1]; exact hc, r⟩
theorem scpy_step {w wr : World} {g n k : Nat} {f : Nat → Int × Int} (hg : w.heap.size ≤ g) (hk : k < n) (h : SCpy w wr g n k f) :
    SCpy w ((wr.setCell ⟨g, k * 2, none⟩ (.int .i64 (f k).1)).setCell ⟨g, k * 2 + 1, none⟩ (.int .i64 (f k).2)) g n (k+1) f := by
  obtain ⟨hb, cur, hc, hs, hf⟩ := h
  refine ⟨(hb.setCell (by exact hg) _).setCell (by exact hg) _, (cur.setIfInBounds (k * 2) (.int .i64 (f k).1)).setIfInBounds (k * 2 + 1) (.int .i64 (f k).2), ?_, by simp [hs], ?_⟩
  · simp only [World.setCell, Array.getElem?_modify, hc]; simp
  · intro j hj
    simp only [Array.getElem?_setIfInBounds, Array.size_setIfInBounds, hs]
    by_cases e : j = k
    · subst e
      rw [if_neg (by omega), if_pos rfl, if_pos (by omega), if_pos rfl, if_pos (by omega)]
      exact ⟨rfl, rfl⟩
    · rw [if_neg (by omega), if_neg (by omega), if_neg (by omega), if_neg (by omega)]
      exact hf j (by omega)
theorem scpy_cell {w wr : World} {g n k j : Nat} {f : Nat → Int × Int} (h : SCpy w wr g n k f) (hj : j < n * 2) : ∃ u, wr.cell? ⟨g, j, none⟩ = some u := by
  obtain ⟨hb, cur, hc, hs, hf⟩ := h
  exact ⟨cur[j]'(by omega), by rw [cell_of_row wr g j cur _ _ hc]; simp [show j < cur.size by omega]⟩
theorem scpy_free {w wr : World} {g n k : Nat} {f : Nat → Int × Int} (h : SCpy w wr g n k f) (j : Nat) : wr.frozen? ⟨g, j, none⟩ = false := by
  obtain ⟨hb, cur, hc, hs, hf⟩ := h
  simp [World.frozen?, hc]
theorem scpy_lt {w wr : World} {g n k : Nat} {f : Nat → Int × Int} (h : SCpy w wr g n k f) : g < wr.heap.size := by
  obtain ⟨hb, cur, hc, hs, hf⟩ := h
  exact (Array.getElem?_eq_some_iff.1 hc).1
theorem scpy_made {w w1 : World} {g n : Nat} {f : Nat → Int × Int} {xs : List Value} (hb : Below w.heap.size w w1) (h : w1.ownsRow w.heap.size 50 2 (.slice (some ⟨g, 0, none⟩) n n) n xs) : SCpy w w1 g n 0 f := by
  rcases h.2 with ⟨e, _⟩ | ⟨g', cap, cur, e, _, hg, _, _, hcs, _⟩
  · cases e
  · cases e
    exact ⟨hb, cur, hg, by simpa using hcs, fun j hj => by omega⟩
theorem scpy_own {w wr : World} {g n : Nat} {l : List (Int × Int)} (hg : w.heap.size ≤ g) (hn : l.length ≤ lim) (hnn : n = l.length) (h : SCpy w wr g n n (gs l)) :
    OwnSlides w.heap.size wr (.slice (some ⟨g, 0, none⟩) n n) l := by
  subst hnn
  obtain ⟨hb, cur, hc, hs, hf⟩ := h
  have e : cur.toList = flat l := flat_ext' (by simpa using hs) (fun j hj => by simpa using hf j hj)
  refine ⟨hn, flat_length l, .inr ⟨g, l.length, cur, rfl, hg, hc, Nat.le_refl _, by unfold lim at hn; unfold maxLen; omega, by simp [hs], ?_⟩⟩
  rw [← e, List.take_of_length_le (by simp [hs])]

set_option maxHeartbeats 400000 in
theorem toSlideS_any (w : World) (v : Value) (l : List (Int × Int)) (hv : SlidesAt w v l) :
    Calls Try.prog 12 #[v] w (fun e w' => ∃ g, e = .returned (.slice (some ⟨g, 0, none⟩) l.length l.length) ∧ OwnSlides w.heap.size w' (.slice (some ⟨g, 0, none⟩) l.length l.length) l ∧ Below w.heap.size w w') := by
  obtain ⟨ao, c, rfl, hn, _, hx⟩ := hv
  obtain ⟨n, hnx⟩ : ∃ n, n = l.length := ⟨_, rfl⟩
  have Hlim := Lib.hid hn
  rw [lim_eq] at hn
  rw [← hnx] at hn ⊢
  have Hn := Lib.hid hnx
  clear hnx
  obtain ⟨i0, hi, hz0, hz1, hz2⟩ := info_parts Try.infoSlide
  go_enter Try.func12, Try.ntmps12
  go_wp2_with (at_make; refine wpList_make_full _ rfl _ _ 34 rfl w.heap.size 50 i0 (.agg #[.int .i64 0, .int .i64 0]) 2 Try.underlying34 hi hz0 hz1 _ _ _ _ n rfl rfl rfl rfl (by rw [hz2]; omega) (by unfold maxLen; omega) (Nat.le_refl _) ?_; intro w1 hown hgr)
  have hb1 : Below w.heap.size w w1 := below_of_grown hgr
  have HC : Hid (SCpy w w1 w.heap.size n 0 (gs l)) := scpy_made hb1 hown
  clear hown hgr
  go_loopw [4] (fun i wr => ∃ k : Nat, k ≤ n ∧ i = .int .i64 k ∧ Hid (SCpy w wr w.heap.size n k (gs l))) (fun i _ => n - (intOf i).toNat)
  case atStart => exact ⟨0, Nat.zero_le _, rfl, HC⟩
  case round =>
    obtain ⟨k, hk, rfl, ha⟩ := hrel
    by_cases hlt : k < n
    · obtain ⟨b, o, rfl, h1, h2⟩ := hx k (by rw [← Hn.out]; exact hlt)
      have hb : b < w.heap.size := cell_lt h1
      rw [← ha.out.1.cell (by exact hb)] at h1 h2
      clear hb1 hx HC
      go_wp2_with fail
      refine (toSlide_any _ _ _).mono ?_
      rintro e w2 ⟨rfl, hb2⟩
      have ha2 := Lib.hid (scpy_below ha.out hb2)
      obtain ⟨u1, c1⟩ := scpy_cell ha2.out (show k * 2 < n * 2 by omega)
      obtain ⟨u2, c2⟩ := scpy_cell ha2.out (show k * 2 + 1 < n * 2 by omega)
      have f1 := scpy_free ha2.out (k * 2)
      have f2 := scpy_free ha2.out (k * 2 + 1)
      have HS := Lib.hid (scpy_step (Nat.le_refl _) hlt ha2.out)
      clear ha ha2 hb2 h1 h2
      go_wp2
      go_roundw
      case rel => exact ⟨k+1, by omega, by go_num, HS⟩
      case measure => simp [intOf]; omega
    · obtain rfl : k = n := by omega
      have ha := ha.out
      have HO := Lib.hid (scpy_own (Nat.le_refl _) Hlim.out Hn.out ha)
      have HB := Lib.hid ha.1
      clear ha hx hb1
      go_wp2
      go_ret
      exact ⟨_, rfl, HO.out, HB.out⟩

set_option maxHeartbeats 400000 in
theorem eqSlide_same (w : World) (a b : Int) :
    Calls Try.prog 34 #[.agg #[.int .i64 a, .int .i64 b], .agg #[.int .i64 a, .int .i64 b]] w (Gives (.bool true) w) := by
  go_enter Try.func34, Try.ntmps34
  go_wp2
  go_ret
  exact gives_mk rfl (by repeat (first | exact below_new _ _ | refine Below.alloc ?_ (by simp; try omega) _))

set_option maxHeartbeats 1000000 in
theorem eqSlideS_same (w : World) (v u : Value) (l : List (Int × Int)) (hv : SlidesAt w v l) (hu : SlidesAt w u l) :
    Calls Try.prog 14 #[v, u] w (Gives (.bool true) w) := by
  obtain ⟨ao, c, rfl, hn, _, hx⟩ := hv
  obtain ⟨bo, d, rfl, hm, _, hy⟩ := hu
  rw [lim_eq] at hn
  obtain ⟨n, hnx⟩ : ∃ n, n = l.length := ⟨_, rfl⟩
  rw [← hnx] at hn hx hy ⊢
  clear hm hnx
  go_enter Try.func14, Try.ntmps14
  go_wp2
  go_loopw [5] (fun i wr => ∃ k : Nat, k ≤ n ∧ i = .int .i64 k ∧ Below w.heap.size w wr) (fun i _ => n - (intOf i).toNat)
  case atStart => exact ⟨0, Nat.zero_le _, rfl, Below.refl _ _⟩
  case round =>
    obtain ⟨k, hk, rfl, hb⟩ := hrel
    have HB := Lib.hid hb
    clear hb
    by_cases hlt : k < n
    · obtain ⟨b, o, rfl, h1, h2⟩ := (hx.keep HB.out) k hlt
      obtain ⟨b', o', rfl, h3, h4⟩ := (hy.keep HB.out) k hlt
      have hk1 : (k : Int) < n := by omega
      have hk0 : (0 : Int) ≤ k := by omega
      clear hx hy
      go_wp2
      go_region_held3 (fun w' => w'.cell? ⟨b, o + k * 2, none⟩ = some (.int .i64 (gs l k).1) ∧ w'.cell? ⟨b, o + k * 2 + 1, none⟩ = some (.int .i64 (gs l k).2) ∧ w'.cell? ⟨b', o' + k * 2, none⟩ = some (.int .i64 (gs l k).1) ∧ w'.cell? ⟨b', o' + k * 2 + 1, none⟩ = some (.int .i64 (gs l k).2)) (((try dsimp only); (repeat' apply And.intro); all_goals first | (with_reducible assumption) | go_keep)) (first | (go_at_call 34; refine (eqSlide_same _ _ _).mono ?_; rintro e w2 ⟨rfl, hb2⟩; have g1 := (hb2.cell (p := ⟨b, o + k * 2, none⟩) (cell_lt h1)).trans h1; have g2 := (hb2.cell (p := ⟨b, o + k * 2 + 1, none⟩) (cell_lt h2)).trans h2; have g3 := (hb2.cell (p := ⟨b', o' + k * 2, none⟩) (cell_lt h3)).trans h3; have g4 := (hb2.cell (p := ⟨b', o' + k * 2 + 1, none⟩) (cell_lt h4)).trans h4; have HB2 := Lib.hid (below_then HB.out (below_ofDrew hb2)); clear hb2))
      go_wp2
      go_roundw
      case rel => exact ⟨k+1, by omega, by go_num, HB2.out⟩
      case measure => simp [intOf]; omega
    · obtain rfl : k = n := by omega
      clear hx hy
      go_wp2
      go_ret
      exact gives_mk rfl HB.out

/-! the marks -/
def smarks (k : Int) (n : Nat) : List (Int × Int) := (List.range n).map (fun (i : Nat) => (k + 2 * (i : Int), k + 2 * (i : Int) + 1))
theorem smarks_length (k : Int) (n : Nat) : (smarks k n).length = n := by simp [smarks]
theorem gs_smarks {k : Int} {n j : Nat} (h : j < n) : gs (smarks k n) j = (k + 2 * (j : Int), k + 2 * (j : Int) + 1) := by simp [gs, smarks, List.getD, h]
/-- the marks in an owned row of slides, up to the i-th -/
def SMark (w wr : World) (b g n c : Nat) (k : Int) (i : Nat) : Prop :=
  w.grownBy wr (some g) ∧ ∃ xs : List Value, wr.ownsRow b 50 2 (.slice (some ⟨g, 0, none⟩) n c) n xs ∧ ∀ j, j < i → xs[j * 2]? = some (.int .i64 (k + 2 * (j : Int))) ∧ xs[j * 2 + 1]? = some (.int .i64 (k + 2 * (j : Int) + 1))
theorem smark_start {w : World} {b g n c : Nat} {k : Int} {xs : List Value} (h : w.ownsRow b 50 2 (.slice (some ⟨g, 0, none⟩) n c) n xs) : SMark w w b g n c k 0 :=
  ⟨grown_refl _ _, xs, h, fun j hj => by omega⟩
theorem smark_cell {w wr : World} {b g n c : Nat} {k : Int} {i : Nat} (h : SMark w wr b g n c k i) {j : Nat} (hj : j < n * 2) : ∃ u, wr.cell? ⟨g, j, none⟩ = some u := by
  obtain ⟨_, xs, ho, _⟩ := h
  rw [ho.cellAt j hj]
  have := ho.1
  exact ⟨xs[j]'(by omega), by simp [show j < xs.length by omega]⟩
theorem smark_free {w wr : World} {b g n c : Nat} {k : Int} {i : Nat} (h : SMark w wr b g n c k i) (j : Nat) : wr.frozen? ⟨g, j, none⟩ = false := by
  obtain ⟨_, xs, ho, _⟩ := h
  exact ho.frozenAt j
theorem smark_step {w wr : World} {b g n c : Nat} {k : Int} {i : Nat} (h : SMark w wr b g n c k i) (hi : i < n) :
    SMark w ((wr.setCell ⟨g, i * 2, none⟩ (.int .i64 (k + 2 * (i : Int)))).setCell ⟨g, i * 2 + 1, none⟩ (.int .i64 (k + 2 * (i : Int) + 1))) b g n c k (i+1) := by
  obtain ⟨hg, xs, ho, hx⟩ := h
  refine ⟨grown_set (grown_set hg _ _) _ _, _, ((ho.stored _ _).1.stored _ _).1, ?_⟩
  intro j hj
  have := ho.1
  simp only [List.getElem?_set, List.length_set]
  by_cases e : j = i
  · subst e
    rw [if_neg (by omega), if_pos rfl, if_pos (by omega), if_pos rfl, if_pos (by omega)]
    exact ⟨rfl, rfl⟩
  · rw [if_neg (by omega), if_neg (by omega), if_neg (by omega), if_neg (by omega)]
    exact hx j (by omega)
theorem smark_all {w wr : World} {b g n c : Nat} {k : Int} (h : SMark w wr b g n c k n) : wr.ownsRow b 50 2 (.slice (some ⟨g, 0, none⟩) n c) n (flat (smarks k n)) := by
  obtain ⟨_, xs, ho, hx⟩ := h
  have e : xs = flat (smarks k n) := by
    refine flat_ext' (by rw [smarks_length]; exact ho.1) ?_
    intro j hj
    rw [smarks_length] at hj
    rw [gs_smarks hj]
    exact hx j hj
  rw [← e]; exact ho

set_option maxHeartbeats 400000 in
theorem markSlideS_row (w : World) (b : Nat) (v : Value) (n : Nat) (xs : List Value) (k : Int) (hv : w.ownsRow b 50 2 v n xs) (hn : n ≤ lim) (h0 : 0 ≤ k) (h1 : k ≤ 1152921504606846976) :
    Calls Try.prog 16 #[v, .int .i64 k] w (fun e w' => e = .returned (.int .i64 (k + 2 * n)) ∧ w'.ownsRow b 50 2 v n (flat (smarks k n)) ∧ w.grownBy w' v.ownBlock) := by
  rw [lim_eq] at hn
  have hv2 := hv.2
  rcases hv2 with ⟨rfl, rfl⟩ | ⟨g, cap, cur, rfl, hg, _⟩
  · clear hv
    go_enter Try.func16, Try.ntmps16
    go_wp2_with fail
    refine wp_loop_rounds 1 ?_
    rw [rounds_succ]
    go_wp2
    go_ret
    exact ⟨by simp, by simpa [smarks, flat] using World.ownsRow_nil _ _ _ _, grown_refl _ _⟩
  · have HM : Hid (SMark w w b g n cap k 0) := smark_start hv
    clear hv
    go_enter Try.func16, Try.ntmps16
    go_wp2
    go_loopw [1, 5] (fun q i wr => ∃ j : Nat, j ≤ n ∧ i = .int .i64 j ∧ q = .int .i64 (k + 2 * j) ∧ Hid (SMark w wr b g n cap k j)) (fun _ i _ => n - (intOf i).toNat)
    case atStart => exact ⟨0, Nat.zero_le _, rfl, by simp, HM⟩
    case round =>
      obtain ⟨j, hj, rfl, rfl, hm⟩ := hrel
      by_cases hlt : j < n
      · obtain ⟨u, hc⟩ := smark_cell hm.out (show j * 2 < n * 2 by omega)
        obtain ⟨u', hc'⟩ := smark_cell hm.out (show j * 2 + 1 < n * 2 by omega)
        have hf := smark_free hm.out (j * 2)
        have hf' := smark_free hm.out (j * 2 + 1)
        have HS := Lib.hid (smark_step hm.out hlt)
        clear hm HM
        go_wp2
        go_roundw
        case rel => exact ⟨j+1, by omega, by go_num, by congr 1; omega, HS⟩
        case measure => simp [intOf]; omega
      · obtain rfl : j = n := by omega
        have HA := Lib.hid (smark_all hm.out)
        have HG := Lib.hid hm.out.1
        clear hm HM
        go_wp2
        go_ret
        exact ⟨rfl, HA.out, HG.out⟩

theorem markSlideS_any (w : World) (lo : Nat) (v : Value) (l : List (Int × Int)) (k : Int) (hv : OwnSlides lo w v l) (h0 : 0 ≤ k) (h1 : k ≤ 1152921504606846976) :
    Calls Try.prog 16 #[v, .int .i64 k] w (fun e w' => e = .returned (.int .i64 (k + 2 * l.length)) ∧ OwnSlides lo w' v (smarks k l.length) ∧ w.grownBy w' v.ownBlock) := by
  refine (markSlideS_row w lo v l.length _ k hv.2 hv.1 h0 h1).mono fun e w' ⟨h1, h2, h3⟩ => ⟨h1, ?_, h3⟩
  unfold OwnSlides
  simp only [smarks_length]
  exact ⟨hv.1, h2⟩

end Go.Proofs.Ytlmkdhbemgkbjaa
end

section
/-
  SlidesBack.
-/
set_option linter.unusedVariables false
namespace Go.Proofs.Ytlmkdhbemgkbjaa
open Go Go.RowKit Go.Park

def backF (l : List (Int × Int)) : List (Int × Int) := (l.map fun s => (s.2, s.1)).reverse
theorem backF_length (l : List (Int × Int)) : (backF l).length = l.length := by simp [backF]
/-- what is gathered when k slides are left -/
def backTo (l : List (Int × Int)) (k : Nat) : List (Int × Int) := backF (l.drop k)
theorem backTo_all (l : List (Int × Int)) : backTo l l.length = [] := by simp [backTo, backF]
theorem backTo_zero (l : List (Int × Int)) : backTo l 0 = backF l := by simp [backTo]
theorem backTo_step {l : List (Int × Int)} {k : Nat} (h : k < l.length) : backTo l k = backTo l (k+1) ++ [((gs l k).2, (gs l k).1)] := by
  unfold backTo backF
  rw [List.drop_eq_getElem_cons h, gs_get h, List.map_cons, List.reverse_cons]
theorem backTo_length {l : List (Int × Int)} {k : Nat} : (backTo l k).length = l.length - k := by simp [backTo, backF]

/-- a call returns slides of its own -/
def GivesSlides (l : List (Int × Int)) (w : World) (e : Ending) (w' : World) : Prop :=
  ∃ v, e = .returned v ∧ OwnSlides w.heap.size w' v l ∧ Below w.heap.size w w'

theorem own_append {lo : Nat} {w' : World} {v' : Value} {l : List (Int × Int)} {a b : Int} (hl : l.length + 1 ≤ lim)
    (h : w'.ownsRow lo 50 2 v' (l.length + 1) (flat l ++ [.int .i64 a, .int .i64 b])) : OwnSlides lo w' v' (l ++ [(a, b)]) := by
  refine ⟨by simpa using hl, ?_⟩
  rw [flat_append, List.length_append]
  exact h
theorem own_empty_row (w : World) : OwnSlides w.heap.size (w.alloc (.cells #[] 50)) (.slice (some ⟨w.heap.size, 0, none⟩) 0 0) [] :=
  ⟨by simp [lim], World.ownsRow_made w #[] 0 (Nat.le_refl _) (by simp) (by simp)⟩



end Go.Proofs.Ytlmkdhbemgkbjaa
end

section
/-
  SlidesAll.
-/
set_option linter.unusedVariables false
namespace Go.Proofs.Ytlmkdhbemgkbjaa
open Go Go.RowKit Go.Park

def mayRow (h : PHall) (k m : Nat) : List (Int × Int) := (selTo (fun j => slideMayB h k j) m).map (fun x => ((k : Int), x))
def mayTo (h : PHall) : Nat → List (Int × Int)
  | 0 => []
  | k+1 => mayTo h k ++ mayRow h k h.cells.length
def slidesAllF (h : PHall) : List (Int × Int) := mayTo h h.cells.length

theorem mayRow_len (h : PHall) (k m : Nat) : (mayRow h k m).length ≤ m := by
  unfold mayRow; rw [List.length_map]; exact selTo_length _ _
theorem mayRow_yes {h : PHall} {k j : Nat} (e : slideMayB h k j = true) : mayRow h k (j + 1) = mayRow h k j ++ [((k : Int), (j : Int))] := by
  unfold mayRow
  rw [selTo_yes (p := fun j => slideMayB h k j) (k := j) e, List.map_append]
  rfl
theorem mayRow_no {h : PHall} {k j : Nat} (e : slideMayB h k j = false) : mayRow h k (j + 1) = mayRow h k j := by
  unfold mayRow
  rw [selTo_no (p := fun j => slideMayB h k j) (k := j) e]
theorem mayRow_bad {h : PHall} (hv : validB h = false) (k m : Nat) : mayRow h k m = [] := by
  unfold mayRow
  rw [selTo_none (fun j _ => by simp [slideMayB, hv])]
  rfl
theorem mayTo_bad {h : PHall} (hv : validB h = false) (k : Nat) : mayTo h k = [] := by
  induction k with
  | zero => rfl
  | succ k ih => simp [mayTo, ih, mayRow_bad hv]
theorem mayTo_len (h : PHall) (k : Nat) : (mayTo h k).length ≤ h.cells.length * k := by
  induction k with
  | zero => simp [mayTo]
  | succ k ih =>
    have := mayRow_len h k h.cells.length
    simp only [mayTo, List.length_append, Nat.mul_add, Nat.mul_one]
    omega
theorem may_small (h : PHall) (k j : Nat) (hk : k ≤ h.cells.length) (hj : j ≤ h.cells.length) : (mayTo h k ++ mayRow h k j).length ≤ 200 := by
  cases hv : validB h
  · rw [mayTo_bad hv, mayRow_bad hv]; simp
  · have h1 := (valid_len hv).2
    have h2 := mayTo_len h k
    have h3 := mayRow_len h k j
    have h4 : h.cells.length * k ≤ 12 * 12 := Nat.mul_le_mul h1 (by omega)
    rw [List.length_append]
    omega
theorem below_app2 {B : Nat} {W wr w1 : World} {v : Value} {o : Obj} (hb : Below B W wr) (hl : B ≤ wr.heap.size) (ho : Blk v B wr.heap.size) (hg : (wr.alloc o).grownBy w1 v.ownBlock) : Below B W w1 :=
  below_app hb hl ho hg


/-! impl.SlidesAll goes over the cells beside -/
def beRow (h : PHall) (k : Nat) (B : List Int) (t : Nat) : List (Int × Int) := ((B.take t).filter (fun x => slideMayB h k x)).map (fun x => ((k : Int), x))
theorem beRow_yes {h : PHall} {k t : Nat} {B : List Int} (ht : t < B.length) (e : slideMayB h k (gi B t) = true) : beRow h k B (t + 1) = beRow h k B t ++ [((k : Int), gi B t)] := by
  unfold beRow
  rw [List.take_add_one, List.filter_append, List.map_append, gi_of_lt ht]
  simp [e]
theorem beRow_no {h : PHall} {k t : Nat} {B : List Int} (ht : t < B.length) (e : slideMayB h k (gi B t) = false) : beRow h k B (t + 1) = beRow h k B t := by
  unfold beRow
  rw [List.take_add_one, List.filter_append, List.map_append, gi_of_lt ht]
  simp [e]
theorem sel_filter (p : Nat → Bool) (f : Int → Bool) (n : Nat) : (selTo p n).filter f = selTo (fun j => p j && f j) n := by
  induction n with
  | zero => rfl
  | succ n ih =>
    simp only [selTo]
    by_cases hp : p n = true <;> by_cases hf : f (n : Int) = true <;> simp [hp, hf, List.filter_append, ih]
theorem beRow_all (h : PHall) (k : Nat) : beRow h k (besideF h k) (besideF h k).length = mayRow h k h.cells.length := by
  unfold beRow mayRow
  rw [List.take_length]
  by_cases hv : validB h = true ∧ hasCellB h k = true
  · simp only [besideF, if_pos hv]
    rw [sel_filter]
    congr 1
    refine selTo_congr fun j _ => ?_
    cases hm : slideMayB h k j
    · simp
    · simp only [slideMayB, Bool.and_eq_true, decide_eq_true_eq] at hm
      simp [hm.2.2.2.2.2]
  · simp only [besideF, if_neg hv]
    rw [selTo_none]
    · rfl
    · intro j _
      cases hm : slideMayB h k j
      · rfl
      · simp only [slideMayB, Bool.and_eq_true] at hm
        exact absurd ⟨hm.1, hm.2.1⟩ hv
theorem be_small (h : PHall) (k t : Nat) (hk : k ≤ h.cells.length) : (mayTo h k ++ beRow h k (besideF h k) t).length ≤ 200 := by
  cases hv : validB h
  · rw [mayTo_bad hv]; simp [besideF, hv, beRow]
  · have h1 := (valid_len hv).2
    have h2 := mayTo_len h k
    have h3 : (besideF h k).length ≤ h.cells.length := by
      unfold besideF; split
      · exact selTo_length _ _
      · simp
    have h4 : h.cells.length * k ≤ 12 * 12 := Nat.mul_le_mul h1 (by omega)
    have h5 : (beRow h k (besideF h k) t).length ≤ (besideF h k).length := by
      unfold beRow
      rw [List.length_map]
      refine Nat.le_trans (List.length_filter_le _ _) ?_
      rw [List.length_take]; omega
    rw [List.length_append]
    omega
def ApartRow (wr : World) (q : Value) (ao : Option Addr) (B : List Int) : Prop :=
  ∀ t, t < B.length → ∃ g, ao = some ⟨g, 0, none⟩ ∧ wr.cell? ⟨g, t, none⟩ = some (.int .i64 (gi B t)) ∧ q.ownBlock ≠ some g
theorem ApartRow.keep {wr wa : World} {q : Value} {ao : Option Addr} {B : List Int} (h : ApartRow wr q ao B) (hb : Below wr.heap.size wr wa) : ApartRow wa q ao B := by
  intro t ht
  obtain ⟨g, e, h1, h2⟩ := h t ht
  exact ⟨g, e, (hb.cell (p := ⟨g, t, none⟩) (cell_lt h1)).trans h1, h2⟩
theorem ApartRow.app {wa w2 : World} {q v' : Value} {ao : Option Addr} {B : List Int} {o : Obj} (h : ApartRow wa q ao B)
    (hg : (wa.alloc o).grownBy w2 q.ownBlock) (hv : v'.ownBlock = q.ownBlock ∨ v'.ownBlock = some (wa.alloc o).heap.size) : ApartRow w2 v' ao B := by
  intro t ht
  obtain ⟨g, e, h1, h2⟩ := (h.keep (below_new wa o)) t ht
  refine ⟨g, e, ?_, ?_⟩
  · rw [hg.cell_far _ (cell_lt h1) (Ne.symm h2)]; exact h1
  · rcases hv with hv | hv
    · rw [hv]; exact h2
    · rw [hv]; intro e2
      have := cell_lt h1
      simp only [Option.some.injEq] at e2
      simp only at this
      omega
theorem apartRow_of {w0 w1 : World} {q : Value} {ao : Option Addr} {c : Nat} {lo : Nat} {B : List Int} (h : OwnInts w0.heap.size w1 (.slice ao B.length c) B) (hq : Blk q lo w0.heap.size) : ApartRow w1 q ao B := by
  intro t ht
  obtain ⟨g, cap, e, h1, h2⟩ := h.head (by intro hb; rw [hb] at ht; simp at ht)
  cases e
  refine ⟨g, rfl, own_cell h ht, ?_⟩
  intro hh
  have := (hq g hh).2
  omega
theorem ownSlides_nil (lo : Nat) (w : World) : OwnSlides lo w (.slice none 0 0) [] := ⟨by simp [lim], World.ownsRow_nil _ _ _ _⟩


end Go.Proofs.Ytlmkdhbemgkbjaa
end
