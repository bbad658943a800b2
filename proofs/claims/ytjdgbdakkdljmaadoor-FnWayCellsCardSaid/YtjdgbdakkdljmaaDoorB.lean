/-
  SlidesBack.
-/
import Derived.Test.YtjdgbdakkdljmaaDoorS2
set_option linter.unusedVariables false
namespace Go.Proofs.YtjdgbdakkdljmaaDoor
open Go Go.RowKit Go.Park

def backF (l : List (Int × Int)) : List (Int × Int) := (l.map fun s => (s.2, s.1)).reverse
theorem backF_length (l : List (Int × Int)) : (backF l).length = l.length := by simp [backF]
/-- what is gathered when k slides are left -/
def backTo (l : List (Int × Int)) (k : Nat) : List (Int × Int) := backF (l.drop k)
theorem backTo_all (l : List (Int × Int)) : backTo l l.length = [] := by simp [backTo, backF]
theorem backTo_zero (l : List (Int × Int)) : backTo l 0 = backF l := by simp [backTo]
theorem backTo_step {l : List (Int × Int)} {k : Nat} (h : k < l.length) : backTo l k = backTo l (k+1) ++ [((gs l k).2, (gs l k).1)] := by
  unfold backTo backF
  rw [List.drop_eq_getElem_cons h, gs_get h, List.map_cons, List.reverse_cons]
theorem backTo_length {l : List (Int × Int)} {k : Nat} : (backTo l k).length = l.length - k := by simp [backTo, backF]

/-- a call returns slides of its own -/
def GivesSlides (l : List (Int × Int)) (w : World) (e : Ending) (w' : World) : Prop :=
  ∃ v, e = .returned v ∧ OwnSlides w.heap.size w' v l ∧ Below w.heap.size w w'

theorem own_append {lo : Nat} {w' : World} {v' : Value} {l : List (Int × Int)} {a b : Int} (hl : l.length + 1 ≤ lim)
    (h : w'.ownsRow lo 40 2 v' (l.length + 1) (flat l ++ [.int .i64 a, .int .i64 b])) : OwnSlides lo w' v' (l ++ [(a, b)]) := by
  refine ⟨by simpa using hl, ?_⟩
  rw [flat_append, List.length_append]
  exact h
theorem own_empty_row (w : World) : OwnSlides w.heap.size (w.alloc (.cells #[] 40)) (.slice (some ⟨w.heap.size, 0, none⟩) 0 0) [] :=
  ⟨by simp [lim], World.ownsRow_made w #[] 0 (Nat.le_refl _) (by simp) (by simp)⟩


set_option maxRecDepth 100000 in
set_option maxHeartbeats 4000000 in
theorem slidesBack_any (w : World) (v : Value) (l : List (Int × Int)) (hv : SlidesAt w v l) :
    Calls Tryd.prog 40 #[v] w (GivesSlides (backF l) w) := by
  obtain ⟨ao, c, rfl, hn, hcm, hx⟩ := hv
  have Hlim := Lib.hid hn
  obtain ⟨n, hnx⟩ : ∃ n, n = l.length := ⟨_, rfl⟩
  rw [lim_eq] at hn
  rw [← hnx] at hn hx hcm ⊢
  have HN := Lib.hid hnx
  clear hnx
  obtain ⟨i0, hi, hz0, hz1, hz2⟩ := info_parts Tryd.infoSlide
  have hc2 := hcm.2
  unfold maxLen at hc2
  go_enter Tryd.func40, Tryd.ntmps40
  go_wp2_with (at_make; go_must (refine wpList_make_own _ rfl _ _ 36 rfl w.heap.size 40 i0 (.agg #[.int .i64 0, .int .i64 0]) 2 Tryd.underlying36 hi hz0 hz1 _ _ _ n rfl rfl rfl ?_ ?_ ?_ ?_; (rw [hz2]; omega); (unfold maxLen; omega); (exact Nat.le_refl _); intro w1 hown hgr; have HO0 := Lib.hid hown; have HB0 := Lib.hid (below_of_grown hgr); clear hown hgr))
  go_loopw [3, 4] (fun q i wr => ∃ k : Nat, k ≤ n ∧ ((k = 0 ∧ i = .int .i64 (-1)) ∨ ∃ j : Nat, k = j + 1 ∧ i = .int .i64 j) ∧ Hid (OwnSlides w.heap.size wr q (backTo l k)) ∧ Below w.heap.size w wr) (fun _ i _ => (intOf i + 1).toNat)
  case atStart =>
    refine ⟨n, Nat.le_refl _, ?_, ?_, HB0.out⟩
    · cases n with
      | zero => exact .inl ⟨rfl, rfl⟩
      | succ j => exact .inr ⟨j, rfl, by congr 1; omega⟩
    · rw [HN.out, backTo_all] at *; exact Lib.hid ⟨by simp [lim], HO0.out⟩
  case round =>
    obtain ⟨k, hk, hi2, ho, hb⟩ := hrel
    have HB := Lib.hid hb
    clear hb
    rcases hi2 with ⟨rfl, rfl⟩ | ⟨j, rfl, rfl⟩
    · rw [backTo_zero] at ho
      clear hx
      go_wp2
      go_ret
      exact ⟨_, rfl, ho.out, HB.out⟩
    · obtain ⟨b, o, rfl, h1, h2⟩ := (hx.keep HB.out) j (by omega)
      have hbw : b < w.heap.size := by obtain ⟨b', o', e, h1', _⟩ := hx j (by omega); cases e; exact cell_lt h1'
      have hbk := ho.out.blk
      have hkl : j < l.length := by rw [← HN.out]; omega
      obtain ⟨aq, cq, hq⟩ := ho.out.slice
      subst hq
      have hl1 : (backTo l (j+1)).length + 1 ≤ 1073741824 := by rw [backTo_length, ← HN.out]; omega
      have hsz : w.heap.size ≤ wr.heap.size := HB.out.size
      have Hst := Lib.hid (backTo_step hkl)
      have ag : (Value.slice aq (backTo l (j+1)).length cq).ownBlock ≠ some b := by
        intro e
        have := hbk b e
        omega
      have hbk : ∀ k, (Value.slice aq (backTo l (j+1)).length cq).ownBlock = some k → w.heap.size ≤ k := fun k hk => (hbk k hk).1
      have hj0 : (0 : Int) ≤ j := by omega
      have hj1 : (j : Int) < n := by omega
      have hj2 : j < n := by omega
      clear hx hkl
      go_wp2
      go_region_held3 (fun w' => w'.cell? ⟨b, o + j * 2, none⟩ = some (.int .i64 (gs l j).1) ∧ w'.cell? ⟨b, o + j * 2 + 1, none⟩ = some (.int .i64 (gs l j).2)) (first
      | go_keep
      | (go_split_ands
         refine ⟨?_, ?_⟩
         · (rw [hgrow.cell_far _ (by simp; omega) (Ne.symm ag)]; assumption)
         · (rw [hgrow.cell_far _ (by simp; omega) (Ne.symm ag)]; assumption)))
        ((refine step_append_lies _ (by rfl) _ _ _ (by rfl) w.heap.size 40 i0 _ 2 16 Tryd.underlying36 hi hz0 hz1 hz2 rfl (by omega) _ _ _ (by rfl) ((ho.out.2.alloc _).drew) ⟨wr.heap.size, 0, none⟩ 1 1 [.int .i64 (gs l j).2, .int .i64 (gs l j).1] (by rfl) (by rfl) (World.news_of_block (cs := #[.int .i64 (gs l j).2, .int .i64 (gs l j).1]) (t := 40) (fr := (0, 0)) (heap_alloc_new wr _)) (by simp [Value.oneCell']) (by omega) (by unfold maxLen; omega) (by omega) (by simp; omega) (wr.heap.size + 1) (by simp) ?_; intro gg cap w1 hown1 hgrow hat hlt))
      have HO : Hid (OwnSlides w.heap.size w1 (.slice (some ⟨gg, 0, none⟩) ((backTo l (j+1)).length + 1) cap) (backTo l j)) := by rw [Hst.out]; exact own_append (by unfold lim; omega) hown1
      have hb1 : Below w.heap.size w w1 := (below_then (below_then HB.out (below_new _ _)) (below_drew1 _)).grown hgrow (by simp; omega) (fun k hk => hbk k hk)
      have HB1 := Lib.hid hb1
      clear hown1 hgrow hat hlt hb1 h1 h2 ag
      go_wp2
      go_roundw
      case rel =>
        refine ⟨j, by omega, ?_, HO, HB1.out⟩
        cases j with
        | zero => exact .inl ⟨rfl, by simp⟩
        | succ j => exact .inr ⟨j, rfl, by congr 1; omega⟩
      case measure => simp [intOf]

end Go.Proofs.YtjdgbdakkdljmaaDoor
