/-
  The laws' helpers for slices of slides: copies, comparison, marks.
-/
import Derived.Test.YtjkogihfdnjdhaaS
import Derived.Test.YtjkogihfdnjdhaaM
set_option linter.unusedVariables false
namespace Go.Proofs.Ytjkogihfdnjdhaa
open Go Go.RowKit Go.Park

theorem Try.infoSlide : (Try.prog.info? 55).map (fun i => (i.zero, i.size, i.bytes)) = some (some (.agg #[.int .i64 0, .int .i64 0]), 2, 16) := by kernel_rfl

/-! the copy of a slice of slides -/
def SCpy (w wr : World) (g : Nat) (n k : Nat) (f : Nat → Int × Int) : Prop :=
  Below w.heap.size w wr ∧ ∃ cur, wr.heap[g]? = some (.cells cur 55 (0, 0)) ∧ cur.size = n * 2 ∧ ∀ j, j < k → cur[j * 2]? = some (.int .i64 (f j).1) ∧ cur[j * 2 + 1]? = some (.int .i64 (f j).2)
theorem scpy_below {w wr wr' : World} {g n k : Nat} {f : Nat → Int × Int} (h : SCpy w wr g n k f) (hb : Below wr.heap.size wr wr') : SCpy w wr' g n k f := by
  obtain ⟨hw, cur, hc, r⟩ := h
  exact ⟨below_then hw hb, cur, by rw [hb.block g (Array.getElem?_eq_some_iff.1 hc).1]; exact hc, r⟩
theorem scpy_step {w wr : World} {g n k : Nat} {f : Nat → Int × Int} (hg : w.heap.size ≤ g) (hk : k < n) (h : SCpy w wr g n k f) :
    SCpy w ((wr.setCell ⟨g, k * 2, none⟩ (.int .i64 (f k).1)).setCell ⟨g, k * 2 + 1, none⟩ (.int .i64 (f k).2)) g n (k+1) f := by
  obtain ⟨hb, cur, hc, hs, hf⟩ := h
  refine ⟨(hb.setCell (by exact hg) _).setCell (by exact hg) _, (cur.setIfInBounds (k * 2) (.int .i64 (f k).1)).setIfInBounds (k * 2 + 1) (.int .i64 (f k).2), ?_, by simp [hs], ?_⟩
  · simp only [World.setCell, Array.getElem?_modify, hc]; simp
  · intro j hj
    simp only [Array.getElem?_setIfInBounds, Array.size_setIfInBounds, hs]
    by_cases e : j = k
    · subst e
      rw [if_neg (by omega), if_pos rfl, if_pos (by omega), if_pos rfl, if_pos (by omega)]
      exact ⟨rfl, rfl⟩
    · rw [if_neg (by omega), if_neg (by omega), if_neg (by omega), if_neg (by omega)]
      exact hf j (by omega)
theorem scpy_cell {w wr : World} {g n k j : Nat} {f : Nat → Int × Int} (h : SCpy w wr g n k f) (hj : j < n * 2) : ∃ u, wr.cell? ⟨g, j, none⟩ = some u := by
  obtain ⟨hb, cur, hc, hs, hf⟩ := h
  exact ⟨cur[j]'(by omega), by rw [cell_of_row wr g j cur _ _ hc]; simp [show j < cur.size by omega]⟩
theorem scpy_free {w wr : World} {g n k : Nat} {f : Nat → Int × Int} (h : SCpy w wr g n k f) (j : Nat) : wr.frozen? ⟨g, j, none⟩ = false := by
  obtain ⟨hb, cur, hc, hs, hf⟩ := h
  simp [World.frozen?, hc]
theorem scpy_lt {w wr : World} {g n k : Nat} {f : Nat → Int × Int} (h : SCpy w wr g n k f) : g < wr.heap.size := by
  obtain ⟨hb, cur, hc, hs, hf⟩ := h
  exact (Array.getElem?_eq_some_iff.1 hc).1
theorem scpy_made {w w1 : World} {g n : Nat} {f : Nat → Int × Int} {xs : List Value} (hb : Below w.heap.size w w1) (h : w1.ownsRow w.heap.size 55 2 (.slice (some ⟨g, 0, none⟩) n n) n xs) : SCpy w w1 g n 0 f := by
  rcases h.2 with ⟨e, _⟩ | ⟨g', cap, cur, e, _, hg, _, _, hcs, _⟩
  · cases e
  · cases e
    exact ⟨hb, cur, hg, by simpa using hcs, fun j hj => by omega⟩
theorem scpy_own {w wr : World} {g n : Nat} {l : List (Int × Int)} (hg : w.heap.size ≤ g) (hn : l.length ≤ lim) (hnn : n = l.length) (h : SCpy w wr g n n (gs l)) :
    OwnSlides w.heap.size wr (.slice (some ⟨g, 0, none⟩) n n) l := by
  subst hnn
  obtain ⟨hb, cur, hc, hs, hf⟩ := h
  have e : cur.toList = flat l := flat_ext' (by simpa using hs) (fun j hj => by simpa using hf j hj)
  refine ⟨hn, flat_length l, .inr ⟨g, l.length, cur, rfl, hg, hc, Nat.le_refl _, by unfold lim at hn; unfold maxLen; omega, by simp [hs], ?_⟩⟩
  rw [← e, List.take_of_length_le (by simp [hs])]

set_option maxHeartbeats 400000 in
theorem toSlideS_any (w : World) (v : Value) (l : List (Int × Int)) (hv : SlidesAt w v l) :
    Calls Try.prog 24 #[v] w (fun e w' => ∃ g, e = .returned (.slice (some ⟨g, 0, none⟩) l.length l.length) ∧ OwnSlides w.heap.size w' (.slice (some ⟨g, 0, none⟩) l.length l.length) l ∧ Below w.heap.size w w') := by
  obtain ⟨ao, c, rfl, hn, _, hx⟩ := hv
  obtain ⟨n, hnx⟩ : ∃ n, n = l.length := ⟨_, rfl⟩
  have Hlim := Lib.hid hn
  rw [lim_eq] at hn
  rw [← hnx] at hn ⊢
  have Hn := Lib.hid hnx
  clear hnx
  obtain ⟨i0, hi, hz0, hz1, hz2⟩ := info_parts Try.infoSlide
  go_enter Try.func24, Try.ntmps24
  go_wp2_with (at_make; refine wpList_make_full _ rfl _ _ 26 rfl w.heap.size 55 i0 (.agg #[.int .i64 0, .int .i64 0]) 2 Try.underlying26 hi hz0 hz1 _ _ _ _ n rfl rfl rfl rfl (by rw [hz2]; omega) (by unfold maxLen; omega) (Nat.le_refl _) ?_; intro w1 hown hgr)
  have hb1 : Below w.heap.size w w1 := below_of_grown hgr
  have HC : Hid (SCpy w w1 w.heap.size n 0 (gs l)) := scpy_made hb1 hown
  clear hown hgr
  go_loopw [4] (fun i wr => ∃ k : Nat, k ≤ n ∧ i = .int .i64 k ∧ Hid (SCpy w wr w.heap.size n k (gs l))) (fun i _ => n - (intOf i).toNat)
  case atStart => exact ⟨0, Nat.zero_le _, rfl, HC⟩
  case round =>
    obtain ⟨k, hk, rfl, ha⟩ := hrel
    by_cases hlt : k < n
    · obtain ⟨b, o, rfl, h1, h2⟩ := hx k (by rw [← Hn.out]; exact hlt)
      have hb : b < w.heap.size := cell_lt h1
      rw [← ha.out.1.cell (by exact hb)] at h1 h2
      clear hb1 hx HC
      go_wp2_with fail
      refine (toSlide_any _ _ _).mono ?_
      rintro e w2 ⟨rfl, hb2⟩
      have ha2 := Lib.hid (scpy_below ha.out hb2)
      obtain ⟨u1, c1⟩ := scpy_cell ha2.out (show k * 2 < n * 2 by omega)
      obtain ⟨u2, c2⟩ := scpy_cell ha2.out (show k * 2 + 1 < n * 2 by omega)
      have f1 := scpy_free ha2.out (k * 2)
      have f2 := scpy_free ha2.out (k * 2 + 1)
      have HS := Lib.hid (scpy_step (Nat.le_refl _) hlt ha2.out)
      clear ha ha2 hb2 h1 h2
      go_wp2
      go_roundw
      case rel => exact ⟨k+1, by omega, by go_num, HS⟩
      case measure => simp [intOf]; omega
    · obtain rfl : k = n := by omega
      have ha := ha.out
      have HO := Lib.hid (scpy_own (Nat.le_refl _) Hlim.out Hn.out ha)
      have HB := Lib.hid ha.1
      clear ha hx hb1
      go_wp2
      go_ret
      exact ⟨_, rfl, HO.out, HB.out⟩

set_option maxHeartbeats 400000 in
theorem eqSlide_same (w : World) (a b : Int) :
    Calls Try.prog 46 #[.agg #[.int .i64 a, .int .i64 b], .agg #[.int .i64 a, .int .i64 b]] w (Gives (.bool true) w) := by
  go_enter Try.func46, Try.ntmps46
  go_wp2
  go_ret
  exact gives_mk rfl (by repeat (first | exact below_new _ _ | refine Below.alloc ?_ (by simp; try omega) _))

set_option maxHeartbeats 1000000 in
theorem eqSlideS_same (w : World) (v u : Value) (l : List (Int × Int)) (hv : SlidesAt w v l) (hu : SlidesAt w u l) :
    Calls Try.prog 15 #[v, u] w (Gives (.bool true) w) := by
  obtain ⟨ao, c, rfl, hn, _, hx⟩ := hv
  obtain ⟨bo, d, rfl, hm, _, hy⟩ := hu
  rw [lim_eq] at hn
  obtain ⟨n, hnx⟩ : ∃ n, n = l.length := ⟨_, rfl⟩
  rw [← hnx] at hn hx hy ⊢
  clear hm hnx
  go_enter Try.func15, Try.ntmps15
  go_wp2
  go_loopw [5] (fun i wr => ∃ k : Nat, k ≤ n ∧ i = .int .i64 k ∧ Below w.heap.size w wr) (fun i _ => n - (intOf i).toNat)
  case atStart => exact ⟨0, Nat.zero_le _, rfl, Below.refl _ _⟩
  case round =>
    obtain ⟨k, hk, rfl, hb⟩ := hrel
    have HB := Lib.hid hb
    clear hb
    by_cases hlt : k < n
    · obtain ⟨b, o, rfl, h1, h2⟩ := (hx.keep HB.out) k hlt
      obtain ⟨b', o', rfl, h3, h4⟩ := (hy.keep HB.out) k hlt
      have hk1 : (k : Int) < n := by omega
      have hk0 : (0 : Int) ≤ k := by omega
      clear hx hy
      go_wp2
      go_region_held3 (fun w' => w'.cell? ⟨b, o + k * 2, none⟩ = some (.int .i64 (gs l k).1) ∧ w'.cell? ⟨b, o + k * 2 + 1, none⟩ = some (.int .i64 (gs l k).2) ∧ w'.cell? ⟨b', o' + k * 2, none⟩ = some (.int .i64 (gs l k).1) ∧ w'.cell? ⟨b', o' + k * 2 + 1, none⟩ = some (.int .i64 (gs l k).2)) (((try dsimp only); (repeat' apply And.intro); all_goals first | (with_reducible assumption) | go_keep)) (first | (go_at_call 46; refine (eqSlide_same _ _ _).mono ?_; rintro e w2 ⟨rfl, hb2⟩; have g1 := (hb2.cell (p := ⟨b, o + k * 2, none⟩) (cell_lt h1)).trans h1; have g2 := (hb2.cell (p := ⟨b, o + k * 2 + 1, none⟩) (cell_lt h2)).trans h2; have g3 := (hb2.cell (p := ⟨b', o' + k * 2, none⟩) (cell_lt h3)).trans h3; have g4 := (hb2.cell (p := ⟨b', o' + k * 2 + 1, none⟩) (cell_lt h4)).trans h4; have HB2 := Lib.hid (below_then HB.out (below_ofDrew hb2)); clear hb2))
      go_wp2
      go_roundw
      case rel => exact ⟨k+1, by omega, by go_num, HB2.out⟩
      case measure => simp [intOf]; omega
    · obtain rfl : k = n := by omega
      clear hx hy
      go_wp2
      go_ret
      exact gives_mk rfl HB.out

/-! the marks -/
def smarks (k : Int) (n : Nat) : List (Int × Int) := (List.range n).map (fun (i : Nat) => (k + 2 * (i : Int), k + 2 * (i : Int) + 1))
theorem smarks_length (k : Int) (n : Nat) : (smarks k n).length = n := by simp [smarks]
theorem gs_smarks {k : Int} {n j : Nat} (h : j < n) : gs (smarks k n) j = (k + 2 * (j : Int), k + 2 * (j : Int) + 1) := by simp [gs, smarks, List.getD, h]
/-- the marks in an owned row of slides, up to the i-th -/
def SMark (w wr : World) (b g n c : Nat) (k : Int) (i : Nat) : Prop :=
  w.grownBy wr (some g) ∧ ∃ xs : List Value, wr.ownsRow b 55 2 (.slice (some ⟨g, 0, none⟩) n c) n xs ∧ ∀ j, j < i → xs[j * 2]? = some (.int .i64 (k + 2 * (j : Int))) ∧ xs[j * 2 + 1]? = some (.int .i64 (k + 2 * (j : Int) + 1))
theorem smark_start {w : World} {b g n c : Nat} {k : Int} {xs : List Value} (h : w.ownsRow b 55 2 (.slice (some ⟨g, 0, none⟩) n c) n xs) : SMark w w b g n c k 0 :=
  ⟨grown_refl _ _, xs, h, fun j hj => by omega⟩
theorem smark_cell {w wr : World} {b g n c : Nat} {k : Int} {i : Nat} (h : SMark w wr b g n c k i) {j : Nat} (hj : j < n * 2) : ∃ u, wr.cell? ⟨g, j, none⟩ = some u := by
  obtain ⟨_, xs, ho, _⟩ := h
  rw [ho.cellAt j hj]
  have := ho.1
  exact ⟨xs[j]'(by omega), by simp [show j < xs.length by omega]⟩
theorem smark_free {w wr : World} {b g n c : Nat} {k : Int} {i : Nat} (h : SMark w wr b g n c k i) (j : Nat) : wr.frozen? ⟨g, j, none⟩ = false := by
  obtain ⟨_, xs, ho, _⟩ := h
  exact ho.frozenAt j
theorem smark_step {w wr : World} {b g n c : Nat} {k : Int} {i : Nat} (h : SMark w wr b g n c k i) (hi : i < n) :
    SMark w ((wr.setCell ⟨g, i * 2, none⟩ (.int .i64 (k + 2 * (i : Int)))).setCell ⟨g, i * 2 + 1, none⟩ (.int .i64 (k + 2 * (i : Int) + 1))) b g n c k (i+1) := by
  obtain ⟨hg, xs, ho, hx⟩ := h
  refine ⟨grown_set (grown_set hg _ _) _ _, _, ((ho.stored _ _).1.stored _ _).1, ?_⟩
  intro j hj
  have := ho.1
  simp only [List.getElem?_set, List.length_set]
  by_cases e : j = i
  · subst e
    rw [if_neg (by omega), if_pos rfl, if_pos (by omega), if_pos rfl, if_pos (by omega)]
    exact ⟨rfl, rfl⟩
  · rw [if_neg (by omega), if_neg (by omega), if_neg (by omega), if_neg (by omega)]
    exact hx j (by omega)
theorem smark_all {w wr : World} {b g n c : Nat} {k : Int} (h : SMark w wr b g n c k n) : wr.ownsRow b 55 2 (.slice (some ⟨g, 0, none⟩) n c) n (flat (smarks k n)) := by
  obtain ⟨_, xs, ho, hx⟩ := h
  have e : xs = flat (smarks k n) := by
    refine flat_ext' (by rw [smarks_length]; exact ho.1) ?_
    intro j hj
    rw [smarks_length] at hj
    rw [gs_smarks hj]
    exact hx j hj
  rw [← e]; exact ho

set_option maxHeartbeats 400000 in
theorem markSlideS_row (w : World) (b : Nat) (v : Value) (n : Nat) (xs : List Value) (k : Int) (hv : w.ownsRow b 55 2 v n xs) (hn : n ≤ lim) (h0 : 0 ≤ k) (h1 : k ≤ 1152921504606846976) :
    Calls Try.prog 20 #[v, .int .i64 k] w (fun e w' => e = .returned (.int .i64 (k + 2 * n)) ∧ w'.ownsRow b 55 2 v n (flat (smarks k n)) ∧ w.grownBy w' v.ownBlock) := by
  rw [lim_eq] at hn
  have hv2 := hv.2
  rcases hv2 with ⟨rfl, rfl⟩ | ⟨g, cap, cur, rfl, hg, _⟩
  · clear hv
    go_enter Try.func20, Try.ntmps20
    go_wp2_with fail
    refine wp_loop_rounds 1 ?_
    rw [rounds_succ]
    go_wp2
    go_ret
    exact ⟨by simp, by simpa [smarks, flat] using World.ownsRow_nil _ _ _ _, grown_refl _ _⟩
  · have HM : Hid (SMark w w b g n cap k 0) := smark_start hv
    clear hv
    go_enter Try.func20, Try.ntmps20
    go_wp2
    go_loopw [1, 5] (fun q i wr => ∃ j : Nat, j ≤ n ∧ i = .int .i64 j ∧ q = .int .i64 (k + 2 * j) ∧ Hid (SMark w wr b g n cap k j)) (fun _ i _ => n - (intOf i).toNat)
    case atStart => exact ⟨0, Nat.zero_le _, rfl, by simp, HM⟩
    case round =>
      obtain ⟨j, hj, rfl, rfl, hm⟩ := hrel
      by_cases hlt : j < n
      · obtain ⟨u, hc⟩ := smark_cell hm.out (show j * 2 < n * 2 by omega)
        obtain ⟨u', hc'⟩ := smark_cell hm.out (show j * 2 + 1 < n * 2 by omega)
        have hf := smark_free hm.out (j * 2)
        have hf' := smark_free hm.out (j * 2 + 1)
        have HS := Lib.hid (smark_step hm.out hlt)
        clear hm HM
        go_wp2
        go_roundw
        case rel => exact ⟨j+1, by omega, by go_num, by congr 1; omega, HS⟩
        case measure => simp [intOf]; omega
      · obtain rfl : j = n := by omega
        have HA := Lib.hid (smark_all hm.out)
        have HG := Lib.hid hm.out.1
        clear hm HM
        go_wp2
        go_ret
        exact ⟨rfl, HA.out, HG.out⟩

theorem markSlideS_any (w : World) (lo : Nat) (v : Value) (l : List (Int × Int)) (k : Int) (hv : OwnSlides lo w v l) (h0 : 0 ≤ k) (h1 : k ≤ 1152921504606846976) :
    Calls Try.prog 20 #[v, .int .i64 k] w (fun e w' => e = .returned (.int .i64 (k + 2 * l.length)) ∧ OwnSlides lo w' v (smarks k l.length) ∧ w.grownBy w' v.ownBlock) := by
  refine (markSlideS_row w lo v l.length _ k hv.2 hv.1 h0 h1).mono fun e w' ⟨h1, h2, h3⟩ => ⟨h1, ?_, h3⟩
  unfold OwnSlides
  simp only [smarks_length]
  exact ⟨hv.1, h2⟩

set_option maxHeartbeats 400000 in
theorem heldSlideS_any (w : World) (v : Value) (n : Nat) (k : Int) (hv : SlidesAt w v (smarks k n)) (h0 : 0 ≤ k) (h1 : k ≤ 1152921504606846976) :
    Calls Try.prog 21 #[v, .int .i64 k] w (Gives (.int .i64 (k + 2 * n)) w) := by
  obtain ⟨ao, c, rfl, hn, _, hx⟩ := hv
  rw [lim_eq] at hn
  rw [smarks_length] at hn hx ⊢
  go_enter Try.func21, Try.ntmps21
  go_wp2
  go_loopw [1, 5] (fun q i wr => ∃ j : Nat, j ≤ n ∧ i = .int .i64 j ∧ q = .int .i64 (k + 2 * j) ∧ ∃ q, wr = w.drewN q) (fun _ i _ => n - (intOf i).toNat)
  case atStart => exact ⟨0, Nat.zero_le _, rfl, by simp, 0, rfl⟩
  case round =>
    obtain ⟨j, hj, rfl, rfl, q, rfl⟩ := hrel
    by_cases hlt : j < n
    · obtain ⟨b, o, rfl, hc, hc'⟩ := hx j hlt
      rw [gs_smarks hlt] at hc hc'
      clear hx
      go_wp2
      go_roundw
      case rel => exact ⟨j+1, by omega, by go_num, by congr 1; omega, _, rfl⟩
      case measure => simp [intOf]; omega
    · obtain rfl : j = n := by omega
      clear hx
      go_wp2
      go_ret
      exact gives_mk rfl (below_drewN (Below.refl _ _) _)

end Go.Proofs.Ytjkogihfdnjdhaa
