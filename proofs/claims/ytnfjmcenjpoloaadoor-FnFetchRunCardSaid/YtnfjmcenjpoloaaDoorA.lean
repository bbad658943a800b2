/-
  What the laws' own helpers do: copies of slices and halls, their sizes, their comparison, the marks.
-/
import Derived.Test.YtnfjmcenjpoloaaDoorProg
import Derived.Test.YtnfjmcenjpoloaaDoorBase
set_option linter.unusedVariables false
namespace Go.Proofs.YtnfjmcenjpoloaaDoor
open Go Go.RowKit Go.Park

/-- a slice of ints of the call's own, in a block from lo on -/
def OwnInts (lo : Nat) (w : World) (v : Value) (l : List Int) : Prop := l.length ≤ lim ∧ w.ownsRow lo 3 1 v l.length (l.map (Value.int .i64))
theorem OwnInts.at {lo : Nat} {w : World} {v : Value} {l : List Int} (h : OwnInts lo w v l) : IntsAt w v l := intsAt_of_own h.1 h.2
theorem OwnInts.keep {lo : Nat} {w w' : World} {v : Value} {l : List Int} (h : OwnInts lo w v l) (hb : Below w.heap.size w w') : OwnInts lo w' v l := ⟨h.1, own_keep h.2 hb⟩
theorem OwnInts.base {lo lo' : Nat} {w : World} {v : Value} {l : List Int} (h : OwnInts lo w v l) (hl : lo' ≤ lo) : OwnInts lo' w v l := ⟨h.1, own_base h.2 hl⟩
theorem OwnInts.blk {lo : Nat} {w : World} {v : Value} {l : List Int} (h : OwnInts lo w v l) : Blk v lo w.heap.size := blk_of_own h.2
theorem OwnInts.keepG {lo lo1 hi1 lo2 hi2 : Nat} {w w' : World} {u v : Value} {l : List Int} (h : OwnInts lo w v l) (hg : w.grownBy w' u.ownBlock) (hu : Blk u lo1 hi1) (hv : Blk v lo2 hi2) (hd : hi1 ≤ lo2 ∨ hi2 ≤ lo1) : OwnInts lo w' v l :=
  ⟨h.1, own_keepG h.2 hg hu hv hd⟩
theorem OwnInts.slice {lo : Nat} {w : World} {v : Value} {l : List Int} (h : OwnInts lo w v l) : ∃ ao c, v = .slice ao l.length c := by
  obtain ⟨ao, c, e, _⟩ := h.at
  exact ⟨ao, c, e⟩
/-- a hall of the call's own: the value of its cells is cv -/
def OwnHall (lo : Nat) (w : World) (v cv : Value) (h : PHall) : Prop := v = .agg #[.int .i64 h.wide, .int .i64 h.deep, cv] ∧ OwnInts lo w cv h.cells
theorem OwnHall.at {lo : Nat} {w : World} {v cv : Value} {h : PHall} (hh : OwnHall lo w v cv h) : HallAt w v h := ⟨cv, hh.1, hh.2.at⟩

def AgreeTo (f g : Nat → Int) (k : Nat) : Prop := ∀ j, j < k → f j = g j
theorem agree_zero (f g : Nat → Int) : AgreeTo f g 0 := fun j h => by omega
theorem agree_succ {f g : Nat → Int} {k : Nat} (h : AgreeTo f g k) (e : f k = g k) : AgreeTo f g (k+1) := fun j hj => by
  rcases Nat.lt_succ_iff_lt_or_eq.1 hj with h1 | rfl
  · exact h j h1
  · exact e
theorem agree_all {xs ys : List Int} (hl : xs.length = ys.length) (h : AgreeTo (gi xs) (gi ys) xs.length) : eqInts xs ys = true := eqInts_true.2 (ext_gi hl h)
theorem agree_not {xs ys : List Int} {k : Nat} (e : gi xs k ≠ gi ys k) : eqInts xs ys = false := by
  rw [eqInts_false]; rintro rfl; exact e rfl

set_option maxHeartbeats 400000 in
theorem eqIntS_any (w : World) (v u : Value) (xs ys : List Int) (hv : IntsAt w v xs) (hu : IntsAt w u ys) :
    Calls Tryd.prog 93 #[v, u] w (Tells (.bool (eqInts xs ys)) w) := by
  obtain ⟨ao, c, rfl, hn, _, hx⟩ := hv
  obtain ⟨bo, d, rfl, hm, _, hy⟩ := hu
  rw [lim_eq] at hn hm
  by_cases hne : xs.length = ys.length
  · obtain ⟨n, hnx⟩ : ∃ n, n = xs.length := ⟨_, rfl⟩
    have Hl := Lib.hid hne
    rw [← hne, ← hnx]
    rw [← hnx] at hn
    have Hn := Lib.hid hnx
    clear hnx hne hm
    go_enter Tryd.func93, Tryd.ntmps93
    go_wp2
    go_loopw [5] (fun i wr => ∃ k : Nat, k ≤ n ∧ i = .int .i64 k ∧ AgreeTo (gi xs) (gi ys) k ∧ ∃ q, wr = w.drewN q) (fun i _ => n - (intOf i).toNat)
    case atStart => exact ⟨0, Nat.zero_le _, rfl, agree_zero _ _, 0, rfl⟩
    case round =>
      obtain ⟨k, hk, rfl, ha, q, rfl⟩ := hrel
      by_cases hlt : k < n
      · obtain ⟨b, o, rfl, h1⟩ := hx k (by rw [← Hn.out]; exact hlt)
        obtain ⟨b', o', rfl, h2⟩ := hy k (by rw [← Hl.out, ← Hn.out]; exact hlt)
        go_wp2
        by_cases he : gi xs k = gi ys k
        · have Ha := Lib.hid (agree_succ ha he)
          rw [← he] at h2
          clear ha he
          go_quiet (fail)
          go_wp2
          go_roundw
          case rel => exact ⟨k+1, by omega, by go_num, Ha.out, _, rfl⟩
          case measure => simp [intOf]; omega
        · have Hf := Lib.hid (agree_not he)
          have hb : (gi xs k != gi ys k) = true := by simpa using he
          clear he
          go_quiet (fail)
          go_wp2
          go_ret
          exact tells_mk (by rw [Hf.out]; rfl) (by first | exact drewN1 _ _ | exact drewNN _ _ _)
      · obtain rfl : k = n := by omega
        rw [Hn.out] at ha
        have Hf := Lib.hid (agree_all Hl.out ha)
        clear ha hx hy
        go_wp2
        go_ret
        exact tells_mk (by rw [Hf.out]; rfl) (by first | exact drewN1 _ _ | exact drewNN _ _ _)
  · have hd : eqInts xs ys = false := by rw [eqInts_false]; rintro rfl; exact hne rfl
    rw [hd]
    generalize xs.length = n at *
    generalize ys.length = m at *
    clear hd hx hy
    go_enter Tryd.func93, Tryd.ntmps93
    go_wp2
    go_ret
    exact ⟨rfl, 0, rfl⟩

def szTo (n : Nat) (left : Int) : Int := if left - n < 0 then -1 else left - n

set_option maxHeartbeats 400000 in
theorem szIntS_any (w : World) (ao : Option Addr) (n c : Nat) (left : Int) (hn : n ≤ 9223372036854775807) (h0 : 0 ≤ left) (h1 : left ≤ 1048576) :
    Calls Tryd.prog 91 #[.slice ao n c, .int .i64 left] w (Tells (.int .i64 (szTo n left)) w) := by
  by_cases h : left - n < 0
  · have H := Lib.hid (show szTo n left = -1 by simp [szTo, h])
    go_enter Tryd.func91, Tryd.ntmps91
    go_wp2
    go_ret
    exact tells_mk (by rw [H.out]; rfl) (drew0 _)
  · have H := Lib.hid (show szTo n left = left - n by simp [szTo, h])
    go_enter Tryd.func91, Tryd.ntmps91
    go_wp2
    go_ret
    exact tells_mk (by rw [H.out]; rfl) (drew0 _)

set_option maxHeartbeats 400000 in
theorem szHall_any (w : World) (x y : Int) (ao : Option Addr) (n c : Nat) (left : Int) (hn : n ≤ 9223372036854775807) (h0 : 0 ≤ left) (h1 : left ≤ 1048576) :
    Calls Tryd.prog 43 #[.agg #[.int .i64 x, .int .i64 y, .slice ao n c], .int .i64 left] w (Gives (.int .i64 (szTo n left)) w) := by
  by_cases h : left - n < 0
  · have H := Lib.hid (show szTo n left = -1 by simp [szTo, h])
    go_enter Tryd.func43, Tryd.ntmps43
    go_wp2_with (go_at_call 91; refine (szIntS_any _ _ _ _ _ hn h0 h1).mono ?_; rw [H.out]; rintro e w' ⟨rfl, q, rfl⟩)
    go_ret
    exact gives_mk (by rw [H.out]; rfl) (below_drewN ((Below.refl _ _).alloc (Nat.le_refl _) _) _)
  · have H := Lib.hid (show szTo n left = left - n by simp [szTo, h])
    go_enter Tryd.func43, Tryd.ntmps43
    go_wp2_with (go_at_call 91; refine (szIntS_any _ _ _ _ _ hn h0 h1).mono ?_; rw [H.out]; rintro e w' ⟨rfl, q, rfl⟩)
    go_ret
    exact gives_mk (by rw [H.out]; rfl) (below_drewN ((Below.refl _ _).alloc (Nat.le_refl _) _) _)

/-! the copy of a slice of ints -/
def Cpy (w wr : World) (g : Nat) (n k : Nat) (f : Nat → Int) : Prop :=
  Below w.heap.size w wr ∧ ∃ cur, wr.heap[g]? = some (.cells cur 3 (0, 0)) ∧ cur.size = n ∧ ∀ j, j < k → cur[j]? = some (.int .i64 (f j))
theorem cpy_step {w wr : World} {g n k : Nat} {f : Nat → Int} (hg : w.heap.size ≤ g) (hk : k < n) (h : Cpy w wr g n k f) : Cpy w (wr.setCell ⟨g, k, none⟩ (.int .i64 (f k))) g n (k+1) f := by
  obtain ⟨hb, cur, hc, hs, hf⟩ := h
  refine ⟨hb.setCell (by exact hg) _, cur.setIfInBounds k (.int .i64 (f k)), ?_, by simp [hs], ?_⟩
  · simp only [World.setCell, Array.getElem?_modify, hc]; simp
  · intro j hj
    rw [Array.getElem?_setIfInBounds]
    by_cases e : k = j
    · subst e; simp [hs, hk]
    · rw [if_neg e]; exact hf j (by omega)
theorem cpy_cell {w wr : World} {g n k j : Nat} {f : Nat → Int} (h : Cpy w wr g n k f) (hj : j < n) : ∃ u, wr.cell? ⟨g, j, none⟩ = some u := by
  obtain ⟨hb, cur, hc, hs, hf⟩ := h
  exact ⟨cur[j]'(by omega), by rw [cell_of_row wr g j cur _ _ hc]; simp [show j < cur.size by omega]⟩
theorem cpy_free {w wr : World} {g n k : Nat} {f : Nat → Int} (h : Cpy w wr g n k f) (j : Nat) : wr.frozen? ⟨g, j, none⟩ = false := by
  obtain ⟨hb, cur, hc, hs, hf⟩ := h
  simp [World.frozen?, hc]
theorem cpy_made {w w1 : World} {g n : Nat} {f : Nat → Int} {xs : List Value} (hb : Below w.heap.size w w1) (h : w1.ownsRow w.heap.size 3 1 (.slice (some ⟨g, 0, none⟩) n n) n xs) : Cpy w w1 g n 0 f := by
  rcases h.2 with ⟨e, _⟩ | ⟨g', cap, cur, e, _, hg, _, _, hcs, _⟩
  · cases e
  · cases e
    exact ⟨hb, cur, hg, by simpa using hcs, fun j hj => by omega⟩
theorem cpy_own {w wr : World} {g n : Nat} {zs : List Int} (hg : w.heap.size ≤ g) (hn : zs.length ≤ lim) (hnn : n = zs.length) (h : Cpy w wr g n n (gi zs)) :
    wr.ownsRow w.heap.size 3 1 (.slice (some ⟨g, 0, none⟩) n n) n (zs.map (Value.int .i64)) := by
  subst hnn
  obtain ⟨hb, cur, hc, hs, hf⟩ := h
  refine ⟨by simp, .inr ⟨g, zs.length, cur, rfl, hg, hc, Nat.le_refl _, by unfold lim at hn; unfold maxLen; omega, by simp [hs], ?_⟩⟩
  apply List.ext_getElem?
  intro i
  rw [List.getElem?_take, List.getElem?_map]
  by_cases hi : i < zs.length
  · rw [if_pos (by omega), gi_of_lt hi]
    simpa using hf i hi
  · rw [if_neg (by omega), List.getElem?_eq_none (by omega)]; rfl

theorem Tryd.infoInt : (Tryd.prog.info? 3).map (fun i => (i.zero, i.size, i.bytes)) = some (some (.int .i64 0), 1, 8) := by kernel_rfl

set_option maxHeartbeats 400000 in
theorem toIntS_any (w : World) (v : Value) (zs : List Int) (hv : IntsAt w v zs) :
    Calls Tryd.prog 92 #[v] w (fun e w' => ∃ g, e = .returned (.slice (some ⟨g, 0, none⟩) zs.length zs.length) ∧ OwnInts w.heap.size w' (.slice (some ⟨g, 0, none⟩) zs.length zs.length) zs ∧ Below w.heap.size w w') := by
  obtain ⟨ao, c, rfl, hn, _, hx⟩ := hv
  obtain ⟨n, hnx⟩ : ∃ n, n = zs.length := ⟨_, rfl⟩
  have Hlim := Lib.hid hn
  rw [lim_eq] at hn
  rw [← hnx] at hn ⊢
  have Hn := Lib.hid hnx
  clear hnx
  obtain ⟨i0, hi, hz0, hz1, hz2⟩ := info_parts Tryd.infoInt
  go_enter Tryd.func92, Tryd.ntmps92
  go_wp2_with (at_make; refine wpList_make_full _ rfl _ _ 23 rfl w.heap.size 3 i0 (.int .i64 0) 1 Tryd.underlying23 hi hz0 hz1 _ _ _ _ n rfl rfl rfl rfl (by rw [hz2]; omega) (by unfold maxLen; omega) (Nat.le_refl _) ?_; intro w1 hown hgr)
  have hb1 : Below w.heap.size w w1 := (Below.refl _ _).grown hgr (Nat.le_refl _) (fun k h => by cases h)
  have HC : Hid (Cpy w w1 w.heap.size n 0 (gi zs)) := cpy_made hb1 hown
  clear hown hgr
  go_loopw [4] (fun i wr => ∃ k : Nat, k ≤ n ∧ i = .int .i64 k ∧ Hid (Cpy w wr w.heap.size n k (gi zs))) (fun i _ => n - (intOf i).toNat)
  case atStart => exact ⟨0, Nat.zero_le _, rfl, HC⟩
  case round =>
    obtain ⟨k, hk, rfl, ha⟩ := hrel
    by_cases hlt : k < n
    · obtain ⟨b, o, rfl, h1⟩ := hx k (by rw [← Hn.out]; exact hlt)
      have hb : b < w.heap.size := cell_lt h1
      rw [← ha.out.1.cell (by exact hb)] at h1
      obtain ⟨u, h2⟩ := cpy_cell ha.out hlt
      have h3 := cpy_free ha.out k
      have HS : Hid (Cpy w (wr.setCell ⟨w.heap.size, k, none⟩ (.int .i64 (gi zs k))) w.heap.size n (k+1) (gi zs)) := cpy_step (Nat.le_refl _) hlt ha.out
      clear hb1 hx HC ha
      go_wp2
      go_roundw
      case rel => exact ⟨k+1, by omega, by go_num, HS⟩
      case measure => simp [intOf]; omega
    · obtain rfl : k = n := by omega
      have ha := ha.out
      have HO : Hid (OwnInts w.heap.size wr (.slice (some ⟨w.heap.size, 0, none⟩) k k) zs) := ⟨Hlim.out, by rw [← Hn.out]; exact cpy_own (Nat.le_refl _) Hlim.out Hn.out ha⟩
      have HB := Lib.hid ha.1
      clear ha hx hb1
      go_wp2
      go_ret
      exact ⟨_, rfl, HO.out, HB.out⟩


set_option maxHeartbeats 400000 in
theorem toHall_any (w : World) (v : Value) (h : PHall) (hv : HallAt w v h) :
    Calls Tryd.prog 44 #[v] w (fun e w' => ∃ g, e = .returned (.agg #[.int .i64 h.wide, .int .i64 h.deep, .slice (some ⟨g, 0, none⟩) h.cells.length h.cells.length]) ∧
      OwnInts w.heap.size w' (.slice (some ⟨g, 0, none⟩) h.cells.length h.cells.length) h.cells ∧ Below w.heap.size w w') := by
  obtain ⟨cv, rfl, hc⟩ := hv
  have HC := Lib.hid hc
  clear hc
  go_enter Tryd.func44, Tryd.ntmps44
  go_wp2_with fail
  refine (toIntS_any _ _ _ (HC.out.keep (((Below.refl _ _).alloc (Nat.le_refl _) _ |>.alloc (by simp) _ |>.alloc (by simp; omega) _)))).mono ?_
  rintro e w1 ⟨g, rfl, hown, hb⟩
  have HO := Lib.hid hown
  have HB := Lib.hid hb
  obtain ⟨hc, hf⟩ := bcell hb
  have hz : w.heap.size + 1 + 1 + 1 ≤ w1.heap.size := by have := hb.size; simp at this; omega
  clear hown hb
  go_wp2
  refine bodyPost_ret (v := .agg #[.int .i64 h.wide, .int .i64 h.deep, .slice (some ⟨g, 0, none⟩) h.cells.length h.cells.length]) (by simp [results, Tryd.results44, go_sem, hc]) rfl ⟨g, rfl, ?_, ?_⟩
  · have HO := HO.out
    simp only [World.size_alloc] at HO
    refine OwnInts.base (lo := w.heap.size + 1 + 1 + 1) ⟨HO.1, ?_⟩ (by omega)
    repeat (first | exact HO.2 | refine ownsRow_setCell_below ?_ (by simp; try omega) _)
  · have HB := HB.out
    refine ((((((Below.refl _ _).alloc (Nat.le_refl _) _).alloc (by simp) _).alloc (by simp; omega) _).trans (HB.mono (by simp; omega))).setCell (by simp; omega) _ |>.setCell (by simp) _ |>.setCell (by simp) _ |>.setCell (by simp) _)

set_option maxHeartbeats 400000 in
theorem eqHall_any (w : World) (v u : Value) (a b : PHall) (hv : HallAt w v a) (hu : HallAt w u b) :
    Calls Tryd.prog 45 #[v, u] w (Gives (.bool (eqHalls a b)) w) := by
  obtain ⟨cv, rfl, hc⟩ := hv
  obtain ⟨cu, rfl, hd⟩ := hu
  obtain ⟨x, y, cs⟩ := a
  obtain ⟨x', y', ds⟩ := b
  simp only at hc hd ⊢
  have HC := Lib.hid hc
  have HD := Lib.hid hd
  clear hc hd
  by_cases h1 : x = x'
  · by_cases h2 : y = y'
    · have HE : Hid (eqHalls ⟨x, y, cs⟩ ⟨x', y', ds⟩ = eqInts cs ds) := Lib.hid (by simp [eqHalls, h1, h2])
      subst h1 h2
      cases he : eqInts cs ds
      all_goals
        have HI := Lib.hid he
        clear he
        go_enter Tryd.func45, Tryd.ntmps45
        go_wp2_with (go_at_call 93; refine (eqIntS_any _ _ _ cs ds (HC.out.keep (((Below.refl _ _).alloc (Nat.le_refl _) _ |>.alloc (by simp) _))) (HD.out.keep (((Below.refl _ _).alloc (Nat.le_refl _) _ |>.alloc (by simp) _)))).mono ?_; rw [HI.out]; rintro e w' ⟨rfl, q, rfl⟩)
        go_ret
        exact gives_mk (by rw [HE.out, HI.out]; rfl) (below_drewN (((Below.refl _ _).alloc (Nat.le_refl _) _ |>.alloc (by simp) _)) _)
    · have HE : Hid (eqHalls ⟨x, y, cs⟩ ⟨x', y', ds⟩ = false) := Lib.hid (by simp [eqHalls, h2])
      have h2' : (y != y') = true := by simpa using h2
      subst h1
      clear h2
      go_enter Tryd.func45, Tryd.ntmps45
      go_wp2
      go_ret
      exact gives_mk (by rw [HE.out]; rfl) (((Below.refl _ _).alloc (Nat.le_refl _) _ |>.alloc (by simp) _))
  · have HE : Hid (eqHalls ⟨x, y, cs⟩ ⟨x', y', ds⟩ = false) := Lib.hid (by simp [eqHalls, h1])
    have h1' : (x != x') = true := by simpa using h1
    clear h1
    go_enter Tryd.func45, Tryd.ntmps45
    go_wp2
    go_ret
    exact gives_mk (by rw [HE.out]; rfl) (((Below.refl _ _).alloc (Nat.le_refl _) _ |>.alloc (by simp) _))

end Go.Proofs.YtnfjmcenjpoloaaDoor
