/-
  What the laws' own helpers do: copies of slices and halls, their sizes, their comparison, the marks.
-/
import Derived.Test.YtcjhlhikolaffaaDoorProg
import Derived.Test.YtcjhlhikolaffaaDoorBase
set_option linter.unusedVariables false
namespace Go.Proofs.YtcjhlhikolaffaaDoor
open Go Go.RowKit Go.Park

/-- a slice of ints of the call's own, in a block from lo on -/
def OwnInts (lo : Nat) (w : World) (v : Value) (l : List Int) : Prop := l.length ≤ lim ∧ w.ownsRow lo 3 1 v l.length (l.map (Value.int .i64))
theorem OwnInts.at {lo : Nat} {w : World} {v : Value} {l : List Int} (h : OwnInts lo w v l) : IntsAt w v l := intsAt_of_own h.1 h.2
theorem OwnInts.keep {lo : Nat} {w w' : World} {v : Value} {l : List Int} (h : OwnInts lo w v l) (hb : Below w.heap.size w w') : OwnInts lo w' v l := ⟨h.1, own_keep h.2 hb⟩
theorem OwnInts.base {lo lo' : Nat} {w : World} {v : Value} {l : List Int} (h : OwnInts lo w v l) (hl : lo' ≤ lo) : OwnInts lo' w v l := ⟨h.1, own_base h.2 hl⟩
theorem OwnInts.blk {lo : Nat} {w : World} {v : Value} {l : List Int} (h : OwnInts lo w v l) : Blk v lo w.heap.size := blk_of_own h.2
theorem OwnInts.keepG {lo lo1 hi1 lo2 hi2 : Nat} {w w' : World} {u v : Value} {l : List Int} (h : OwnInts lo w v l) (hg : w.grownBy w' u.ownBlock) (hu : Blk u lo1 hi1) (hv : Blk v lo2 hi2) (hd : hi1 ≤ lo2 ∨ hi2 ≤ lo1) : OwnInts lo w' v l :=
  ⟨h.1, own_keepG h.2 hg hu hv hd⟩
theorem OwnInts.slice {lo : Nat} {w : World} {v : Value} {l : List Int} (h : OwnInts lo w v l) : ∃ ao c, v = .slice ao l.length c := by
  obtain ⟨ao, c, e, _⟩ := h.at
  exact ⟨ao, c, e⟩
/-- a hall of the call's own: the value of its cells is cv -/
def OwnHall (lo : Nat) (w : World) (v cv : Value) (h : PHall) : Prop := v = .agg #[.int .i64 h.wide, .int .i64 h.deep, cv] ∧ OwnInts lo w cv h.cells
theorem OwnHall.at {lo : Nat} {w : World} {v cv : Value} {h : PHall} (hh : OwnHall lo w v cv h) : HallAt w v h := ⟨cv, hh.1, hh.2.at⟩

def AgreeTo (f g : Nat → Int) (k : Nat) : Prop := ∀ j, j < k → f j = g j
theorem agree_zero (f g : Nat → Int) : AgreeTo f g 0 := fun j h => by omega
theorem agree_succ {f g : Nat → Int} {k : Nat} (h : AgreeTo f g k) (e : f k = g k) : AgreeTo f g (k+1) := fun j hj => by
  rcases Nat.lt_succ_iff_lt_or_eq.1 hj with h1 | rfl
  · exact h j h1
  · exact e
theorem agree_all {xs ys : List Int} (hl : xs.length = ys.length) (h : AgreeTo (gi xs) (gi ys) xs.length) : eqInts xs ys = true := eqInts_true.2 (ext_gi hl h)
theorem agree_not {xs ys : List Int} {k : Nat} (e : gi xs k ≠ gi ys k) : eqInts xs ys = false := by
  rw [eqInts_false]; rintro rfl; exact e rfl


def szTo (n : Nat) (left : Int) : Int := if left - n < 0 then -1 else left - n



/-! the copy of a slice of ints -/
def Cpy (w wr : World) (g : Nat) (n k : Nat) (f : Nat → Int) : Prop :=
  Below w.heap.size w wr ∧ ∃ cur, wr.heap[g]? = some (.cells cur 3 (0, 0)) ∧ cur.size = n ∧ ∀ j, j < k → cur[j]? = some (.int .i64 (f j))
theorem cpy_step {w wr : World} {g n k : Nat} {f : Nat → Int} (hg : w.heap.size ≤ g) (hk : k < n) (h : Cpy w wr g n k f) : Cpy w (wr.setCell ⟨g, k, none⟩ (.int .i64 (f k))) g n (k+1) f := by
  obtain ⟨hb, cur, hc, hs, hf⟩ := h
  refine ⟨hb.setCell (by exact hg) _, cur.setIfInBounds k (.int .i64 (f k)), ?_, by simp [hs], ?_⟩
  · simp only [World.setCell, Array.getElem?_modify, hc]; simp
  · intro j hj
    rw [Array.getElem?_setIfInBounds]
    by_cases e : k = j
    · subst e; simp [hs, hk]
    · rw [if_neg e]; exact hf j (by omega)
theorem cpy_cell {w wr : World} {g n k j : Nat} {f : Nat → Int} (h : Cpy w wr g n k f) (hj : j < n) : ∃ u, wr.cell? ⟨g, j, none⟩ = some u := by
  obtain ⟨hb, cur, hc, hs, hf⟩ := h
  exact ⟨cur[j]'(by omega), by rw [cell_of_row wr g j cur _ _ hc]; simp [show j < cur.size by omega]⟩
theorem cpy_free {w wr : World} {g n k : Nat} {f : Nat → Int} (h : Cpy w wr g n k f) (j : Nat) : wr.frozen? ⟨g, j, none⟩ = false := by
  obtain ⟨hb, cur, hc, hs, hf⟩ := h
  simp [World.frozen?, hc]
theorem cpy_made {w w1 : World} {g n : Nat} {f : Nat → Int} {xs : List Value} (hb : Below w.heap.size w w1) (h : w1.ownsRow w.heap.size 3 1 (.slice (some ⟨g, 0, none⟩) n n) n xs) : Cpy w w1 g n 0 f := by
  rcases h.2 with ⟨e, _⟩ | ⟨g', cap, cur, e, _, hg, _, _, hcs, _⟩
  · cases e
  · cases e
    exact ⟨hb, cur, hg, by simpa using hcs, fun j hj => by omega⟩
theorem cpy_own {w wr : World} {g n : Nat} {zs : List Int} (hg : w.heap.size ≤ g) (hn : zs.length ≤ lim) (hnn : n = zs.length) (h : Cpy w wr g n n (gi zs)) :
    wr.ownsRow w.heap.size 3 1 (.slice (some ⟨g, 0, none⟩) n n) n (zs.map (Value.int .i64)) := by
  subst hnn
  obtain ⟨hb, cur, hc, hs, hf⟩ := h
  refine ⟨by simp, .inr ⟨g, zs.length, cur, rfl, hg, hc, Nat.le_refl _, by unfold lim at hn; unfold maxLen; omega, by simp [hs], ?_⟩⟩
  apply List.ext_getElem?
  intro i
  rw [List.getElem?_take, List.getElem?_map]
  by_cases hi : i < zs.length
  · rw [if_pos (by omega), gi_of_lt hi]
    simpa using hf i hi
  · rw [if_neg (by omega), List.getElem?_eq_none (by omega)]; rfl

theorem Tryd.infoInt : (Tryd.prog.info? 3).map (fun i => (i.zero, i.size, i.bytes)) = some (some (.int .i64 0), 1, 8) := by kernel_rfl






end Go.Proofs.YtcjhlhikolaffaaDoor
