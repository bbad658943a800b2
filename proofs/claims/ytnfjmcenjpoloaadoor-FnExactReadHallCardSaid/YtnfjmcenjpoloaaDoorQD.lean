/-
  The contracts of the exact laws' own functions, as facts on abstract values.
-/
import Derived.Test.YtnfjmcenjpoloaaDoorP6
import Derived.Test.YtnfjmcenjpoloaaDoorRow
import Derived.Test.YtnfjmcenjpoloaaDoorP4
set_option linter.unusedVariables false
set_option linter.unusedSimpArgs false
namespace Go.Proofs.YtnfjmcenjpoloaaDoor
open Go Go.RowKit Go.Park Go.Sym

/-! raw arguments -/
theorem rel_of_rawInts {w : World} {v : Value} {zs : List Int} (h : RawInts w v zs) : relV (cx0 w (fun b => b < w.heap.size)) (intsV zs) v := by
  obtain ⟨ao, c, rfl, h1, h2, h3⟩ := h
  simp only [relV]
  refine ⟨pure_ints zs, ao, zs.length, c, rfl, h1, h2, by omega, by rw [ints_length, Nat.mul_one], ?_⟩
  by_cases h0 : zs = []
  · left; rw [h0]; rfl
  · right
    have hp : 0 < zs.length := List.length_pos_iff.2 h0
    obtain ⟨b, off, rfl, hc⟩ := h3 0 hp
    refine ⟨b, off, rfl, cell_lt hc, relC_of fun i x hx => ?_⟩
    have hi : i < zs.length := by
      have := (List.getElem?_eq_some_iff.1 hx).1
      rwa [ints_length] at this
    obtain ⟨b', off', e, hc'⟩ := h3 i hi
    cases e
    have := rd_get (cs := ints zs) (j := i) (by rw [ints_length]; exact hi)
    rw [hx, rd_ints] at this
    cases this
    exact ⟨_, hc', rfl, by simp [relV]⟩
theorem rel_of_rawHall {w : World} {v : Value} {h : PHall} (hh : RawHall w v h) : relV (cx0 w (fun b => b < w.heap.size)) (hallV h) v := by
  obtain ⟨ao, c, rfl, hc⟩ := hh
  have h3 := rel_of_rawInts (w := w) (zs := h.cells) ⟨ao, c, rfl, hc⟩
  simp only [relV, relL] at h3 ⊢
  exact ⟨[.int .i64 h.wide, .int .i64 h.deep, _], rfl, _, _, rfl, rfl, _, _, rfl, rfl, _, [], rfl, h3, rfl⟩

/-! sizes -/
theorem szTo_ok {n : Nat} {left : Int} (h : ¬ szTo n left < 0) : (n : Int) ≤ left ∧ szTo n left = left - n := by
  by_cases h1 : left - n < 0
  · simp [szTo, h1] at h
  · simp [szTo, h1]; omega
theorem szHall_fn (h : PHall) (left : Int) (h0 : 0 ≤ left) (h1 : left ≤ 1048576) : FnS Tryd.prog 43 [hallV h, .int left] (.int (szTo h.cells.length left)) := by
  refine ⟨⟨_, Tryd.func43, by kernel_rfl, rfl⟩, fun w vs hp hx => ?_⟩
  simp only [relL, relV] at hx
  obtain ⟨v, _, rfl, ⟨_, rfl, _, _, rfl, rfl, _, _, rfl, rfl, _, _, rfl, ⟨_, ao, n, c, rfl, h2, h3, _, h4, _⟩, rfl⟩, u, _, rfl, rfl, rfl⟩ := hx
  rw [ints_length, Nat.mul_one] at h4
  subst h4
  exact (szHall_any w _ _ ao _ c left (by unfold maxLen at h3; omega) h0 h1).mono fun e w' hg => post_v hg
theorem toHall_fn (h : PHall) (hl : h.cells.length ≤ lim) : FnS Tryd.prog 44 [hallV h] (hallV h) := by
  refine ⟨⟨_, Tryd.func44, by kernel_rfl, rfl⟩, fun w vs hp hx => ?_⟩
  simp only [relL] at hx
  obtain ⟨v, _, rfl, h1, rfl⟩ := hx
  refine (toHall_any w v h (hall_of_rel h1 hl)).mono fun e w' hg => ?_
  obtain ⟨g, rfl, h2, h3⟩ := hg
  exact post_hall ⟨_, rfl, h2, h3⟩
theorem eqHall_fn (h : PHall) (hl : h.cells.length ≤ lim) : FnS Tryd.prog 45 [hallV h, hallV h] (.bool true) := by
  refine ⟨⟨_, Tryd.func45, by kernel_rfl, rfl⟩, fun w vs hp hx => ?_⟩
  simp only [relL] at hx
  obtain ⟨v, _, rfl, h1, v2, _, rfl, h2, rfl⟩ := hx
  have := eqHall_any w v v2 h h (hall_of_rel h1 hl) (hall_of_rel h2 hl)
  rw [show eqHalls h h = true by simp [eqHalls, eqInts_true]] at this
  exact this.mono fun e w' hg => post_v hg
theorem markHall_m (x y : Int) (l : List Int) (hl : l.length ≤ lim) (k : Int) (h0 : 0 ≤ k) (h1 : k ≤ 1152921504606846976) : FnM Tryd.prog 46 (fun t => .agg #[.int .i64 x, .int .i64 y, t]) (.int .i64 k) 3 1 (ints l) (ints (marks k l.length)) (.int .i64 (k + l.length)) := by
  refine ⟨⟨_, Tryd.func46, by kernel_rfl, rfl⟩, pure_ints _, by simp [ints_length, marks_length], fun w n xs t ho hn => ?_⟩
  rw [ints_length, Nat.mul_one] at hn
  subst hn
  refine (markHall_row w 0 x y t l.length xs k ho hl h0 h1).mono fun e w' ⟨e1, e2, e3⟩ => ⟨e1, e3, _, e2, fun cx => ints_map_rel cx _, fun u hu => ?_⟩
  obtain ⟨z, _, rfl⟩ := List.mem_map.1 hu
  rfl
theorem heldHall_fn (x y : Int) (n : Nat) (hn : n ≤ lim) (k : Int) (h0 : 0 ≤ k) (h1 : k ≤ 1152921504606846976) : FnS Tryd.prog 47 [.agg [.int x, .int y, intsV (marks k n)], .int k] (.int (k + n)) := by
  refine ⟨⟨_, Tryd.func47, by kernel_rfl, rfl⟩, fun w vs hp hx => ?_⟩
  simp only [relL] at hx
  obtain ⟨v, _, rfl, h2, u, _, rfl, h3, rfl⟩ := hx
  simp only [relV] at h3
  subst h3
  obtain ⟨cv, rfl, h4⟩ := hall_of_rel (h := ⟨x, y, marks k n⟩) h2 (by rw [marks_length]; exact hn)
  exact (heldHall_any w x y cv n k h4 h0 h1 hn).mono fun e w' hg => post_v hg
end Go.Proofs.YtnfjmcenjpoloaaDoor
