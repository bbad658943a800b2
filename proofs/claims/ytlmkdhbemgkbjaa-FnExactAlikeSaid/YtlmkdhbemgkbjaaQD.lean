/-
  The contracts of the exact laws' own functions, as facts on abstract values.
-/
import Derived.Test.YtlmkdhbemgkbjaaP6
import Derived.Test.YtlmkdhbemgkbjaaRow
import Derived.Test.YtlmkdhbemgkbjaaP4
set_option linter.unusedVariables false
set_option linter.unusedSimpArgs false
namespace Go.Proofs.Ytlmkdhbemgkbjaa
open Go Go.RowKit Go.Park Go.Sym

/-! raw arguments -/
theorem rel_of_rawInts {w : World} {v : Value} {zs : List Int} (h : RawInts w v zs) : relV (cx0 w (fun b => b < w.heap.size)) (intsV zs) v := by
  obtain ⟨ao, c, rfl, h1, h2, h3⟩ := h
  simp only [relV]
  refine ⟨pure_ints zs, ao, zs.length, c, rfl, h1, h2, by omega, by rw [ints_length, Nat.mul_one], ?_⟩
  by_cases h0 : zs = []
  · left; rw [h0]; rfl
  · right
    have hp : 0 < zs.length := List.length_pos_iff.2 h0
    obtain ⟨b, off, rfl, hc⟩ := h3 0 hp
    refine ⟨b, off, rfl, cell_lt hc, relC_of fun i x hx => ?_⟩
    have hi : i < zs.length := by
      have := (List.getElem?_eq_some_iff.1 hx).1
      rwa [ints_length] at this
    obtain ⟨b', off', e, hc'⟩ := h3 i hi
    cases e
    have := rd_get (cs := ints zs) (j := i) (by rw [ints_length]; exact hi)
    rw [hx, rd_ints] at this
    cases this
    exact ⟨_, hc', rfl, by simp [relV]⟩
theorem rel_of_rawHall {w : World} {v : Value} {h : PHall} (hh : RawHall w v h) : relV (cx0 w (fun b => b < w.heap.size)) (hallV h) v := by
  obtain ⟨ao, c, rfl, hc⟩ := hh
  have h3 := rel_of_rawInts (w := w) (zs := h.cells) ⟨ao, c, rfl, hc⟩
  simp only [relV, relL] at h3 ⊢
  exact ⟨[.int .i64 h.wide, .int .i64 h.deep, _], rfl, _, _, rfl, rfl, _, _, rfl, rfl, _, [], rfl, h3, rfl⟩
theorem rel_of_rawSlides {w : World} {v : Value} {l : List (Int × Int)} (h : RawSlides w v l) : relV (cx0 w (fun b => b < w.heap.size)) (slcV l) v := by
  obtain ⟨ao, c, rfl, h1, h2, h3⟩ := h
  simp only [relV]
  refine ⟨pure_slc l, ao, l.length, c, rfl, h1, h2, by omega, slc_length l, ?_⟩
  by_cases h0 : l = []
  · left; rw [h0]; rfl
  · right
    have hp : 0 < l.length := List.length_pos_iff.2 h0
    obtain ⟨b, off, rfl, hc, _⟩ := h3 0 hp
    refine ⟨b, off, rfl, cell_lt hc, relC_of fun i x hx => ?_⟩
    have hi : i < l.length * 2 := by
      have := (List.getElem?_eq_some_iff.1 hx).1
      rwa [slc_length] at this
    obtain ⟨b', off', e, hc1, hc2⟩ := h3 (i / 2) (by omega)
    cases e
    have hg := rd_get (cs := slc l) (j := i) (by rw [slc_length]; exact hi)
    rw [hx] at hg
    by_cases e : i % 2 = 0
    · have hi2 : i = i / 2 * 2 := by omega
      rw [hi2, rd_slc0] at hg
      cases hg
      refine ⟨_, ?_, rfl, by simp [relV]; rfl⟩
      have : off + i = off + i / 2 * 2 := by omega
      show w.cell? ⟨b, off + i, none⟩ = _
      rw [this]; exact hc1
    · have hi2 : i = i / 2 * 2 + 1 := by omega
      rw [hi2, rd_slc1] at hg
      cases hg
      refine ⟨_, ?_, rfl, by simp [relV]; rfl⟩
      have : off + i = off + i / 2 * 2 + 1 := by omega
      show w.cell? ⟨b, off + i, none⟩ = _
      rw [this]; exact hc2

/-! sizes -/
theorem szTo_ok {n : Nat} {left : Int} (h : ¬ szTo n left < 0) : (n : Int) ≤ left ∧ szTo n left = left - n := by
  by_cases h1 : left - n < 0
  · simp [szTo, h1] at h
  · simp [szTo, h1]; omega
theorem szHall_fn (h : PHall) (left : Int) (h0 : 0 ≤ left) (h1 : left ≤ 1048576) : FnS Try.prog 5 [hallV h, .int left] (.int (szTo h.cells.length left)) := by
  refine ⟨⟨_, Try.func5, by kernel_rfl, rfl⟩, fun w vs hp hx => ?_⟩
  simp only [relL, relV] at hx
  obtain ⟨v, _, rfl, ⟨_, rfl, _, _, rfl, rfl, _, _, rfl, rfl, _, _, rfl, ⟨_, ao, n, c, rfl, h2, h3, _, h4, _⟩, rfl⟩, u, _, rfl, rfl, rfl⟩ := hx
  rw [ints_length, Nat.mul_one] at h4
  subst h4
  exact (szHall_any w _ _ ao _ c left (by unfold maxLen at h3; omega) h0 h1).mono fun e w' hg => post_v hg
theorem toHall_fn (h : PHall) (hl : h.cells.length ≤ lim) : FnS Try.prog 7 [hallV h] (hallV h) := by
  refine ⟨⟨_, Try.func7, by kernel_rfl, rfl⟩, fun w vs hp hx => ?_⟩
  simp only [relL] at hx
  obtain ⟨v, _, rfl, h1, rfl⟩ := hx
  refine (toHall_any w v h (hall_of_rel h1 hl)).mono fun e w' hg => ?_
  obtain ⟨g, rfl, h2, h3⟩ := hg
  exact post_hall ⟨_, rfl, h2, h3⟩
theorem eqHall_fn (h : PHall) (hl : h.cells.length ≤ lim) : FnS Try.prog 9 [hallV h, hallV h] (.bool true) := by
  refine ⟨⟨_, Try.func9, by kernel_rfl, rfl⟩, fun w vs hp hx => ?_⟩
  simp only [relL] at hx
  obtain ⟨v, _, rfl, h1, v2, _, rfl, h2, rfl⟩ := hx
  have := eqHall_any w v v2 h h (hall_of_rel h1 hl) (hall_of_rel h2 hl)
  rw [show eqHalls h h = true by simp [eqHalls, eqInts_true]] at this
  exact this.mono fun e w' hg => post_v hg
theorem markHall_m (x y : Int) (l : List Int) (hl : l.length ≤ lim) (k : Int) (h0 : 0 ≤ k) (h1 : k ≤ 1152921504606846976) : FnM Try.prog 15 (fun t => .agg #[.int .i64 x, .int .i64 y, t]) (.int .i64 k) 3 1 (ints l) (ints (marks k l.length)) (.int .i64 (k + l.length)) := by
  refine ⟨⟨_, Try.func15, by kernel_rfl, rfl⟩, pure_ints _, by simp [ints_length, marks_length], fun w n xs t ho hn => ?_⟩
  rw [ints_length, Nat.mul_one] at hn
  subst hn
  refine (markHall_row w 0 x y t l.length xs k ho hl h0 h1).mono fun e w' ⟨e1, e2, e3⟩ => ⟨e1, e3, _, e2, fun cx => ints_map_rel cx _, fun u hu => ?_⟩
  obtain ⟨z, _, rfl⟩ := List.mem_map.1 hu
  rfl
theorem heldHall_fn (x y : Int) (n : Nat) (hn : n ≤ lim) (k : Int) (h0 : 0 ≤ k) (h1 : k ≤ 1152921504606846976) : FnS Try.prog 17 [.agg [.int x, .int y, intsV (marks k n)], .int k] (.int (k + n)) := by
  refine ⟨⟨_, Try.func17, by kernel_rfl, rfl⟩, fun w vs hp hx => ?_⟩
  simp only [relL] at hx
  obtain ⟨v, _, rfl, h2, u, _, rfl, h3, rfl⟩ := hx
  simp only [relV] at h3
  subst h3
  obtain ⟨cv, rfl, h4⟩ := hall_of_rel (h := ⟨x, y, marks k n⟩) h2 (by rw [marks_length]; exact hn)
  exact (heldHall_any w x y cv n k h4 h0 h1 hn).mono fun e w' hg => post_v hg
theorem toIntS_fn (l : List Int) (hl : l.length ≤ lim) : FnS Try.prog 22 [intsV l] (intsV l) := by
  refine ⟨⟨_, Try.func22, by kernel_rfl, rfl⟩, fun w vs hp hx => ?_⟩
  simp only [relL] at hx
  obtain ⟨v, _, rfl, h1, rfl⟩ := hx
  refine (toIntS_any w v l (at_of_rel h1 hl)).mono fun e w' hg => ?_
  obtain ⟨g, rfl, h2, h3⟩ := hg
  exact post_ints ⟨_, rfl, h2, h3⟩
theorem eqIntS_fn (l : List Int) (hl : l.length ≤ lim) : FnS Try.prog 28 [intsV l, intsV l] (.bool true) := by
  refine ⟨⟨_, Try.func28, by kernel_rfl, rfl⟩, fun w vs hp hx => ?_⟩
  simp only [relL] at hx
  obtain ⟨v, _, rfl, h1, v2, _, rfl, h2, rfl⟩ := hx
  have := eqIntS_any w v v2 l l (at_of_rel h1 hl) (at_of_rel h2 hl)
  rw [eqInts_true.2 rfl] at this
  exact (tells_gives this).mono fun e w' hg => post_v hg
theorem markIntS_m (l : List Int) (hl : l.length ≤ lim) (k : Int) (h0 : 0 ≤ k) (h1 : k ≤ 1152921504606846976) : FnM Try.prog 35 (fun t => t) (.int .i64 k) 3 1 (ints l) (ints (marks k l.length)) (.int .i64 (k + l.length)) := by
  refine ⟨⟨_, Try.func35, by kernel_rfl, rfl⟩, pure_ints _, by simp [ints_length, marks_length], fun w n xs t ho hn => ?_⟩
  rw [ints_length, Nat.mul_one] at hn
  subst hn
  refine (markIntS_row w 0 t l.length xs k ho hl h0 h1).mono fun e w' ⟨e1, e2, e3⟩ => ⟨e1, e3, _, e2, fun cx => ints_map_rel cx _, fun u hu => ?_⟩
  obtain ⟨z, _, rfl⟩ := List.mem_map.1 hu
  rfl
theorem heldIntS_fn (n : Nat) (hn : n ≤ lim) (k : Int) (h0 : 0 ≤ k) (h1 : k ≤ 1152921504606846976) : FnS Try.prog 36 [intsV (marks k n), .int k] (.int (k + n)) := by
  refine ⟨⟨_, Try.func36, by kernel_rfl, rfl⟩, fun w vs hp hx => ?_⟩
  simp only [relL] at hx
  obtain ⟨v, _, rfl, h2, u, _, rfl, h3, rfl⟩ := hx
  simp only [relV] at h3
  subst h3
  exact (tells_gives (heldIntS_any w v n k (at_of_rel h2 (by rw [marks_length]; exact hn)) h0 h1)).mono fun e w' hg => post_v hg
theorem szSlideS_fn (l : List (Int × Int)) (left : Int) (h0 : 0 ≤ left) (h1 : left ≤ 1048576) : FnS Try.prog 10 [slcV l, .int left] (.int (szTo l.length left)) := by
  refine ⟨⟨_, Try.func10, by kernel_rfl, rfl⟩, fun w vs hp hx => ?_⟩
  simp only [relL, relV] at hx
  obtain ⟨v, _, rfl, ⟨_, ao, n, c, rfl, h2, h3, _, h4, _⟩, u, _, rfl, rfl, rfl⟩ := hx
  rw [slc_length] at h4
  have : n = l.length := by omega
  subst this
  exact (tells_gives (szSlideS_any w ao _ c left (by unfold maxLen at h3; omega) h0 h1)).mono fun e w' hg => post_v hg
theorem toSlideS_fn (l : List (Int × Int)) (hl : l.length ≤ lim) : FnS Try.prog 12 [slcV l] (slcV l) := by
  refine ⟨⟨_, Try.func12, by kernel_rfl, rfl⟩, fun w vs hp hx => ?_⟩
  simp only [relL] at hx
  obtain ⟨v, _, rfl, h1, rfl⟩ := hx
  refine (toSlideS_any w v l (slides_of_rel h1 hl)).mono fun e w' hg => ?_
  obtain ⟨g, rfl, h2, h3⟩ := hg
  exact post_slc ⟨_, rfl, h2, h3⟩
theorem eqSlideS_fn (l : List (Int × Int)) (hl : l.length ≤ lim) : FnS Try.prog 14 [slcV l, slcV l] (.bool true) := by
  refine ⟨⟨_, Try.func14, by kernel_rfl, rfl⟩, fun w vs hp hx => ?_⟩
  simp only [relL] at hx
  obtain ⟨v, _, rfl, h1, v2, _, rfl, h2, rfl⟩ := hx
  exact (eqSlideS_same w v v2 l (slides_of_rel h1 hl) (slides_of_rel h2 hl)).mono fun e w' hg => post_v hg
theorem markSlideS_m (l : List (Int × Int)) (hl : l.length ≤ lim) (k : Int) (h0 : 0 ≤ k) (h1 : k ≤ 1152921504606846976) : FnM Try.prog 16 (fun t => t) (.int .i64 k) 50 2 (slc l) (slc (smarks k l.length)) (.int .i64 (k + 2 * l.length)) := by
  refine ⟨⟨_, Try.func16, by kernel_rfl, rfl⟩, pure_slc _, by simp [slc_length, smarks_length], fun w n xs t ho hn => ?_⟩
  rw [slc_length] at hn
  have : n = l.length := by omega
  subst this
  exact (markSlideS_row w 0 t l.length xs k ho hl h0 h1).mono fun e w' ⟨e1, e2, e3⟩ => ⟨e1, e3, _, e2, fun cx => slc_flat_rel cx _, flat_one _⟩
end Go.Proofs.Ytlmkdhbemgkbjaa
