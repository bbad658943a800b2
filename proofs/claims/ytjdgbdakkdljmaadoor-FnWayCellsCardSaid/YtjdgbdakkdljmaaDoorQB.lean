/-
  The program's types, and the contracts of single functions as facts on abstract values.
-/
import Derived.Test.YtjdgbdakkdljmaaDoorQH
import Derived.Test.YtjdgbdakkdljmaaDoorZ
import Derived.Test.YtjdgbdakkdljmaaDoorY2
import Derived.Test.YtjdgbdakkdljmaaDoorK3
import Derived.Test.YtjdgbdakkdljmaaDoorK5
set_option linter.unusedVariables false
set_option linter.unusedSimpArgs false
namespace Go.Proofs.YtjdgbdakkdljmaaDoor
open Go Go.RowKit Go.Park Go.Sym

def T : List (Nat × TyI) :=
  (3, ⟨false, 1, 8, [.int .i64], .int .i64⟩) ::
  (4, ⟨false, 1, 1, [.bool], .bool⟩) ::
  (23, ⟨false, 1, 24, [.nilsl], .slice 3⟩) ::
  (25, ⟨true, 3, 40, [.int .i64, .int .i64, .nilsl], .struct [(0, 3, 1), (1, 3, 1), (2, 23, 1)]⟩) ::
  (40, ⟨true, 2, 16, [.int .i64, .int .i64], .struct [(0, 3, 1), (1, 3, 1)]⟩) ::
  (36, ⟨false, 1, 24, [.nilsl], .slice 40⟩) ::
  (5, ⟨false, 1, 1, [.int .u8], .int .u8⟩) ::
  (9, ⟨false, 1, 16, [.str], .str⟩) ::
  (22, ⟨false, 1, 24, [.nilsl], .slice 5⟩) ::
  (102, ⟨true, 2, 32, [.nilsl, .int .i64], .struct [(0, 22, 1), (1, 3, 1)]⟩) ::
  []
theorem tabOk : TabOk Tryd.prog T := (by kernel_rfl : chkAll Tryd.prog T = true)
theorem mixed : (Tryd.prog).follows .mixedOrders = true := by kernel_rfl

/-! ### what a value reads as, in the two tongues -/
theorem at_of_rel {w : World} {v : Value} {zs : List Int} (h : relV (cx0 w (fun b => b < w.heap.size)) (intsV zs) v) (hl : zs.length ≤ lim) : IntsAt w v zs := by
  simp only [relV] at h
  obtain ⟨_, ao, n, c, rfl, h1, h2, _, h3, h4⟩ := h
  rw [ints_length, Nat.mul_one] at h3
  subst h3
  refine ⟨ao, c, rfl, hl, ⟨h1, h2⟩, fun j hj => ?_⟩
  rcases h4 with h4 | ⟨b, off, rfl, _, h5⟩
  · have := congrArg List.length h4
    rw [ints_length] at this
    simp at this
    subst this; simp at hj
  · obtain ⟨u, k1, _, k2⟩ := relC_get h5 j (.int (gi zs j)) (by
      have := rd_get (cs := ints zs) (j := j) (by rw [ints_length]; exact hj)
      rw [this, rd_ints])
    simp only [relV] at k2
    subst k2
    exact ⟨b, off, rfl, k1⟩
theorem rel_of_at {w : World} {v : Value} {zs : List Int} (h : IntsAt w v zs) : relV (cx0 w (fun b => b < w.heap.size)) (intsV zs) v := by
  obtain ⟨ao, c, rfl, _, ⟨h1, h2⟩, h3⟩ := h
  simp only [relV]
  refine ⟨pure_ints zs, ao, zs.length, c, rfl, h1, h2, by omega, by rw [ints_length, Nat.mul_one], ?_⟩
  by_cases h0 : zs = []
  · left; rw [h0]; rfl
  · right
    have hp : 0 < zs.length := List.length_pos_iff.2 h0
    obtain ⟨b, off, rfl, hc⟩ := h3 0 hp
    refine ⟨b, off, rfl, cell_lt hc, relC_of fun i x hx => ?_⟩
    have hi : i < zs.length := by
      have := (List.getElem?_eq_some_iff.1 hx).1
      rwa [ints_length] at this
    obtain ⟨b', off', e, hc'⟩ := h3 i hi
    cases e
    have := rd_get (cs := ints zs) (j := i) (by rw [ints_length]; exact hi)
    rw [hx, rd_ints] at this
    cases this
    exact ⟨_, hc', rfl, by simp [relV]⟩
theorem hall_of_rel {w : World} {v : Value} {h : PHall} (hh : relV (cx0 w (fun b => b < w.heap.size)) (hallV h) v) (hl : h.cells.length ≤ lim) : HallAt w v h := by
  simp only [relV, relL] at hh
  obtain ⟨vs, rfl, u0, us0, rfl, rfl, u1, us1, rfl, rfl, u2, us2, rfl, h3, rfl⟩ := hh
  exact ⟨u2, rfl, at_of_rel (by simpa only [relV] using h3) hl⟩
theorem rel_of_hall {w : World} {v : Value} {h : PHall} (hh : HallAt w v h) : relV (cx0 w (fun b => b < w.heap.size)) (hallV h) v := by
  obtain ⟨cv, rfl, hc⟩ := hh
  have h3 := rel_of_at hc
  simp only [relV, relL] at h3 ⊢
  exact ⟨[.int .i64 h.wide, .int .i64 h.deep, cv], rfl, _, _, rfl, rfl, _, _, rfl, rfl, cv, [], rfl, h3, rfl⟩
theorem pure_hall (h : PHall) : pureV (hallV h) := by
  simp only [pureV, pureL]
  exact ⟨trivial, trivial, pure_ints _, trivial⟩
theorem slides_of_rel {w : World} {v : Value} {l : List (Int × Int)} (h : relV (cx0 w (fun b => b < w.heap.size)) (slcV l) v) (hl : l.length ≤ lim) : SlidesAt w v l := by
  simp only [relV] at h
  obtain ⟨_, ao, n, c, rfl, h1, h2, _, h3, h4⟩ := h
  rw [slc_length] at h3
  have hn : n = l.length := by omega
  subst hn
  refine ⟨ao, c, rfl, hl, ⟨h1, h2⟩, fun j hj => ?_⟩
  rcases h4 with h4 | ⟨b, off, rfl, _, h5⟩
  · have := congrArg List.length h4
    rw [slc_length] at this
    simp at this
    omega
  · obtain ⟨u, k1, _, k2⟩ := relC_get h5 (j * 2) (.int (gs l j).1) (by
      have := rd_get (cs := slc l) (j := j * 2) (by rw [slc_length]; omega)
      rw [this, rd_slc0])
    obtain ⟨u', k3, _, k4⟩ := relC_get h5 (j * 2 + 1) (.int (gs l j).2) (by
      have := rd_get (cs := slc l) (j := j * 2 + 1) (by rw [slc_length]; omega)
      rw [this, rd_slc1])
    simp only [relV] at k2 k4
    subst k2 k4
    exact ⟨b, off, rfl, k1, by rw [Nat.add_assoc]; exact k3⟩
theorem rel_of_slides {w : World} {v : Value} {l : List (Int × Int)} (h : SlidesAt w v l) : relV (cx0 w (fun b => b < w.heap.size)) (slcV l) v := by
  obtain ⟨ao, c, rfl, _, ⟨h1, h2⟩, h3⟩ := h
  simp only [relV]
  refine ⟨pure_slc l, ao, l.length, c, rfl, h1, h2, by omega, slc_length l, ?_⟩
  by_cases h0 : l = []
  · left; rw [h0]; rfl
  · right
    have hp : 0 < l.length := List.length_pos_iff.2 h0
    obtain ⟨b, off, rfl, hc, _⟩ := h3 0 hp
    refine ⟨b, off, rfl, cell_lt hc, relC_of fun i x hx => ?_⟩
    have hi : i < l.length * 2 := by
      have := (List.getElem?_eq_some_iff.1 hx).1
      rwa [slc_length] at this
    obtain ⟨b', off', e, hc1, hc2⟩ := h3 (i / 2) (by omega)
    cases e
    have hg := rd_get (cs := slc l) (j := i) (by rw [slc_length]; exact hi)
    rw [hx] at hg
    by_cases e : i % 2 = 0
    · have hi2 : i = i / 2 * 2 := by omega
      rw [hi2, rd_slc0] at hg
      cases hg
      refine ⟨_, ?_, rfl, by simp [relV]; rfl⟩
      have : off + i = off + i / 2 * 2 := by omega
      show w.cell? ⟨b, off + i, none⟩ = _
      rw [this]; exact hc1
    · have hi2 : i = i / 2 * 2 + 1 := by omega
      rw [hi2, rd_slc1] at hg
      cases hg
      refine ⟨_, ?_, rfl, by simp [relV]; rfl⟩
      have : off + i = off + i / 2 * 2 + 1 := by omega
      show w.cell? ⟨b, off + i, none⟩ = _
      rw [this]; exact hc2

/-! what a call gives -/
theorem post_v {w w' : World} {e : Ending} {c : Value} (h : Gives c w e w') : ∃ v bs, e = .returned v ∧ FnPost w w' (.v c) v bs := ⟨c, [], h.1, ⟨h.2, by simp, by simp, by simp [relO]⟩⟩
theorem blk_nodup (o : Option Nat) : o.toList.Nodup := by cases o <;> simp
theorem ints_map_rel (cx : Cx) : ∀ (zs : List Int), relL cx (ints zs) (zs.map (Value.int .i64))
  | [] => by simp [ints, relL]
  | z :: zs => by simp only [ints, List.map_cons, relL, relV]; exact ⟨_, _, rfl, rfl, ints_map_rel cx zs⟩
theorem slc_flat_rel (cx : Cx) : ∀ (l : List (Int × Int)), relL cx (slc l) (flat l)
  | [] => by simp [slc, flat, relL]
  | s :: l => by simp only [slc, flat, relL, relV]; exact ⟨_, _, rfl, rfl, _, _, rfl, rfl, slc_flat_rel cx l⟩
theorem flat_one : ∀ (l : List (Int × Int)) (u : Value), u ∈ flat l → u.oneCell' = true
  | [], u, h => by simp [flat] at h
  | s :: l, u, h => by
    simp only [flat, List.mem_cons] at h
    rcases h with rfl | rfl | h
    · rfl
    · rfl
    · exact flat_one l u h
theorem relO_ints {w' : World} {lo : Nat} {v : Value} {l : List Int} (h : OwnInts lo w' v l) (Zr : Nat → Prop) : relO w' lo Zr (intsV l) v v.ownBlock.toList := by
  rw [relO]
  refine ⟨rfl, by omega, pure_ints l, l.length, _, h.2, by rw [ints_length, Nat.mul_one], ints_map_rel _ l, fun u hu => ?_⟩
  obtain ⟨z, _, rfl⟩ := List.mem_map.1 hu
  rfl
theorem relO_slc {w' : World} {lo : Nat} {v : Value} {l : List (Int × Int)} (h : OwnSlides lo w' v l) (Zr : Nat → Prop) : relO w' lo Zr (slcV l) v v.ownBlock.toList := by
  rw [relO]
  exact ⟨rfl, by omega, pure_slc l, l.length, _, h.2, slc_length l, slc_flat_rel _ l, flat_one l⟩
theorem blk_ge {w' : World} {lo : Nat} {e s n : Nat} {v : Value} {xs : List Value} (h : w'.ownsRow lo e s v n xs) : ∀ b, b ∈ v.ownBlock.toList → lo ≤ b := fun b hb => (h.lt b (by simpa using hb)).1
theorem post_ints {w w' : World} {e : Ending} {l : List Int} (h : GivesInts l w e w') : ∃ v bs, e = .returned v ∧ FnPost w w' (intsV l) v bs := by
  obtain ⟨v, rfl, ho, hb⟩ := h
  exact ⟨v, _, rfl, ⟨hb, blk_nodup _, blk_ge ho.2, relO_ints ho _⟩⟩
theorem post_slc {w w' : World} {e : Ending} {l : List (Int × Int)} (h : GivesSlides l w e w') : ∃ v bs, e = .returned v ∧ FnPost w w' (slcV l) v bs := by
  obtain ⟨v, rfl, ho, hb⟩ := h
  exact ⟨v, _, rfl, ⟨hb, blk_nodup _, blk_ge ho.2, relO_slc ho _⟩⟩
theorem relO_hall {w' : World} {lo : Nat} {cv : Value} {h : PHall} (ho : OwnInts lo w' cv h.cells) (Zr : Nat → Prop) : relO w' lo Zr (hallV h) (.agg #[.int .i64 h.wide, .int .i64 h.deep, cv]) cv.ownBlock.toList := by
  rw [relO]
  refine ⟨[.int .i64 h.wide, .int .i64 h.deep, cv], rfl, ?_⟩
  rw [relOL]
  refine ⟨_, _, [], cv.ownBlock.toList, rfl, rfl, by rw [relO]; exact ⟨rfl, rfl⟩, ?_⟩
  rw [relOL]
  refine ⟨_, _, [], cv.ownBlock.toList, rfl, rfl, by rw [relO]; exact ⟨rfl, rfl⟩, ?_⟩
  rw [relOL]
  refine ⟨_, _, cv.ownBlock.toList, [], rfl, by simp, relO_ints ho Zr, ?_⟩
  rw [relOL]
  exact ⟨rfl, rfl⟩
theorem post_hall {w w' : World} {e : Ending} {h : PHall} (hg : GivesHall h w e w') : ∃ v bs, e = .returned v ∧ FnPost w w' (hallV h) v bs := by
  obtain ⟨cv, rfl, ho, hb⟩ := hg
  exact ⟨_, _, rfl, ⟨hb, blk_nodup _, blk_ge ho.2, relO_hall ho _⟩⟩
theorem post_hv {w w' : World} {e : Ending} {h : PHall} {x : Value} (hg : GivesHallV h x w e w') : ∃ v bs, e = .returned v ∧ FnPost w w' (.tup [hallV h, .v x]) v bs := by
  obtain ⟨cv, rfl, ho, hb⟩ := hg
  refine ⟨_, cv.ownBlock.toList, rfl, ⟨hb, blk_nodup _, blk_ge ho.2, ?_⟩⟩
  rw [relO]
  refine ⟨[_, x], rfl, ?_⟩
  rw [relOL]
  refine ⟨_, _, cv.ownBlock.toList, [], rfl, by simp, relO_hall ho _, ?_⟩
  rw [relOL]
  refine ⟨_, _, [], [], rfl, rfl, by rw [relO]; exact ⟨rfl, rfl⟩, ?_⟩
  rw [relOL]
  exact ⟨rfl, rfl⟩

/-! the way back -/
theorem owns_lo {w' : World} {lo lo' : Nat} {e s n : Nat} {v : Value} {xs : List Value} (h : w'.ownsRow lo e s v n xs) : w'.ownsRow lo e s v n xs := h
theorem rel_vals_ints {cx : Cx} : ∀ {zs : List Int} {xs : List Value}, relL cx (ints zs) xs → xs = zs.map (Value.int .i64)
  | [], xs, h => by simpa [ints, relL] using h
  | z :: zs, xs, h => by
    simp only [ints, List.map_cons, relL, relV] at h
    obtain ⟨u, us, rfl, rfl, h⟩ := h
    rw [rel_vals_ints (zs := zs) h]; rfl
theorem rel_vals_slc {cx : Cx} : ∀ {l : List (Int × Int)} {xs : List Value}, relL cx (slc l) xs → xs = flat l
  | [], xs, h => by simpa [slc, relL, flat] using h
  | s :: l, xs, h => by
    simp only [slc, relL, relV] at h
    obtain ⟨u, us, rfl, rfl, u2, us2, rfl, rfl, h⟩ := h
    rw [rel_vals_slc h]; rfl
theorem own_of_relO {w' : World} {lo : Nat} {Zr : Nat → Prop} {v : Value} {l : List Int} {bs : List Nat} (h : relO w' lo Zr (intsV l) v bs) (hl : l.length ≤ lim) : OwnInts lo w' v l := by
  simp only [relO] at h
  obtain ⟨_, _, _, n, xs, h1, h2, h3, _⟩ := h
  rw [ints_length, Nat.mul_one] at h2
  subst h2
  rw [rel_vals_ints h3] at h1
  exact ⟨hl, h1⟩
theorem ownS_of_relO {w' : World} {lo : Nat} {Zr : Nat → Prop} {v : Value} {l : List (Int × Int)} {bs : List Nat} (h : relO w' lo Zr (slcV l) v bs) (hl : l.length ≤ lim) : OwnSlides lo w' v l := by
  simp only [relO] at h
  obtain ⟨_, _, _, n, xs, h1, h2, h3, _⟩ := h
  rw [slc_length] at h2
  have : n = l.length := by omega
  subst this
  rw [rel_vals_slc h3] at h1
  exact ⟨hl, h1⟩
theorem gives_ints_of {w w' : World} {e : Ending} {l : List Int} (hl : l.length ≤ lim) (h : ∃ v bs, e = .returned v ∧ FnPost w w' (intsV l) v bs) : GivesInts l w e w' := by
  obtain ⟨v, bs, rfl, hp⟩ := h
  exact ⟨v, rfl, own_of_relO hp.rel hl, hp.below⟩
theorem gives_slc_of {w w' : World} {e : Ending} {l : List (Int × Int)} (hl : l.length ≤ lim) (h : ∃ v bs, e = .returned v ∧ FnPost w w' (slcV l) v bs) : GivesSlides l w e w' := by
  obtain ⟨v, bs, rfl, hp⟩ := h
  exact ⟨v, rfl, ownS_of_relO hp.rel hl, hp.below⟩
theorem gives_v_of {w w' : World} {e : Ending} {c : Value} (h : ∃ v bs, e = .returned v ∧ FnPost w w' (.v c) v bs) : Gives c w e w' := by
  obtain ⟨v, bs, rfl, hp⟩ := h
  have := hp.rel
  simp only [relO] at this
  rw [this.1]
  exact ⟨rfl, hp.below⟩
theorem own_hall_of {w' : World} {lo : Nat} {Zr : Nat → Prop} {v : Value} {h : PHall} {bs : List Nat} (hr : relO w' lo Zr (hallV h) v bs) (hl : h.cells.length ≤ lim) : ∃ cv, v = .agg #[.int .i64 h.wide, .int .i64 h.deep, cv] ∧ OwnInts lo w' cv h.cells := by
  simp only [relO, relOL] at hr
  obtain ⟨vs, rfl, u0, us0, b0, c0, rfl, rfl, ⟨rfl, rfl⟩, u1, us1, b1, c1, rfl, rfl, ⟨rfl, rfl⟩, u2, us2, b2, c2, rfl, rfl, h1, rfl, rfl⟩ := hr
  exact ⟨u2, rfl, own_of_relO (Zr := Zr) (bs := b2) (by simp only [relO]; exact h1) hl⟩
theorem gives_hall_of {w w' : World} {e : Ending} {h : PHall} (hl : h.cells.length ≤ lim) (hh : ∃ v bs, e = .returned v ∧ FnPost w w' (hallV h) v bs) : GivesHall h w e w' := by
  obtain ⟨v, bs, rfl, hp⟩ := hh
  obtain ⟨cv, rfl, ho⟩ := own_hall_of hp.rel hl
  exact ⟨cv, rfl, ho, hp.below⟩
theorem gives_hv_of {w w' : World} {e : Ending} {h : PHall} {x : Value} (hl : h.cells.length ≤ lim) (hh : ∃ v bs, e = .returned v ∧ FnPost w w' (.tup [hallV h, .v x]) v bs) : GivesHallV h x w e w' := by
  obtain ⟨v, bs, rfl, hp⟩ := hh
  have hr := hp.rel
  rw [relO] at hr
  obtain ⟨vs, rfl, hr⟩ := hr
  rw [relOL] at hr
  obtain ⟨u0, us0, b0, c0, rfl, rfl, h1, h2⟩ := hr
  obtain ⟨cv, rfl, ho⟩ := own_hall_of h1 hl
  simp only [relO, relOL] at h2
  obtain ⟨u1, us1, b1, c1, rfl, rfl, ⟨rfl, rfl⟩, rfl, rfl⟩ := h2
  exact ⟨cv, rfl, ho, hp.below⟩

/-! ### the contracts -/
theorem hallValid_fn (h : PHall) (hl : h.cells.length ≤ lim) : FnS Tryd.prog 21 [hallV h] (.bool (validB h)) := by
  refine ⟨⟨_, Tryd.func21, by kernel_rfl, rfl⟩, fun w vs hp hx => ?_⟩
  simp only [relL] at hx
  obtain ⟨v, _, rfl, h1, rfl⟩ := hx
  exact (hallValid_any w v h (hall_of_rel h1 hl)).mono fun e w' hg => post_v hg
theorem specHallValid_fn (h : PHall) (hl : h.cells.length ≤ lim) : FnS Tryd.prog 28 [hallV h] (.bool (validB h)) := by
  refine ⟨⟨_, Tryd.func28, by kernel_rfl, rfl⟩, fun w vs hp hx => ?_⟩
  simp only [relL] at hx
  obtain ⟨v, _, rfl, h1, rfl⟩ := hx
  exact (specHallValid_any w v h (hall_of_rel h1 hl)).mono fun e w' hg => post_v hg
theorem hasCell_fn (h : PHall) (hl : h.cells.length ≤ lim) (c : Int) : FnS Tryd.prog 75 [hallV h, .int c] (.bool (hasCellB h c)) := by
  refine ⟨⟨_, Tryd.func75, by kernel_rfl, rfl⟩, fun w vs hp hx => ?_⟩
  simp only [relL, relV] at hx
  obtain ⟨v, _, rfl, h1, u, _, rfl, rfl, rfl⟩ := hx
  exact (hasCell_any w v h c (hall_of_rel (by simp only [relV, relL]; exact h1) hl)).mono fun e w' hg => post_v hg
theorem cellsApart_fn (h : PHall) (hl : h.cells.length ≤ lim) (a b : Int) : FnS Tryd.prog 47 [hallV h, .int a, .int b] (.int (apartAt h a b)) := by
  refine ⟨⟨_, Tryd.func47, by kernel_rfl, rfl⟩, fun w vs hp hx => ?_⟩
  simp only [relL, relV] at hx
  obtain ⟨v, _, rfl, h1, u, _, rfl, rfl, u2, _, rfl, rfl, rfl⟩ := hx
  exact (cellsApart_any w v h a b (hall_of_rel (by simp only [relV, relL]; exact h1) hl)).mono fun e w' hg => post_v hg
theorem specCellsApart_fn (h : PHall) (hl : h.cells.length ≤ lim) (a b : Int) : FnS Tryd.prog 85 [hallV h, .int a, .int b] (.int (apartAt h a b)) := by
  refine ⟨⟨_, Tryd.func85, by kernel_rfl, rfl⟩, fun w vs hp hx => ?_⟩
  simp only [relL, relV] at hx
  obtain ⟨v, _, rfl, h1, u, _, rfl, rfl, u2, _, rfl, rfl, rfl⟩ := hx
  exact (specCellsApart_any w v h a b (hall_of_rel (by simp only [relV, relL]; exact h1) hl)).mono fun e w' hg => post_v hg
theorem copyHall_fn (h : PHall) (hl : h.cells.length ≤ lim) (h0 : h.cells ≠ []) : FnS Tryd.prog 70 [hallV h] (hallV h) := by
  refine ⟨⟨_, Tryd.func70, by kernel_rfl, rfl⟩, fun w vs hp hx => ?_⟩
  simp only [relL] at hx
  obtain ⟨v, _, rfl, h1, rfl⟩ := hx
  exact (copyHall_any w v h (hall_of_rel h1 hl) h0).mono fun e w' hg => post_hall hg
theorem l1Hall_fn (h : PHall) (hl : h.cells.length ≤ lim) (h0 : h.cells ≠ []) : FnS Tryd.prog 79 [hallV h] (hallV h) := by
  refine ⟨⟨_, Tryd.func79, by kernel_rfl, rfl⟩, fun w vs hp hx => ?_⟩
  simp only [relL] at hx
  obtain ⟨v, _, rfl, h1, rfl⟩ := hx
  exact (l1Hall_any w v h (hall_of_rel h1 hl) h0).mono fun e w' hg => post_hall hg
theorem hallFree_fn (h : PHall) (hl : h.cells.length ≤ lim) : FnS Tryd.prog 22 [hallV h] (intsV (hallFreeF h)) := by
  refine ⟨⟨_, Tryd.func22, by kernel_rfl, rfl⟩, fun w vs hp hx => ?_⟩
  simp only [relL] at hx
  obtain ⟨v, _, rfl, h1, rfl⟩ := hx
  exact (hallFree_any w v h (hall_of_rel h1 hl)).mono fun e w' hg => post_ints hg
theorem specHallFree_fn (h : PHall) (hl : h.cells.length ≤ lim) : FnS Tryd.prog 83 [hallV h] (intsV (hallFreeF h)) := by
  refine ⟨⟨_, Tryd.func83, by kernel_rfl, rfl⟩, fun w vs hp hx => ?_⟩
  simp only [relL] at hx
  obtain ⟨v, _, rfl, h1, rfl⟩ := hx
  exact (specHallFree_any w v h (hall_of_rel h1 hl)).mono fun e w' hg => post_ints hg
theorem cellsBeside_fn (h : PHall) (hl : h.cells.length ≤ lim) (c : Int) : FnS Tryd.prog 48 [hallV h, .int c] (intsV (besideF h c)) := by
  refine ⟨⟨_, Tryd.func48, by kernel_rfl, rfl⟩, fun w vs hp hx => ?_⟩
  simp only [relL, relV] at hx
  obtain ⟨v, _, rfl, h1, u, _, rfl, rfl, rfl⟩ := hx
  exact (cellsBeside_any w v h c (hall_of_rel (by simp only [relV, relL]; exact h1) hl)).mono fun e w' hg => post_ints hg
theorem specCellsBeside_fn (h : PHall) (hl : h.cells.length ≤ lim) (c : Int) : FnS Tryd.prog 89 [hallV h, .int c] (intsV (besideF h c)) := by
  refine ⟨⟨_, Tryd.func89, by kernel_rfl, rfl⟩, fun w vs hp hx => ?_⟩
  simp only [relL, relV] at hx
  obtain ⟨v, _, rfl, h1, u, _, rfl, rfl, rfl⟩ := hx
  exact (specCellsBeside_any w v h c (hall_of_rel (by simp only [relV, relL]; exact h1) hl)).mono fun e w' hg => post_ints hg
theorem hallFind_fn (h : PHall) (hl : h.cells.length ≤ lim) (c : Int) : FnS Tryd.prog 19 [hallV h, .int c] (.int (hallFindF h c)) := by
  refine ⟨⟨_, Tryd.func19, by kernel_rfl, rfl⟩, fun w vs hp hx => ?_⟩
  simp only [relL, relV] at hx
  obtain ⟨v, _, rfl, h1, u, _, rfl, rfl, rfl⟩ := hx
  exact (hallFind_any w v h c (hall_of_rel (by simp only [relV, relL]; exact h1) hl)).mono fun e w' hg => post_v hg
theorem wayCells_fn (h : PHall) (hl : h.cells.length ≤ lim) (a b but : Int) : FnS Tryd.prog 45 [hallV h, .int a, .int b, .int but] (intsV (wayF h a b but)) := by
  refine ⟨⟨_, Tryd.func45, by kernel_rfl, rfl⟩, fun w vs hp hx => ?_⟩
  simp only [relL, relV] at hx
  obtain ⟨v, _, rfl, h1, u, _, rfl, rfl, u2, _, rfl, rfl, u3, _, rfl, rfl, rfl⟩ := hx
  exact (wayCells_any w v h a b but (hall_of_rel (by simp only [relV, relL]; exact h1) hl)).mono fun e w' hg => post_ints hg
theorem specWayCells_fn (h : PHall) (hl : h.cells.length ≤ lim) (a b but : Int) : FnS Tryd.prog 46 [hallV h, .int a, .int b, .int but] (intsV (wayF h a b but)) := by
  refine ⟨⟨_, Tryd.func46, by kernel_rfl, rfl⟩, fun w vs hp hx => ?_⟩
  simp only [relL, relV] at hx
  obtain ⟨v, _, rfl, h1, u, _, rfl, rfl, u2, _, rfl, rfl, u3, _, rfl, rfl, rfl⟩ := hx
  exact (specWayCells_any w v h a b but (hall_of_rel (by simp only [relV, relL]; exact h1) hl)).mono fun e w' hg => post_ints hg
theorem slideMay_fn (h : PHall) (hl : h.cells.length ≤ lim) (a b : Int) : FnS Tryd.prog 30 [hallV h, .agg [.int a, .int b]] (.bool (slideMayB h a b)) := by
  refine ⟨⟨_, Tryd.func30, by kernel_rfl, rfl⟩, fun w vs hp hx => ?_⟩
  simp only [relL, relV] at hx
  obtain ⟨v, _, rfl, h1, u, _, rfl, ⟨_, rfl, _, _, rfl, rfl, _, _, rfl, rfl, rfl⟩, rfl⟩ := hx
  exact (slideMay_any w v h a b (hall_of_rel (by simp only [relV, relL]; exact h1) hl)).mono fun e w' hg => post_v hg
theorem specSlideMay_fn (h : PHall) (hl : h.cells.length ≤ lim) (a b : Int) : FnS Tryd.prog 77 [hallV h, .agg [.int a, .int b]] (.bool (slideMayB h a b)) := by
  refine ⟨⟨_, Tryd.func77, by kernel_rfl, rfl⟩, fun w vs hp hx => ?_⟩
  simp only [relL, relV] at hx
  obtain ⟨v, _, rfl, h1, u, _, rfl, ⟨_, rfl, _, _, rfl, rfl, _, _, rfl, rfl, rfl⟩, rfl⟩ := hx
  exact (specSlideMay_any w v h a b (hall_of_rel (by simp only [relV, relL]; exact h1) hl)).mono fun e w' hg => post_v hg
theorem slideDo_fn (h : PHall) (hl : h.cells.length ≤ lim) (a b : Int) : FnS Tryd.prog 35 [hallV h, .agg [.int a, .int b]] (.tup [hallV (slideDoF h a b).1, .bool (slideDoF h a b).2]) := by
  refine ⟨⟨_, Tryd.func35, by kernel_rfl, rfl⟩, fun w vs hp hx => ?_⟩
  simp only [relL, relV] at hx
  obtain ⟨v, _, rfl, h1, u, _, rfl, ⟨_, rfl, _, _, rfl, rfl, _, _, rfl, rfl, rfl⟩, rfl⟩ := hx
  exact (slideDo_any w v h a b (hall_of_rel (by simp only [relV, relL]; exact h1) hl)).mono fun e w' hg => post_hv hg
theorem specSlideDo_fn (h : PHall) (hl : h.cells.length ≤ lim) (a b : Int) : FnS Tryd.prog 36 [hallV h, .agg [.int a, .int b]] (.tup [hallV (slideDoF h a b).1, .bool (slideDoF h a b).2]) := by
  refine ⟨⟨_, Tryd.func36, by kernel_rfl, rfl⟩, fun w vs hp hx => ?_⟩
  simp only [relL, relV] at hx
  obtain ⟨v, _, rfl, h1, u, _, rfl, ⟨_, rfl, _, _, rfl, rfl, _, _, rfl, rfl, rfl⟩, rfl⟩ := hx
  exact (specSlideDo_any w v h a b (hall_of_rel (by simp only [relV, relL]; exact h1) hl)).mono fun e w' hg => post_hv hg
theorem l1In_fn (a b c : Int) : FnS Tryd.prog 73 [.int a, .int b, .int c] (.bool (inR a b c)) := by
  refine ⟨⟨_, Tryd.func73, by kernel_rfl, rfl⟩, fun w vs hp hx => ?_⟩
  simp only [relL, relV] at hx
  obtain ⟨v, _, rfl, rfl, v2, _, rfl, rfl, v3, _, rfl, rfl, rfl⟩ := hx
  exact (tells_gives (l1In_any w a b c)).mono fun e w' hg => post_v hg
end Go.Proofs.YtjdgbdakkdljmaaDoor
