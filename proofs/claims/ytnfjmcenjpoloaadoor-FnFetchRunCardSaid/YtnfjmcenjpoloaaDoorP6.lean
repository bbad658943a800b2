/-
  The texts QB QC QE QS in one.
-/
import Derived.Test.YtnfjmcenjpoloaaDoorP2
import Derived.Test.YtnfjmcenjpoloaaDoorP5
import Derived.Test.YtnfjmcenjpoloaaDoorP4
import Derived.Laws.Cover3
section
/-
  The program's types, and the contracts of single functions as facts on abstract values.
-/
set_option linter.unusedVariables false
set_option linter.unusedSimpArgs false
namespace Go.Proofs.YtnfjmcenjpoloaaDoor
open Go Go.RowKit Go.Park Go.Sym

def T : List (Nat × TyI) :=
  (3, ⟨false, 1, 8, [.int .i64], .int .i64⟩) ::
  (4, ⟨false, 1, 1, [.bool], .bool⟩) ::
  (23, ⟨false, 1, 24, [.nilsl], .slice 3⟩) ::
  (25, ⟨true, 3, 40, [.int .i64, .int .i64, .nilsl], .struct [(0, 3, 1), (1, 3, 1), (2, 23, 1)]⟩) ::
  (53, ⟨true, 2, 16, [.int .i64, .int .i64], .struct [(0, 3, 1), (1, 3, 1)]⟩) ::
  (29, ⟨false, 1, 24, [.nilsl], .slice 53⟩) ::
  (5, ⟨false, 1, 1, [.int .u8], .int .u8⟩) ::
  (9, ⟨false, 1, 16, [.str], .str⟩) ::
  (59, ⟨true, 3, 40, [.int .i64, .int .i64, .nilsl], .struct [(0, 3, 1), (1, 3, 1), (2, 23, 1)]⟩) ::
  (22, ⟨false, 1, 24, [.nilsl], .slice 5⟩) ::
  (103, ⟨true, 2, 32, [.nilsl, .int .i64], .struct [(0, 22, 1), (1, 3, 1)]⟩) ::
  (110, ⟨false, 1, 24, [.nilsl], .slice 23⟩) ::
  (21, ⟨false, 1, 4, [.int .i32], .int .i32⟩) ::
  (115, ⟨false, 1, 24, [.nilsl], .slice 21⟩) ::
  (109, ⟨false, 1, 8, [.int .u64], .int .u64⟩) ::
  (95, ⟨false, 1, 24, [.nilsl], .slice 9⟩) ::
  []
theorem tabOk : TabOk Tryd.prog T := (by kernel_rfl : chkAll Tryd.prog T = true)
theorem mixed : (Tryd.prog).follows .mixedOrders = true := by kernel_rfl

/-! ### what a value reads as, in the two tongues -/
theorem at_of_rel {w : World} {v : Value} {zs : List Int} (h : relV (cx0 w (fun b => b < w.heap.size)) (intsV zs) v) (hl : zs.length ≤ lim) : IntsAt w v zs := by
  simp only [relV] at h
  obtain ⟨_, ao, n, c, rfl, h1, h2, _, h3, h4⟩ := h
  rw [ints_length, Nat.mul_one] at h3
  subst h3
  refine ⟨ao, c, rfl, hl, ⟨h1, h2⟩, fun j hj => ?_⟩
  rcases h4 with h4 | ⟨b, off, rfl, _, h5⟩
  · have := congrArg List.length h4
    rw [ints_length] at this
    simp at this
    subst this; simp at hj
  · obtain ⟨u, k1, _, k2⟩ := relC_get h5 j (.int (gi zs j)) (by
      have := rd_get (cs := ints zs) (j := j) (by rw [ints_length]; exact hj)
      rw [this, rd_ints])
    simp only [relV] at k2
    subst k2
    exact ⟨b, off, rfl, k1⟩
theorem hall_of_rel {w : World} {v : Value} {h : PHall} (hh : relV (cx0 w (fun b => b < w.heap.size)) (hallV h) v) (hl : h.cells.length ≤ lim) : HallAt w v h := by
  simp only [relV, relL] at hh
  obtain ⟨vs, rfl, u0, us0, rfl, rfl, u1, us1, rfl, rfl, u2, us2, rfl, h3, rfl⟩ := hh
  exact ⟨u2, rfl, at_of_rel (by simpa only [relV] using h3) hl⟩
theorem pure_hall (h : PHall) : pureV (hallV h) := by
  simp only [pureV, pureL]
  exact ⟨trivial, trivial, pure_ints _, trivial⟩
/-! what a call gives -/
theorem post_v {w w' : World} {e : Ending} {c : Value} (h : Gives c w e w') : ∃ v bs, e = .returned v ∧ FnPost w w' (.v c) v bs := ⟨c, [], h.1, ⟨h.2, by simp, by simp, by simp [relO]⟩⟩
theorem blk_nodup (o : Option Nat) : o.toList.Nodup := by cases o <;> simp
theorem ints_map_rel (cx : Cx) : ∀ (zs : List Int), relL cx (ints zs) (zs.map (Value.int .i64))
  | [] => by simp [ints, relL]
  | z :: zs => by simp only [ints, List.map_cons, relL, relV]; exact ⟨_, _, rfl, rfl, ints_map_rel cx zs⟩
theorem slc_flat_rel (cx : Cx) : ∀ (l : List (Int × Int)), relL cx (slc l) (flat l)
  | [] => by simp [slc, flat, relL]
  | s :: l => by simp only [slc, flat, relL, relV]; exact ⟨_, _, rfl, rfl, _, _, rfl, rfl, slc_flat_rel cx l⟩
theorem flat_one : ∀ (l : List (Int × Int)) (u : Value), u ∈ flat l → u.oneCell' = true
  | [], u, h => by simp [flat] at h
  | s :: l, u, h => by
    simp only [flat, List.mem_cons] at h
    rcases h with rfl | rfl | h
    · rfl
    · rfl
    · exact flat_one l u h
theorem relO_ints {w' : World} {lo : Nat} {v : Value} {l : List Int} (h : OwnInts lo w' v l) (Zr : Nat → Prop) : relO w' lo Zr (intsV l) v v.ownBlock.toList := by
  rw [relO]
  refine ⟨rfl, by omega, pure_ints l, l.length, _, h.2, by rw [ints_length, Nat.mul_one], ints_map_rel _ l, fun u hu => ?_⟩
  obtain ⟨z, _, rfl⟩ := List.mem_map.1 hu
  rfl
theorem relO_slc {w' : World} {lo : Nat} {v : Value} {l : List (Int × Int)} (h : OwnSlides lo w' v l) (Zr : Nat → Prop) : relO w' lo Zr (slcV l) v v.ownBlock.toList := by
  rw [relO]
  exact ⟨rfl, by omega, pure_slc l, l.length, _, h.2, slc_length l, slc_flat_rel _ l, flat_one l⟩
theorem blk_ge {w' : World} {lo : Nat} {e s n : Nat} {v : Value} {xs : List Value} (h : w'.ownsRow lo e s v n xs) : ∀ b, b ∈ v.ownBlock.toList → lo ≤ b := fun b hb => (h.lt b (by simpa using hb)).1
theorem post_ints {w w' : World} {e : Ending} {l : List Int} (h : GivesInts l w e w') : ∃ v bs, e = .returned v ∧ FnPost w w' (intsV l) v bs := by
  obtain ⟨v, rfl, ho, hb⟩ := h
  exact ⟨v, _, rfl, ⟨hb, blk_nodup _, blk_ge ho.2, relO_ints ho _⟩⟩
theorem post_slc {w w' : World} {e : Ending} {l : List (Int × Int)} (h : GivesSlides l w e w') : ∃ v bs, e = .returned v ∧ FnPost w w' (slcV l) v bs := by
  obtain ⟨v, rfl, ho, hb⟩ := h
  exact ⟨v, _, rfl, ⟨hb, blk_nodup _, blk_ge ho.2, relO_slc ho _⟩⟩
theorem relO_hall {w' : World} {lo : Nat} {cv : Value} {h : PHall} (ho : OwnInts lo w' cv h.cells) (Zr : Nat → Prop) : relO w' lo Zr (hallV h) (.agg #[.int .i64 h.wide, .int .i64 h.deep, cv]) cv.ownBlock.toList := by
  rw [relO]
  refine ⟨[.int .i64 h.wide, .int .i64 h.deep, cv], rfl, ?_⟩
  rw [relOL]
  refine ⟨_, _, [], cv.ownBlock.toList, rfl, rfl, by rw [relO]; exact ⟨rfl, rfl⟩, ?_⟩
  rw [relOL]
  refine ⟨_, _, [], cv.ownBlock.toList, rfl, rfl, by rw [relO]; exact ⟨rfl, rfl⟩, ?_⟩
  rw [relOL]
  refine ⟨_, _, cv.ownBlock.toList, [], rfl, by simp, relO_ints ho Zr, ?_⟩
  rw [relOL]
  exact ⟨rfl, rfl⟩
theorem post_hall {w w' : World} {e : Ending} {h : PHall} (hg : GivesHall h w e w') : ∃ v bs, e = .returned v ∧ FnPost w w' (hallV h) v bs := by
  obtain ⟨cv, rfl, ho, hb⟩ := hg
  exact ⟨_, _, rfl, ⟨hb, blk_nodup _, blk_ge ho.2, relO_hall ho _⟩⟩
theorem post_hv {w w' : World} {e : Ending} {h : PHall} {x : Value} (hg : GivesHallV h x w e w') : ∃ v bs, e = .returned v ∧ FnPost w w' (.tup [hallV h, .v x]) v bs := by
  obtain ⟨cv, rfl, ho, hb⟩ := hg
  refine ⟨_, cv.ownBlock.toList, rfl, ⟨hb, blk_nodup _, blk_ge ho.2, ?_⟩⟩
  rw [relO]
  refine ⟨[_, x], rfl, ?_⟩
  rw [relOL]
  refine ⟨_, _, cv.ownBlock.toList, [], rfl, by simp, relO_hall ho _, ?_⟩
  rw [relOL]
  refine ⟨_, _, [], [], rfl, rfl, by rw [relO]; exact ⟨rfl, rfl⟩, ?_⟩
  rw [relOL]
  exact ⟨rfl, rfl⟩

/-! the way back -/
theorem rel_vals_ints {cx : Cx} : ∀ {zs : List Int} {xs : List Value}, relL cx (ints zs) xs → xs = zs.map (Value.int .i64)
  | [], xs, h => by simpa [ints, relL] using h
  | z :: zs, xs, h => by
    simp only [ints, List.map_cons, relL, relV] at h
    obtain ⟨u, us, rfl, rfl, h⟩ := h
    rw [rel_vals_ints (zs := zs) h]; rfl
theorem gives_v_of {w w' : World} {e : Ending} {c : Value} (h : ∃ v bs, e = .returned v ∧ FnPost w w' (.v c) v bs) : Gives c w e w' := by
  obtain ⟨v, bs, rfl, hp⟩ := h
  have := hp.rel
  simp only [relO] at this
  rw [this.1]
  exact ⟨rfl, hp.below⟩
/-! ### the contracts -/
theorem hallValid_fn (h : PHall) (hl : h.cells.length ≤ lim) : FnS Tryd.prog 17 [hallV h] (.bool (validB h)) := by
  refine ⟨⟨_, Tryd.func17, by kernel_rfl, rfl⟩, fun w vs hp hx => ?_⟩
  simp only [relL] at hx
  obtain ⟨v, _, rfl, h1, rfl⟩ := hx
  exact (hallValid_any w v h (hall_of_rel h1 hl)).mono fun e w' hg => post_v hg
theorem specHallValid_fn (h : PHall) (hl : h.cells.length ≤ lim) : FnS Tryd.prog 16 [hallV h] (.bool (validB h)) := by
  refine ⟨⟨_, Tryd.func16, by kernel_rfl, rfl⟩, fun w vs hp hx => ?_⟩
  simp only [relL] at hx
  obtain ⟨v, _, rfl, h1, rfl⟩ := hx
  exact (specHallValid_any w v h (hall_of_rel h1 hl)).mono fun e w' hg => post_v hg
theorem hasCell_fn (h : PHall) (hl : h.cells.length ≤ lim) (c : Int) : FnS Tryd.prog 80 [hallV h, .int c] (.bool (hasCellB h c)) := by
  refine ⟨⟨_, Tryd.func80, by kernel_rfl, rfl⟩, fun w vs hp hx => ?_⟩
  simp only [relL, relV] at hx
  obtain ⟨v, _, rfl, h1, u, _, rfl, rfl, rfl⟩ := hx
  exact (hasCell_any w v h c (hall_of_rel (by simp only [relV, relL]; exact h1) hl)).mono fun e w' hg => post_v hg
theorem cellsApart_fn (h : PHall) (hl : h.cells.length ≤ lim) (a b : Int) : FnS Tryd.prog 36 [hallV h, .int a, .int b] (.int (apartAt h a b)) := by
  refine ⟨⟨_, Tryd.func36, by kernel_rfl, rfl⟩, fun w vs hp hx => ?_⟩
  simp only [relL, relV] at hx
  obtain ⟨v, _, rfl, h1, u, _, rfl, rfl, u2, _, rfl, rfl, rfl⟩ := hx
  exact (cellsApart_any w v h a b (hall_of_rel (by simp only [relV, relL]; exact h1) hl)).mono fun e w' hg => post_v hg
theorem copyHall_fn (h : PHall) (hl : h.cells.length ≤ lim) (h0 : h.cells ≠ []) : FnS Tryd.prog 62 [hallV h] (hallV h) := by
  refine ⟨⟨_, Tryd.func62, by kernel_rfl, rfl⟩, fun w vs hp hx => ?_⟩
  simp only [relL] at hx
  obtain ⟨v, _, rfl, h1, rfl⟩ := hx
  exact (copyHall_any w v h (hall_of_rel h1 hl) h0).mono fun e w' hg => post_hall hg
theorem l1Hall_fn (h : PHall) (hl : h.cells.length ≤ lim) (h0 : h.cells ≠ []) : FnS Tryd.prog 50 [hallV h] (hallV h) := by
  refine ⟨⟨_, Tryd.func50, by kernel_rfl, rfl⟩, fun w vs hp hx => ?_⟩
  simp only [relL] at hx
  obtain ⟨v, _, rfl, h1, rfl⟩ := hx
  exact (l1Hall_any w v h (hall_of_rel h1 hl) h0).mono fun e w' hg => post_hall hg
theorem hallFree_fn (h : PHall) (hl : h.cells.length ≤ lim) : FnS Tryd.prog 25 [hallV h] (intsV (hallFreeF h)) := by
  refine ⟨⟨_, Tryd.func25, by kernel_rfl, rfl⟩, fun w vs hp hx => ?_⟩
  simp only [relL] at hx
  obtain ⟨v, _, rfl, h1, rfl⟩ := hx
  exact (hallFree_any w v h (hall_of_rel h1 hl)).mono fun e w' hg => post_ints hg
theorem specHallFree_fn (h : PHall) (hl : h.cells.length ≤ lim) : FnS Tryd.prog 96 [hallV h] (intsV (hallFreeF h)) := by
  refine ⟨⟨_, Tryd.func96, by kernel_rfl, rfl⟩, fun w vs hp hx => ?_⟩
  simp only [relL] at hx
  obtain ⟨v, _, rfl, h1, rfl⟩ := hx
  exact (specHallFree_any w v h (hall_of_rel h1 hl)).mono fun e w' hg => post_ints hg
theorem cellsBeside_fn (h : PHall) (hl : h.cells.length ≤ lim) (c : Int) : FnS Tryd.prog 78 [hallV h, .int c] (intsV (besideF h c)) := by
  refine ⟨⟨_, Tryd.func78, by kernel_rfl, rfl⟩, fun w vs hp hx => ?_⟩
  simp only [relL, relV] at hx
  obtain ⟨v, _, rfl, h1, u, _, rfl, rfl, rfl⟩ := hx
  exact (cellsBeside_any w v h c (hall_of_rel (by simp only [relV, relL]; exact h1) hl)).mono fun e w' hg => post_ints hg
theorem specCellsBeside_fn (h : PHall) (hl : h.cells.length ≤ lim) (c : Int) : FnS Tryd.prog 126 [hallV h, .int c] (intsV (besideF h c)) := by
  refine ⟨⟨_, Tryd.func126, by kernel_rfl, rfl⟩, fun w vs hp hx => ?_⟩
  simp only [relL, relV] at hx
  obtain ⟨v, _, rfl, h1, u, _, rfl, rfl, rfl⟩ := hx
  exact (specCellsBeside_any w v h c (hall_of_rel (by simp only [relV, relL]; exact h1) hl)).mono fun e w' hg => post_ints hg
theorem hallFind_fn (h : PHall) (hl : h.cells.length ≤ lim) (c : Int) : FnS Tryd.prog 24 [hallV h, .int c] (.int (hallFindF h c)) := by
  refine ⟨⟨_, Tryd.func24, by kernel_rfl, rfl⟩, fun w vs hp hx => ?_⟩
  simp only [relL, relV] at hx
  obtain ⟨v, _, rfl, h1, u, _, rfl, rfl, rfl⟩ := hx
  exact (hallFind_any w v h c (hall_of_rel (by simp only [relV, relL]; exact h1) hl)).mono fun e w' hg => post_v hg
theorem specHallFind_fn (h : PHall) (hl : h.cells.length ≤ lim) (c : Int) : FnS Tryd.prog 55 [hallV h, .int c] (.int (hallFindF h c)) := by
  refine ⟨⟨_, Tryd.func55, by kernel_rfl, rfl⟩, fun w vs hp hx => ?_⟩
  simp only [relL, relV] at hx
  obtain ⟨v, _, rfl, h1, u, _, rfl, rfl, rfl⟩ := hx
  exact (specHallFind_any w v h c (hall_of_rel (by simp only [relV, relL]; exact h1) hl)).mono fun e w' hg => post_v hg
theorem wayCells_fn (h : PHall) (hl : h.cells.length ≤ lim) (a b but : Int) : FnS Tryd.prog 76 [hallV h, .int a, .int b, .int but] (intsV (wayF h a b but)) := by
  refine ⟨⟨_, Tryd.func76, by kernel_rfl, rfl⟩, fun w vs hp hx => ?_⟩
  simp only [relL, relV] at hx
  obtain ⟨v, _, rfl, h1, u, _, rfl, rfl, u2, _, rfl, rfl, u3, _, rfl, rfl, rfl⟩ := hx
  exact (wayCells_any w v h a b but (hall_of_rel (by simp only [relV, relL]; exact h1) hl)).mono fun e w' hg => post_ints hg
theorem slideDo_fn (h : PHall) (hl : h.cells.length ≤ lim) (a b : Int) : FnS Tryd.prog 35 [hallV h, .agg [.int a, .int b]] (.tup [hallV (slideDoF h a b).1, .bool (slideDoF h a b).2]) := by
  refine ⟨⟨_, Tryd.func35, by kernel_rfl, rfl⟩, fun w vs hp hx => ?_⟩
  simp only [relL, relV] at hx
  obtain ⟨v, _, rfl, h1, u, _, rfl, ⟨_, rfl, _, _, rfl, rfl, _, _, rfl, rfl, rfl⟩, rfl⟩ := hx
  exact (slideDo_any w v h a b (hall_of_rel (by simp only [relV, relL]; exact h1) hl)).mono fun e w' hg => post_hv hg
theorem specSlideDo_fn (h : PHall) (hl : h.cells.length ≤ lim) (a b : Int) : FnS Tryd.prog 53 [hallV h, .agg [.int a, .int b]] (.tup [hallV (slideDoF h a b).1, .bool (slideDoF h a b).2]) := by
  refine ⟨⟨_, Tryd.func53, by kernel_rfl, rfl⟩, fun w vs hp hx => ?_⟩
  simp only [relL, relV] at hx
  obtain ⟨v, _, rfl, h1, u, _, rfl, ⟨_, rfl, _, _, rfl, rfl, _, _, rfl, rfl, rfl⟩, rfl⟩ := hx
  exact (specSlideDo_any w v h a b (hall_of_rel (by simp only [relV, relL]; exact h1) hl)).mono fun e w' hg => post_hv hg
theorem l1In_fn (a b c : Int) : FnS Tryd.prog 63 [.int a, .int b, .int c] (.bool (inR a b c)) := by
  refine ⟨⟨_, Tryd.func63, by kernel_rfl, rfl⟩, fun w vs hp hx => ?_⟩
  simp only [relL, relV] at hx
  obtain ⟨v, _, rfl, rfl, v2, _, rfl, rfl, v3, _, rfl, rfl, rfl⟩ := hx
  exact (tells_gives (l1In_any w a b c)).mono fun e w' hg => post_v hg
end Go.Proofs.YtnfjmcenjpoloaaDoor
end

section
/-
  Calls that write into a row of the caller's own, on abstract states.
-/
set_option linter.unusedVariables false
set_option linter.unusedSimpArgs false
namespace Go.Sym
open Go Go.RowKit Go.Park Go.Proofs.YtnfjmcenjpoloaaDoor

/-- f, of a row's slice (within what mk tells) and a constant: turns the row's cells, gives c -/
def FnM (P : Program) (f : Nat) (mk : Value → Value) (kk : Value) (ty sz : Nat) (cs cs' : List AV) (c : Value) : Prop :=
  Enters P f ∧ pureL cs' ∧ cs'.length = cs.length ∧ ∀ w n xs t, w.ownsRow 0 ty sz t n xs → cs.length = n * sz → Calls P f #[mk t, kk] w fun e w' => e = .returned c ∧ w.grownBy w' t.ownBlock ∧ ∃ xs', w'.ownsRow 0 ty sz t n xs' ∧ (∀ cx, relL cx cs' xs') ∧ ∀ u, u ∈ xs' → u.oneCell' = true
/-- the value holds the row's slice -/
inductive MkV : AV → Nat → Nat → (Value → Value) → Prop
  | own (r k : Nat) : MkV (.own r k) r k (fun t => t)
  | hall (a b : Value) (r k : Nat) : MkV (.agg [.v a, .v b, .own r k]) r k (fun t => .agg #[a, b, t])
theorem mkV_rel {F : Fr} {φ : Nat → Value} {Z : Nat → Prop} {σ : St} {a : Act} {w : World} (hS : SimAt F φ Z σ a w) {y : AV} {r k : Nat} {mk : Value → Value} (h : MkV y r k mk) {row : Row} (hr : σ.row r = some row) (hv : row.ver = k) {u : Value} (hu : relV (cxOf φ Z σ w) y u) : u = mk (φ r) := by
  cases h with
  | own => exact own_open hS hr hv hu
  | hall a b =>
    rw [relV] at hu
    obtain ⟨vs, rfl, hu⟩ := hu
    rw [relL] at hu
    obtain ⟨u0, us0, rfl, h0, hu⟩ := hu
    rw [relL] at hu
    obtain ⟨u1, us1, rfl, h1, hu⟩ := hu
    rw [relL] at hu
    obtain ⟨u2, us2, rfl, h2, hu⟩ := hu
    rw [relL] at hu
    subst hu
    rw [relV] at h0 h1
    subst h0 h1
    rw [own_open hS hr hv h2]
theorem does_mark {P : Program} {nt : Nat} {σ : St} {dst : Option Nat} {ty : Nat} {pos : String} {aft : Array Edge} {gd : Option (Nat × Bool)} {f : Nat} {x x' : Operand} {at' : Array TypeId} {mk : Value → Value} {kk c : Value} {cs cs' : List AV} {y : AV} {r k rt rz : Nat} {row : Row} (hd : dstOk nt dst = true)
    (hfn : FnM P f mk kk rt rz cs cs' c) (hy : σ.ev x = y) (hmk : MkV y r k mk) (hr : σ.row r = some row) (hv : row.ver = k) (hk : σ.ev x' = .v kk) (ht : row.ty = rt) (hz : row.sz = rz) (hc : row.cs = cs) :
    Does P nt ⟨dst, .call ⟨.value (.func f), #[x, x'], at'⟩, ty, pos, aft, gd⟩ ⟨fo x ++ fo x', [r]⟩ (.v c) [(r, some ⟨row.ty, row.sz, row.ver, true, row.box, cs'⟩)] σ := by
  subst ht hz hc
  refine ⟨?_⟩
  intro τ hag F hF a w hS Q K hK
  obtain ⟨φ, Z, hS⟩ := hS
  have hr' : τ.row r = some row := by rw [hag.2 r (by simp)]; exact hr
  have h1 : a.eval x = mk (φ r) := mkV_rel hS hmk hr' hv (by rw [← hy, ← hag.ev (fun t h => by simp [h])]; exact hS.ev x)
  have h2 : a.eval x' = kk := by
    have := hS.ev x'
    rw [hag.ev (σ := σ) (fun t h => by simp [h]), hk] at this
    simpa [relV] using this
  obtain ⟨n, xs, hm⟩ := rowMem hS hr'
  have hcall := hfn.2.2.2 w n xs (φ r) hm.own hm.len
  unfold Oper.wp
  have hrun : (execOp a.eval ⟨dst, .call ⟨.value (.func f), #[x, x'], at'⟩, ty, pos, aft, gd⟩).run P w = .ok (.enter f #[mk (φ r), kk]) w := by
    simp [execOp, resolve, Act.eval, Deferred.ofValue, invoke, run_callFunc hfn.1] at h1 h2 ⊢
    simp [h1, h2, run_callFunc hfn.1]
  rw [hrun, Oper.upon_enter]
  refine hcall.mono ?_
  rintro e w' ⟨rfl, hg, xs', ho, hrel, hone⟩
  show K (a.put dst c) w'
  refine hK c w' ?_
  have hrr := hS.rows r row hr'
  have htn := hS.turn (r := r) (row := row) (row' := ⟨row.ty, row.sz, row.ver, true, row.box, cs'⟩) (t' := φ r) (w' := w') hr' hg (Nat.le_refl _) (fun _ => rfl)
    (fun hcx => ⟨hrr.sz, fun _ => hfn.2.1, hrr.box, hrr.blk, n, xs', ho, by show cs'.length = _; rw [hfn.2.2.1]; exact hm.len, hrel _, hone⟩)
    (fun g' h => .inl h) (fun _ => rfl)
  rw [set_eq_upd] at htn
  cases dst with
  | none => exact ⟨_, Z, htn.1⟩
  | some d =>
    simp [dstOk] at hd
    exact ⟨_, Z, htn.1.put (by omega) (by simp [relV])⟩
section
variable {P : Program} {nt : Nat} {E : List (Nat × AV)} {H : Hp} {dst : Option Nat} {ty : Nat} {pos : String} {aft : Array Edge} {gd : Option (Nat × Bool)} {f : Nat} {at' : Array TypeId}
theorem st_mark {x x' : Operand} {mk : Value → Value} {kk c : Value} {cs cs' : List AV} {y : AV} {r k rt rz : Nat} {row : Row} (hfn : FnM P f mk kk rt rz cs cs' c) (hd : dstOk nt dst = true)
    (hy : (mkS E H).ev x = y) (hmk : MkV y r k mk) (hr : (mkS E H).row r = some row) (hv : row.ver = k) (hk : (mkS E H).ev x' = .v kk) (ht : row.ty = rt) (hz : row.sz = rz) (hc : row.cs = cs) :
    Does P nt ⟨dst, .call ⟨.value (.func f), #[x, x'], at'⟩, ty, pos, aft, gd⟩ ⟨fo x ++ fo x', [r]⟩ (.v c) [(r, some ⟨row.ty, row.sz, row.ver, true, row.box, cs'⟩)] (mkS E H) :=
  does_mark hd hfn hy hmk hr hv hk ht hz hc
end

/-! tests that are decided -/
section
variable {P : Program} {T : List (Nat × TyI)} {nt : Nat} {ops : Array Oper} {os : List Oper} {fs : List Fp} {E : List (Nat × AV)} {H : Hp} {K : List Fp → St → Prop} {Φ : Exit → St → Prop}
theorem rh_know_t {op : Op} {dst : Option Nat} {ty : Nat} {pos : String} {aft : Array Edge} {g d : Nat} {b : Bool} {p : Prop} {hdec : Decidable p} (hd : (ops[g]?).bind (·.dst) = some d) (hv : lkE E d = .bool (decide p)) (hp : p) (h : RunsH P nt ops (⟨dst, op, ty, pos, aft, some (g, b)⟩ :: os) fs ((d, .bool true) :: E) H K) :
    RunsH P nt ops (⟨dst, op, ty, pos, aft, some (g, b)⟩ :: os) fs E H K := rh_split hd hv (fun _ => h) (fun e => by simp [hp] at e)
theorem rh_know_f {op : Op} {dst : Option Nat} {ty : Nat} {pos : String} {aft : Array Edge} {g d : Nat} {b : Bool} {p : Prop} {hdec : Decidable p} (hd : (ops[g]?).bind (·.dst) = some d) (hv : lkE E d = .bool (decide p)) (hp : ¬ p) (h : RunsH P nt ops (⟨dst, op, ty, pos, aft, some (g, b)⟩ :: os) fs ((d, .bool false) :: E) H K) :
    RunsH P nt ops (⟨dst, op, ty, pos, aft, some (g, b)⟩ :: os) fs E H K := rh_split hd hv (fun e => by simp [hp] at e) (fun _ => h)
theorem ax_know_t {c : Operand} {x y : Code} {σ : St} {p : Prop} {hdec : Decidable p} (hc : σ.ev c = .bool (decide p)) (hp : p) (h : AX P nt x σ Φ) : AX P nt (.cond c x y) σ Φ := ax_cond hc (fun _ => h) (fun e => by simp [hp] at e)
theorem ax_know_f {c : Operand} {x y : Code} {σ : St} {p : Prop} {hdec : Decidable p} (hc : σ.ev c = .bool (decide p)) (hp : ¬ p) (h : AX P nt y σ Φ) : AX P nt (.cond c x y) σ Φ := ax_cond hc (fun e => by simp [hp] at e) (fun _ => h)
end
theorem Known.bool {P : Program} {t : Nat} {i : TyI} {inf : TypeInfo} {d : TypeDesc} (h : Known P t i inf d) (hu : i.u = .bool) : P.underlying t = some .bool := by
  have := h.u
  rw [hu] at this
  cases d <;> simp [chkU] at this
  exact h.und
section
variable {P : Program} {T : List (Nat × TyI)} {nt : Nat} {E : List (Nat × AV)} {H : Hp} {dst : Option Nat} {ty : Nat} {pos : String} {aft : Array Edge} {gd : Option (Nat × Bool)}
theorem does_neqb (hT : TabOk P T) {t t' : Nat} {i : TyI} {x y : Operand} {a b : Bool} (hd : dstOk nt dst = true) (ht : lkT T t = some i) (hu : i.u = .bool) (hx : (mkS E H).ev x = .bool a) (hy : (mkS E H).ev y = .bool b) :
    Does P nt ⟨dst, .binOp .neq t x y t', ty, pos, aft, gd⟩ ⟨fo x ++ fo y, []⟩ (.bool (!(a == b))) [] (mkS E H) :=
  does_pure hd fun τ hag F φ Z a' w hF hS => by
    obtain ⟨inf, d, hk⟩ := hT.known ht
    exact ⟨.bool (!(a == b)), by simp [execOp, eqGuard, binOp, run_equal_bool _ _ _ _ (hk.bool hu), ev_v hag hS hx (by simp +contextual), ev_v hag hS hy (by simp +contextual)], by simp [relV]⟩
theorem does_neqb_same (hT : TabOk P T) {t t' : Nat} {i : TyI} {x y : Operand} {a b : Bool} (hd : dstOk nt dst = true) (ht : lkT T t = some i) (hu : i.u = .bool) (hx : (mkS E H).ev x = .bool a) (hy : (mkS E H).ev y = .bool b) (he : a = b) :
    Does P nt ⟨dst, .binOp .neq t x y t', ty, pos, aft, gd⟩ ⟨fo x ++ fo y, []⟩ (.bool false) [] (mkS E H) := by
  have := does_neqb (P := P) (nt := nt) (dst := dst) (ty := ty) (pos := pos) (aft := aft) (gd := gd) (t' := t') hT hd ht hu hx hy
  subst he
  simpa using this
theorem does_neqs_same {t t' : Nat} {x y : Operand} {a b : ByteArray} (hd : dstOk nt dst = true) (hx : (mkS E H).ev x = .v (.string a)) (hy : (mkS E H).ev y = .v (.string b)) (he : a = b) :
    Does P nt ⟨dst, .binOp .neq t x y t', ty, pos, aft, gd⟩ ⟨fo x ++ fo y, []⟩ (.bool false) [] (mkS E H) :=
  does_pure hd fun τ hag F φ Z a' w hF hS => by
    subst he
    exact ⟨.bool false, by simp [execOp, eqGuard, binOp, Op.stringOp, ev_v hag hS hx (by simp +contextual), ev_v hag hS hy (by simp +contextual)], by simp [relV]⟩
theorem st_build0_h (hT : TabOk P T) {t : Nat} {i : TyI} {l : List (Nat × Nat × Nat)} (hd : dstOk nt dst = true) (ht : lkT T t = some i) (hu : i.u = .struct l) (hl : (l.all fun x => !Nat.beq x.2.2 0) = true) (hz : (i.zero.map fun z => AV.v z.val) = [.int 0, .int 0, .v (.slice none 0 0)]) :
    Does P nt ⟨dst, .build t #[], ty, pos, aft, gd⟩ ⟨[], []⟩ (.agg [.int 0, .int 0, .v (.slice none 0 0)]) [] (mkS E H) := by
  have := does_build0 (P := P) (nt := nt) (dst := dst) (ty := ty) (pos := pos) (aft := aft) (gd := gd) (σ := mkS E H) hT hd ht hu hl
  rw [hz] at this
  exact this
theorem st_nil_nil (hT : TabOk P T) {t e t' : Nat} {i : TyI} {x y : Operand} (hd : dstOk nt dst = true) (ht : lkT T t = some i) (hu : i.u = .slice e) (hx : (mkS E H).ev x = .v (.slice none 0 0)) (hy : (mkS E H).ev y = .v (.slice none 0 0)) :
    Does P nt ⟨dst, .binOp .eql t x y t', ty, pos, aft, gd⟩ ⟨fo x ++ fo y, []⟩ (.bool true) [] (mkS E H) :=
  does_pure hd fun τ hag F φ Z a' w hF hS => by
    obtain ⟨inf, d, hk⟩ := hT.known ht
    exact ⟨.bool true, by simp [execOp, eqGuard, binOp, run_equal_slice_nil _ _ _ _ _ _ (hk.slice hu), ev_v hag hS hx (by simp +contextual), ev_v hag hS hy (by simp +contextual)], by simp [relV]⟩
theorem st_nil_own (hT : TabOk P T) {t e t' r k : Nat} {i : TyI} {row : Row} {zs : List Int} {x y : Operand} (hd : dstOk nt dst = true) (ht : lkT T t = some i) (hu : i.u = .slice e) (hx : (mkS E H).ev x = .own r k) (hr : (mkS E H).row r = some row) (hv : row.ver = k) (hy : (mkS E H).ev y = .v (.slice none 0 0)) (hc : row.cs = ints zs) (hne : 0 < zs.length) :
    Does P nt ⟨dst, .binOp .eql t x y t', ty, pos, aft, gd⟩ ⟨fo x ++ fo y, [r]⟩ (.bool false) [] (mkS E H) :=
  does_pure hd fun τ hag F φ Z a' w hF hS => by
    obtain ⟨inf, d, hk⟩ := hT.known ht
    have hr' : τ.row r = some row := by rw [hag.2 r (by simp)]; exact hr
    obtain ⟨n, xs, hm⟩ := rowMem hS hr'
    have e1 := own_open hS hr' hv (ev_rel hag hS hx (by simp +contextual))
    obtain ⟨g, cap, cur, h1, _⟩ := hm.open (by rw [hc, ints_length]; exact hne)
    rw [h1] at e1
    exact ⟨.bool false, by simp [execOp, eqGuard, binOp, run_equal_slice_nil _ _ _ _ _ _ (hk.slice hu), e1, ev_v hag hS hy (by simp +contextual)], by simp [relV]⟩
end
/-! two ways that meet -/
structure meetS (σ1 : St) (Φ : Exit → St → Prop) (e : Exit) (σ : St) : Prop where
  here : e = .normal → Weak σ σ1
  away : e ≠ .normal → Φ e σ
section
variable {P : Program} {nt : Nat} {Φ : Exit → St → Prop} {σ σ1 : St} {c : Code}
theorem ax_meet (σ1 : St) (h : AX P nt c σ (meetS σ1 Φ)) (k : Φ .normal σ1) : AX P nt c σ Φ := by
  obtain ⟨e, σ', h1, h2⟩ := h
  by_cases he : e = .normal
  · subst he
    exact ⟨.normal, σ1, k, fun F hF a w hS => Code.wp_mono (fun e1 a1 w1 hh => ⟨hh.1, h1.here rfl F a1 w1 hh.2⟩) (h2 F hF a w hS)⟩
  · exact ⟨e, σ', h1.away he, h2⟩
theorem meet_here (h : Weak σ σ1) : meetS σ1 Φ .normal σ := ⟨fun _ => h, fun h => absurd rfl h⟩
theorem meet_ret (h : Φ .ret σ) : meetS σ1 Φ .ret σ := ⟨fun e => by simp at e, fun _ => h⟩
theorem meet_exit {id : Nat} (h : Φ (.exit id) σ) : meetS σ1 Φ (.exit id) σ := ⟨fun e => by simp at e, fun _ => h⟩
end
end Go.Sym
end

section
/-
  The steps of a walk, each with the proof of what it asks for.
-/
set_option linter.defProp false
set_option linter.unusedVariables false
namespace Go.Proofs.YtnfjmcenjpoloaaDoor
open Go Go.RowKit Go.Park Go.Sym

section
variable {nt : Nat} {ops : Array Oper} {os : List Oper} {fs : List Fp} {E : List (Nat × AV)} {H : Hp} {K : List Fp → St → Prop} {R : Foot} {x : AV} {Rg : List Nat} {op : Op} {d ty : Nat} {pos : String} {aft : Array Edge} {gd : Option (Nat × Bool)}
theorem z0 {o : Oper} (h : Does Tryd.prog nt o R x [] (mkS E H) := by first | (apply st_move (y := .v _); exact rfl; exact rfl) | (apply st_move (y := .ptr _ _ _); exact rfl; exact rfl) | (apply st_move (y := .own _ _); exact rfl; exact rfl) | (apply st_move (y := .sl _ _ _); exact rfl; exact rfl) | (apply st_move (y := .agg _); exact rfl; exact rfl) | (apply st_move (y := .ip _ _); exact rfl; exact rfl) | (apply st_move (y := .tup _); exact rfl; exact rfl) | (apply st_move (y := .pre _ _ _); exact rfl; exact rfl) | (apply st_move (y := .both _ _); exact rfl; exact rfl) | (apply st_assign (y := .v _); exact rfl; exact rfl) | (apply st_assign (y := .ptr _ _ _); exact rfl; exact rfl) | (apply st_assign (y := .own _ _); exact rfl; exact rfl) | (apply st_assign (y := .sl _ _ _); exact rfl; exact rfl) | (apply st_assign (y := .agg _); exact rfl; exact rfl) | (apply st_assign (y := .ip _ _); exact rfl; exact rfl) | (apply st_assign (y := .tup _); exact rfl; exact rfl) | (apply st_assign (y := .pre _ _ _); exact rfl; exact rfl) | (apply st_assign (y := .both _ _); exact rfl; exact rfl) | (apply st_ld_both tabOk; exact rfl; exact rfl; exact rfl; exact rfl; exact rfl; exact rfl; exact rfl) | (apply st_ld0 tabOk; exact rfl; exact rfl; exact rfl; exact rfl; exact rfl; exact rfl; exact rfl) | (apply st_ld1 tabOk; exact rfl; exact rfl; exact rfl; exact rfl; exact rfl; exact rfl; exact rfl) | (apply st_ld2 tabOk; exact rfl; exact rfl; exact rfl; exact rfl; exact rfl; exact rfl; exact rfl) | (apply st_ld_a3 tabOk; exact rfl; exact rfl; exact rfl; exact rfl; exact rfl; exact rfl; exact rfl; exact rfl) | (apply st_ld_a2 tabOk; exact rfl; exact rfl; exact rfl; exact rfl; exact rfl; exact rfl; exact rfl; exact rfl) | (apply st_ld_ints tabOk; exact rfl; exact rfl; exact rfl; exact rfl; exact rfl; exact rfl; exact rfl; omega) | (apply st_ld_slc tabOk; exact rfl; exact rfl; exact rfl; exact rfl; exact rfl; exact rfl; exact rfl; exact rfl; omega) | (apply st_ld_ip tabOk; exact rfl; exact rfl; exact rfl; exact rfl; omega) | (apply st_ld_ip_s tabOk; exact rfl; exact rfl; exact rfl; exact rfl; exact rfl; omega) | (apply does_fieldAddr tabOk; exact rfl; exact rfl; exact rfl; exact rfl; exact rfl; exact rfl; exact rfl; omega) | (apply st_ix_sl tabOk; exact rfl; exact rfl; exact rfl; exact rfl; exact rfl; exact rfl; exact rfl; exact rfl; (first | with_reducible exact to0 | with_reducible exact to1 | with_reducible exact to2 | with_reducible exact toC _ | exact rfl); omega) | (apply st_ix_sl_s tabOk; exact rfl; exact rfl; exact rfl; exact rfl; exact rfl; exact rfl; exact rfl; exact rfl; (first | with_reducible exact to0 | with_reducible exact to1 | with_reducible exact to2 | with_reducible exact toC _ | exact rfl); omega) | (apply st_ix_own tabOk; exact rfl; exact rfl; exact rfl; exact rfl; exact rfl; exact rfl; exact rfl; exact rfl; exact rfl; exact rfl; exact rfl; (first | with_reducible exact to0 | with_reducible exact to1 | with_reducible exact to2 | with_reducible exact toC _ | exact rfl); omega) | (apply st_ix_own_s tabOk; exact rfl; exact rfl; exact rfl; exact rfl; exact rfl; exact rfl; exact rfl; exact rfl; exact rfl; exact rfl; exact rfl; (first | with_reducible exact to0 | with_reducible exact to1 | with_reducible exact to2 | with_reducible exact toC _ | exact rfl); omega) | (apply st_len_sl tabOk; exact rfl; exact rfl; exact rfl; exact rfl; exact rfl) | (apply st_len_sl_s tabOk; exact rfl; exact rfl; exact rfl; exact rfl; exact rfl) | (apply st_len_own tabOk; exact rfl; exact rfl; exact rfl; exact rfl; exact rfl; exact rfl; exact rfl; exact rfl) | (apply st_len_own_s tabOk; exact rfl; exact rfl; exact rfl; exact rfl; exact rfl; exact rfl; exact rfl; exact rfl) | (apply does_len_nil tabOk; exact rfl; exact rfl; exact rfl; exact rfl) | (apply does_lss; exact rfl; exact rfl; exact rfl) | (apply does_gtr; exact rfl; exact rfl; exact rfl) | (apply does_eql; exact rfl; exact rfl; exact rfl) | (apply does_neq; exact rfl; exact rfl; exact rfl) | (apply does_geq; exact rfl; exact rfl; exact rfl) | (apply does_leq; exact rfl; exact rfl; exact rfl) | (apply does_not; exact rfl; exact rfl) | (apply st_add; exact rfl; exact rfl; exact rfl; (first | with_reducible exact nz_succ _ | with_reducible exact nz_pred _ | with_reducible exact Int.add_sub_cancel _ _ | exact rfl); omega) | (apply st_sub; exact rfl; exact rfl; exact rfl; (first | with_reducible exact nz_succ _ | with_reducible exact nz_pred _ | with_reducible exact Int.add_sub_cancel _ _ | exact rfl); omega) | (apply st_pick_t (z := .v _); exact rfl; exact rfl; exact rfl) | (apply st_pick_f (z := .v _); exact rfl; exact rfl; exact rfl) | (apply st_pick_t (z := .ptr _ _ _); exact rfl; exact rfl; exact rfl) | (apply st_pick_f (z := .ptr _ _ _); exact rfl; exact rfl; exact rfl) | (apply st_pick_t (z := .own _ _); exact rfl; exact rfl; exact rfl) | (apply st_pick_f (z := .own _ _); exact rfl; exact rfl; exact rfl) | (apply does_extract (y := .v _); exact rfl; exact rfl; exact rfl) | (apply does_extract (y := .ptr _ _ _); exact rfl; exact rfl; exact rfl) | (apply does_extract (y := .own _ _); exact rfl; exact rfl; exact rfl) | (apply does_extract (y := .sl _ _ _); exact rfl; exact rfl; exact rfl) | (apply does_extract (y := .agg _); exact rfl; exact rfl; exact rfl) | (apply does_extract (y := .ip _ _); exact rfl; exact rfl; exact rfl) | (apply does_extract (y := .tup _); exact rfl; exact rfl; exact rfl) | (apply does_extract (y := .pre _ _ _); exact rfl; exact rfl; exact rfl) | (apply does_extract (y := .both _ _); exact rfl; exact rfl; exact rfl) | (apply does_build2 (y0 := .v _) (y1 := .v _) tabOk; exact rfl; exact rfl; exact rfl; exact rfl; exact rfl; exact rfl; exact rfl) | (apply st_build0_h tabOk; exact rfl; exact rfl; exact rfl; exact rfl; exact rfl) | (apply does_build3 (y0 := .v _) (y1 := .v _) (y2 := .own _ _) tabOk; exact rfl; exact rfl; exact rfl; exact rfl; exact rfl; exact rfl; exact rfl; exact rfl) | (apply does_build3 (y0 := .v _) (y1 := .v _) (y2 := .sl _ _ _) tabOk; exact rfl; exact rfl; exact rfl; exact rfl; exact rfl; exact rfl; exact rfl; exact rfl) | (apply does_build3 (y0 := .v _) (y1 := .v _) (y2 := .v _) tabOk; exact rfl; exact rfl; exact rfl; exact rfl; exact rfl; exact rfl; exact rfl; exact rfl) | (apply does_neqb_same tabOk; exact rfl; exact rfl; exact rfl; exact rfl; exact rfl; exact rfl) | (apply does_neqs_same; exact rfl; exact rfl; exact rfl; exact rfl) | (apply st_nil_own tabOk; exact rfl; exact rfl; exact rfl; exact rfl; exact rfl; exact rfl; exact rfl; exact rfl; omega) | (apply st_nil_nil tabOk; exact rfl; exact rfl; exact rfl; exact rfl; exact rfl) | (apply st_nilck; exact rfl; exact rfl; exact rfl; exact rfl) | (apply st_rem; exact rfl; exact rfl; exact rfl; omega; omega) | (apply st_quo; exact rfl; exact rfl; exact rfl; omega; omega) | (apply st_neg; exact rfl; exact rfl; omega) | (apply st_mul; exact rfl; exact rfl; exact rfl; exact rfl; (first | omega | (constructor <;> omega))) | (apply st_xor; exact rfl; exact rfl; exact rfl) | (apply st_and; exact rfl; exact rfl; exact rfl) | (apply st_or; exact rfl; exact rfl; exact rfl) | (apply st_bic; exact rfl; exact rfl; exact rfl) | (apply st_shr; exact rfl; exact rfl; exact rfl; omega; omega) | (apply st_conv tabOk; exact rfl; exact rfl; exact rfl; exact rfl; exact rfl; exact rfl; (first | exact IntWalk.i64_in _ (by omega) | exact IntWalk.u8_in _ (by omega) | exact IntWalk.i32_in _ (by omega) | exact IntWalk.u64_in _ (by omega))) | (apply st_ix_sl_b tabOk; exact rfl; exact rfl; exact rfl; exact rfl; exact rfl; exact rfl; exact rfl; exact rfl; (first | with_reducible exact to0 | with_reducible exact to1 | with_reducible exact to2 | with_reducible exact toC _ | exact rfl); omega) | (apply st_ld_ip_b tabOk; exact rfl; exact rfl; exact rfl; exact rfl; omega) | (apply st_len_sl_b tabOk; exact rfl; exact rfl; exact rfl; exact rfl; exact rfl) | (apply st_len_both_b tabOk; exact rfl; exact rfl; exact rfl; exact rfl; exact rfl) | (apply st_from tabOk; exact rfl; exact rfl; exact rfl; exact rfl; exact rfl; exact rfl; exact rfl; exact rfl; (first | with_reducible exact to0 | with_reducible exact to1 | with_reducible exact to2 | with_reducible exact toC _ | exact rfl); omega) | (apply st_upto tabOk; exact rfl; exact rfl; exact rfl; exact rfl; exact rfl; exact rfl; exact rfl; exact rfl; (first | with_reducible exact to0 | with_reducible exact to1 | with_reducible exact to2 | with_reducible exact toC _ | exact rfl); omega) | (apply does_len_str tabOk; exact rfl; exact rfl; exact rfl; exact rfl) | (apply st_seql; exact rfl; exact rfl; exact rfl) | (apply st_sneq; exact rfl; exact rfl; exact rfl) | (apply st_sadd; exact rfl; exact rfl; exact rfl; (first | omega | (simp; omega))) | fail) : Does Tryd.prog nt o R x [] (mkS E H) := h
theorem z1 {o : Oper} {r n : Nat} {row : Option Row} {l : List (Nat × Option Row)} (h : Does Tryd.prog nt o R x [(r, row)] (mkS E ⟨n, l⟩) := by first | (apply st_box (pu := true); exact rfl; exact rfl; exact rfl; exact rfl; exact rfl; exact rfl; exact rfl; exact rfl; exact rfl) | (apply st_box (pu := false); exact rfl; exact rfl; exact rfl; exact rfl; exact rfl; exact rfl; exact rfl; exact rfl; exact rfl) | (apply st_alloc tabOk; exact rfl; exact rfl; exact rfl; exact rfl; exact rfl; decide; exact rfl) | (apply st_lit0 tabOk; exact rfl; exact rfl; exact rfl; exact rfl; exact rfl; exact rfl; exact rfl) | (apply st_lit0_s tabOk; exact rfl; exact rfl; exact rfl; exact rfl; exact rfl; exact rfl; exact rfl) | (apply st_lit2 tabOk; exact rfl; exact rfl; exact rfl; exact rfl; exact rfl; exact rfl; exact rfl; exact rfl; exact rfl) | (apply st_lit4 tabOk; exact rfl; exact rfl; exact rfl; exact rfl; exact rfl; exact rfl; exact rfl; exact rfl; exact rfl; exact rfl; exact rfl) | (apply st_make_i tabOk; exact rfl; exact rfl; exact rfl; exact rfl; exact rfl; exact rfl; exact rfl; exact rfl; exact rfl; exact rfl; (show 8 * _ ≤ _; omega); (unfold maxLen; omega); exact rfl; exact rfl) | (apply st_make tabOk; exact rfl; exact rfl; exact rfl; exact rfl; exact rfl; exact rfl; exact rfl; exact rfl; exact rfl; exact rfl; (show 8 * _ ≤ _; omega); (unfold maxLen; omega); exact rfl; exact rfl) | (apply st_lit1 tabOk; exact rfl; exact rfl; exact rfl; exact rfl; exact rfl; exact rfl; exact rfl; exact rfl) | (apply st_lit1_s tabOk; exact rfl; exact rfl; exact rfl; exact rfl; exact rfl; exact rfl; exact rfl; exact rfl) | (apply st_app_sl tabOk; exact rfl; exact rfl; exact rfl; exact rfl; exact rfl; exact rfl; exact rfl; exact rfl; exact rfl; exact rfl; exact rfl; exact rfl; exact rfl; exact rfl; exact rfl; exact rfl; exact rfl; exact rfl; (first | omega | (simp only [List.length_cons, List.length_nil, List.length_append]; omega))) | (apply st_app tabOk; exact rfl; exact rfl; exact rfl; exact rfl; exact rfl; exact rfl; exact rfl; exact rfl; exact rfl; exact rfl; exact rfl; exact rfl; exact rfl; exact rfl; exact rfl; exact rfl; exact rfl; exact rfl; exact rfl; exact rfl; exact rfl; exact rfl; (first | omega | (simp only [List.length_cons, List.length_nil, List.length_append]; omega))) | (apply st_app_s tabOk; exact rfl; exact rfl; exact rfl; exact rfl; exact rfl; exact rfl; exact rfl; exact rfl; exact rfl; exact rfl; exact rfl; exact rfl; exact rfl; exact rfl; exact rfl; exact rfl; exact rfl; exact rfl; exact rfl; exact rfl; exact rfl; exact rfl; (first | omega | (simp only [List.length_cons, List.length_nil, List.length_append]; omega))) | fail) : Does Tryd.prog nt o R x [(r, row)] (mkS E ⟨n, l⟩) := h
theorem zs {o : Oper} {r n : Nat} {row : Option Row} {l : List (Nat × Option Row)} (h : Does Tryd.prog nt o R x [(r, row)] (mkS E ⟨n, l⟩) := by first | (apply st_st_ints tabOk; exact rfl; exact rfl; exact rfl; exact rfl; exact rfl; exact rfl; exact rfl; exact rfl; omega) | (apply st_st_all (pu := true) tabOk; exact rfl; exact rfl; exact rfl; exact rfl; exact rfl; exact rfl; exact rfl; exact rfl; exact rfl; exact rfl; exact rfl) | (apply st_st_all (pu := false) tabOk; exact rfl; exact rfl; exact rfl; exact rfl; exact rfl; exact rfl; exact rfl; exact rfl; exact rfl; exact rfl; exact rfl) | (apply st_st0 (y := .v _) (pu := true) tabOk; exact rfl; exact rfl; exact rfl; exact rfl; exact rfl; exact rfl; exact rfl; exact rfl; exact rfl; exact rfl) | (apply st_st0 (y := .own _ _) (pu := true) tabOk; exact rfl; exact rfl; exact rfl; exact rfl; exact rfl; exact rfl; exact rfl; exact rfl; exact rfl; exact rfl) | (apply st_st0 (y := .sl _ _ _) (pu := true) tabOk; exact rfl; exact rfl; exact rfl; exact rfl; exact rfl; exact rfl; exact rfl; exact rfl; exact rfl; exact rfl) | (apply st_st0 (y := .v _) (pu := false) tabOk; exact rfl; exact rfl; exact rfl; exact rfl; exact rfl; exact rfl; exact rfl; exact rfl; exact rfl; exact rfl) | (apply st_st0 (y := .own _ _) (pu := false) tabOk; exact rfl; exact rfl; exact rfl; exact rfl; exact rfl; exact rfl; exact rfl; exact rfl; exact rfl; exact rfl) | (apply st_st0 (y := .sl _ _ _) (pu := false) tabOk; exact rfl; exact rfl; exact rfl; exact rfl; exact rfl; exact rfl; exact rfl; exact rfl; exact rfl; exact rfl) | (apply st_st1 (y := .v _) (pu := true) tabOk; exact rfl; exact rfl; exact rfl; exact rfl; exact rfl; exact rfl; exact rfl; exact rfl; exact rfl; exact rfl) | (apply st_st1 (y := .own _ _) (pu := true) tabOk; exact rfl; exact rfl; exact rfl; exact rfl; exact rfl; exact rfl; exact rfl; exact rfl; exact rfl; exact rfl) | (apply st_st1 (y := .sl _ _ _) (pu := true) tabOk; exact rfl; exact rfl; exact rfl; exact rfl; exact rfl; exact rfl; exact rfl; exact rfl; exact rfl; exact rfl) | (apply st_st1 (y := .v _) (pu := false) tabOk; exact rfl; exact rfl; exact rfl; exact rfl; exact rfl; exact rfl; exact rfl; exact rfl; exact rfl; exact rfl) | (apply st_st1 (y := .own _ _) (pu := false) tabOk; exact rfl; exact rfl; exact rfl; exact rfl; exact rfl; exact rfl; exact rfl; exact rfl; exact rfl; exact rfl) | (apply st_st1 (y := .sl _ _ _) (pu := false) tabOk; exact rfl; exact rfl; exact rfl; exact rfl; exact rfl; exact rfl; exact rfl; exact rfl; exact rfl; exact rfl) | (apply st_st2 (y := .v _) (pu := true) tabOk; exact rfl; exact rfl; exact rfl; exact rfl; exact rfl; exact rfl; exact rfl; exact rfl; exact rfl; exact rfl) | (apply st_st2 (y := .own _ _) (pu := true) tabOk; exact rfl; exact rfl; exact rfl; exact rfl; exact rfl; exact rfl; exact rfl; exact rfl; exact rfl; exact rfl) | (apply st_st2 (y := .sl _ _ _) (pu := true) tabOk; exact rfl; exact rfl; exact rfl; exact rfl; exact rfl; exact rfl; exact rfl; exact rfl; exact rfl; exact rfl) | (apply st_st2 (y := .v _) (pu := false) tabOk; exact rfl; exact rfl; exact rfl; exact rfl; exact rfl; exact rfl; exact rfl; exact rfl; exact rfl; exact rfl) | (apply st_st2 (y := .own _ _) (pu := false) tabOk; exact rfl; exact rfl; exact rfl; exact rfl; exact rfl; exact rfl; exact rfl; exact rfl; exact rfl; exact rfl) | (apply st_st2 (y := .sl _ _ _) (pu := false) tabOk; exact rfl; exact rfl; exact rfl; exact rfl; exact rfl; exact rfl; exact rfl; exact rfl; exact rfl; exact rfl) | fail) : Does Tryd.prog nt o R x [(r, row)] (mkS E ⟨n, l⟩) := h
theorem fz {σ : St} {args : List Operand} {ts : List AV} {u es : List Nat} (h : FrzA σ args ts u es := by first | (focus ((repeat first | exact .nil | apply FrzA.cons | exact .one (.v _) | exact .one (.own rfl rfl rfl rfl rfl) | exact .one (.sl rfl) | exact .one (.nil (by omega)) | exact .agg (.cons (.v _) (.cons (.v _) (.cons (.own rfl rfl rfl rfl rfl) .nil))) | exact .agg (.cons (.v _) (.cons (.v _) (.cons (.sl rfl) .nil))) | exact .agg (.cons (.v _) (.cons (.v _) (.cons (.nil (by omega)) .nil))) | exact .agg (.cons (.v _) (.cons (.v _) .nil)) | exact .one (.pre rfl rfl rfl rfl rfl) | exact .one .both); done)) | fail) : FrzA σ args ts u es := h
theorem mz {y : AV} {r k : Nat} {mk : Value → Value} (h : MkV y r k mk := by first | exact .own _ _ | exact .hall _ _ _ _ | fail) : MkV y r k mk := h
/-! tests that are decided -/
theorem Kf {dst : Option Nat} {g : Nat} {b : Bool} {p : Prop} {hdec : Decidable p} (hd : (ops[g]?).bind (·.dst) = some d := by exact rfl) (hv : lkE E d = .bool (decide p) := by exact rfl) (hp : ¬ p := by omega) (h : RunsH Tryd.prog nt ops (⟨dst, op, ty, pos, aft, some (g, b)⟩ :: os) fs ((d, .bool false) :: E) H K) : RunsH Tryd.prog nt ops (⟨dst, op, ty, pos, aft, some (g, b)⟩ :: os) fs E H K := rh_know_f hd hv hp h
theorem Kt {dst : Option Nat} {g : Nat} {b : Bool} {p : Prop} {hdec : Decidable p} (hd : (ops[g]?).bind (·.dst) = some d := by exact rfl) (hv : lkE E d = .bool (decide p) := by exact rfl) (hp : p := by omega) (h : RunsH Tryd.prog nt ops (⟨dst, op, ty, pos, aft, some (g, b)⟩ :: os) fs ((d, .bool true) :: E) H K) : RunsH Tryd.prog nt ops (⟨dst, op, ty, pos, aft, some (g, b)⟩ :: os) fs E H K := rh_know_t hd hv hp h
theorem Af {Φ : Exit → St → Prop} {c : Operand} {x y : Code} {σ : St} {p : Prop} {hdec : Decidable p} (hc : σ.ev c = .bool (decide p) := by exact rfl) (hp : ¬ p := by omega) (h : AX Tryd.prog nt y σ Φ) : AX Tryd.prog nt (.cond c x y) σ Φ := ax_know_f hc hp h
theorem At {Φ : Exit → St → Prop} {c : Operand} {x y : Code} {σ : St} {p : Prop} {hdec : Decidable p} (hc : σ.ev c = .bool (decide p) := by exact rfl) (hp : p := by omega) (h : AX Tryd.prog nt x σ Φ) : AX Tryd.prog nt (.cond c x y) σ Φ := ax_know_t hc hp h
/-! the steps by short names -/
def Ua := @ax_seq
def Ub := @ax_next
def Uc := @rg_text
def Ue := @ax_block
def Ug := @rh_nil
def Uh := @ax_ret
def Ui := @ax_skip
def Uj := @ax_exit
def Uk := @ax_true
def Ul := @ax_false
def Um := @then_ret
def Un := @then_exit
def Uo := @out_here
def Up := @out_away
def Uq := @out_normal
def Ur := @out_ret
def Us := @round_exit
def Ut := @round_ret
def Uu := @meet_ret
def Ux := @meet_exit
def Uv := @rh_no
def Uw := @rh_un
theorem Ud {Φ : Exit → St → Prop} {id : Nat} (h : RunsH Tryd.prog nt os.toArray os [] E H (fun fs σ => chk os fs = true ∧ Φ .normal σ)) : AX Tryd.prog nt (.region id os.toArray true) (mkS E H) Φ := rg_any mixed h
theorem U0 (h : Does Tryd.prog nt ⟨some d, op, ty, pos, aft, gd⟩ R x [] (mkS E H)) (k : RunsH Tryd.prog nt ops os (fs ++ [⟨Rg ++ R.e, R.r, [d], []⟩]) ((d, x) :: E) H K) (hw : Want ops ⟨some d, op, ty, pos, aft, gd⟩ E Rg := by first | exact .inl ⟨rfl, rfl⟩ | exact .inr ⟨_, _, _, rfl, rfl, rfl, rfl⟩ | fail) : RunsH Tryd.prog nt ops (⟨some d, op, ty, pos, aft, gd⟩ :: os) fs E H K := rh0 h hw k
theorem U1 {r n : Nat} {row : Option Row} {l : List (Nat × Option Row)} (h : Does Tryd.prog nt ⟨some d, op, ty, pos, aft, gd⟩ R x [(r, row)] (mkS E ⟨n, l⟩)) (k : RunsH Tryd.prog nt ops os (fs ++ [⟨Rg ++ R.e, R.r, [d], [r]⟩]) ((d, x) :: E) ⟨n + 1, (r, row) :: l⟩ K) (hw : Want ops ⟨some d, op, ty, pos, aft, gd⟩ E Rg := by first | exact .inl ⟨rfl, rfl⟩ | exact .inr ⟨_, _, _, rfl, rfl, rfl, rfl⟩ | fail) : RunsH Tryd.prog nt ops (⟨some d, op, ty, pos, aft, gd⟩ :: os) fs E ⟨n, l⟩ K := rh1 h hw k
theorem U9 {r n : Nat} {row : Option Row} {l : List (Nat × Option Row)} (h : Does Tryd.prog nt ⟨none, op, ty, pos, aft, gd⟩ R x [(r, row)] (mkS E ⟨n, l⟩)) (k : RunsH Tryd.prog nt ops os (fs ++ [⟨Rg ++ R.e, R.r, [], [r]⟩]) E ⟨n, (r, row) :: l⟩ K) (hw : Want ops ⟨none, op, ty, pos, aft, gd⟩ E Rg := by first | exact .inl ⟨rfl, rfl⟩ | exact .inr ⟨_, _, _, rfl, rfl, rfl, rfl⟩ | fail) : RunsH Tryd.prog nt ops (⟨none, op, ty, pos, aft, gd⟩ :: os) fs E ⟨n, l⟩ K := rhs h hw k
theorem U2 {r s n : Nat} {row row2 : Option Row} {l : List (Nat × Option Row)} (h : Does Tryd.prog nt ⟨some d, op, ty, pos, aft, gd⟩ R x [(r, row), (s, row2)] (mkS E ⟨n, l⟩)) (k : RunsH Tryd.prog nt ops os (fs ++ [⟨Rg ++ R.e, R.r, [d], [r, s]⟩]) ((d, x) :: E) ⟨n + 2, (r, row) :: (s, row2) :: l⟩ K) (hw : Want ops ⟨some d, op, ty, pos, aft, gd⟩ E Rg := by first | exact .inl ⟨rfl, rfl⟩ | exact .inr ⟨_, _, _, rfl, rfl, rfl, rfl⟩ | fail) : RunsH Tryd.prog nt ops (⟨some d, op, ty, pos, aft, gd⟩ :: os) fs E ⟨n, l⟩ K := rh2 h hw k
theorem U3 {r s q n : Nat} {row row2 row3 : Option Row} {l : List (Nat × Option Row)} (h : Does Tryd.prog nt ⟨some d, op, ty, pos, aft, gd⟩ R x [(r, row), (s, row2), (q, row3)] (mkS E ⟨n, l⟩)) (k : RunsH Tryd.prog nt ops os (fs ++ [⟨Rg ++ R.e, R.r, [d], [r, s, q]⟩]) ((d, x) :: E) ⟨n + 3, (r, row) :: (s, row2) :: (q, row3) :: l⟩ K) (hw : Want ops ⟨some d, op, ty, pos, aft, gd⟩ E Rg := by first | exact .inl ⟨rfl, rfl⟩ | exact .inr ⟨_, _, _, rfl, rfl, rfl, rfl⟩ | fail) : RunsH Tryd.prog nt ops (⟨some d, op, ty, pos, aft, gd⟩ :: os) fs E ⟨n, l⟩ K := rh3 h hw k
theorem Lw {ρ : List (Nat × Nat)} {E' : List (Nat × AV)} {H' : Hp} (h1 : LeEs ρ H.l H'.l E E' := by repeat first | exact .nil | refine LeEs.cons ?_ ?_ | exact .v rfl | exact .own rfl rfl rfl rfl rfl | exact .ptr rfl rfl rfl rfl rfl rfl | exact .nil rfl rfl rfl | exact .sl rfl | exact .both rfl rfl | exact .frz rfl rfl rfl rfl rfl rfl rfl | exact .tab rfl | exact .any _) (h2 : LeHs ρ H.l H'.l H'.l := by repeat first | exact .nil | refine LeHs.keep rfl ⟨rfl, rfl, rfl, .inl ⟨rfl, rfl⟩⟩ ?_ | refine LeHs.keep rfl ⟨rfl, rfl, rfl, .inr ⟨(by first | exact .inl rfl | exact .inr rfl), by repeat first | exact .nil | refine LeVL.cons ?_ ?_ | exact .v rfl | exact .own rfl rfl rfl rfl rfl | exact .sl rfl | exact .both rfl rfl | exact .frz rfl rfl rfl rfl rfl rfl rfl⟩⟩ ?_ | refine LeHs.fresh rfl rfl rfl (Nat.succ_pos _) rfl ?_) (h3 : apartB ((H'.l.map (·.1)).map (rn ρ)) = true := by exact rfl) (h4 : rn ρ 0 = 0 := by exact rfl) : Weak (mkS E H) (mkS E' H') := weak_of ρ h1 h2 h3 h4
theorem Rx {rs : List ResultVar} {σ : St} {res : AV} {xs : List AV} {u : List Nat} (h1 : ResL T σ rs xs := by repeat first | exact .nil | apply ResL.cons | exact .tmp rfl | exact .agg rfl rfl rfl rfl rfl (Nat.le_of_ble_eq_true rfl) rfl | exact .cell rfl rfl rfl rfl rfl (Nat.le_of_ble_eq_true rfl) rfl) (h2 : ExpR σ xs res u := by first | exact .one (by first | exact .one (.v rfl) | exact .one (.own rfl rfl rfl rfl rfl rfl rfl (by first | exact scal_ints _ | exact scal_slc _)) | exact .one (.nil (by decide) rfl) | exact .agg (.cons (.v rfl) (.cons (.v rfl) (.cons (.own rfl rfl rfl rfl rfl rfl rfl (scal_ints _)) .nil))) | exact .agg (.cons (.v rfl) (.cons (.v rfl) (.cons (.nil (by decide) rfl) .nil))) | exact .agg (.cons (.v rfl) (.cons (.v rfl) .nil))) | exact .two (by repeat first | exact .nil | apply ExpL.cons | exact (by first | exact .one (.v rfl) | exact .one (.own rfl rfl rfl rfl rfl rfl rfl (by first | exact scal_ints _ | exact scal_slc _)) | exact .one (.nil (by decide) rfl) | exact .agg (.cons (.v rfl) (.cons (.v rfl) (.cons (.own rfl rfl rfl rfl rfl rfl rfl (scal_ints _)) .nil))) | exact .agg (.cons (.v rfl) (.cons (.v rfl) (.cons (.nil (by decide) rfl) .nil))) | exact .agg (.cons (.v rfl) (.cons (.v rfl) .nil))))) (h3 : u.Nodup := by decide) : ∃ xs u, ResL T σ rs xs ∧ ExpR σ xs res u ∧ u.Nodup := ⟨xs, u, h1, h2, h3⟩
end
/-! rows -/
abbrev hallRow (h : PHall) : Row := ⟨25, 3, 0, true, true, [.int h.wide, .int h.deep, .sl 3 1 (ints h.cells)]⟩
abbrev boxRow (x y : Int) (r k : Nat) : Row := ⟨25, 3, 0, false, true, [.int x, .int y, .own r k]⟩
abbrev intsRow (zs : List Int) : Row := ⟨3, 1, 0, true, false, ints zs⟩
abbrev slcRow (l : List (Int × Int)) : Row := ⟨53, 2, 0, true, false, slc l⟩
abbrev zeroRow : Row := ⟨25, 3, 0, true, true, [.int 0, .int 0, .v (.slice none 0 0)]⟩
end Go.Proofs.YtnfjmcenjpoloaaDoor
end

section
/-
  Calls whose result is still memory; rows of lists; parts of lists of slides; slides made; numbers of 32 bits.
-/
set_option linter.unusedVariables false
set_option linter.unusedSimpArgs false
namespace Go.Sym
open Go Go.RowKit Go.Park Go.Proofs.YtnfjmcenjpoloaaDoor

mutual
theorem relO_still {cx : Cx} {lo : Nat} {Zr : Nat → Prop} (hz : ∀ b, Zr b → cx.Z b) : ∀ (x : AV) (v : Value) (bs : List Nat), relO cx.w lo Zr x v bs → (∀ b, b ∈ bs → b < cx.w.heap.size → cx.Z b) → relV cx x v
  | .v x, v, bs, h, hb => by simp only [relO] at h; simp only [relV]; exact h.1
  | .agg xs, v, bs, h, hb => by
    simp only [relO] at h
    obtain ⟨vs, rfl, h⟩ := h
    simp only [relV]
    exact ⟨vs, rfl, relOL_still hz xs vs bs h hb⟩
  | .tup xs, v, bs, h, hb => by
    simp only [relO] at h
    obtain ⟨vs, rfl, h⟩ := h
    simp only [relV]
    exact ⟨vs, rfl, relOL_still hz xs vs bs h hb⟩
  | .sl ty sz cs, v, bs, h, hb => by
    simp only [relO] at h
    obtain ⟨hbs, hsz, hp, n, xs, h1, hlen, h3, hone⟩ := h
    have hpl := relL_pure (cx := cx0 cx.w Zr) (cx' := cx) ⟨fun b hb => ⟨hz b hb, rfl⟩⟩ cs xs hp h3
    simp only [relV]
    refine ⟨hp, ?_⟩
    rcases h1.2 with ⟨k1, k2⟩ | ⟨g, cap, cur, k1, k0, hg, k2, k3, k4, k5⟩
    · have hc0 : cs = [] := List.eq_nil_of_length_eq_zero (by rw [hlen, k2]; simp)
      exact ⟨none, 0, 0, k1, Nat.le_refl _, by simp, hsz, by rw [hc0]; simp, .inl hc0⟩
    · refine ⟨some ⟨g, 0, none⟩, n, cap, k1, k2, k3, hsz, hlen, .inr ⟨g, 0, rfl, hb g (by rw [hbs, k1]; simp [Value.ownBlock]) (Array.getElem?_eq_some_iff.1 hg).1, relC_of fun i x hx => ?_⟩⟩
      obtain ⟨u, hv1, hv2⟩ := relL_get hpl i x hx
      refine ⟨u, ?_, hone u (List.mem_of_getElem? hv1), hv2⟩
      have := h1.cells (g := g) (by rw [k1]; rfl) i u hv1
      rw [Addr.add_lit] at this
      exact this
  | .any, _, _, h, _ => by simp [relO] at h
  | .ip _ _, _, _, h, _ => by simp [relO] at h
  | .own _ _, _, _, h, _ => by simp [relO] at h
  | .sub _ _ _ _, _, _, h, _ => by simp [relO] at h
  | .pre _ _ _, _, _, h, _ => by simp [relO] at h
  | .ptr _ _ _, _, _, h, _ => by simp [relO] at h
  | .both _ _, _, _, h, _ => by simp [relO] at h
  | .tab _ _, _, _, h, _ => by simp [relO] at h
theorem relOL_still {cx : Cx} {lo : Nat} {Zr : Nat → Prop} (hz : ∀ b, Zr b → cx.Z b) : ∀ (xs : List AV) (vs : List Value) (bs : List Nat), relOL cx.w lo Zr xs vs bs → (∀ b, b ∈ bs → b < cx.w.heap.size → cx.Z b) → relL cx xs vs
  | [], vs, bs, h, hb => by simp only [relOL] at h; simp only [relL]; exact h.1
  | x :: xs, vs, bs, h, hb => by
    simp only [relOL] at h
    obtain ⟨u, us, b1, b2, rfl, rfl, h1, h2⟩ := h
    simp only [relL]
    exact ⟨u, us, rfl, relO_still hz x u b1 h1 (fun b h => hb b (by simp [h])), relOL_still hz xs us b2 h2 (fun b h => hb b (by simp [h]))⟩
end

section
variable {P : Program} {nt : Nat} {σ : St} {dst : Option Nat} {ty : Nat} {pos : String} {aft : Array Edge} {gd : Option (Nat × Bool)} {f : Nat} {args : List Operand} {at' : Array TypeId} {ts : List AV} {res : AV} {u es : List Nat}
/-- a call, its result still memory -/
theorem does_call_f (hd : dstOk nt dst = true) (hfn : FnS P f ts res) (hfz : FrzA σ args ts u es) :
    Does P nt ⟨dst, .call ⟨.value (.func f), args.toArray, at'⟩, ty, pos, aft, gd⟩ ⟨es, u⟩ res [] σ := by
  refine ⟨?_⟩
  intro τ hag F hF a w hS Q K hK
  obtain ⟨φ, Z, hS⟩ := hS
  obtain ⟨h1, h2⟩ := frzA_rel (Z1 := fun b => b < w.heap.size) hS hS.zlt hfz (fun r hr => hag.2 r hr) (fun _ _ _ _ _ _ h => h) (fun t ht => hag.1 t ht)
  have hc := hfn.2 w (args.map a.eval) h2 h1
  unfold Oper.wp
  have hrun : (execOp a.eval ⟨dst, .call ⟨.value (.func f), args.toArray, at'⟩, ty, pos, aft, gd⟩).run P w = .ok (.enter f (args.map a.eval).toArray) w := by
    simp [execOp, resolve, Act.eval, Deferred.ofValue, invoke, run_callFunc hfn.1]
  rw [hrun, Oper.upon_enter]
  refine hc.mono ?_
  rintro e w' ⟨v, bs, rfl, hp⟩
  show K (a.put dst v) w'
  refine hK v w' ?_
  let Z' : Nat → Prop := fun b => Z b ∨ (w.heap.size ≤ b ∧ b < w'.heap.size)
  have hS' : SimAt F φ Z' τ a w' := hS.grow hp.below (fun b h => .inl h) (fun b h => h)
  have hr : relV (cxOf φ Z' τ w') res v := relO_still (cx := cxOf φ Z' τ w') (fun b h => .inr ⟨h.1, h.2.1⟩) res v bs hp.rel (fun b hb hl => .inr ⟨hp.ge b hb, hl⟩)
  refine ⟨φ, Z', ?_⟩
  cases dst with
  | none => exact hS'
  | some d =>
    simp [dstOk] at hd
    exact hS'.put (by omega) hr
/-- f gives still memory: its arguments' and what it made -/
def FnF (P : Program) (f : Nat) (args : List AV) (res : AV) : Prop :=
  Enters P f ∧ ∀ w vs (Z0 : Nat → Prop), (∀ b, Z0 b → b < w.heap.size) → pureL args → relL (cx0 w Z0) args vs → Calls P f vs.toArray w fun e w' => ∃ v, e = .returned v ∧ Below w.heap.size w w' ∧ pureV res ∧ relV (cx0 w' (fun b => Z0 b ∨ (w.heap.size ≤ b ∧ b < w'.heap.size))) res v
theorem does_call_ff (hd : dstOk nt dst = true) (hfn : FnF P f ts res) (hfz : FrzA σ args ts [] es) :
    Does P nt ⟨dst, .call ⟨.value (.func f), args.toArray, at'⟩, ty, pos, aft, gd⟩ ⟨es, []⟩ res [] σ := by
  refine ⟨?_⟩
  intro τ hag F hF a w hS Q K hK
  obtain ⟨φ, Z, hS⟩ := hS
  obtain ⟨h1, h2⟩ := frzA_rel (Z1 := Z) hS (fun _ h => h) hfz (fun r hr => by simp at hr) (fun r hr => by simp at hr) (fun t ht => hag.1 t ht)
  have hc := hfn.2 w (args.map a.eval) Z hS.zlt h2 h1
  unfold Oper.wp
  have hrun : (execOp a.eval ⟨dst, .call ⟨.value (.func f), args.toArray, at'⟩, ty, pos, aft, gd⟩).run P w = .ok (.enter f (args.map a.eval).toArray) w := by
    simp [execOp, resolve, Act.eval, Deferred.ofValue, invoke, run_callFunc hfn.1]
  rw [hrun, Oper.upon_enter]
  refine hc.mono ?_
  rintro e w' ⟨v, rfl, hp, hpu, hrel⟩
  show K (a.put dst v) w'
  refine hK v w' ?_
  let Z' : Nat → Prop := fun b => Z b ∨ (w.heap.size ≤ b ∧ b < w'.heap.size)
  have hS' : SimAt F φ Z' τ a w' := hS.grow hp (fun b h => .inl h) (fun b h => h)
  have hr : relV (cxOf φ Z' τ w') res v := relV_pure (cx := cx0 w' (fun b => Z b ∨ (w.heap.size ≤ b ∧ b < w'.heap.size))) (cx' := cxOf φ Z' τ w') ⟨fun b h => ⟨h, rfl⟩⟩ res v hpu hrel
  refine ⟨φ, Z', ?_⟩
  cases dst with
  | none => exact hS'
  | some d =>
    simp [dstOk] at hd
    exact hS'.put (by omega) hr
end
def ResOkF (T : List (Nat × TyI)) (rs : List ResultVar) (res : AV) (e : Exit) (σ : St) : Prop := (e = .ret ∨ e = .normal) ∧ ∃ x u, ResL T σ rs [x] ∧ Frz σ x res u
theorem fnf_of_ax {P : Program} {T : List (Nat × TyI)} (hT : TabOk P T) {f nt : Nat} {fn : Func} {c : Code} {rs : List ResultVar} {ts : List AV} {res : AV} (hf : P.funcs[f]? = some fn) (hb : fn.body = some c) (hnm : (fn.name == "runtime.NumGoroutine") = false) (hnt : fn.ntmps = nt) (hrs : fn.results = rs.toArray)
    (hlen : ts.length ≤ nt) (h : AX P nt c (mkSt (entE 0 ts) []) (ResOkF T rs res)) : FnF P f ts res := by
  refine ⟨⟨fn, hf, hnm, by rw [hb]; rfl⟩, fun w vs Z0 hZ0 hp hx => ?_⟩
  obtain ⟨e, σ', ⟨he, x, u, h1, h2⟩, hend⟩ := h
  have hl := relL_length hx
  refine calls_of_wp hf hb ?_
  let F : Fr := ⟨w, fun _ => False, none, nt, Z0⟩
  have hS : Sim F (mkSt (entE 0 ts) []) { tmps := vs.toArray ++ Array.replicate (fn.ntmps - vs.toArray.size) undef, defers := [] } w := by
    refine ⟨fun _ => .slice none 0 0, Z0, rfl, ?_, ?_, ?_, ?_, hZ0, ?_, fun b h _ => h, ⟨rfl, rfl, rfl, Nat.le_refl _, fun _ _ _ => rfl⟩, ?_⟩
    · simp [F]; omega
    · intro i
      simp only [mkSt]
      rw [entE_get]
      by_cases hi : i < ts.length
      · rw [if_pos (by omega)]
        obtain ⟨v, hv1, hv2⟩ := relL_get hx i (ts[i]) (by simp [hi])
        rw [Array.getD_eq_getD_getElem?, Array.getElem?_append_left (by simp; omega)]
        simp [List.getD, hi, hv1]
        exact relV_pure ⟨fun b hb => ⟨hb, rfl⟩⟩ _ _ (pureL_get hp i _ (by simp [hi])) hv2
      · rw [if_neg (by omega)]; simp [relV]
    · intro r row hr; simp [mkSt, lkR] at hr
    · intro r s _ hr; simp [mkSt, lkR] at hr
    · intro b _ r hr; simp [mkSt, lkR] at hr
    · intro t ht; simp [F] at ht
  refine Code.wp_mono (fun e1 a1 w1 hh => ?_) (hend F rfl _ w hS)
  obtain ⟨rfl, φ, Z, hS1⟩ := hh
  obtain ⟨vs1, h4, h5⟩ := resL_run hT hS1 h1
  have h6 := results_run hrs h4
  simp only [relL] at h5
  obtain ⟨v, us, rfl, h7, rfl⟩ := h5
  have hk := hS1.keep
  obtain ⟨h8, h9⟩ := frz_rel (Z1 := fun b => Z0 b ∨ (w.heap.size ≤ b ∧ b < w1.heap.size)) hS1 h2 (fun _ _ => rfl) (fun b hb => by
    rcases Nat.lt_or_ge b w.heap.size with h | h
    · exact .inl (hS1.base b hb h)
    · exact .inr ⟨h, hS1.zlt b hb⟩) (fun r _ row hrow g hg hl => by
    rcases (hS1.rows r row hrow).blk g hg with h | h
    · exact .inr ⟨h, hl⟩
    · exact h.2.elim) h7
  have hpost : ∃ v', packRes [v] = v' ∧ Below w.heap.size w w1 ∧ pureV res ∧ relV (cx0 w1 (fun b => Z0 b ∨ (w.heap.size ≤ b ∧ b < w1.heap.size))) res v' :=
    ⟨v, rfl, ⟨hk.os, hk.tape, hk.output, hk.size, fun k hk' => hk.block k hk' (fun h => h)⟩, h9, h8⟩
  obtain ⟨v', e2, e3, e4, e5⟩ := hpost
  rcases he with rfl | rfl
  · exact ⟨hS1.dfr, _, h6, v', by rw [e2], e3, e4, e5⟩
  · exact ⟨hS1.dfr, _, h6, v', by rw [e2], e3, e4, e5⟩

/-! rows of lists -/
def lists (t : Nat) (ls : List (List Int)) : List AV := ls.map fun l => .sl t 1 (ints l)
def gl (ls : List (List Int)) (j : Nat) : List Int := ls.getD j []
theorem lists_length (t : Nat) (ls : List (List Int)) : (lists t ls).length = ls.length := by simp [lists]
theorem rd_lists {t : Nat} {ls : List (List Int)} {j : Nat} (h : j < ls.length) : rd (lists t ls) j = .sl t 1 (ints (gl ls j)) := by simp [rd, lists, gl, List.getD, h]
theorem lists_append (t : Nat) (a b : List (List Int)) : lists t a ++ lists t b = lists t (a ++ b) := by simp [lists]
def besL (t : Nat) (ls : List (List Int)) (n : Nat) : List AV := lists t ls ++ List.replicate (n - ls.length) (.v (.slice none 0 0))
theorem besL_length {t : Nat} {ls : List (List Int)} {n : Nat} (h : ls.length ≤ n) : (besL t ls n).length = n := by simp [besL, lists_length]; omega
theorem besL_end {t : Nat} {ls : List (List Int)} : besL t ls ls.length = lists t ls := by simp [besL]
theorem besL_set {t : Nat} {ls : List (List Int)} {l : List Int} {n : Nat} (h : ls.length < n) : (besL t ls n).set ls.length (.sl t 1 (ints l)) = besL t (ls ++ [l]) n := by
  unfold besL
  rw [List.set_append_right _ _ (by rw [lists_length]; exact Nat.le_refl _), lists_length, Nat.sub_self]
  obtain ⟨m, hm⟩ : ∃ m, n - ls.length = m + 1 := ⟨n - ls.length - 1, by omega⟩
  rw [hm, List.replicate_succ, List.set_cons_zero, ← lists_append, show n - (ls ++ [l]).length = m by simp; omega]
  simp [lists]
def i32s (zs : List Int) : List AV := zs.map fun z => AV.v (.int .i32 z)
theorem i32s_length (zs : List Int) : (i32s zs).length = zs.length := by simp [i32s]
theorem rd_i32s {zs : List Int} {j : Nat} (h : j < zs.length) : rd (i32s zs) j = .v (.int .i32 (gi zs j)) := by
  simp [rd, i32s, gi, List.getD, h]
theorem i32s_set (zs : List Int) (j : Nat) (z : Int) : (i32s zs).set j (.v (.int .i32 z)) = i32s (zs.set j z) := by simp [i32s, List.map_set]
section
variable {P : Program} {T : List (Nat × TyI)} {nt : Nat} {E : List (Nat × AV)} {H : Hp} {dst : Option Nat} {ty : Nat} {pos : String} {aft : Array Edge} {gd : Option (Nat × Bool)} {f : Nat} {args : List Operand} {at' : Array TypeId} {ts : List AV} {res : AV} {u es : List Nat}
theorem st_call_f (hd : dstOk nt dst = true) (hfn : FnS P f ts res) (hfz : FrzA (mkS E H) args ts u es) :
    Does P nt ⟨dst, .call ⟨.value (.func f), args.toArray, at'⟩, ty, pos, aft, gd⟩ ⟨es, u⟩ res [] (mkS E H) := does_call_f hd hfn hfz
theorem st_ix_own_l (hT : TabOk P T) {t e o : Nat} {x y : Operand} {i j : TyI} {r k : Nat} {row : Row} {z : Int} {t' : Nat} {ls : List (List Int)} (hd : dstOk nt dst = true) (hx : (mkS E H).ev x = .own r k) (hr : (mkS E H).row r = some row) (hc : row.cs = lists t' ls) (hv : row.ver = k) (hy : (mkS E H).ev y = .int z)
    (ht : lkT T t = some i) (hu : i.u = .slice e) (he : lkT T e = some j) (hs : row.sz = 1) (hs' : j.size = 1) (ho : z.toNat = o) (h0 : 0 ≤ z ∧ o < ls.length) :
    Does P nt ⟨dst, .indexAddr t x y, ty, pos, aft, gd⟩ ⟨fo x ++ fo y, [r]⟩ (.ptr r k o) [] (mkS E H) := by
  have := does_index_own (P := P) (ty := ty) (pos := pos) (aft := aft) (gd := gd) hT hd hx hy hr hv ht hu he (by rw [hs, hs']) h0.1 (by rw [hs', hc, lists_length]; omega)
  rw [hs', Nat.mul_one, ho] at this; exact this
theorem st_ld_l (hT : TabOk P T) {t : Nat} {x : Operand} {i : TyI} {r k o : Nat} {row : Row} {t' : Nat} {ls : List (List Int)} (hd : dstOk nt dst = true) (hx : (mkS E H).ev x = .ptr r k o) (hr : (mkS E H).row r = some row) (hc : row.cs = lists t' ls) (hv : row.ver = k) (ht : lkT T t = some i) (hg : i.agg = false) (ho : o < ls.length) :
    Does P nt ⟨dst, .load t x, ty, pos, aft, gd⟩ ⟨fo x, [r]⟩ (.sl t' 1 (ints (gl ls o))) [] (mkS E H) := by
  have := does_load (P := P) (ty := ty) (pos := pos) (aft := aft) (gd := gd) hT hd hx hr hv ht hg (by rw [hc, lists_length]; exact ho)
  rw [hc, rd_lists ho] at this; exact this
theorem st_ix_sl_l (hT : TabOk P T) {t e o : Nat} {x y : Operand} {i j : TyI} {ty' sz : Nat} {z : Int} {t' : Nat} {ls : List (List Int)} (hd : dstOk nt dst = true) (hx : (mkS E H).ev x = .sl ty' sz (lists t' ls)) (hy : (mkS E H).ev y = .int z)
    (ht : lkT T t = some i) (hu : i.u = .slice e) (he : lkT T e = some j) (hs : sz = 1) (hs' : j.size = 1) (ho : z.toNat = o) (h0 : 0 ≤ z ∧ o < ls.length) :
    Does P nt ⟨dst, .indexAddr t x y, ty, pos, aft, gd⟩ ⟨fo x ++ fo y, []⟩ (.ip (lists t' ls) o) [] (mkS E H) := by
  have := does_index_sl (P := P) (ty := ty) (pos := pos) (aft := aft) (gd := gd) hT hd hx hy ht hu he (by rw [hs, hs']) h0.1 (by rw [hs', lists_length]; omega)
  rw [hs', Nat.mul_one, ho] at this; exact this
theorem st_ld_ip_l (hT : TabOk P T) {t : Nat} {x : Operand} {i : TyI} {o : Nat} {t' : Nat} {ls : List (List Int)} (hd : dstOk nt dst = true) (hx : (mkS E H).ev x = .ip (lists t' ls) o) (ht : lkT T t = some i) (hg : i.agg = false) (ho : o < ls.length) :
    Does P nt ⟨dst, .load t x, ty, pos, aft, gd⟩ ⟨fo x, []⟩ (.sl t' 1 (ints (gl ls o))) [] (mkS E H) := by
  have := does_load_ip (P := P) (ty := ty) (pos := pos) (aft := aft) (gd := gd) hT hd hx ht hg (by rw [lists_length]; exact ho)
  rw [rd_lists ho] at this; exact this
theorem st_ix_bes (hT : TabOk P T) {t e o n : Nat} {x y : Operand} {i j : TyI} {r k : Nat} {row : Row} {z : Int} {t' : Nat} {ls : List (List Int)} (hd : dstOk nt dst = true) (hx : (mkS E H).ev x = .own r k) (hr : (mkS E H).row r = some row) (hc : row.cs = besL t' ls n) (hv : row.ver = k) (hy : (mkS E H).ev y = .int z)
    (ht : lkT T t = some i) (hu : i.u = .slice e) (he : lkT T e = some j) (hs : row.sz = 1) (hs' : j.size = 1) (ho : z.toNat = o) (h0 : 0 ≤ z ∧ o < n ∧ ls.length ≤ n) :
    Does P nt ⟨dst, .indexAddr t x y, ty, pos, aft, gd⟩ ⟨fo x ++ fo y, [r]⟩ (.ptr r k o) [] (mkS E H) := by
  have := does_index_own (P := P) (ty := ty) (pos := pos) (aft := aft) (gd := gd) hT hd hx hy hr hv ht hu he (by rw [hs, hs']) h0.1 (by rw [hs', hc, besL_length h0.2.2]; omega)
  rw [hs', Nat.mul_one, ho] at this; exact this
theorem st_st_bes (hT : TabOk P T) {t n : Nat} {x v : Operand} {i : TyI} {r k o : Nat} {row : Row} {t' : Nat} {l : List Int} {ls : List (List Int)} (hx : (mkS E H).ev x = .ptr r k o) (hr : (mkS E H).row r = some row) (hc : row.cs = besL t' ls n) (hv : row.ver = k) (ht : lkT T t = some i) (hs : i.size = 1) (hp : row.pure = true)
    (hy : (mkS E H).ev v = .sl t' 1 (ints l)) (ho : o = ls.length ∧ ls.length < n) : Does P nt ⟨none, .store t x v, ty, pos, aft, gd⟩ ⟨fo x ++ fo v, [r]⟩ .any [(r, some ⟨row.ty, row.sz, row.ver, true, row.box, besL t' (ls ++ [l]) n⟩)] (mkS E H) := by
  have := does_store (P := P) (nt := nt) (ty := ty) (pos := pos) (aft := aft) (gd := gd) hT hx hr hv ht hy (ys := [.sl t' 1 (ints l)]) rfl rfl hs.symm (by rw [hc, besL_length (Nat.le_of_lt ho.2)]; simp; omega)
  rw [hc] at this
  obtain ⟨rfl, ho2⟩ := ho
  have e : pureBs [AV.sl t' 1 (ints l)] = true := rfl
  simp only [setL, besL_set ho2, hp, e, Bool.and_true, rowsOf, rowOf, List.append_nil] at this
  exact this
theorem st_lit1_l (hT : TabOk P T) {t e n : Nat} {l : List (Nat × Option Row)} {p : Operand} {i j : TyI} {t' : Nat} {zs : List Int} (hd : dstOk nt dst = true) (hp : (mkS E ⟨n, l⟩).ev p = .sl t' 1 (ints zs)) (ht : lkT T t = some i) (hu : i.u = .slice e) (he : lkT T e = some j) (hs : j.size = 1) (hr : (mkS E ⟨n, l⟩).row n = none) (h0 : Nat.beq n 0 = false) :
    Does P nt ⟨dst, .buildSlice t 1 #[(0, p)], ty, pos, aft, gd⟩ ⟨fo p, [n]⟩ (.own n 0) [(n, some ⟨e, 1, 0, true, false, lists t' [zs]⟩)] (mkS E ⟨n, l⟩) := by
  have := does_buildSlice1 (P := P) (ty := ty) (pos := pos) (aft := aft) (gd := gd) hT hd hp (ys := [.sl t' 1 (ints zs)]) rfl rfl ht hu he (by omega) (by omega) hs.symm hr (fun h => by rw [h] at h0; simp at h0)
  rw [hs] at this; exact this
theorem st_app_l (hT : TabOk P T) {t e : Nat} {x y : Operand} {i j : TyI} {r k r2 k2 : Nat} {row row2 : Row} {t' : Nat} {zs ys : List (List Int)} (hd : dstOk nt dst = true) (hx : (mkS E H).ev x = .own r k) (hr : (mkS E H).row r = some row) (hc : row.cs = lists t' zs) (hv : row.ver = k) (hbx : row.box = false) (hp : row.pure = true) (h0 : Nat.beq r 0 = false)
    (hy : (mkS E H).ev y = .own r2 k2) (hr2 : (mkS E H).row r2 = some row2) (hc2 : row2.cs = lists t' ys) (hv2 : row2.ver = k2) (hp2 : row2.pure = true) (hs2 : row2.sz = 1)
    (ht : lkT T t = some i) (hu : i.u = .slice e) (he : lkT T e = some j) (hty : row.ty = e) (hsz : row.sz = 1) (hs : j.size = 1) (hzl : j.zero.length = 1) (hby : j.bytes = 24) (hb : zs.length + ys.length ≤ 4294967296) :
    Does P nt ⟨dst, .call ⟨.builtin .append, #[x, y], #[t, t]⟩, ty, pos, aft, gd⟩ ⟨fo x ++ fo y, [r, r2]⟩ (.own r (k + 1)) [(r, some ⟨row.ty, 1, k + 1, true, false, lists t' (zs ++ ys)⟩)] (mkS E H) := by
  have hsrc := src_own (R := ⟨fo x ++ fo y, [r, r2]⟩) hy hr2 hv2 (by simp +contextual) (by simp)
  rw [hs2, hc2] at hsrc
  have := does_append (P := P) (ty := ty) (pos := pos) (aft := aft) (gd := gd) hT hd hx hr hv hbx (fun h => by rw [h] at h0; simp at h0) ht hu he hty (by rw [hsz, hs]) (by rw [hzl, hs]) (by rw [hs]; exact hsrc) (by simp +contextual) (by simp) (by rw [hc, lists_length, lists_length, hby]; omega)
  rw [hc, lists_append, hp, hp2, hsz] at this; exact this

/-! numbers of 32 bits -/
theorem st_ix_own_4 (hT : TabOk P T) {t e o : Nat} {x y : Operand} {i j : TyI} {r k : Nat} {row : Row} {z : Int} {zs : List Int} (hd : dstOk nt dst = true) (hx : (mkS E H).ev x = .own r k) (hr : (mkS E H).row r = some row) (hc : row.cs = i32s zs) (hv : row.ver = k) (hy : (mkS E H).ev y = .int z)
    (ht : lkT T t = some i) (hu : i.u = .slice e) (he : lkT T e = some j) (hs : row.sz = 1) (hs' : j.size = 1) (ho : z.toNat = o) (h0 : 0 ≤ z ∧ o < zs.length) :
    Does P nt ⟨dst, .indexAddr t x y, ty, pos, aft, gd⟩ ⟨fo x ++ fo y, [r]⟩ (.ptr r k o) [] (mkS E H) := by
  have := does_index_own (P := P) (ty := ty) (pos := pos) (aft := aft) (gd := gd) hT hd hx hy hr hv ht hu he (by rw [hs, hs']) h0.1 (by rw [hs', hc, i32s_length]; omega)
  rw [hs', Nat.mul_one, ho] at this; exact this
theorem st_ld_4 (hT : TabOk P T) {t : Nat} {x : Operand} {i : TyI} {r k o : Nat} {row : Row} {zs : List Int} (hd : dstOk nt dst = true) (hx : (mkS E H).ev x = .ptr r k o) (hr : (mkS E H).row r = some row) (hc : row.cs = i32s zs) (hv : row.ver = k) (ht : lkT T t = some i) (hg : i.agg = false) (ho : o < zs.length) :
    Does P nt ⟨dst, .load t x, ty, pos, aft, gd⟩ ⟨fo x, [r]⟩ (.v (.int .i32 (gi zs o))) [] (mkS E H) := by
  have := does_load (P := P) (ty := ty) (pos := pos) (aft := aft) (gd := gd) hT hd hx hr hv ht hg (by rw [hc, i32s_length]; exact ho)
  rw [hc, rd_i32s ho] at this; exact this
theorem st_st_4 (hT : TabOk P T) {t : Nat} {x v : Operand} {i : TyI} {r k o : Nat} {row : Row} {z : Int} {zs : List Int} (hx : (mkS E H).ev x = .ptr r k o) (hr : (mkS E H).row r = some row) (hc : row.cs = i32s zs) (hv : row.ver = k) (ht : lkT T t = some i) (hs : i.size = 1) (hp : row.pure = true)
    (hy : (mkS E H).ev v = .v (.int .i32 z)) (ho : o < zs.length) : Does P nt ⟨none, .store t x v, ty, pos, aft, gd⟩ ⟨fo x ++ fo v, [r]⟩ .any [(r, some ⟨row.ty, row.sz, row.ver, true, row.box, i32s (zs.set o z)⟩)] (mkS E H) := by
  have := does_store (P := P) (nt := nt) (ty := ty) (pos := pos) (aft := aft) (gd := gd) hT hx hr hv ht hy (ys := [.v (.int .i32 z)]) rfl rfl hs.symm (by rw [hc, i32s_length]; simp; omega)
  rw [hc] at this
  have e : pureBs [AV.v (.int .i32 z)] = true := rfl
  simp only [setL, i32s_set, hp, e, Bool.and_true, rowsOf, rowOf, List.append_nil] at this
  exact this
theorem st_len_own_4 (hT : TabOk P T) {t e : Nat} {x : Operand} {i : TyI} {r k : Nat} {row : Row} {zs : List Int} (hd : dstOk nt dst = true) (hx : (mkS E H).ev x = .own r k) (hr : (mkS E H).row r = some row) (hc : row.cs = i32s zs) (hv : row.ver = k) (hs : row.sz = 1) (ht : lkT T t = some i) (hu : i.u = .slice e) :
    Does P nt ⟨dst, .call ⟨.builtin .len, #[x], #[t]⟩, ty, pos, aft, gd⟩ ⟨fo x, [r]⟩ (.int (zs.length : Int)) [] (mkS E H) := by
  have := does_len_own (P := P) (ty := ty) (pos := pos) (aft := aft) (gd := gd) hT hd hx hr hv ht hu
  rw [hc, i32s_length, hs, Nat.div_one] at this; exact this
theorem st_make_4 (hT : TabOk P T) {t e m n : Nat} {l : List (Nat × Option Row)} {p q : Operand} {i j : TyI} {L C : Int} (hd : dstOk nt dst = true) (hp : (mkS E ⟨n, l⟩).ev p = .int L) (hq : (mkS E ⟨n, l⟩).ev q = .int C) (hL : L = (m : Int)) (hC : C = (m : Int))
    (ht : lkT T t = some i) (hu : i.u = .slice e) (he : lkT T e = some j) (hz : j.zero = [.int .i32]) (hs : j.size = 1) (hb : j.bytes * m ≤ 281474976710656) (hn : m ≤ maxLen) (hr : (mkS E ⟨n, l⟩).row n = none) (h0 : Nat.beq n 0 = false) :
    Does P nt ⟨dst, .makeSlice t p q, ty, pos, aft, gd⟩ ⟨fo p ++ fo q, [n]⟩ (.own n 0) [(n, some ⟨e, 1, 0, true, false, i32s (List.replicate m 0)⟩)] (mkS E ⟨n, l⟩) := by
  have := does_make (P := P) (ty := ty) (pos := pos) (aft := aft) (gd := gd) (n := m) hT hd hp hq hL hC ht hu he hz hs hb hn hr (fun h => by rw [h] at h0; simp at h0)
  rw [show i32s (List.replicate m 0) = List.replicate m (AV.v (.int .i32 0)) by simp [i32s]]; exact this
theorem st_make_l (hT : TabOk P T) {t e m n t' : Nat} {l : List (Nat × Option Row)} {p q : Operand} {i j : TyI} {L C : Int} (hd : dstOk nt dst = true) (hp : (mkS E ⟨n, l⟩).ev p = .int L) (hq : (mkS E ⟨n, l⟩).ev q = .int C) (hL : L = (m : Int)) (hC : C = (m : Int))
    (ht : lkT T t = some i) (hu : i.u = .slice e) (he : lkT T e = some j) (hz : j.zero = [.nilsl]) (hs : j.size = 1) (hb : j.bytes * m ≤ 281474976710656) (hn : m ≤ maxLen) (hr : (mkS E ⟨n, l⟩).row n = none) (h0 : Nat.beq n 0 = false) :
    Does P nt ⟨dst, .makeSlice t p q, ty, pos, aft, gd⟩ ⟨fo p ++ fo q, [n]⟩ (.own n 0) [(n, some ⟨e, 1, 0, true, false, besL t' [] m⟩)] (mkS E ⟨n, l⟩) := by
  have := does_make (P := P) (ty := ty) (pos := pos) (aft := aft) (gd := gd) (n := m) hT hd hp hq hL hC ht hu he hz hs hb hn hr (fun h => by rw [h] at h0; simp at h0)
  rw [show besL t' [] m = List.replicate m (AV.v (.slice none 0 0)) by simp [besL, lists]]; exact this

/-! slides -/
theorem made2 (n : Nat) : (madeCells #[Value.int .i64 0, Value.int .i64 0] n).toList = List.replicate n (Value.int .i64 0) := by
  apply List.ext_getElem?
  intro j
  by_cases hj : j < n
  · have h2 : j % 2 = 0 ∨ j % 2 = 1 := by omega
    rcases h2 with h2 | h2 <;> simp [madeCells, hj, h2]
  · simp [madeCells, hj]
theorem slc_zero : ∀ n, slc (List.replicate n (0, 0)) = List.replicate (n * 2) (AV.int 0)
  | 0 => rfl
  | n+1 => by
    rw [List.replicate_succ, show (n + 1) * 2 = n * 2 + 1 + 1 by omega, List.replicate_succ, List.replicate_succ, ← slc_zero n]
    rfl
theorem does_make2 (hT : TabOk P T) {σ : St} {t e r n : Nat} {p q : Operand} {i j : TyI} {kl kc : IntKind} {L C : Int} (hd : dstOk nt dst = true) (hp : σ.ev p = .v (.int kl L)) (hq : σ.ev q = .v (.int kc C)) (hL : L = (n : Int)) (hC : C = (n : Int))
    (ht : lkT T t = some i) (hu : i.u = .slice e) (he : lkT T e = some j) (hz : j.zero = [.int .i64, .int .i64]) (hs : j.size = 2) (hb : j.bytes * n ≤ 281474976710656) (hn : n ≤ maxLen) (hr : σ.row r = none) (h0 : r ≠ 0) :
    Does P nt ⟨dst, .makeSlice t p q, ty, pos, aft, gd⟩ ⟨fo p ++ fo q, [r]⟩ (.own r 0) [(r, some ⟨e, 2, 0, true, false, slc (List.replicate n (0, 0))⟩)] σ :=
  does_run hd fun τ hag F φ Z a w hF hS => by
    have hr' : τ.row r = none := by rw [hag.2 r (by simp)]; exact hr
    have e1 := ev_v hag hS hp (by simp +contextual)
    have e2 := ev_v hag hS hq (by simp +contextual)
    obtain ⟨inf, d, hk⟩ := hT.known ht
    obtain ⟨inf2, d2, hk2⟩ := hT.known he
    obtain ⟨z, hzz, hzc⟩ := hk2.zero
    have hzc' : z.cells = #[Value.int .i64 0, Value.int .i64 0] := by rw [hz] at hzc; apply Array.ext'; simpa [ZK.val] using hzc
    obtain ⟨w', hrun, hown, hgr⟩ := run_make_full (P := P) w F.w0.heap.size t e inf2 z 2 (hk.slice hu) hk2.info hzz (by rw [hk2.size, hs]) kl kc n (by rw [hk2.bytes]; exact hb) hn hS.keep.size
    subst hL hC
    rw [hzc', made2] at hown
    have hbel : Below w.heap.size w w' := (Below.refl _ _).grown hgr (Nat.le_refl _) (fun k h => by cases h)
    have hS' := hS.grow' hbel
    have hcx := cxLe_grow hS hbel (fun _ h => h)
    have hbl : ∀ g, (Value.slice (some ⟨w.heap.size, 0, none⟩) n n).ownBlock = some g → g = w.heap.size := fun g hg => by simp [Value.ownBlock] at hg; exact hg.symm
    have hrow : RowRel F (cxOf φ Z τ w') (.slice (some ⟨w.heap.size, 0, none⟩) n n) ⟨e, 2, 0, true, false, slc (List.replicate n (0, 0))⟩ := by
      refine ⟨by simp, fun _ => ?_, fun h => by simp at h, fun g hg => .inl (by rw [hbl g hg]; exact hS.keep.size), n, List.replicate (n * 2) (Value.int .i64 0), ?_, by simp [slc_length], ?_, ?_⟩
      · rw [slc_zero]
        have := pureL_vals (List.replicate (n * 2) (Value.int .i64 0))
        simpa using this
      · refine ⟨hown.1, ?_⟩
        rcases hown.2 with h | ⟨g, cap, cur, h1, h2, h3⟩
        · exact .inl h
        · exact .inr ⟨g, cap, cur, h1, Nat.zero_le _, h3⟩
      · rw [slc_zero]
        have := relL_vals (cxOf φ Z τ w') (List.replicate (n * 2) (Value.int .i64 0))
        simpa using this
      · intro u hu
        rw [List.eq_of_mem_replicate hu]
        rfl
    obtain ⟨h2, h3⟩ := hS'.adopt hr' h0 hrow (by
      intro g hg
      rw [hbl g hg]
      refine ⟨fun hz => by have := hS.zlt _ hz; omega, fun s hs' e => ?_⟩
      obtain ⟨row, hrow'⟩ := Option.isSome_iff_exists.1 hs'
      have := (hS.rows s row hrow').lt e
      simp [cxOf] at this)
    rw [set_eq_upd] at h2
    refine ⟨.slice (some ⟨w.heap.size, 0, none⟩) n n, w', _, Z, by simp [execOp, e1, e2, hrun], h2, ?_⟩
    simp only [relV, cxOf, St.rowsUpd, overR]
    simp
    exact ⟨_, _, ⟨rfl, rfl⟩, fun _ => rfl⟩
theorem st_make_s (hT : TabOk P T) {t e m n : Nat} {l : List (Nat × Option Row)} {p q : Operand} {i j : TyI} {L C : Int} (hd : dstOk nt dst = true) (hp : (mkS E ⟨n, l⟩).ev p = .int L) (hq : (mkS E ⟨n, l⟩).ev q = .int C) (hL : L = (m : Int)) (hC : C = (m : Int))
    (ht : lkT T t = some i) (hu : i.u = .slice e) (he : lkT T e = some j) (hz : j.zero = [.int .i64, .int .i64]) (hs : j.size = 2) (hb : j.bytes * m ≤ 281474976710656) (hn : m ≤ maxLen) (hr : (mkS E ⟨n, l⟩).row n = none) (h0 : Nat.beq n 0 = false) :
    Does P nt ⟨dst, .makeSlice t p q, ty, pos, aft, gd⟩ ⟨fo p ++ fo q, [n]⟩ (.own n 0) [(n, some ⟨e, 2, 0, true, false, slc (List.replicate m (0, 0))⟩)] (mkS E ⟨n, l⟩) :=
  does_make2 hT hd hp hq hL hC ht hu he hz hs hb hn hr (fun h => by rw [h] at h0; simp at h0)
end
end Go.Sym
end
