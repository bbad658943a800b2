/-
  Valid halls and slides, plainly: nothing of the program's text stands here.
-/
import Derived.Test.YtjdgbdakkdljmaaDoorN
import Derived.Test.YtjdgbdakkdljmaaDoorK5
set_option linter.unusedVariables false
namespace Go.Proofs.YtjdgbdakkdljmaaDoor
open Go Go.RowKit Go.Park

structure OkCells (l : List Int) : Prop where
  rng : ∀ k, k < l.length → 0 ≤ gi l k ∧ gi l k ≤ 99
  one : ∀ i j, i < l.length → j < l.length → 0 < gi l i → gi l i = gi l j → i = j
theorem okTo_cells {l : List Int} : okTo l l.length = true ↔ OkCells l := by
  rw [okTo_iff]
  constructor
  · intro h
    have hr : ∀ k, k < l.length → 0 ≤ gi l k ∧ gi l k ≤ 99 := fun k hk => by
      have := h k hk
      simp only [okAt, Bool.and_eq_true, inR_true] at this
      exact this.1
    have hn : ∀ i j, i < j → j < l.length → 0 < gi l j → gi l i ≠ gi l j := fun i j hij hj h0 e => by
      have := h j hj
      simp only [okAt, Bool.and_eq_true, inR_true, Bool.not_eq_true', Bool.and_eq_false_iff, decide_eq_false_iff_not] at this
      rcases this.2 with h1 | h1
      · exact h1 h0
      · rw [hasTo_yes hij e] at h1; cases h1
    refine ⟨hr, fun i j hi hj h0 e => ?_⟩
    rcases Nat.lt_trichotomy i j with h1 | h1 | h1
    · exact absurd e (hn i j h1 hj (by omega))
    · exact h1
    · exact absurd e.symm (hn j i h1 hi h0)
  · intro h k hk
    simp only [okAt, Bool.and_eq_true, inR_true, Bool.not_eq_true', Bool.and_eq_false_iff, decide_eq_false_iff_not]
    refine ⟨h.rng k hk, ?_⟩
    by_cases h0 : 0 < gi l k
    · right
      cases hh : hasTo l (gi l k) k with
      | false => rfl
      | true =>
        obtain ⟨j, hj, e⟩ := hasTo_iff.1 hh
        have := h.one k j hk (by omega) h0 e.symm
        omega
    · exact .inl h0
theorem valid_iff {h : PHall} : validB h = true ↔ ((2 ≤ h.wide ∧ h.wide ≤ 4) ∧ (2 ≤ h.deep ∧ h.deep ≤ 3) ∧ (h.cells.length : Int) = h.wide * h.deep) ∧ OkCells h.cells := by
  unfold validB
  rw [Bool.and_eq_true, sizeB_true, okTo_cells]
theorem gi_upd2 {l : List Int} {a b : Nat} {x y : Int} (ha : a < l.length) (hb : b < l.length) (j : Nat) :
    gi ((l.set b x).set a y) j = if a = j then y else if b = j then x else gi l j := by
  rw [gi_upd (by simpa using ha), gi_upd hb]
theorem ok_slid {l : List Int} {a b : Nat} (ha : a < l.length) (hb : b < l.length) (hab : a ≠ b) (h : OkCells l) (h0 : gi l b = 0) : OkCells ((l.set b (gi l a)).set a 0) := by
  have hl : ((l.set b (gi l a)).set a 0).length = l.length := by simp
  have hg := fun j => gi_upd2 (x := gi l a) (y := 0) ha hb j
  refine ⟨fun k hk => ?_, fun i j hi hj hp e => ?_⟩
  · rw [hl] at hk
    rw [hg]
    split
    · omega
    · split
      · exact h.rng a ha
      · exact h.rng k hk
  · rw [hl] at hi hj
    rw [hg] at hp e
    rw [hg j] at e
    by_cases e1 : a = i
    · rw [if_pos e1] at hp; omega
    rw [if_neg e1] at hp e
    by_cases e2 : a = j
    · rw [if_pos e2] at e; omega
    rw [if_neg e2] at e
    by_cases e3 : b = i
    · rw [if_pos e3] at hp e
      by_cases e4 : b = j
      · omega
      · rw [if_neg e4] at e
        have := h.one a j ha hj hp e
        exact absurd this e2
    · rw [if_neg e3] at hp e
      by_cases e4 : b = j
      · rw [if_pos e4] at e
        have := h.one i a hi ha hp e
        exact absurd this.symm e1
      · rw [if_neg e4] at e
        exact h.one i j hi hj hp e
theorem valid_slid {h : PHall} {a b : Nat} (hv : validB h = true) (ha : a < h.cells.length) (hb : b < h.cells.length) (hab : a ≠ b) (h0 : gi h.cells b = 0) : validB (slidH h a b) = true := by
  rw [valid_iff] at hv ⊢
  refine ⟨⟨hv.1.1, hv.1.2.1, ?_⟩, ok_slid ha hb hab hv.2 h0⟩
  have : (slidH h a b).cells.length = h.cells.length := by simp [slidH]
  rw [this]; exact hv.1.2.2
theorem slid_len (h : PHall) (a b : Nat) : (slidH h a b).cells.length = h.cells.length := by simp [slidH]
theorem slideDo_valid {h : PHall} (hv : validB h = true) (a b : Int) : validB (slideDoF h a b).1 = true := by
  unfold slideDoF
  rw [if_pos hv]
  split
  · rename_i hm
    obtain ⟨h1, h2, h3, h4, h5⟩ := may_cells hm
    have e1 := hasCell_iff.1 h1
    have e2 := hasCell_iff.1 h2
    exact valid_slid hv (by omega) (by omega) (by intro e; rw [e] at h3; exact h3 h4) h4
  · exact hv
theorem slideDo_len {h : PHall} (hv : validB h = true) (a b : Int) : (slideDoF h a b).1.cells.length = h.cells.length ∧ (slideDoF h a b).1.wide = h.wide ∧ (slideDoF h a b).1.deep = h.deep := by
  unfold slideDoF
  rw [if_pos hv]
  split
  · exact ⟨slid_len _ _ _, rfl, rfl⟩
  · exact ⟨rfl, rfl, rfl⟩

/-! HoleSlides -/
def wayTo (h : PHall) (way : List Int) : Nat → Bool
  | 0 => true
  | k+1 => wayTo h way k && decide (apartAt h (gi way k) (gi way (k+1)) = 1)
def holeOk (h : PHall) (way : List Int) : Bool := validB h && (decide (way ≠ []) && (hasCellB h (gi way 0) && (decide (gi h.cells (gi way 0).toNat = 0) && wayTo h way (way.length - 1))))
def holeS (cells way : List Int) : Nat → List (Int × Int) × List Int
  | 0 => ([], cells)
  | k+1 => if gi (holeS cells way k).2 (gi way (k+1)).toNat ≠ 0 then
      ((holeS cells way k).1 ++ [(gi way (k+1), gi way k)], ((holeS cells way k).2.set (gi way k).toNat (gi (holeS cells way k).2 (gi way (k+1)).toNat)).set (gi way (k+1)).toNat 0)
    else holeS cells way k
def holeF (h : PHall) (way : List Int) : List (Int × Int) := if holeOk h way = true then (holeS h.cells way (way.length - 1)).1 else []
theorem holeS_yes {cells way : List Int} {k : Nat} (h : gi (holeS cells way k).2 (gi way (k+1)).toNat ≠ 0) : holeS cells way (k+1) = ((holeS cells way k).1 ++ [(gi way (k+1), gi way k)], ((holeS cells way k).2.set (gi way k).toNat (gi (holeS cells way k).2 (gi way (k+1)).toNat)).set (gi way (k+1)).toNat 0) := by
  simp only [holeS]; rw [if_pos h]
theorem holeS_no {cells way : List Int} {k : Nat} (h : gi (holeS cells way k).2 (gi way (k+1)).toNat = 0) : holeS cells way (k+1) = holeS cells way k := by
  simp only [holeS]; rw [if_neg (by simpa using h)]
theorem wayTo_iff {h : PHall} {way : List Int} {n : Nat} : wayTo h way n = true ↔ ∀ k, k < n → apartAt h (gi way k) (gi way (k+1)) = 1 := by
  induction n with
  | zero => simp [wayTo]
  | succ n ih =>
    simp only [wayTo, Bool.and_eq_true, ih, decide_eq_true_eq]
    constructor
    · rintro ⟨h1, h2⟩ k hk
      by_cases e : k = n
      · subst e; exact h2
      · exact h1 k (by omega)
    · intro h1; exact ⟨fun k hk => h1 k (by omega), h1 n (by omega)⟩
theorem wayTo_no {h : PHall} {way : List Int} {n k : Nat} (hk : k < n) (e : ¬ apartAt h (gi way k) (gi way (k+1)) = 1) : wayTo h way n = false := by
  cases hw : wayTo h way n with
  | false => rfl
  | true => exact absurd (wayTo_iff.1 hw k hk) e
theorem apartAt_cells {h : PHall} {a b : Int} (e : apartAt h a b = 1) : hasCellB h a = true ∧ hasCellB h b = true ∧ apartF h.wide a b = 1 ∧ a ≠ b := by
  unfold apartAt at e
  split at e
  · rename_i hh
    refine ⟨hh.2.1, hh.2.2, e, ?_⟩
    rintro rfl
    unfold apartF farF at e
    omega
  · omega
/-- what holds behind each cell of the way -/
structure Hole (h : PHall) (way : List Int) (k : Nat) : Prop where
  valid : validB ⟨h.wide, h.deep, (holeS h.cells way k).2⟩ = true
  len : (holeS h.cells way k).2.length = h.cells.length
  free : gi (holeS h.cells way k).2 (gi way k).toNat = 0
  many : (holeS h.cells way k).1.length ≤ k
theorem hole_ok {h : PHall} {way : List Int} (ho : holeOk h way = true) : validB h = true ∧ way ≠ [] ∧ hasCellB h (gi way 0) = true ∧ gi h.cells (gi way 0).toNat = 0 ∧ ∀ k, k + 1 < way.length → apartAt h (gi way k) (gi way (k+1)) = 1 := by
  simp only [holeOk, Bool.and_eq_true, decide_eq_true_eq] at ho
  exact ⟨ho.1, ho.2.1, ho.2.2.1, ho.2.2.2.1, fun k hk => wayTo_iff.1 ho.2.2.2.2 k (by omega)⟩
theorem hole_start {h : PHall} {way : List Int} (ho : holeOk h way = true) : Hole h way 0 := by
  obtain ⟨h1, h2, h3, h4, _⟩ := hole_ok ho
  exact ⟨h1, rfl, h4, by simp [holeS]⟩
theorem hole_next {h : PHall} {way : List Int} (ho : holeOk h way = true) {k : Nat} (hk : k + 1 < way.length) (H : Hole h way k) : Hole h way (k + 1) := by
  obtain ⟨h1, _, _, _, h5⟩ := hole_ok ho
  obtain ⟨a1, a2, a3, a4⟩ := apartAt_cells (h5 k hk)
  have e1 := hasCell_iff.1 a1
  have e2 := hasCell_iff.1 a2
  have hl := H.len
  by_cases hz : gi (holeS h.cells way k).2 (gi way (k+1)).toNat = 0
  · have e := holeS_no hz
    exact ⟨by rw [e]; exact H.valid, by rw [e]; exact H.len, by rw [e]; exact hz, by rw [e]; have := H.many; omega⟩
  · have e := holeS_yes hz
    have hab : (gi way (k+1)).toNat ≠ (gi way k).toNat := by omega
    refine ⟨?_, ?_, ?_, ?_⟩
    · rw [e]
      exact valid_slid (h := ⟨h.wide, h.deep, (holeS h.cells way k).2⟩) H.valid (by show _ < (holeS h.cells way k).2.length; omega) (by show _ < (holeS h.cells way k).2.length; omega) hab H.free
    · rw [e]; simp; exact hl
    · rw [e, gi_upd2 (by omega) (by omega), if_pos rfl]
    · rw [e, List.length_append]; have := H.many; simp; omega
theorem hole_all {h : PHall} {way : List Int} (ho : holeOk h way = true) : ∀ k, k < way.length → Hole h way k := by
  intro k
  induction k with
  | zero => intro _; exact hole_start ho
  | succ k ih => intro hk; exact hole_next ho hk (ih (by omega))
/-- a slide of the way, as SlideDo does it -/
theorem hole_slide {h : PHall} {way : List Int} (ho : holeOk h way = true) {k : Nat} (hk : k + 1 < way.length) :
    slideDoF ⟨h.wide, h.deep, (holeS h.cells way k).2⟩ (gi way (k+1)) (gi way k) =
      (⟨h.wide, h.deep, (holeS h.cells way (k+1)).2⟩, decide (gi (holeS h.cells way k).2 (gi way (k+1)).toNat ≠ 0)) := by
  have H := hole_all ho k (by omega)
  obtain ⟨h1, _, _, _, h5⟩ := hole_ok ho
  obtain ⟨a1, a2, a3, a4⟩ := apartAt_cells (h5 k hk)
  have b1 : hasCellB ⟨h.wide, h.deep, (holeS h.cells way k).2⟩ (gi way k) = true := by unfold hasCellB at a1 ⊢; rw [H.len]; exact a1
  have b2 : hasCellB ⟨h.wide, h.deep, (holeS h.cells way k).2⟩ (gi way (k+1)) = true := by unfold hasCellB at a2 ⊢; rw [H.len]; exact a2
  have b3 : apartF h.wide (gi way (k+1)) (gi way k) = 1 := by rw [apartF_comm]; exact a3
  unfold slideDoF
  rw [if_pos H.valid]
  by_cases hz : gi (holeS h.cells way k).2 (gi way (k+1)).toNat = 0
  · have hm : slideMayB ⟨h.wide, h.deep, (holeS h.cells way k).2⟩ (gi way (k+1)) (gi way k) = false := by simp [slideMayB, hz]
    rw [hm, holeS_no hz]; simp [hz]
  · have hm : slideMayB ⟨h.wide, h.deep, (holeS h.cells way k).2⟩ (gi way (k+1)) (gi way k) = true := by
      simp only [slideMayB, Bool.and_eq_true, decide_eq_true_eq]
      exact ⟨H.valid, b2, b1, hz, H.free, b3⟩
    rw [hm, holeS_yes hz]; simp [hz, slidH]

end Go.Proofs.YtjdgbdakkdljmaaDoor
