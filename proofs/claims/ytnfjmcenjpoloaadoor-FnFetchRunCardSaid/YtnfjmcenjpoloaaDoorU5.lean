/-
  Ways in the six shapes of a hall, by computing: each way is there, it steps from cell to cell, avoids the cell, and is short.
-/
import Derived.Test.YtnfjmcenjpoloaaDoorP3
import Derived.Test.YtnfjmcenjpoloaaDoorP4
set_option linter.unusedVariables false
set_option maxRecDepth 100000
namespace Go.Proofs.YtnfjmcenjpoloaaDoor
open Go Go.RowKit Go.Park

def besG (w : Int) (n : Nat) (c : Int) : List Int := if 0 ≤ c ∧ c < n then selTo (fun j => decide (apartF w c j = 1)) n else []
def bfsB (B : Int → List Int) (but : Int) : Nat → Nat → List Int × List Int → List Int
  | 0, _, s => s.1
  | F+1, k, s => if k < s.2.length then bfsB B but F (k+1) (visitF but (gi s.1 (gi s.2 k).toNat) (B (gi s.2 k)) s) else s.1
def downB (B : Int → List Int) (st : List Int) (c : Int) : Option Int := (B c).find? (fun y => decide (gi st y.toNat = gi st c.toNat - 1))
def wayGoB (B : Int → List Int) (st : List Int) : Nat → Int → List Int
  | 0, _ => []
  | F+1, c => match downB B st c with
    | none => []
    | some y => y :: wayGoB B st F y
theorem bfsB_eq (h : PHall) (but : Int) : ∀ F k s, bfsF h but F k s = bfsB (besideF h) but F k s
  | 0, _, _ => rfl
  | F+1, k, s => by simp only [bfsF, bfsB, bfsB_eq h but F]
theorem wayGoB_eq (h : PHall) (st : List Int) : ∀ F c, wayGo h st F c = wayGoB (besideF h) st F c
  | 0, _ => rfl
  | F+1, c => by
    simp only [wayGo, wayGoB]
    show (match downB (besideF h) st c with | none => [] | some y => y :: wayGo h st F y) = _
    cases downB (besideF h) st c with
    | none => rfl
    | some y => simp only [wayGoB_eq h st F y]
theorem beside_G {h : PHall} (hv : validB h = true) : besideF h = besG h.wide h.cells.length := by
  funext c
  unfold besideF besG
  by_cases hc : hasCellB h c = true
  · rw [if_pos ⟨hv, hc⟩, if_pos (hasCell_iff.1 hc)]
  · rw [if_neg (fun e => hc e.2), if_neg (fun e => hc (hasCell_iff.2 e))]
/-- the steps to a cell, for a shape -/
def stepsG (w : Int) (n : Nat) (tgt but : Int) : List Int := bfsB (besG w n) but (n + 1) 0 (startF n tgt, [tgt])
def wayG (w : Int) (n : Nat) (st : List Int) (a : Int) : List Int := a :: wayGoB (besG w n) st (gi st a.toNat).toNat a
theorem way_G {h : PHall} {a b but : Int} (ho : wayOk h a b but = true) : wayF h a b but = if 0 ≤ gi (stepsG h.wide h.cells.length b but) a.toNat then wayG h.wide h.cells.length (stepsG h.wide h.cells.length b but) a else [] := by
  have hv := (wayOk_iff.1 ho).1
  have hs : stepsF h b but = stepsG h.wide h.cells.length b but := by unfold stepsF stepsG; rw [bfsB_eq, beside_G hv]
  unfold wayF wayG
  rw [hs, wayGoB_eq, beside_G hv]
  simp only [ho, true_and]
/-- what is asked of a way from a to b that avoids but -/
def wayChk (w : Int) (n : Nat) (a b but : Int) (l : List Int) : Bool :=
  decide (l.length ≤ 12) && ((l.all fun x => decide (0 ≤ x ∧ x < n)) && (decide (gi l 0 = a) && (decide (gi l (l.length - 1) = b) && (decide (0 < l.length) && ((List.range (l.length - 1)).all (fun j => decide (apartF w (gi l j) (gi l (j+1)) = 1)) && (l.all (fun x => !decide (x = but)) && (!decide (but = -1) || decide ((l.length : Int) = apartF w a b + 1))))))))
def cellsChk (w : Int) (n : Nat) (b but : Int) : Bool :=
  (fun st => (List.range n).all fun a => decide ((a : Int) = but) || (decide (0 ≤ gi st a) && (wayChk w n a b but (wayG w n st a) && (decide (((wayG w n st a).length : Int) = gi st a + 1) && (besG w n a).all fun x => decide (x = but) || decide (gi st a ≤ gi st x.toNat + 1))))) (stepsG w n b but)
/-- the cell beside that is nearer to the gate -/
def tgtG (w a : Int) : Int := if a - w < 0 then a - 1 else a - w
def nearChk (w : Int) (n : Nat) : Bool := (List.range n).all fun a => decide (a = 0) ||
  (decide (0 ≤ tgtG w a ∧ tgtG w a < a) && (decide (apartF w a (tgtG w a) = 1) && (decide (apartF w (tgtG w a) 0 + 1 = apartF w a 0) &&
    (fun B => (fun i => decide (i < B.length) && decide (gi B i = tgtG w a)) (B.findIdx fun x => decide (apartF w x 0 < apartF w a 0))) (besG w n a))))
def shapeChk (w : Int) (n : Nat) : Bool := nearChk w n && (List.range n).all fun b => (List.range (n + 1)).all fun m => decide ((b : Int) = (m : Int) - 1) || cellsChk w n b ((m : Int) - 1)
def allChk : Bool := shapeChk 2 4 && (shapeChk 2 6 && (shapeChk 3 6 && (shapeChk 3 9 && (shapeChk 4 8 && shapeChk 4 12))))
theorem allChk_true : allChk = true := by kernel_rfl
theorem shape_of {h : PHall} (hv : validB h = true) : shapeChk h.wide h.cells.length = true := by
  obtain ⟨⟨⟨a, b⟩, ⟨c, d⟩, e⟩, _⟩ := valid_iff.1 hv
  have hall := allChk_true
  simp only [allChk, Bool.and_eq_true] at hall
  obtain ⟨h1, h2, h3, h4, h5, h6⟩ := hall
  have hw : h.wide = 2 ∨ h.wide = 3 ∨ h.wide = 4 := by omega
  have hd : h.deep = 2 ∨ h.deep = 3 := by omega
  rcases hw with hw | hw | hw <;> rcases hd with hd | hd <;> rw [hw, hd] at e <;> rw [hw]
  · rw [show h.cells.length = 4 by omega]; exact h1
  · rw [show h.cells.length = 6 by omega]; exact h2
  · rw [show h.cells.length = 6 by omega]; exact h3
  · rw [show h.cells.length = 9 by omega]; exact h4
  · rw [show h.cells.length = 8 by omega]; exact h5
  · rw [show h.cells.length = 12 by omega]; exact h6
theorem way_cell {h : PHall} {a b but : Int} (ho : wayOk h a b but = true) : 0 ≤ gi (stepsG h.wide h.cells.length b but) a.toNat ∧ wayChk h.wide h.cells.length a b but (wayG h.wide h.cells.length (stepsG h.wide h.cells.length b but) a) = true ∧ ((wayG h.wide h.cells.length (stepsG h.wide h.cells.length b but) a).length : Int) = gi (stepsG h.wide h.cells.length b but) a.toNat + 1 ∧ ∀ x, x ∈ besG h.wide h.cells.length a → x = but ∨ gi (stepsG h.wide h.cells.length b but) a.toNat ≤ gi (stepsG h.wide h.cells.length b but) x.toNat + 1 := by
  obtain ⟨hv, ⟨a0, a1⟩, ⟨b0, b1⟩, ⟨c0, c1⟩, d1, d2⟩ := wayOk_iff.1 ho
  have hs := shape_of hv
  simp only [shapeChk, Bool.and_eq_true] at hs
  replace hs := hs.2
  simp only [List.all_eq_true, List.mem_range] at hs
  have h1 := hs b.toNat (by omega) (but + 1).toNat (by omega)
  have e1 : ((b.toNat : Nat) : Int) = b := by omega
  have e2 : (((but + 1).toNat : Nat) : Int) - 1 = but := by omega
  rw [e2] at h1
  simp only [Bool.or_eq_true, decide_eq_true_eq] at h1
  rcases h1 with h1 | h1
  · omega
  · simp only [cellsChk, List.all_eq_true, List.mem_range] at h1
    have h2 := h1 a.toNat (by omega)
    have e3 : ((a.toNat : Nat) : Int) = a := by omega
    rw [e1, e3] at h2
    simp only [Bool.or_eq_true, Bool.and_eq_true, decide_eq_true_eq, List.all_eq_true] at h2
    rcases h2 with h2 | ⟨h2, h3, h4, h5⟩
    · omega
    · exact ⟨h2, h3, h4, h5⟩
theorem way_chk {h : PHall} {a b but : Int} (ho : wayOk h a b but = true) : wayChk h.wide h.cells.length a b but (wayF h a b but) = true := by
  obtain ⟨h2, h3, _, _⟩ := way_cell ho
  rw [way_G ho, if_pos h2]; exact h3
structure WayGood (h : PHall) (a b but : Int) (l : List Int) : Prop where
  short : l.length ≤ 12
  cells : ∀ x, x ∈ l → 0 ≤ x ∧ x < h.cells.length
  first : gi l 0 = a
  last : gi l (l.length - 1) = b
  pos : 0 < l.length
  step : ∀ j, j + 1 < l.length → apartF h.wide (gi l j) (gi l (j+1)) = 1
  avoid : ∀ x, x ∈ l → x ≠ but
  least : but = -1 → (l.length : Int) = apartF h.wide a b + 1
theorem way_good {h : PHall} {a b but : Int} (ho : wayOk h a b but = true) : WayGood h a b but (wayF h a b but) := by
  have := way_chk ho
  simp only [wayChk, Bool.and_eq_true, decide_eq_true_eq, List.all_eq_true, List.mem_range, Bool.or_eq_true, Bool.not_eq_true', decide_eq_false_iff_not] at this
  obtain ⟨h1, h0, h2, h3, h4, h5, h6, h7⟩ := this
  exact ⟨h1, h0, h2, h3, h4, fun j hj => h5 j (by omega), h6, fun e => by rcases h7 with h7 | h7; (exact absurd e h7); exact h7⟩
theorem way_no {h : PHall} {a b but : Int} (ho : ¬ wayOk h a b but = true) : wayF h a b but = [] := by unfold wayF; rw [if_neg (fun e => ho e.1)]
theorem way_len (h : PHall) (a b but : Int) : (wayF h a b but).length ≤ 12 := by
  by_cases ho : wayOk h a b but = true
  · exact (way_good ho).short
  · rw [way_no ho]; simp
/-- the step towards the gate -/
structure TgtGood (h : PHall) (a : Int) : Prop where
  low : 0 ≤ tgtG h.wide a
  less : tgtG h.wide a < a
  beside : apartF h.wide a (tgtG h.wide a) = 1
  nearer : apartF h.wide (tgtG h.wide a) 0 + 1 = apartF h.wide a 0
  find : ∃ i, i < (besideF h a).length ∧ gi (besideF h a) i = tgtG h.wide a ∧ ∀ j, j < i → ¬ apartF h.wide (gi (besideF h a) j) 0 < apartF h.wide a 0
theorem tgt_good {h : PHall} (hv : validB h = true) {a : Int} (h0 : 0 < a) (h1 : a < h.cells.length) : TgtGood h a := by
  have hs := shape_of hv
  simp only [shapeChk, Bool.and_eq_true] at hs
  have hs := hs.1
  simp only [nearChk, List.all_eq_true, List.mem_range] at hs
  have h2 := hs a.toNat (by omega)
  have e : ((a.toNat : Nat) : Int) = a := by omega
  simp only [e, Bool.or_eq_true, Bool.and_eq_true, decide_eq_true_eq] at h2
  rcases h2 with h2 | ⟨⟨h3, h4⟩, h5, h6, h7, h8⟩
  · omega
  · refine ⟨h3, h4, h5, h6, ?_⟩
    rw [beside_G hv]
    refine ⟨_, h7, h8, fun j hj => ?_⟩
    have := List.not_of_lt_findIdx hj
    simp only [gi, List.getD_eq_getElem?_getD]
    rw [List.getElem?_eq_getElem (by omega)]
    simpa using this
end Go.Proofs.YtnfjmcenjpoloaaDoor
