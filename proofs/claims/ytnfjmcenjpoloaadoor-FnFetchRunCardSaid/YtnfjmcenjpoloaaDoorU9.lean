/-
  BringPlan, plainly.
-/
import Derived.Test.YtnfjmcenjpoloaaDoorU7
set_option linter.unusedVariables false
set_option linter.unusedSimpArgs false
namespace Go.Proofs.YtnfjmcenjpoloaaDoor
open Go Go.RowKit Go.Park

/-- cells off the way stay as they are -/
theorem hole_keep {h : PHall} {way : List Int} (ho : holeOk h way = true) {x : Nat} : ∀ k, k < way.length → (∀ j, j ≤ k → gi way j ≠ x) → gi (holeS h.cells way k).2 x = gi h.cells x
  | 0, _, _ => rfl
  | k+1, hk, hx => by
    have ih := hole_keep ho k (by omega) (fun j hj => hx j (by omega))
    have H := hole_all ho k (by omega)
    obtain ⟨h1, _, _, _, h5⟩ := hole_ok ho
    obtain ⟨a1, a2, a3, a4⟩ := apartAt_cells (h5 k (by omega))
    have e1 := hasCell_iff.1 a1
    have e2 := hasCell_iff.1 a2
    have hl := H.len
    by_cases hz : gi (holeS h.cells way k).2 (gi way (k+1)).toNat = 0
    · rw [holeS_no hz]; exact ih
    · rw [holeS_yes hz]
      have n1 := hx k (by omega)
      have n2 := hx (k+1) (by omega)
      rw [gi_upd2 (by omega) (by omega), if_neg (by omega), if_neg (by omega)]
      exact ih
theorem near_is {h : PHall} {tgt but : Int} {free : List Int} : ∀ k, nearS h tgt but free k ≠ [] → ∃ j, j < k ∧ nearS h tgt but free k = wayF h (gi free j) tgt but
  | 0, hn => absurd rfl hn
  | k+1, hn => by
    simp only [nearS] at hn ⊢
    split
    · exact ⟨k, by omega, rfl⟩
    · rename_i h1
      rw [if_neg h1] at hn
      obtain ⟨j, h2, h3⟩ := near_is k hn
      exact ⟨j, by omega, h3⟩
theorem near_some {h : PHall} {tgt but : Int} {free : List Int} (hp : ∀ j, j < free.length → wayF h (gi free j) tgt but ≠ []) : ∀ k, k < free.length → nearS h tgt but free (k+1) ≠ [] := by
  intro k hk
  have hw := List.length_pos_iff.2 (hp k hk)
  intro e
  simp only [nearS] at e
  split at e
  · exact hp k hk e
  · rename_i hn
    exact hn ⟨hw, .inl (by rw [e]; rfl)⟩
/-- one step of the plan: the target is made free, the car slides there -/
def stepL (h : PHall) (a : Int) : List (Int × Int) := holeF h (nearF h (tgtG h.wide a) a) ++ [(a, tgtG h.wide a)]
theorem way_hole {h : PHall} {f t but : Int} (ho : wayOk h f t but = true) (h0 : gi h.cells f.toNat = 0) : holeOk h (wayF h f t but) = true := by
  have hg := way_good ho
  obtain ⟨hv, hf, ht, hb, _, _⟩ := wayOk_iff.1 ho
  have hne : wayF h f t but ≠ [] := List.length_pos_iff.1 hg.pos
  simp only [holeOk, Bool.and_eq_true, decide_eq_true_eq, wayTo_iff]
  refine ⟨hv, hne, by rw [hg.first]; exact hasCell_iff.2 hf, by rw [hg.first]; exact h0, fun k hk => ?_⟩
  have hc : ∀ j, j < (wayF h f t but).length → hasCellB h (gi (wayF h f t but) j) = true := fun j hj => hasCell_iff.2 (hg.cells _ (gi_mem hj))
  unfold apartAt
  rw [if_pos ⟨hv, hc k (by omega), hc (k+1) (by omega)⟩]
  exact hg.step k (by omega)
structure StepOk (h : PHall) (a : Int) : Prop where
  near : nearF h (tgtG h.wide a) a ≠ []
  done : doneS h (stepL h a) (stepL h a).length
  valid : validB (stS h (stepL h a) (stepL h a).length) = true
  len : (stS h (stepL h a) (stepL h a).length).cells.length = h.cells.length
  wide : (stS h (stepL h a) (stepL h a).length).wide = h.wide
  deep : (stS h (stepL h a) (stepL h a).length).deep = h.deep
  car : gi (stS h (stepL h a) (stepL h a).length).cells (tgtG h.wide a).toNat = gi h.cells a.toNat
  free : gi (stS h (stepL h a) (stepL h a).length).cells a.toNat = 0
  short : (stepL h a).length ≤ 13
theorem step_ok {h : PHall} {a : Int} (hv : validB h = true) (h0 : 0 < a) (h1 : a < h.cells.length) (hc : gi h.cells a.toNat ≠ 0) (hf : hallFreeF h ≠ []) : StepOk h a := by
  have hT := tgt_good hv h0 h1
  have ht0 := hT.low
  have ht1 := hT.less
  have hpos : 0 < (hallFreeF h).length := List.length_pos_iff.2 hf
  have hways : ∀ j, j < (hallFreeF h).length → wayOk h (gi (hallFreeF h) j) (tgtG h.wide a) a = true := fun j hj => by
    obtain ⟨_, c0, c1, c2⟩ := free_cell hj
    refine wayOk_iff.2 ⟨hv, ⟨c0, c1⟩, ⟨ht0, by omega⟩, ⟨by omega, h1⟩, fun e => hc (by rw [e]; exact c2), by omega⟩
  have hnear : nearF h (tgtG h.wide a) a ≠ [] := by
    have := near_some (h := h) (tgt := tgtG h.wide a) (but := a) (free := hallFreeF h) (fun j hj => List.length_pos_iff.1 (way_good (hways j hj)).pos) ((hallFreeF h).length - 1) (by omega)
    rw [show (hallFreeF h).length - 1 + 1 = (hallFreeF h).length by omega] at this
    exact this
  obtain ⟨j, hj, hw⟩ := near_is _ hnear
  have hw' : nearF h (tgtG h.wide a) a = wayF h (gi (hallFreeF h) j) (tgtG h.wide a) a := hw
  obtain ⟨_, c0, c1, c2⟩ := free_cell hj
  have ho := way_hole (hways j hj) c2
  have hg := way_good (hways j hj)
  rw [← hw'] at ho hg
  generalize hwy : nearF h (tgtG h.wide a) a = way at ho hg hnear
  have hp := hg.pos
  obtain ⟨r1, r2⟩ := hole_run ho (way.length - 1) (by omega)
  have hF : holeF h way = (holeS h.cells way (way.length - 1)).1 := by unfold holeF; rw [if_pos ho]
  rw [← hF] at r1 r2
  have H := hole_all ho (way.length - 1) (by omega)
  have hfree : gi (holeS h.cells way (way.length - 1)).2 (tgtG h.wide a).toNat = 0 := by have := H.free; rw [hg.last] at this; exact this
  have hcar : gi (holeS h.cells way (way.length - 1)).2 a.toNat = gi h.cells a.toNat := hole_keep ho _ (by omega) fun i hi e => hg.avoid _ (gi_mem (show i < way.length by omega)) (by omega)
  have hl := H.len
  have hSL : stepL h a = holeF h way ++ [(a, tgtG h.wide a)] := by unfold stepL; rw [hwy]
  have hmay : slideMayB ⟨h.wide, h.deep, (holeS h.cells way (way.length - 1)).2⟩ a (tgtG h.wide a) = true := by
    simp only [slideMayB, Bool.and_eq_true, decide_eq_true_eq]
    exact ⟨H.valid, hasCell_iff.2 (by show 0 ≤ a ∧ a < ((holeS h.cells way (way.length - 1)).2.length : Int); omega), hasCell_iff.2 (by show _ ∧ _ < ((holeS h.cells way (way.length - 1)).2.length : Int); omega), by show gi (holeS h.cells way (way.length - 1)).2 a.toNat ≠ 0; rw [hcar]; exact hc, hfree, hT.beside⟩
  have hdo : slideDoF (stS h (holeF h way) (holeF h way).length) a (tgtG h.wide a) = (slidH ⟨h.wide, h.deep, (holeS h.cells way (way.length - 1)).2⟩ a.toNat (tgtG h.wide a).toNat, true) := by
    rw [r2]
    unfold slideDoF
    rw [if_pos H.valid, if_pos hmay]
  have hst : stS h (stepL h a) (stepL h a).length = slidH ⟨h.wide, h.deep, (holeS h.cells way (way.length - 1)).2⟩ a.toNat (tgtG h.wide a).toNat := by
    rw [hSL, List.length_append]
    show (slideDoF (stS h (_ ++ [_]) (holeF h way).length) _ _).1 = _
    rw [stS_left (Nat.le_refl _), gs_end, hdo]
  have hd : doneS h (stepL h a) (stepL h a).length := by rw [hSL]; exact done_snoc r1 (by rw [hdo])
  obtain ⟨s1, s2, s3, s4⟩ := stS_ok (l := stepL h a) hv (stepL h a).length
  refine ⟨by rw [hwy]; exact hnear, hd, s1, s2, s3, s4, ?_, ?_, ?_⟩
  · rw [hst]
    show gi (((holeS h.cells way (way.length - 1)).2.set (tgtG h.wide a).toNat (gi (holeS h.cells way (way.length - 1)).2 a.toNat)).set a.toNat 0) _ = _
    rw [gi_upd2 (by omega) (by omega), if_neg (by omega), if_pos rfl, hcar]
  · rw [hst]
    show gi (((holeS h.cells way (way.length - 1)).2.set (tgtG h.wide a).toNat (gi (holeS h.cells way (way.length - 1)).2 a.toNat)).set a.toNat 0) _ = _
    rw [gi_upd2 (by omega) (by omega), if_pos rfl]
  · rw [hSL, List.length_append]
    have := holeF_len (h := h) (way := way)
    have := hg.short
    simp
    omega
/-! the plan -/
def planG : Nat → PHall → Int → List (Int × Int)
  | 0, _, _ => []
  | F+1, h, a => if 0 < a then stepL h a ++ planG F (stS h (stepL h a) (stepL h a).length) (tgtG h.wide a) else []
def bringPlanF (h : PHall) (id : Int) : List (Int × Int) × Bool :=
  if hallFindF h id < 0 ∨ (0 < hallFindF h id ∧ hallFreeF h = []) then ([], false) else (planG 12 h (hallFindF h id), true)
theorem planG_zero (F : Nat) (h : PHall) {a : Int} (ha : a ≤ 0) : planG F h a = [] := by
  cases F with
  | zero => rfl
  | succ F => simp only [planG]; rw [if_neg (by omega)]
theorem planG_more (F : Nat) (h : PHall) {a : Int} (ha : 0 < a) : planG (F+1) h a = stepL h a ++ planG F (stS h (stepL h a) (stepL h a).length) (tgtG h.wide a) := by
  simp only [planG]; rw [if_pos ha]
/-- where a plan stands: F more steps at most -/
structure Planned (h : PHall) (a0 : Int) (F : Nat) (now : PHall) (a : Int) (plan : List (Int × Int)) : Prop where
  valid : validB now = true
  len : now.cells.length = h.cells.length
  wide : now.wide = h.wide
  deep : now.deep = h.deep
  low : 0 ≤ a
  few : a ≤ F
  le12 : F ≤ 12
  high : a < h.cells.length
  car : 0 < a → gi now.cells a.toNat ≠ 0
  free : 0 < a → hallFreeF now ≠ []
  whole : plan ++ planG F now a = planG 12 h a0
  short : plan.length + 13 * F ≤ 156
theorem free_of {h : PHall} {j : Nat} (hv : validB h = true) (hj : j < h.cells.length) (h0 : gi h.cells j = 0) : hallFreeF h ≠ [] := by
  unfold hallFreeF
  rw [if_pos hv]
  exact List.ne_nil_of_mem (selTo_mem.2 ⟨j, hj, by simpa using h0, rfl⟩)
theorem Planned.next {h : PHall} {a0 : Int} {F : Nat} {now : PHall} {a : Int} {plan : List (Int × Int)} (p : Planned h a0 (F+1) now a plan) (ha : 0 < a) :
    Planned h a0 F (stS now (stepL now a) (stepL now a).length) (tgtG now.wide a) (plan ++ stepL now a) := by
  have hh := p.high
  have hl := p.len
  have hT := tgt_good p.valid ha (by omega)
  have hS := step_ok p.valid ha (by omega) (p.car ha) (p.free ha)
  have h1 := hT.low
  have h2 := hT.less
  have h3 := p.few
  have h4 := p.le12
  have h5 := p.short
  have h6 := hS.short
  refine ⟨hS.valid, hS.len.trans hl, hS.wide.trans p.wide, hS.deep.trans p.deep, h1, by omega, by omega, by omega, fun _ => by rw [hS.car]; exact p.car ha, fun _ => free_of hS.valid (j := a.toNat) (by rw [hS.len]; omega) hS.free, ?_, ?_⟩
  · rw [List.append_assoc, ← planG_more F now ha]; exact p.whole
  · rw [List.length_append]; omega
end Go.Proofs.YtnfjmcenjpoloaaDoor
