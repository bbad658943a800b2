/-
  Runs of slides, the plan, the best way, plainly: what the laws ask of them.
-/
import Derived.Test.YtnfjmcenjpoloaaDoorUA
import Derived.Test.YtnfjmcenjpoloaaDoorRB
set_option linter.unusedVariables false
set_option linter.unusedSimpArgs false
namespace Go.Proofs.YtnfjmcenjpoloaaDoor
open Go Go.RowKit Go.Park Go.Graph

/-! runs put together -/
theorem gs_right {l m : List (Int × Int)} {k : Nat} : gs (l ++ m) (l.length + k) = gs m k := by simp [gs, List.getD, List.getElem?_append_right]
theorem stS_app {h : PHall} {l m : List (Int × Int)} : ∀ k, stS h (l ++ m) (l.length + k) = stS (stS h l l.length) m k
  | 0 => stS_left (Nat.le_refl _)
  | k+1 => by
    show (slideDoF (stS h (l ++ m) (l.length + k)) (gs (l ++ m) (l.length + k)).1 (gs (l ++ m) (l.length + k)).2).1 = _
    rw [stS_app k, gs_right]; rfl
theorem stS_all {h : PHall} {l m : List (Int × Int)} : stS h (l ++ m) (l ++ m).length = stS (stS h l l.length) m m.length := by rw [List.length_append]; exact stS_app _
theorem done_app {h : PHall} {l m : List (Int × Int)} (h1 : doneS h l l.length) (h2 : doneS (stS h l l.length) m m.length) : doneS h (l ++ m) (l ++ m).length := by
  intro j hj
  rw [List.length_append] at hj
  by_cases e : j < l.length
  · rw [stS_left (by omega), gs_left e]; exact h1 j e
  · obtain ⟨k, rfl⟩ : ∃ k, j = l.length + k := ⟨j - l.length, by omega⟩
    rw [stS_app, gs_right]; exact h2 k (by omega)
/-! far and near -/
theorem farT (x y z : Int) : farF x z ≤ farF x y + farF y z := by unfold farF; omega
theorem apartT (w a b c : Int) : apartF w a c ≤ apartF w a b + apartF w b c := by
  have := farT (a % w) (b % w) (c % w); have := farT (a / w) (b / w) (c / w)
  unfold apartF; omega
theorem apart0 (w a : Int) : apartF w a a = 0 := by unfold apartF farF; omega
theorem apart_gate {h : PHall} (hv : validB h = true) {a : Int} (h0 : 0 ≤ a) (h1 : a < h.cells.length) : apartF h.wide a 0 ≤ 5 := by
  obtain ⟨s1, s2, s3⟩ := valid_size hv
  have p1 := Int.emod_nonneg a (b := h.wide) (by omega)
  have p2 := Int.emod_lt_of_pos a (b := h.wide) (by omega)
  have p3 : 0 ≤ a / h.wide := Int.ediv_nonneg h0 (by omega)
  have p4 : a / h.wide < h.deep := Int.ediv_lt_of_lt_mul (by omega) (by rw [← Int.mul_comm h.wide, ← s3]; exact h1)
  unfold apartF farF
  rw [Int.zero_emod, Int.zero_ediv]
  omega
theorem find_back {h : PHall} {a b : Nat} (m : May h a b) {id : Int} {c' : Nat} (hf : hallFindF (slidH h a b) id = c') : ∃ c : Nat, hallFindF h id = c := by
  obtain ⟨_, h0, hc, e⟩ := find_at hf
  rw [slid_len] at hc
  rw [slid_at m.la m.lb] at e
  split at e
  · omega
  · split at e
    · exact ⟨a, find_is m.valid h0 m.la e⟩
    · exact ⟨c', find_is m.valid h0 hc e⟩
theorem may_of_do {h : PHall} {a b : Int} (hd : (slideDoF h a b).2 = true) : May h a.toNat b.toNat ∧ ((a.toNat : Nat) : Int) = a ∧ ((b.toNat : Nat) : Int) = b ∧ (slideDoF h a b).1 = slidH h a.toNat b.toNat := by
  unfold slideDoF at hd ⊢
  split at hd
  · rename_i hv
    rw [if_pos hv]
    split at hd
    · rename_i hm
      rw [if_pos hm]
      obtain ⟨m, e1, e2⟩ := may_nat hm
      exact ⟨m, e1, e2, rfl⟩
    · simp at hd
  · simp at hd
theorem run_back {id : Int} : ∀ (l : List (Int × Int)) (h : PHall) (c' : Nat), doneS h l l.length → hallFindF (stS h l l.length) id = c' → ∃ c : Nat, hallFindF h id = c
  | [], h, c', _, hf => ⟨c', hf⟩
  | s :: l, h, c', hd, hf => by
    rw [List.length_cons, doneS_cons] at hd
    rw [List.length_cons, stS_cons] at hf
    obtain ⟨m, _, _, e⟩ := may_of_do hd.1
    obtain ⟨c, hc⟩ := run_back l _ c' hd.2 hf
    rw [e] at hc
    exact find_back m hc
theorem run_apart {id : Int} : ∀ (l : List (Int × Int)) (h : PHall) (c c' : Nat), doneS h l l.length → hallFindF h id = c → hallFindF (stS h l l.length) id = c' → apartF h.wide c c' ≤ l.length
  | [], h, c, c', _, hf, hf' => by
    have e : hallFindF h id = c' := hf'
    obtain rfl : c = c' := by omega
    rw [apart0]; simp
  | s :: l, h, c, c', hd, hf, hf' => by
    rw [List.length_cons, doneS_cons] at hd
    rw [List.length_cons, stS_cons] at hf'
    obtain ⟨m, _, _, e⟩ := may_of_do hd.1
    rw [e] at hf' hd
    have h2 := m.find hf
    have ih := run_apart l _ _ c' hd.2 h2 hf'
    have h3 : apartF h.wide c (if c = s.1.toNat then s.2.toNat else c : Nat) ≤ 1 := by
      split
      · rename_i e1; rw [e1]; exact Int.le_of_eq m.near
      · rw [apart0]; omega
    have h4 := apartT h.wide c (if c = s.1.toNat then s.2.toNat else c : Nat) c'
    have ih' : apartF h.wide (if c = s.1.toNat then s.2.toNat else c : Nat) c' ≤ l.length := ih
    simp only [List.length_cons]
    omega
/-! a slide the other way -/
theorem May.back {h : PHall} {a b : Nat} (m : May h a b) : May (slidH h a b) b a := by
  have hl := slid_len h a b
  refine ⟨m.ok, by rw [hl]; exact m.lb, by rw [hl]; exact m.la, ?_, ?_, by show apartF h.wide b a = 1; rw [apartF_comm]; exact m.near⟩
  · rw [slid_at m.la m.lb, if_neg m.ne, if_pos rfl]; exact m.car
  · rw [slid_at m.la m.lb, if_pos rfl]
theorem cells_ext {a b : List Int} (hl : a.length = b.length) (h : ∀ j, j < a.length → gi a j = gi b j) : a = b := by
  apply List.ext_getElem hl
  intro i h1 h2
  have := h i h1
  simpa [gi, List.getD, h1, h2] using this
theorem May.back_eq {h : PHall} {a b : Nat} (m : May h a b) : slidH (slidH h a b) b a = h := by
  have hl := slid_len h a b
  have e : (slidH (slidH h a b) b a).cells = h.cells := by
    refine cells_ext (by simp [slidH]) fun j hj => ?_
    rw [slid_at (by rw [hl]; exact m.lb) (by rw [hl]; exact m.la), slid_at m.la m.lb, slid_at m.la m.lb]
    by_cases e1 : b = j
    · subst e1; rw [if_pos rfl, m.free]
    · rw [if_neg e1]
      by_cases e2 : a = j
      · subst e2; rw [if_pos rfl, if_neg m.ne, if_pos rfl]
      · rw [if_neg e2, if_neg e2, if_neg e1]
  cases h with
  | mk w d c => show (⟨w, d, (slidH (slidH ⟨w, d, c⟩ a b) b a).cells⟩ : PHall) = _; rw [e]
theorem done_one {h : PHall} {a b : Nat} (m : May h a b) {l : List (Int × Int)} (hd : doneS (slidH h a b) l l.length) : doneS h (((a : Int), (b : Int)) :: l) (l.length + 1) ∧ stS h (((a : Int), (b : Int)) :: l) (l.length + 1) = stS (slidH h a b) l l.length := by
  have hdo := m.slid
  rw [doneS_cons, stS_cons]
  dsimp only
  rw [hdo]
  exact ⟨⟨rfl, hd⟩, rfl⟩
/-! the plan -/
theorem step_short {h : PHall} {a : Int} : (stepL h a).length ≤ 12 ∧ 1 ≤ (stepL h a).length := by
  have hn := near_clear_len h (tgtG h.wide a) a
  have hh : (holeF h (nearF h (tgtG h.wide a) a)).length ≤ 11 := by
    unfold holeF
    split
    · rename_i ho
      have hp := List.length_pos_iff.2 (hole_ok ho).2.1
      have := (hole_all ho ((nearF h (tgtG h.wide a) a).length - 1) (by omega)).many
      omega
    · simp
  unfold stepL
  rw [List.length_append]
  simp; omega
structure PlanGood (h : PHall) (a : Int) (p : List (Int × Int)) : Prop where
  done : doneS h p p.length
  gate : gi (stS h p p.length).cells 0 = gi h.cells a.toNat
  most : (p.length : Int) ≤ 12 * apartF h.wide a 0
  least : apartF h.wide a 0 ≤ p.length
theorem plan_good : ∀ (F : Nat) (h : PHall) (a : Int), validB h = true → 0 ≤ a → a < h.cells.length → a ≤ F → (0 < a → gi h.cells a.toNat ≠ 0) → (0 < a → hallFreeF h ≠ []) → PlanGood h a (planG F h a)
  | 0, h, a, hv, h0, hl, hF, hc, hf => by
    obtain rfl : a = 0 := by omega
    exact ⟨fun j hj => by simp [planG] at hj, rfl, by rw [apart0]; simp [planG], by rw [apart0]; simp [planG]⟩
  | F+1, h, a, hv, h0, hl, hF, hc, hf => by
    by_cases ha : 0 < a
    · have hS := step_ok hv ha hl (hc ha) (hf ha)
      have hT := tgt_good hv ha hl
      have h1 := hT.low
      have h2 := hT.less
      have h3 := hT.nearer
      have ih := plan_good F (stS h (stepL h a) (stepL h a).length) (tgtG h.wide a) hS.valid h1 (by rw [hS.len]; omega) (by omega) (fun _ => by rw [hS.car]; exact hc ha) (fun _ => free_of hS.valid (j := a.toNat) (by rw [hS.len]; omega) hS.free)
      have hs := step_short (h := h) (a := a)
      have m1 := ih.most
      have m2 := ih.least
      rw [hS.wide] at m1 m2
      rw [planG_more F h ha]
      refine ⟨done_app hS.done ih.done, by rw [stS_all, ih.gate, hS.car], ?_, ?_⟩
      · rw [List.length_append]; omega
      · rw [List.length_append]; omega
    · obtain rfl : a = 0 := by omega
      rw [planG_zero _ _ (by omega)]
      exact ⟨fun j hj => by simp at hj, rfl, by rw [apart0]; simp, by rw [apart0]; simp⟩
structure BringGood (h : PHall) (id : Int) (c : Nat) (p : List (Int × Int)) : Prop where
  done : doneS h p p.length
  gate : hallFindF (stS h p p.length) id = 0
  short : p.length ≤ 60
  least : apartF h.wide c 0 ≤ p.length
theorem bring_good {h : PHall} {id : Int} {c : Nat} (hf : hallFindF h id = c) (hfr : 0 < c → hallFreeF h ≠ []) : bringPlanF h id = (planG 12 h c, true) ∧ BringGood h id c (planG 12 h c) := by
  obtain ⟨hv, h0, hc, e⟩ := find_at hf
  have h12 := (valid_len hv).2
  have hF : bringPlanF h id = (planG 12 h c, true) := by
    unfold bringPlanF
    rw [hf, if_neg (by rintro (e1 | e1); omega; exact hfr (by omega) e1.2)]
  have g := plan_good 12 h c hv (by omega) (by omega) (by omega) (fun _ => by simp; omega) (fun hp => hfr (by omega))
  have hap := apart_gate hv (a := c) (by omega) (by omega)
  obtain ⟨s1, s2, s3, s4⟩ := stS_ok (l := planG 12 h c) hv (planG 12 h c).length
  have hmost := g.most
  refine ⟨hF, g.done, ?_, by omega, g.least⟩
  have hg := g.gate
  simp only [Int.toNat_natCast] at hg
  exact find_is s1 h0 (j := 0) (by rw [s2]; omega) (by rw [hg]; exact e)
/-! the best way is there where any way is -/
theorem nat_min {P : Nat → Prop} (h : ∃ n, P n) : ∃ n, P n ∧ ∀ m, P m → n ≤ m := by
  obtain ⟨n, hn⟩ := h
  induction n using Nat.strongRecOn with
  | ind n ih =>
    by_cases hlt : ∃ m, m < n ∧ P m
    · obtain ⟨m, h1, h2⟩ := hlt
      exact ih m h1 h2
    · exact ⟨n, hn, fun m hm => Nat.le_of_not_lt fun hl => hlt ⟨m, hl, hm⟩⟩
theorem best_ex {mv : St2 → List (Nat × St2)} {goal : St2 → Prop} {s : St2} (h : ∃ p t, Path mv s p t ∧ goal t) : ∃ p, IsBest mv goal s p := by
  obtain ⟨n, ⟨p, t, h1, h2, h3⟩, hn⟩ := nat_min (P := fun n => ∃ p t, Path mv s p t ∧ goal t ∧ p.length = n) (by obtain ⟨p, t, h1, h2⟩ := h; exact ⟨p.length, p, t, h1, h2, rfl⟩)
  obtain ⟨m, ⟨q, u, k1, k2, k3, k4⟩, hm⟩ := nat_min (P := fun m => ∃ p t, Path mv s p t ∧ goal t ∧ p.length = n ∧ num p = m) ⟨num p, p, t, h1, h2, h3, rfl⟩
  refine ⟨q, ⟨u, k1, k2⟩, fun {p' t'} hp ht => ⟨by rw [k3]; exact hn _ ⟨p', t', hp, ht, rfl⟩, fun e => by rw [k4]; exact hm _ ⟨p', t', hp, ht, by omega, rfl⟩⟩⟩
theorem best_run {h : PHall} {id : Int} {c : Nat} (hf : hallFindF h id = c) (hr : ∃ m : List (Int × Int), doneS h m m.length ∧ hallFindF (stS h m m.length) id = 0) : (bestF h id).2 = true ∧ BestGood h id (bestF h id).1 := by
  obtain ⟨hv, h0, hc, e⟩ := find_at hf
  obtain ⟨m, hm, hg⟩ := hr
  obtain ⟨p, t, k1, k2, k3, k4⟩ := done_path m h c hf hm
  have ht0 : t.1 = 0 := by rw [hg] at k3; omega
  obtain ⟨q, hq⟩ := best_ex ⟨p, t, k1, goal_of k1 (wf_of hf) (nb_ok hv) ht0⟩
  have hb := bestP_some (nb_ok hv) hq
  rw [bestF_at hf, bestAt_some hb]
  exact ⟨rfl, best_good hf hb⟩
theorem best_no {h : PHall} {id : Int} {c : Nat} (hf : hallFindF h id = c) (hr : ¬ ∃ m : List (Int × Int), doneS h m m.length ∧ hallFindF (stS h m m.length) id = 0) : bestF h id = ([], false) := by
  obtain ⟨hv, h0, hc, e⟩ := find_at hf
  rw [bestF_at hf]
  refine bestAt_none (bestP_none fun p t hp ht => hr ?_)
  obtain ⟨d1, d2, d3⟩ := path_done (id := id) hp h hv rfl rfl hf rfl
  have hlen : (p.map slideOf).length = p.length := by simp
  exact ⟨p.map slideOf, by rw [hlen]; exact d1, by rw [hlen, d2, ht.2]; rfl⟩
/-- the two ways that it can go -/
theorem best_cases (h : PHall) (id : Int) : (bestF h id = ([], false) ∧ bringPlanF h id = ([], false) ∧ (hallFindF h id < 0 ∨ 0 < hallFindF h id ∧ hallFreeF h = [])) ∨ ∃ c : Nat, hallFindF h id = c ∧ (0 < c → hallFreeF h ≠ []) ∧ (bestF h id).2 = true ∧ BestGood h id (bestF h id).1 ∧ (bestF h id).1.length ≤ 60 := by
  have hlow := find_low h id
  by_cases h0 : hallFindF h id < 0
  · exact .inl ⟨bestF_no h0, by unfold bringPlanF; rw [if_pos (.inl h0)], .inl h0⟩
  · obtain ⟨c, hc⟩ : ∃ c : Nat, hallFindF h id = c := ⟨(hallFindF h id).toNat, by omega⟩
    by_cases hfr : 0 < c → hallFreeF h ≠ []
    · right
      obtain ⟨_, hg⟩ := bring_good hc hfr
      obtain ⟨b1, b2⟩ := best_run hc ⟨_, hg.done, hg.gate⟩
      exact ⟨c, hc, hfr, b1, b2, Nat.le_trans (b2.least _ hg.done hg.gate) hg.short⟩
    · left
      have hc0 : 0 < c := by
        rcases Nat.eq_zero_or_pos c with e | e
        · exact absurd (fun h => by omega) hfr
        · exact e
      have hn : hallFreeF h = [] := by
        cases hh : hallFreeF h with
        | nil => rfl
        | cons x l => exact absurd (fun _ => by simp [hh]) hfr
      refine ⟨best_no hc ?_, by unfold bringPlanF; rw [if_pos (.inr ⟨by omega, hn⟩)], .inr ⟨by omega, hn⟩⟩
      rintro ⟨m, hm, hg⟩
      cases m with
      | nil =>
        have : hallFindF h id = 0 := hg
        omega
      | cons s m =>
        rw [List.length_cons, doneS_cons] at hm
        obtain ⟨my, _, _, _⟩ := may_of_do hm.1
        exact free_of my.valid my.lb my.free hn
theorem least_is {h : PHall} {id : Int} (hb : (bestF h id).2 = true) : leastF h id = (bestF h id).1.length := by unfold leastF; rw [if_pos hb]
theorem least_none {h : PHall} {id : Int} (hb : bestF h id = ([], false)) : leastF h id = -1 := by unfold leastF; rw [hb]; simp
theorem least_low (h : PHall) (id : Int) : -1 ≤ leastF h id := by
  unfold leastF; split <;> omega
theorem least_le {h : PHall} {id : Int} {m : List (Int × Int)} (hm : doneS h m m.length) (hg : hallFindF (stS h m m.length) id = 0) : 0 ≤ leastF h id ∧ leastF h id ≤ m.length := by
  obtain ⟨c, hc⟩ := run_back m h 0 hm hg
  obtain ⟨b1, b2⟩ := best_run hc ⟨m, hm, hg⟩
  rw [least_is b1]
  have := b2.least m hm hg
  omega
theorem least_slid {h : PHall} {id : Int} {a b : Nat} (m : May h a b) (hn : 0 ≤ leastF h id) : 0 ≤ leastF (slidH h a b) id ∧ leastF (slidH h a b) id ≤ leastF h id + 1 := by
  have hb : (bestF h id).2 = true := by
    unfold leastF at hn
    split at hn
    · assumption
    · omega
  rcases best_cases h id with ⟨e, _⟩ | ⟨c, hc, _, _, g, _⟩
  · rw [e] at hb; simp at hb
  · have hbk := m.back
    have he := m.back_eq
    obtain ⟨d1, d2⟩ := done_one (l := (bestF h id).1) hbk (by rw [he]; exact g.done)
    have := least_le (h := slidH h a b) (id := id) (m := ((b : Int), (a : Int)) :: (bestF h id).1) (by rw [List.length_cons]; exact d1) (by rw [List.length_cons, d2, he]; exact g.gate)
    rw [least_is hb]
    simp only [List.length_cons] at this
    omega
theorem least_near {h : PHall} {id : Int} {a b : Nat} (m : May h a b) (hn : 0 ≤ leastF h id) : leastF h id ≤ leastF (slidH h a b) id + 1 ∧ leastF (slidH h a b) id ≤ leastF h id + 1 := by
  obtain ⟨h1, h2⟩ := least_slid m hn
  have h3 := least_slid m.back (id := id) h1
  rw [m.back_eq] at h3
  exact ⟨h3.2, h2⟩
theorem least_plan {h : PHall} {id : Int} (hn : 0 ≤ leastF h id) : ∃ c : Nat, hallFindF h id = c ∧ bringPlanF h id = (planG 12 h c, true) ∧ BringGood h id c (planG 12 h c) ∧ leastF h id ≤ (planG 12 h c).length ∧ apartF h.wide c 0 ≤ leastF h id := by
  rcases best_cases h id with ⟨e, _⟩ | ⟨c, hc, hfr, hb, g, _⟩
  · rw [least_none e] at hn; omega
  · obtain ⟨p1, p2⟩ := bring_good hc hfr
    have := run_apart _ h c 0 g.done hc g.gate
    exact ⟨c, hc, p1, p2, (least_le p2.done p2.gate).2, by rw [least_is hb]; exact this⟩
/-! fetching -/
noncomputable def fetchF (h : PHall) (id : Int) : PHall × Int :=
  if validB h = true then (if (bestF h id).2 = true then ((hallTakeF (stS h (bestF h id).1 (bestF h id).1.length) 0).1, ((bestF h id).1.length : Int)) else (h, -1)) else (zeroHall, -1)
theorem hallTake_valid {h : PHall} (hv : validB h = true) (c : Int) : validB (hallTakeF h c).1 = true ∧ (hallTakeF h c).1.cells.length = h.cells.length := by
  unfold hallTakeF
  rw [if_pos hv]
  split
  · rename_i hc
    have hh := hasCell_iff.1 hc
    refine ⟨?_, by simp⟩
    obtain ⟨⟨s1, s2, s3⟩, s4, s5⟩ := valid_iff.1 hv
    have val : ∀ k, gi (h.cells.set c.toNat 0) k = if c.toNat = k then 0 else gi h.cells k := fun k => gi_upd (by omega)
    refine valid_iff.2 ⟨⟨s1, s2, by simpa using s3⟩, fun k hk => ?_, fun i j hi hj hp e => ?_⟩
    · show 0 ≤ gi (h.cells.set c.toNat 0) k ∧ gi (h.cells.set c.toNat 0) k ≤ 99
      rw [val]
      split
      · omega
      · exact s4 k (by simpa using hk)
    · have hp' : 0 < gi (h.cells.set c.toNat 0) i := hp
      have e' : gi (h.cells.set c.toNat 0) i = gi (h.cells.set c.toNat 0) j := e
      rw [val] at hp' e'
      rw [val] at e'
      split at hp'
      · omega
      · rename_i n1
        rw [if_neg n1] at e'
        split at e'
        · omega
        · exact s5 i j (by simpa using hi) (by simpa using hj) hp' e'
  · exact ⟨hv, rfl⟩
theorem fetchF_ok {h : PHall} (hv : validB h = true) (id : Int) : validB (fetchF h id).1 = true ∧ (fetchF h id).1.cells.length = h.cells.length := by
  unfold fetchF
  rw [if_pos hv]
  obtain ⟨s1, s2, _⟩ := stS_ok (l := (bestF h id).1) hv (bestF h id).1.length
  split
  · obtain ⟨p1, p2⟩ := hallTake_valid s1 0
    exact ⟨p1, p2.trans s2⟩
  · exact ⟨hv, rfl⟩
theorem fetchF_len (h : PHall) (id : Int) : (fetchF h id).1.cells.length ≤ h.cells.length := by
  by_cases hv : validB h = true
  · rw [(fetchF_ok hv id).2]; exact Nat.le_refl _
  · unfold fetchF; rw [if_neg hv]; simp [zeroHall]
theorem best_len (h : PHall) (id : Int) : (bestF h id).1.length ≤ 60 := by
  rcases best_cases h id with ⟨e, _⟩ | ⟨c, _, _, _, _, hl⟩
  · rw [e]; simp
  · exact hl
theorem best_done (h : PHall) (id : Int) : doneS h (bestF h id).1 (bestF h id).1.length := by
  rcases best_cases h id with ⟨e, _⟩ | ⟨c, _, _, _, g, _⟩
  · rw [e]; intro j hj; simp at hj
  · exact g.done
noncomputable def fetchRunF (h : PHall) (l : List Int) : PHall × Int × Int := if validB h = true then ((runG fetchF h l).1, ((runG fetchF h l).2.1 : Int), (runG fetchF h l).2.2) else (zeroHall, 0, 0)
theorem fetchRunF_len (h : PHall) (l : List Int) : (fetchRunF h l).1.cells.length ≤ h.cells.length := by
  unfold fetchRunF
  split
  · rename_i hv
    rw [(runG_ok (fun h x hv => fetchF_ok hv x) hv).2]
    exact Nat.le_refl _
  · simp [zeroHall]
theorem fetch_sum {h : PHall} {l : List Int} : ∀ k, fineG fetchF h l k → 0 ≤ sumG fetchF h l k ∧ sumG fetchF h l k ≤ 60 * k
  | 0, _ => by simp [sumG]
  | k+1, hf => by
    obtain ⟨i1, i2⟩ := fetch_sum (h := h) (l := l) k (fun j hj => hf j (by omega))
    have h1 := hf k (by omega)
    have h2 : (fetchF (stG fetchF h l k) (gi l k)).2 ≤ 60 := by
      have := best_len (stG fetchF h l k) (gi l k)
      obtain ⟨X, hX⟩ : ∃ X, X = stG fetchF h l k := ⟨_, rfl⟩
      rw [← hX] at this ⊢
      unfold fetchF
      split
      · split
        · show (((bestF X (gi l k)).1.length : Nat) : Int) ≤ 60; omega
        · show (-1 : Int) ≤ 60; omega
      · show (-1 : Int) ≤ 60; omega
    simp only [sumG]
    omega
end Go.Proofs.YtnfjmcenjpoloaaDoor
