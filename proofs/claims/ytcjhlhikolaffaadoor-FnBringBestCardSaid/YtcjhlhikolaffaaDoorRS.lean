/-
  What the drawn laws ask of runs, cars and the cleared gate, plainly.
-/
import Derived.Test.YtcjhlhikolaffaaDoorW4
import Derived.Test.YtcjhlhikolaffaaDoorRQ
import Derived.Test.YtcjhlhikolaffaaDoorRP
set_option linter.unusedVariables false
set_option linter.unusedSimpArgs false
namespace Go.Proofs.YtcjhlhikolaffaaDoor
open Go Go.RowKit Go.Park Go.Graph

/-! cars -/
theorem cars_same {g h : PHall} (hg : validB g = true) (hh : validB h = true) (he : ∀ x, 0 < x → (x ∈ g.cells ↔ x ∈ h.cells)) : carsF g = carsF h := by
  have s1 := upB_iff.1 (up_cars g)
  have s2 := upB_iff.1 (up_cars h)
  have n1 : (carsF g).Nodup := s1.imp (fun h => by omega)
  have n2 : (carsF h).Nodup := s2.imp (fun h => by omega)
  refine perm_sorted ((List.perm_ext_iff_of_nodup n1 n2).2 fun x => ?_) (s1.imp (fun h => by omega)) (s2.imp (fun h => by omega))
  rw [mem_cars, mem_cars]
  simp only [hg, hh, true_and]
  exact ⟨fun ⟨p, q⟩ => ⟨p, (he x p).1 q⟩, fun ⟨p, q⟩ => ⟨p, (he x p).2 q⟩⟩
theorem May.mem {h : PHall} {a b : Nat} (m : May h a b) {x : Int} (hx : 0 < x) : x ∈ (slidH h a b).cells ↔ x ∈ h.cells := by
  have hl := slid_len h a b
  have ha := m.la
  have hb := m.lb
  rw [mem_gi, mem_gi]
  constructor
  · rintro ⟨j, hj, e⟩
    rw [slid_at ha hb] at e
    split at e
    · omega
    · split at e
      · exact ⟨a, ha, e⟩
      · exact ⟨j, by omega, e⟩
  · rintro ⟨j, hj, e⟩
    by_cases e1 : a = j
    · exact ⟨b, by omega, by rw [slid_at ha hb, if_neg m.ne, if_pos rfl, e1]; exact e⟩
    · refine ⟨j, by omega, ?_⟩
      rw [slid_at ha hb, if_neg e1, if_neg (by rintro rfl; have := m.free; omega)]
      exact e
theorem May.cars {h : PHall} {a b : Nat} (m : May h a b) : carsF (slidH h a b) = carsF h := cars_same m.ok m.valid fun x hx => m.mem hx
theorem run_cars : ∀ (l : List (Int × Int)) (h : PHall), doneS h l l.length → carsF (stS h l l.length) = carsF h
  | [], h, _ => rfl
  | s :: l, h, hd => by
    rw [List.length_cons, doneS_cons] at hd
    obtain ⟨m, _, _, e⟩ := may_of_do hd.1
    rw [List.length_cons, stS_cons, run_cars l _ hd.2, e, m.cars]
theorem run_parity : ∀ (l : List (Int × Int)) (h : PHall), doneS h l l.length → parityF (stS h l l.length) = parityF h
  | [], h, _ => rfl
  | s :: l, h, hd => by
    rw [List.length_cons, doneS_cons] at hd
    obtain ⟨m, _, _, e⟩ := may_of_do hd.1
    rw [List.length_cons, stS_cons, run_parity l _ hd.2, e, parity_slid m]
/-! a run, and back -/
theorem back_cons (s : Int × Int) (l : List (Int × Int)) : backF (s :: l) = backF l ++ [(s.2, s.1)] := by simp [backF]
theorem back_len (l : List (Int × Int)) : (backF l).length = l.length := by simp [backF]
theorem run_undo : ∀ (l : List (Int × Int)) (h : PHall), doneS h l l.length → doneS (stS h l l.length) (backF l) (backF l).length ∧ stS (stS h l l.length) (backF l) (backF l).length = h
  | [], h, _ => ⟨fun j hj => by simp [backF] at hj, rfl⟩
  | s :: l, h, hd => by
    rw [List.length_cons, doneS_cons] at hd
    obtain ⟨m, e1, e2, e⟩ := may_of_do hd.1
    obtain ⟨i1, i2⟩ := run_undo l _ hd.2
    rw [List.length_cons, stS_cons, back_cons]
    have hb := m.back
    have hbe := m.back_eq
    obtain ⟨d1, d2⟩ := done_one (l := []) hb (fun j hj => by simp at hj)
    rw [e1, e2] at d1 d2
    rw [← e] at d1 d2 hbe
    refine ⟨done_app i1 (by rw [i2]; exact d1), ?_⟩
    rw [stS_all, i2]
    show stS (slideDoF h s.1 s.2).1 [(s.2, s.1)] (0 + 1) = h
    have d2' : stS (slideDoF h s.1 s.2).1 [(s.2, s.1)] (0 + 1) = stS (slidH (slideDoF h s.1 s.2).1 s.2.toNat s.1.toNat) [] 0 := d2
    rw [d2']; exact hbe
/-- up to where slides can be done -/
theorem runF_is : ∀ (l : List (Int × Int)) (h : PHall), ∃ n, n ≤ l.length ∧ runF h l = (stS h l n, n) ∧ doneS h l n
  | [], h => ⟨0, Nat.le_refl _, rfl, fun j hj => by omega⟩
  | s :: l, h => by
    by_cases hd : (slideDoF h s.1 s.2).2 = true
    · obtain ⟨n, h1, h2, h3⟩ := runF_is l (slideDoF h s.1 s.2).1
      refine ⟨n + 1, by simp; omega, ?_, doneS_cons.2 ⟨hd, h3⟩⟩
      simp only [runF]
      rw [if_pos hd, h2, stS_cons]
    · refine ⟨0, Nat.zero_le _, ?_, fun j hj => by omega⟩
      simp only [runF]
      rw [if_neg hd]; rfl
theorem take_run {h : PHall} {l : List (Int × Int)} {n : Nat} (hn : n ≤ l.length) (hd : doneS h l n) : (l.take n).length = n ∧ doneS h (l.take n) (l.take n).length ∧ stS h (l.take n) (l.take n).length = stS h l n := by
  have hlen : (l.take n).length = n := by rw [List.length_take]; omega
  refine ⟨hlen, ?_, by rw [hlen]; exact doneS_take hn n (Nat.le_refl _)⟩
  intro j hj
  rw [hlen] at hj
  have : gs (l.take n) j = gs l j := by simp [gs, List.getD, List.getElem?_take, hj]
  rw [doneS_take hn j (by omega), this]
  exact hd j hj
/-! the gate made free -/
theorem near_least {h : PHall} {tgt but : Int} {free : List Int} (hp : ∀ j, j < free.length → wayF h (gi free j) tgt but ≠ []) : ∀ k, k ≤ free.length → ∀ j, j < k → (nearS h tgt but free k).length ≤ (wayF h (gi free j) tgt but).length
  | 0, _, j, hj => by omega
  | k+1, hk, j, hj => by
    have ih := near_least hp k (by omega)
    have hw := List.length_pos_iff.2 (hp k (by omega))
    simp only [nearS]
    split
    · rename_i hc
      by_cases e : j = k
      · subst e; exact Nat.le_refl _
      · have h1 := ih j (by omega)
        rcases hc.2 with h2 | h2
        · have hne := near_some hp (k - 1) (by omega)
          rw [show k - 1 + 1 = k by omega] at hne
          exact absurd (List.eq_nil_of_length_eq_zero h2) hne
        · omega
    · rename_i hc
      by_cases e : j = k
      · subst e
        have : ¬ ((nearS h tgt but free j).length = 0 ∨ (wayF h (gi free j) tgt but).length < (nearS h tgt but free j).length) := fun e => hc ⟨hw, e⟩
        omega
      · exact ih j (by omega)
theorem way_tail {h : PHall} {a b but : Int} {l : List Int} (W : WayGood h a b but l) : ∀ d, d < l.length → apartF h.wide (gi l (l.length - 1 - d)) b ≤ d
  | 0, hd => by
    show apartF h.wide (gi l (l.length - 1)) b ≤ ((0 : Nat) : Int)
    rw [W.last, apart0]; omega
  | d+1, hd => by
    have ih := way_tail W d (by omega)
    have hs := W.step (l.length - 1 - (d + 1)) (by omega)
    rw [show l.length - 1 - (d + 1) + 1 = l.length - 1 - d by omega] at hs
    have := apartT h.wide (gi l (l.length - 1 - (d+1))) (gi l (l.length - 1 - d)) b
    omega
theorem way_head {h : PHall} {a b but : Int} {l : List Int} (W : WayGood h a b but l) : ∀ k, k < l.length → apartF h.wide a (gi l k) ≤ k
  | 0, _ => by rw [W.first, apart0]; omega
  | k+1, hk => by
    have h1 := way_head W k (by omega)
    have h2 := W.step k hk
    have h3 := apartT h.wide a (gi l k) (gi l (k+1))
    omega
structure ClearGood (h : PHall) (l : List (Int × Int)) (d : Nat) : Prop where
  len : l.length = d
  done : doneS h l l.length
  gate : gi (stS h l l.length).cells 0 = 0
  some : ∃ j, j < (hallFreeF h).length ∧ apartF h.wide (gi (hallFreeF h) j) 0 = d
  least : ∀ j, j < (hallFreeF h).length → (d : Int) ≤ apartF h.wide (gi (hallFreeF h) j) 0
theorem clear_good {h : PHall} (hf : hallFreeF h ≠ []) : ∃ l d, clearF h = (l, true) ∧ ClearGood h l d := by
  have hpos : 0 < (hallFreeF h).length := List.length_pos_iff.2 hf
  obtain ⟨hv, _⟩ := free_cell hpos
  have h2 := (valid_len hv).1
  have hways : ∀ j, j < (hallFreeF h).length → wayOk h (gi (hallFreeF h) j) 0 (-1) = true := fun j hj => by
    obtain ⟨_, c0, c1, c2⟩ := free_cell hj
    exact wayOk_iff.2 ⟨hv, ⟨c0, c1⟩, ⟨by omega, by omega⟩, ⟨by omega, by omega⟩, by omega, by omega⟩
  have hne : ∀ j, j < (hallFreeF h).length → wayF h (gi (hallFreeF h) j) 0 (-1) ≠ [] := fun j hj => List.length_pos_iff.1 (way_good (hways j hj)).pos
  have hlen : ∀ j, j < (hallFreeF h).length → ((wayF h (gi (hallFreeF h) j) 0 (-1)).length : Int) = apartF h.wide (gi (hallFreeF h) j) 0 + 1 := fun j hj => (way_good (hways j hj)).least rfl
  have hnear := near_some hne ((hallFreeF h).length - 1) (by omega)
  rw [show (hallFreeF h).length - 1 + 1 = (hallFreeF h).length by omega] at hnear
  obtain ⟨j0, hj0, hw⟩ := near_is _ hnear
  have hmin := near_least hne (hallFreeF h).length (Nat.le_refl _)
  obtain ⟨_, c0, c1, c2⟩ := free_cell hj0
  have ho := way_hole (hways j0 hj0) c2
  have W := way_good (hways j0 hj0)
  have hl0 := hlen j0 hj0
  rw [← hw] at ho W hl0
  have hN : nearF h 0 (-1) = nearS h 0 (-1) (hallFreeF h) (hallFreeF h).length := rfl
  rw [← hN] at ho W hl0 hmin
  obtain ⟨way, hway⟩ : ∃ way, way = nearF h 0 (-1) := ⟨_, rfl⟩
  rw [← hway] at ho W hl0 hmin
  have hp := W.pos
  have hcell : ∀ k, k < way.length → 0 ≤ gi way k ∧ gi way k < h.cells.length := fun k hk => W.cells _ (gi_mem hk)
  have htail : ∀ k, k < way.length → apartF h.wide (gi way k) 0 ≤ way.length - 1 - k := fun k hk => by
    have := way_tail W (way.length - 1 - k) (by omega)
    rw [show way.length - 1 - (way.length - 1 - k) = k by omega] at this
    omega
  have hfar : ∀ k, k < way.length → apartF h.wide (gi way k) 0 = way.length - 1 - k := fun k hk => by
    have h1 := htail k hk
    have h3 := way_head W k hk
    have h4 := apartT h.wide (gi (hallFreeF h) j0) (gi way k) 0
    omega
  have hcar : ∀ k, k + 1 < way.length → gi h.cells (gi way (k+1)).toNat ≠ 0 := fun k hk h0 => by
    have hc := hcell (k+1) hk
    have hm : gi way (k+1) ∈ hallFreeF h := (free_mem hv).2 ⟨(gi way (k+1)).toNat, by omega, h0, by omega⟩
    obtain ⟨j, hj, e⟩ := mem_gi.1 hm
    have h1 := hmin j hj
    have h3 := hlen j hj
    rw [e] at h1 h3
    have h4 := hfar (k+1) hk
    omega
  have hmany : ∀ k, k < way.length → (holeS h.cells way k).1.length = k := by
    intro k
    induction k with
    | zero => intro _; rfl
    | succ k ih =>
      intro hk
      have hk2 := hole_keep ho (x := (gi way (k+1)).toNat) k (by omega) (fun j hj e => by
        have h1 := hfar j (by omega)
        have h3 := hfar (k+1) hk
        have h4 := hcell (k+1) hk
        rw [show gi way j = gi way (k+1) by omega] at h1
        omega)
      rw [holeS_yes (by rw [hk2]; exact hcar k hk)]
      simp [ih (by omega)]
  have hF : holeF h way = (holeS h.cells way (way.length - 1)).1 := by unfold holeF; rw [if_pos ho]
  have hFl : (holeF h way).length = way.length - 1 := by rw [hF]; exact hmany _ (by omega)
  obtain ⟨r1, r2⟩ := hole_run ho (way.length - 1) (by omega)
  rw [← hF] at r1 r2
  have H := hole_all ho (way.length - 1) (by omega)
  refine ⟨holeF h way, way.length - 1, ?_, hFl, r1, ?_, ⟨j0, hj0, by omega⟩, fun j hj => ?_⟩
  · unfold clearF
    rw [← hway, if_pos ⟨hv, hp⟩]
  · rw [r2]
    show gi (holeS h.cells way (way.length - 1)).2 0 = 0
    have := H.free
    rw [W.last] at this
    exact this
  · have h1 := hmin j hj
    have h3 := hlen j hj
    omega
theorem clear_none {h : PHall} (hf : hallFreeF h = []) : clearF h = ([], false) := by
  unfold clearF
  have : nearF h 0 (-1) = [] := by unfold nearF; rw [hf]; rfl
  rw [this]; simp
/-! fetched cars -/
theorem take_at {h : PHall} {c : Nat} (hc : c < h.cells.length) (k : Nat) : gi (h.cells.set c 0) k = if c = k then 0 else gi h.cells k := gi_upd hc
structure FetchGood (h : PHall) (id : Int) (x : PHall) : Prop where
  valid : validB x = true
  free : (hallFreeF x).length = (hallFreeF h).length + 1
  cars : ∀ y, 0 < y → (y ∈ x.cells ↔ y ∈ h.cells ∧ y ≠ id)
theorem fetch_good {h : PHall} {id : Int} (hb : (bestF h id).2 = true) : validB h = true ∧ (fetchF h id).2 = leastF h id ∧ 0 ≤ (fetchF h id).2 ∧ FetchGood h id (fetchF h id).1 := by
  rcases best_cases h id with ⟨e, _⟩ | ⟨c, hc, _, _, g, hl⟩
  · rw [e] at hb; simp at hb
  obtain ⟨hv, h0, hcl, he⟩ := find_at hc
  have hF : fetchF h id = ((hallTakeF (stS h (bestF h id).1 (bestF h id).1.length) 0).1, ((bestF h id).1.length : Int)) := by unfold fetchF; rw [if_pos hv, if_pos hb]
  have hrc := run_cars _ h g.done
  obtain ⟨s1, s2, _⟩ := stS_ok (l := (bestF h id).1) hv (bestF h id).1.length
  obtain ⟨_, _, g1, g2⟩ := find_at (c := 0) g.gate
  rw [hF]
  generalize stS h (bestF h id).1 (bestF h id).1.length = X at *
  have hT : hallTakeF X 0 = (⟨X.wide, X.deep, X.cells.set 0 0⟩, gi X.cells 0) := by
    unfold hallTakeF
    rw [if_pos s1, if_pos (hasCell_iff.2 (by omega))]; rfl
  obtain ⟨t1, t2⟩ := hallTake_valid s1 0
  have hmem : ∀ y, 0 < y → (y ∈ X.cells ↔ y ∈ h.cells) := fun y hy => by
    have h1 : y ∈ carsF X ↔ y ∈ carsF h := by rw [hrc]
    rw [mem_cars, mem_cars] at h1
    simpa [s1, hv, hy] using h1
  rw [hT] at t1 t2 ⊢
  dsimp only at t1 t2 ⊢
  refine ⟨hv, by rw [least_is hb], by omega, t1, ?_, fun y hy => ?_⟩
  · have e1 := free_cars t1
    have e2 := free_cars hv
    have e3 := free_cars s1
    have hfl : ∀ k, k ≤ X.cells.length → 0 < k → (selTo (fun j => decide (gi (X.cells.set 0 0) j = 0)) k).length = (selTo (fun j => decide (gi X.cells j = 0)) k).length + 1 := by
      intro k
      induction k with
      | zero => intro _ h; omega
      | succ k ih =>
        intro hk _
        by_cases hk0 : k = 0
        · subst hk0
          have a1 : gi (X.cells.set 0 0) 0 = 0 := by rw [take_at g1, if_pos rfl]
          have a2 : ¬ gi X.cells 0 = 0 := by omega
          rw [selTo_yes (by simp [a1]), selTo_no (by simp [a2])]
          simp [selTo]
        · have a1 : gi (X.cells.set 0 0) k = gi X.cells k := by rw [take_at g1, if_neg (by omega)]
          have ih := ih (by omega) (by omega)
          by_cases h0 : gi X.cells k = 0
          · rw [selTo_yes (by simp [a1, h0]), selTo_yes (by simp [h0])]; simp [ih]
          · rw [selTo_no (by simp [a1, h0]), selTo_no (by simp [h0])]; exact ih
    have hfx : (hallFreeF ⟨X.wide, X.deep, X.cells.set 0 0⟩).length = (hallFreeF X).length + 1 := by
      unfold hallFreeF
      rw [if_pos t1, if_pos s1]
      simp only [List.length_set]
      exact hfl _ (Nat.le_refl _) g1
    have hcc : (carsF X).length = (carsF h).length := by rw [hrc]
    omega
  · rw [← hmem y hy, mem_gi, mem_gi]
    constructor
    · rintro ⟨j, hj, e⟩
      rw [take_at g1] at e
      split at e
      · omega
      · rename_i hj0
        have hj' : j < X.cells.length := by simpa using hj
        refine ⟨⟨j, hj', e⟩, fun e2 => ?_⟩
        have := (valid_iff.1 s1).2.one 0 j g1 hj' (by omega) (by rw [g2, e, e2])
        exact hj0 this
    · rintro ⟨⟨j, hj, e⟩, hne⟩
      refine ⟨j, by simpa using hj, ?_⟩
      rw [take_at g1, if_neg (fun e2 => hne (by rw [← e, ← e2, g2]))]
      exact e
end Go.Proofs.YtcjhlhikolaffaaDoor
