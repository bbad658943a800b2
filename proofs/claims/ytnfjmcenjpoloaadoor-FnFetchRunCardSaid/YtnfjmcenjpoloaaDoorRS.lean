/-
  What the drawn laws ask of runs, cars and the cleared gate, plainly.
-/
import Derived.Test.YtnfjmcenjpoloaaDoorW4
import Derived.Test.YtnfjmcenjpoloaaDoorRQ
import Derived.Test.YtnfjmcenjpoloaaDoorRP
set_option linter.unusedVariables false
set_option linter.unusedSimpArgs false
namespace Go.Proofs.YtnfjmcenjpoloaaDoor
open Go Go.RowKit Go.Park Go.Graph

/-! cars -/
theorem cars_same {g h : PHall} (hg : validB g = true) (hh : validB h = true) (he : ∀ x, 0 < x → (x ∈ g.cells ↔ x ∈ h.cells)) : carsF g = carsF h := by
  have s1 := upB_iff.1 (up_cars g)
  have s2 := upB_iff.1 (up_cars h)
  have n1 : (carsF g).Nodup := s1.imp (fun h => by omega)
  have n2 : (carsF h).Nodup := s2.imp (fun h => by omega)
  refine perm_sorted ((List.perm_ext_iff_of_nodup n1 n2).2 fun x => ?_) (s1.imp (fun h => by omega)) (s2.imp (fun h => by omega))
  rw [mem_cars, mem_cars]
  simp only [hg, hh, true_and]
  exact ⟨fun ⟨p, q⟩ => ⟨p, (he x p).1 q⟩, fun ⟨p, q⟩ => ⟨p, (he x p).2 q⟩⟩
theorem May.mem {h : PHall} {a b : Nat} (m : May h a b) {x : Int} (hx : 0 < x) : x ∈ (slidH h a b).cells ↔ x ∈ h.cells := by
  have hl := slid_len h a b
  have ha := m.la
  have hb := m.lb
  rw [mem_gi, mem_gi]
  constructor
  · rintro ⟨j, hj, e⟩
    rw [slid_at ha hb] at e
    split at e
    · omega
    · split at e
      · exact ⟨a, ha, e⟩
      · exact ⟨j, by omega, e⟩
  · rintro ⟨j, hj, e⟩
    by_cases e1 : a = j
    · exact ⟨b, by omega, by rw [slid_at ha hb, if_neg m.ne, if_pos rfl, e1]; exact e⟩
    · refine ⟨j, by omega, ?_⟩
      rw [slid_at ha hb, if_neg e1, if_neg (by rintro rfl; have := m.free; omega)]
      exact e
theorem May.cars {h : PHall} {a b : Nat} (m : May h a b) : carsF (slidH h a b) = carsF h := cars_same m.ok m.valid fun x hx => m.mem hx
theorem run_cars : ∀ (l : List (Int × Int)) (h : PHall), doneS h l l.length → carsF (stS h l l.length) = carsF h
  | [], h, _ => rfl
  | s :: l, h, hd => by
    rw [List.length_cons, doneS_cons] at hd
    obtain ⟨m, _, _, e⟩ := may_of_do hd.1
    rw [List.length_cons, stS_cons, run_cars l _ hd.2, e, m.cars]
theorem run_parity : ∀ (l : List (Int × Int)) (h : PHall), doneS h l l.length → parityF (stS h l l.length) = parityF h
  | [], h, _ => rfl
  | s :: l, h, hd => by
    rw [List.length_cons, doneS_cons] at hd
    obtain ⟨m, _, _, e⟩ := may_of_do hd.1
    rw [List.length_cons, stS_cons, run_parity l _ hd.2, e, parity_slid m]
/-! a run, and back -/
/-- up to where slides can be done -/
theorem runF_is : ∀ (l : List (Int × Int)) (h : PHall), ∃ n, n ≤ l.length ∧ runF h l = (stS h l n, n) ∧ doneS h l n
  | [], h => ⟨0, Nat.le_refl _, rfl, fun j hj => by omega⟩
  | s :: l, h => by
    by_cases hd : (slideDoF h s.1 s.2).2 = true
    · obtain ⟨n, h1, h2, h3⟩ := runF_is l (slideDoF h s.1 s.2).1
      refine ⟨n + 1, by simp; omega, ?_, doneS_cons.2 ⟨hd, h3⟩⟩
      simp only [runF]
      rw [if_pos hd, h2, stS_cons]
    · refine ⟨0, Nat.zero_le _, ?_, fun j hj => by omega⟩
      simp only [runF]
      rw [if_neg hd]; rfl
theorem take_run {h : PHall} {l : List (Int × Int)} {n : Nat} (hn : n ≤ l.length) (hd : doneS h l n) : (l.take n).length = n ∧ doneS h (l.take n) (l.take n).length ∧ stS h (l.take n) (l.take n).length = stS h l n := by
  have hlen : (l.take n).length = n := by rw [List.length_take]; omega
  refine ⟨hlen, ?_, by rw [hlen]; exact doneS_take hn n (Nat.le_refl _)⟩
  intro j hj
  rw [hlen] at hj
  have : gs (l.take n) j = gs l j := by simp [gs, List.getD, List.getElem?_take, hj]
  rw [doneS_take hn j (by omega), this]
  exact hd j hj
/-! the gate made free -/
/-! fetched cars -/
theorem take_at {h : PHall} {c : Nat} (hc : c < h.cells.length) (k : Nat) : gi (h.cells.set c 0) k = if c = k then 0 else gi h.cells k := gi_upd hc
structure FetchGood (h : PHall) (id : Int) (x : PHall) : Prop where
  valid : validB x = true
  free : (hallFreeF x).length = (hallFreeF h).length + 1
  cars : ∀ y, 0 < y → (y ∈ x.cells ↔ y ∈ h.cells ∧ y ≠ id)
theorem fetch_good {h : PHall} {id : Int} (hb : (bestF h id).2 = true) : validB h = true ∧ (fetchF h id).2 = leastF h id ∧ 0 ≤ (fetchF h id).2 ∧ FetchGood h id (fetchF h id).1 := by
  rcases best_cases h id with ⟨e, _⟩ | ⟨c, hc, _, _, g, hl⟩
  · rw [e] at hb; simp at hb
  obtain ⟨hv, h0, hcl, he⟩ := find_at hc
  have hF : fetchF h id = ((hallTakeF (stS h (bestF h id).1 (bestF h id).1.length) 0).1, ((bestF h id).1.length : Int)) := by unfold fetchF; rw [if_pos hv, if_pos hb]
  have hrc := run_cars _ h g.done
  obtain ⟨s1, s2, _⟩ := stS_ok (l := (bestF h id).1) hv (bestF h id).1.length
  obtain ⟨_, _, g1, g2⟩ := find_at (c := 0) g.gate
  rw [hF]
  generalize stS h (bestF h id).1 (bestF h id).1.length = X at *
  have hT : hallTakeF X 0 = (⟨X.wide, X.deep, X.cells.set 0 0⟩, gi X.cells 0) := by
    unfold hallTakeF
    rw [if_pos s1, if_pos (hasCell_iff.2 (by omega))]; rfl
  obtain ⟨t1, t2⟩ := hallTake_valid s1 0
  have hmem : ∀ y, 0 < y → (y ∈ X.cells ↔ y ∈ h.cells) := fun y hy => by
    have h1 : y ∈ carsF X ↔ y ∈ carsF h := by rw [hrc]
    rw [mem_cars, mem_cars] at h1
    simpa [s1, hv, hy] using h1
  rw [hT] at t1 t2 ⊢
  dsimp only at t1 t2 ⊢
  refine ⟨hv, by rw [least_is hb], by omega, t1, ?_, fun y hy => ?_⟩
  · have e1 := free_cars t1
    have e2 := free_cars hv
    have e3 := free_cars s1
    have hfl : ∀ k, k ≤ X.cells.length → 0 < k → (selTo (fun j => decide (gi (X.cells.set 0 0) j = 0)) k).length = (selTo (fun j => decide (gi X.cells j = 0)) k).length + 1 := by
      intro k
      induction k with
      | zero => intro _ h; omega
      | succ k ih =>
        intro hk _
        by_cases hk0 : k = 0
        · subst hk0
          have a1 : gi (X.cells.set 0 0) 0 = 0 := by rw [take_at g1, if_pos rfl]
          have a2 : ¬ gi X.cells 0 = 0 := by omega
          rw [selTo_yes (by simp [a1]), selTo_no (by simp [a2])]
          simp [selTo]
        · have a1 : gi (X.cells.set 0 0) k = gi X.cells k := by rw [take_at g1, if_neg (by omega)]
          have ih := ih (by omega) (by omega)
          by_cases h0 : gi X.cells k = 0
          · rw [selTo_yes (by simp [a1, h0]), selTo_yes (by simp [h0])]; simp [ih]
          · rw [selTo_no (by simp [a1, h0]), selTo_no (by simp [h0])]; exact ih
    have hfx : (hallFreeF ⟨X.wide, X.deep, X.cells.set 0 0⟩).length = (hallFreeF X).length + 1 := by
      unfold hallFreeF
      rw [if_pos t1, if_pos s1]
      simp only [List.length_set]
      exact hfl _ (Nat.le_refl _) g1
    have hcc : (carsF X).length = (carsF h).length := by rw [hrc]
    omega
  · rw [← hmem y hy, mem_gi, mem_gi]
    constructor
    · rintro ⟨j, hj, e⟩
      rw [take_at g1] at e
      split at e
      · omega
      · rename_i hj0
        have hj' : j < X.cells.length := by simpa using hj
        refine ⟨⟨j, hj', e⟩, fun e2 => ?_⟩
        have := (valid_iff.1 s1).2.one 0 j g1 hj' (by omega) (by rw [g2, e, e2])
        exact hj0 this
    · rintro ⟨⟨j, hj, e⟩, hne⟩
      refine ⟨j, by simpa using hj, ?_⟩
      rw [take_at g1, if_neg (fun e2 => hne (by rw [← e, ← e2, g2]))]
      exact e
end Go.Proofs.YtnfjmcenjpoloaaDoor
