/-
  Parities, plainly: two cells exchanged turn the number of pairs that stand the wrong way round by an odd number.
-/
import Derived.Test.YtnfjmcenjpoloaaDoorRB
import Derived.Test.YtnfjmcenjpoloaaDoorP7
set_option linter.unusedVariables false
set_option linter.unusedSimpArgs false
namespace Go.Proofs.YtnfjmcenjpoloaaDoor
open Go Go.RowKit Go.Park Go.Graph

theorem cntTo_congr {p q : Nat → Bool} : ∀ {k : Nat}, (∀ j, j < k → p j = q j) → cntTo p k = cntTo q k
  | 0, _ => rfl
  | k+1, h => by
    simp only [cntTo]
    rw [cntTo_congr (fun j hj => h j (by omega)), h k (by omega)]
theorem sumTo_congr {f g : Nat → Nat} : ∀ {k : Nat}, (∀ j, j < k → f j = g j) → sumTo f k = sumTo g k
  | 0, _ => rfl
  | k+1, h => by
    simp only [sumTo]
    rw [sumTo_congr (fun j hj => h j (by omega)), h k (by omega)]
def swapF (f : Nat → Int) (p q : Nat) : Nat → Int := fun k => if k = p then f q else if k = q then f p else f k
def invN (f : Nat → Int) (n : Nat) : Nat := sumTo (fun k => cntTo (fun j => decide (f k < f j)) k) n
theorem invN_congr {f g : Nat → Int} {n : Nat} (h : ∀ j, j < n → f j = g j) : invN f n = invN g n :=
  sumTo_congr fun k hk => cntTo_congr fun j hj => by rw [h k hk, h j (by omega)]
theorem cnt_swap {P Q : Nat → Bool} {p : Nat} (h1 : Q p = P (p+1)) (h2 : Q (p+1) = P p) (h3 : ∀ j, j ≠ p → j ≠ p + 1 → Q j = P j) : ∀ d, cntTo Q (p + 2 + d) = cntTo P (p + 2 + d)
  | 0 => by
    show cntTo Q (p + 1 + 1) = cntTo P (p + 1 + 1)
    simp only [cntTo]
    rw [cntTo_congr (p := Q) (q := P) (fun j hj => h3 j (by omega) (by omega)), h1, h2]
    omega
  | d+1 => by
    show cntTo Q (p + 2 + d + 1) = cntTo P (p + 2 + d + 1)
    simp only [cntTo]
    rw [cnt_swap h1 h2 h3 d, h3 (p + 2 + d) (by omega) (by omega)]
theorem swap_at1 (f : Nat → Int) (p q : Nat) : swapF f p q p = f q := by simp [swapF]
theorem swap_at2 (f : Nat → Int) {p q : Nat} (h : p ≠ q) : swapF f p q q = f p := by simp [swapF, Ne.symm h]
theorem swap_off (f : Nat → Int) {p q k : Nat} (h1 : k ≠ p) (h2 : k ≠ q) : swapF f p q k = f k := by simp [swapF, h1, h2]
theorem inv_adj {f : Nat → Int} {p : Nat} (hne : f p ≠ f (p+1)) : ∀ d, (invN f (p + 2 + d) + invN (swapF f p (p+1)) (p + 2 + d)) % 2 = 1
  | 0 => by
    have e0 : invN (swapF f p (p+1)) p = invN f p := invN_congr fun j hj => swap_off f (by omega) (by omega)
    have e1 : invN f (p + 2) = invN f p + cntTo (fun j => decide (f p < f j)) p + (cntTo (fun j => decide (f (p+1) < f j)) p + if decide (f (p+1) < f p) = true then 1 else 0) := rfl
    have e2 : invN (swapF f p (p+1)) (p + 2) = invN (swapF f p (p+1)) p + cntTo (fun j => decide (swapF f p (p+1) p < swapF f p (p+1) j)) p + (cntTo (fun j => decide (swapF f p (p+1) (p+1) < swapF f p (p+1) j)) p + if decide (swapF f p (p+1) (p+1) < swapF f p (p+1) p) = true then 1 else 0) := rfl
    have e3 : cntTo (fun j => decide (swapF f p (p+1) p < swapF f p (p+1) j)) p = cntTo (fun j => decide (f (p+1) < f j)) p := cntTo_congr fun j hj => by rw [swap_at1, swap_off f (by omega) (by omega)]
    have e4 : cntTo (fun j => decide (swapF f p (p+1) (p+1) < swapF f p (p+1) j)) p = cntTo (fun j => decide (f p < f j)) p := cntTo_congr fun j hj => by rw [swap_at2 f (by omega), swap_off f (by omega) (by omega)]
    rw [e3, e4, swap_at1, swap_at2 f (by omega), e0] at e2
    show (invN f (p + 2) + invN (swapF f p (p+1)) (p + 2)) % 2 = 1
    rw [e1, e2]
    rcases Int.lt_or_gt_of_ne hne with h | h
    · rw [if_neg (by simp; omega), if_pos (by simpa using h)]; omega
    · rw [if_pos (by simpa using h), if_neg (by simp; omega)]; omega
  | d+1 => by
    have ih := inv_adj hne d
    have e1 : invN f (p + 2 + (d + 1)) = invN f (p + 2 + d) + cntTo (fun j => decide (f (p + 2 + d) < f j)) (p + 2 + d) := rfl
    have e2 : invN (swapF f p (p+1)) (p + 2 + (d + 1)) = invN (swapF f p (p+1)) (p + 2 + d) + cntTo (fun j => decide (swapF f p (p+1) (p + 2 + d) < swapF f p (p+1) j)) (p + 2 + d) := rfl
    have e3 : cntTo (fun j => decide (swapF f p (p+1) (p + 2 + d) < swapF f p (p+1) j)) (p + 2 + d) = cntTo (fun j => decide (f (p + 2 + d) < f j)) (p + 2 + d) := by
      refine cnt_swap (P := fun j => decide (f (p + 2 + d) < f j)) ?_ ?_ ?_ d
      · rw [swap_at1, swap_off f (by omega) (by omega)]
      · rw [swap_at2 f (by omega), swap_off f (by omega) (by omega)]
      · intro j h1 h2
        rw [swap_off f h1 h2, swap_off f (by omega) (by omega)]
    rw [e1, e2, e3]
    omega
theorem inv_adj' {f : Nat → Int} {p n : Nat} (hp : p + 1 < n) (hne : f p ≠ f (p+1)) : (invN f n + invN (swapF f p (p+1)) n) % 2 = 1 := by
  have := inv_adj hne (n - (p + 2))
  rw [show p + 2 + (n - (p + 2)) = n by omega] at this
  exact this
theorem inv_swap : ∀ (d : Nat) (f : Nat → Int) (p n : Nat), p + d + 1 < n → (∀ i j, i < n → j < n → f i = f j → i = j) → (invN f n + invN (swapF f p (p + d + 1)) n) % 2 = 1
  | 0, f, p, n, hn, hf => inv_adj' hn fun e => by have := hf p (p+1) (by omega) hn e; omega
  | d+1, f, p, n, hn, hf => by
    have hn1 : p + 1 < n := by omega
    let g1 := swapF f p (p+1)
    let g2 := swapF g1 (p+1) (p + (d+1) + 1)
    have hsw : ∀ (g : Nat → Int) (a b : Nat), a < n → b < n → a ≠ b → (∀ i j, i < n → j < n → g i = g j → i = j) → ∀ i j, i < n → j < n → swapF g a b i = swapF g a b j → i = j := by
      intro g a b ha hb hab hg i j hi hj e
      have val : ∀ i, i < n → swapF g a b i = g (if i = a then b else if i = b then a else i) := by
        intro i _
        simp only [swapF]
        split
        · rfl
        · split <;> rfl
      rw [val i hi, val j hj] at e
      have := hg _ _ (by split; exact hb; split; exact ha; exact hi) (by split; exact hb; split; exact ha; exact hj) e
      iterate 4 (all_goals try split at this)
      all_goals omega
    have h1 : (invN f n + invN g1 n) % 2 = 1 := inv_adj' hn1 fun e => by have := hf p (p+1) (by omega) hn1 e; omega
    have hg1 := hsw f p (p+1) (by omega) hn1 (by omega) hf
    have h2 : (invN g1 n + invN g2 n) % 2 = 1 := by
      have := inv_swap d g1 (p+1) n (by omega) hg1
      rw [show p + 1 + d + 1 = p + (d + 1) + 1 by omega] at this
      exact this
    have hg2 := hsw g1 (p+1) (p + (d+1) + 1) hn1 hn (by omega) hg1
    have h3 : (invN g2 n + invN (swapF g2 p (p+1)) n) % 2 = 1 := inv_adj' hn1 fun e => by have := hg2 p (p+1) (by omega) hn1 e; omega
    have e : invN (swapF g2 p (p+1)) n = invN (swapF f p (p + (d+1) + 1)) n := invN_congr fun k _ => by
      show swapF (swapF (swapF f p (p+1)) (p+1) (p + (d+1) + 1)) p (p+1) k = _
      by_cases k1 : k = p
      · subst k1
        rw [swap_at1, swap_at1, swap_at1, swap_off f (by omega) (by omega)]
      · by_cases k2 : k = p + 1
        · subst k2
          rw [swap_at2 _ (by omega), swap_off f (by omega) (by omega), swap_off (swapF f p (p+1)) (by omega) (by omega)]
          exact swap_at1 f p (p+1)
        · by_cases k3 : k = p + (d+1) + 1
          · subst k3
            rw [swap_off _ (by omega) (by omega), swap_at2 _ (by omega), swap_at2 f (by omega), swap_at2 f (by omega)]
          · rw [swap_off _ k1 k2, swap_off _ k2 k3, swap_off f k1 k2, swap_off f k1 k3]
    omega
theorem inv_pair {f : Nat → Int} {a b n : Nat} (ha : a < n) (hb : b < n) (hab : a ≠ b) (hf : ∀ i j, i < n → j < n → f i = f j → i = j) : (invN f n + invN (swapF f a b) n) % 2 = 1 := by
  rcases Nat.lt_or_ge a b with h | h
  · have := inv_swap (b - a - 1) f a n (by omega) hf
    rw [show a + (b - a - 1) + 1 = b by omega] at this
    exact this
  · have := inv_swap (a - b - 1) f b n (by omega) hf
    rw [show b + (a - b - 1) + 1 = a by omega] at this
    rw [invN_congr (f := swapF f a b) (g := swapF f b a) (fun k _ => by
      simp only [swapF]
      by_cases k1 : k = a
      · subst k1
        by_cases k2 : k = b
        · exact absurd k2 hab
        · simp [k2]
      · by_cases k2 : k = b
        · subst k2; simp [k1]
        · simp [k1, k2])]
    exact this
/-! halls with one free cell -/
theorem free_mem {h : PHall} (hv : validB h = true) {x : Int} : x ∈ hallFreeF h ↔ ∃ j : Nat, j < h.cells.length ∧ gi h.cells j = 0 ∧ x = j := by
  unfold hallFreeF
  rw [if_pos hv, selTo_mem]
  simp
theorem May.free_len {h : PHall} {a b : Nat} (m : May h a b) : (hallFreeF (slidH h a b)).length = (hallFreeF h).length := by
  have hw : ∀ c : Nat, c < h.cells.length → gi h.cells c ≠ 0 → bitsF (setN (slidH h a b)) = bitsF (setN h) := fun c hc h0 => by
    have w : Wf h.cells.length (bitsF (setN h)) (c, setN h) := ⟨hc, set_lt h, by show (setN h).testBit c = false; rw [set_bit]; simp [h0], rfl⟩
    exact ((m.mv c).wf (nb_ok m.valid) w).2.2.2
  rw [← bits_set m.ok, ← bits_set m.valid]
  exact hw a m.la m.car
theorem one_free {h : PHall} (hv : validB h = true) (h1 : (hallFreeF h).length = 1) {b : Nat} (hb : b < h.cells.length) (h0 : gi h.cells b = 0) : hallFreeF h = [(b : Int)] := by
  obtain ⟨x, hx⟩ := List.length_eq_one_iff.1 h1
  have : (b : Int) ∈ hallFreeF h := (free_mem hv).2 ⟨b, hb, h0, rfl⟩
  rw [hx] at this ⊢
  simp at this
  rw [this]
theorem cells_apart {h : PHall} (hv : validB h = true) (h1 : (hallFreeF h).length = 1) : ∀ i j, i < h.cells.length → j < h.cells.length → gi h.cells i = gi h.cells j → i = j := by
  intro i j hi hj e
  by_cases h0 : gi h.cells i = 0
  · have a1 := one_free hv h1 hi h0
    have a2 := one_free hv h1 hj (by rw [← e]; exact h0)
    rw [a1] at a2
    simp at a2
    omega
  · have := valid_cell hv hi
    exact (valid_iff.1 hv).2.one i j hi hj (by omega) e
theorem parity_one {h : PHall} (hv : validB h = true) (h1 : (hallFreeF h).length = 1) {b : Nat} (hb : b < h.cells.length) (h0 : gi h.cells b = 0) : parityF h = ((b : Int) % h.wide + (b : Int) / h.wide + invN (gi h.cells) h.cells.length) % 2 := by
  unfold parityF
  rw [if_pos h1, one_free hv h1 hb h0]
  have hs := (valid_size hv).1
  have hap : apartAt h (gi [(b : Int)] 0) 0 = (b : Int) % h.wide + (b : Int) / h.wide := by
    show apartAt h (b : Int) 0 = _
    unfold apartAt
    rw [if_pos ⟨hv, hasCell_iff.2 (by omega), hasCell_iff.2 (by omega)⟩]
    have p1 := Int.emod_nonneg (b : Int) (b := h.wide) (by omega)
    have p2 : 0 ≤ (b : Int) / h.wide := Int.ediv_nonneg (by omega) (by omega)
    unfold apartF farF
    rw [Int.zero_emod, Int.zero_ediv]
    omega
  rw [hap]
  rfl
theorem near_odd {w a b : Int} (h : apartF w a b = 1) : ((a % w + a / w) + (b % w + b / w)) % 2 = 1 := by
  unfold apartF farF at h
  omega
/-- no slide changes the parity -/
theorem parity_slid {h : PHall} {a b : Nat} (m : May h a b) : parityF (slidH h a b) = parityF h := by
  have hl := slid_len h a b
  by_cases h1 : (hallFreeF h).length = 1
  · have h1' : (hallFreeF (slidH h a b)).length = 1 := by rw [m.free_len]; exact h1
    rw [parity_one m.valid h1 m.lb m.free, parity_one (b := a) m.ok h1' (by rw [hl]; exact m.la) (by rw [slid_at m.la m.lb, if_pos rfl])]
    have e : invN (gi (slidH h a b).cells) (slidH h a b).cells.length = invN (swapF (gi h.cells) a b) h.cells.length := by
      rw [hl]
      refine invN_congr fun k hk => ?_
      rw [slid_at m.la m.lb]
      simp only [swapF]
      by_cases k1 : k = a
      · subst k1; simp [m.free]
      · by_cases k2 : k = b
        · subst k2; simp [k1, Ne.symm k1]
        · simp [k1, k2, Ne.symm k1, Ne.symm k2]
    have e2 := inv_pair m.la m.lb m.ne (cells_apart m.valid h1)
    have e3 := near_odd m.near
    rw [e]
    show ((a : Int) % h.wide + (a : Int) / h.wide + _) % 2 = _
    omega
  · have h1' : ¬ (hallFreeF (slidH h a b)).length = 1 := by rw [m.free_len]; exact h1
    unfold parityF
    rw [if_neg h1, if_neg h1']
end Go.Proofs.YtnfjmcenjpoloaaDoor
