/-
  ParityOf.
-/
import Derived.Test.YtmkdafgcggpahaaDoorK
import Derived.Deep.RegionHeld3
import Derived.BigQuiet
set_option linter.unusedVariables false
namespace Go.Proofs.YtmkdafgcggpahaaDoor
open Go Go.RowKit Go.Park

def cntTo (p : Nat → Bool) : Nat → Nat
  | 0 => 0
  | k+1 => cntTo p k + (if p k = true then 1 else 0)
theorem cntTo_le (p : Nat → Bool) (k : Nat) : cntTo p k ≤ k := by
  induction k with
  | zero => simp [cntTo]
  | succ k ih => simp only [cntTo]; split <;> omega
def sumTo (f : Nat → Nat) : Nat → Nat
  | 0 => 0
  | k+1 => sumTo f k + f k
theorem sumTo_le {f : Nat → Nat} {c k : Nat} (h : ∀ j, j < k → f j ≤ c) : sumTo f k ≤ c * k := by
  induction k with
  | zero => simp [sumTo]
  | succ k ih =>
    have h1 := ih (fun j hj => h j (by omega))
    have h2 := h k (by omega)
    simp only [sumTo, Nat.mul_add, Nat.mul_one]
    omega
/-- how many of the first m stand before the k-th and are greater -/
def invCol (l : List Int) (k m : Nat) : Nat := cntTo (fun j => decide (gi l k < gi l j)) m
def invRow (l : List Int) (i m : Nat) : Nat := cntTo (fun t => decide (gi l (i + 1 + t) < gi l i)) m
def invS (l : List Int) (n : Nat) : Nat := sumTo (fun k => invCol l k k) n
def invI (l : List Int) (n m : Nat) : Nat := sumTo (fun i => invRow l i (n - (i + 1))) m
theorem invI_step (l : List Int) (n m : Nat) (h : m ≤ n) : invI l (n + 1) m = invI l n m + invCol l n m := by
  induction m with
  | zero => rfl
  | succ m ih =>
    have ih := ih (by omega)
    simp only [invI, invCol, sumTo, cntTo] at ih ⊢
    rw [ih]
    obtain ⟨d, hd⟩ : ∃ d, n = m + 1 + d := ⟨n - (m + 1), by omega⟩
    have e1 : n + 1 - (m + 1) = d + 1 := by omega
    have e2 : n - (m + 1) = d := by omega
    have e3 : invRow l m (d + 1) = invRow l m d + (if decide (gi l n < gi l m) = true then 1 else 0) := by
      simp only [invRow, cntTo, ← hd]
    rw [e1, e2, e3]
    omega
theorem invI_all (l : List Int) (n : Nat) : invI l n n = invS l n := by
  induction n with
  | zero => rfl
  | succ n ih =>
    have h := invI_step l n n (Nat.le_refl _)
    have e : invI l (n + 1) (n + 1) = invI l (n + 1) n + invRow l n 0 := by simp [invI, sumTo]
    have e0 : invRow l n 0 = 0 := rfl
    have e2 : invS l (n + 1) = invS l n + invCol l n n := rfl
    omega
theorem invS_le (l : List Int) {n : Nat} (h : n ≤ 12) : invS l n ≤ 144 := by
  have := sumTo_le (f := fun k => invCol l k k) (c := 12) (k := n) (fun j hj => by have := cntTo_le (fun i => decide (gi l j < gi l i)) j; simp only [invCol]; omega)
  simp only [invS]
  omega
theorem invI_le (l : List Int) {n m : Nat} (h : n ≤ 12) (hm : m ≤ 12) : invI l n m ≤ 144 := by
  have := sumTo_le (f := fun i => invRow l i (n - (i + 1))) (c := 12) (k := m) (fun j hj => by have := cntTo_le (fun t => decide (gi l (j + 1 + t) < gi l j)) (n - (j + 1)); simp only [invRow]; omega)
  simp only [invI]
  omega
theorem invCol_le (l : List Int) (k m : Nat) : invCol l k m ≤ m := cntTo_le _ _
theorem invRow_le (l : List Int) (k m : Nat) : invRow l k m ≤ m := cntTo_le _ _
theorem invCol_yes {l : List Int} {k j : Nat} (h : gi l k < gi l j) : invCol l k (j + 1) = invCol l k j + 1 := by simp [invCol, cntTo, h]
theorem invCol_no {l : List Int} {k j : Nat} (h : ¬ gi l k < gi l j) : invCol l k (j + 1) = invCol l k j := by
  simp only [invCol, cntTo]; rw [if_neg (by simpa using h)]; rfl
theorem invRow_yes {l : List Int} {k j : Nat} (h : gi l (k + 1 + j) < gi l k) : invRow l k (j + 1) = invRow l k j + 1 := by simp [invRow, cntTo, h]
theorem invRow_no {l : List Int} {k j : Nat} (h : ¬ gi l (k + 1 + j) < gi l k) : invRow l k (j + 1) = invRow l k j := by
  simp only [invRow, cntTo]; rw [if_neg (by simpa using h)]; rfl

def parityF (h : PHall) : Int :=
  if (hallFreeF h).length = 1 then (apartAt h (gi (hallFreeF h) 0) 0 + invS h.cells h.cells.length) % 2 else -1

theorem free_one {h : PHall} (h1 : (hallFreeF h).length = 1) : ∃ x : Int, hallFreeF h = [x] ∧ h.cells.length ≤ 12 ∧ 0 ≤ apartAt h x 0 ∧ apartAt h x 0 ≤ 100 := by
  obtain ⟨x, hx⟩ := List.length_eq_one_iff.1 h1
  refine ⟨x, hx, ?_⟩
  by_cases hv : validB h = true
  · have hx2 : x ∈ selTo (fun j => decide (gi h.cells j = 0)) h.cells.length := by
      have : x ∈ hallFreeF h := by rw [hx]; simp
      simpa [hallFreeF, hv] using this
    obtain ⟨j, hj, _, rfl⟩ := selTo_mem.1 hx2
    have hl := (valid_len hv).2
    have hs := (valid_size hv).1
    have c1 : hasCellB h (j : Int) = true := hasCell_iff.2 (by omega)
    have c0 : hasCellB h 0 = true := hasCell_iff.2 (by omega)
    refine ⟨hl, ?_⟩
    have e : apartAt h j 0 = apartF h.wide j 0 := by simp [apartAt, hv, c1, c0]
    rw [e]
    unfold apartF farF
    have hw : h.wide = 2 ∨ h.wide = 3 ∨ h.wide = 4 := by omega
    rcases hw with e | e | e <;> rw [e] <;> omega
  · simp [hallFreeF, hv] at h1



end Go.Proofs.YtmkdafgcggpahaaDoor
