/-
  The texts R1 R2 R3 in one.
-/

section
/-
  Searches of a graph, plainly: what the first way found is, and what distances are; nothing of the program stands here.
-/
set_option linter.unusedVariables false
namespace Go.Graph

/-- the number of a list of codes below 256 -/
def num (p : List Nat) : Nat := p.foldl (fun a c => a * 256 + c) 0
theorem num_from (p : List Nat) : ∀ a, p.foldl (fun a c => a * 256 + c) a = a * 256 ^ p.length + num p := by
  unfold num
  induction p with
  | nil => intro a; simp
  | cons c p ih =>
    intro a
    simp only [List.foldl_cons, List.length_cons]
    rw [ih, ih (0 * 256 + c), Nat.pow_succ]
    simp only [Nat.zero_mul, Nat.zero_add, Nat.add_mul]
    rw [Nat.mul_assoc a 256, Nat.mul_comm 256]
    omega
theorem num_cons (c : Nat) (p : List Nat) : num (c :: p) = c * 256 ^ p.length + num p := by
  have := num_from p (0 * 256 + c)
  simp only [Nat.zero_mul, Nat.zero_add] at this
  rw [← this]; simp [num]
theorem num_snoc (p : List Nat) (c : Nat) : num (p ++ [c]) = num p * 256 + c := by simp [num, List.foldl_append]
def Small (p : List Nat) : Prop := ∀ c, c ∈ p → c < 256
theorem num_lt : ∀ {p : List Nat}, Small p → num p < 256 ^ p.length
  | [], _ => by simp [num]
  | c :: p, h => by
    have h1 := num_lt (p := p) (fun x hx => h x (by simp [hx]))
    have h2 := h c (by simp)
    rw [num_cons, List.length_cons, Nat.pow_succ]
    have : c * 256 ^ p.length ≤ 255 * 256 ^ p.length := Nat.mul_le_mul_right _ (by omega)
    omega
theorem num_inj : ∀ {p q : List Nat}, Small p → Small q → p.length = q.length → num p = num q → p = q
  | [], [], _, _, _, _ => rfl
  | [], _ :: _, _, _, h, _ => by simp at h
  | _ :: _, [], _, _, h, _ => by simp at h
  | c :: p, d :: q, hp, hq, hl, hn => by
    simp only [List.length_cons, Nat.add_right_cancel_iff] at hl
    have hp' : Small p := fun x hx => hp x (by simp [hx])
    have hq' : Small q := fun x hx => hq x (by simp [hx])
    have h1 := num_lt hp'
    have h2 := num_lt hq'
    rw [num_cons, num_cons, hl] at hn
    rw [hl] at h1
    have hX : 0 < 256 ^ q.length := Nat.pow_pos (by omega)
    have e : c = d := by
      rcases Nat.lt_trichotomy c d with h | h | h
      · have : (c + 1) * 256 ^ q.length ≤ d * 256 ^ q.length := Nat.mul_le_mul_right _ h
        rw [Nat.add_mul] at this; omega
      · exact h
      · have : (d + 1) * 256 ^ q.length ≤ c * 256 ^ q.length := Nat.mul_le_mul_right _ h
        rw [Nat.add_mul] at this; omega
    subst e
    rw [num_inj hp' hq' hl (by omega)]

section
variable {S : Type} (mv : S → List (Nat × S))
/-- a way by its codes -/
inductive Path : S → List Nat → S → Prop
  | nil (s : S) : Path s [] s
  | cons {s u t : S} {c : Nat} {p : List Nat} (h : (c, u) ∈ mv s) (k : Path u p t) : Path s (c :: p) t
variable {mv}
theorem Path.snoc {s t u : S} {c : Nat} {p : List Nat} (h : Path mv s p t) (k : (c, u) ∈ mv t) : Path mv s (p ++ [c]) u := by
  induction h with
  | nil s => exact .cons k (.nil _)
  | cons h _ ih => exact .cons h (ih k)
theorem Path.split {s t : S} {c : Nat} {p : List Nat} (h : Path mv s (p ++ [c]) t) : ∃ u, Path mv s p u ∧ (c, t) ∈ mv u := by
  induction p generalizing s with
  | nil =>
    cases h with
    | cons h k => cases k; exact ⟨s, .nil s, h⟩
  | cons e p ih =>
    cases h with
    | cons h k =>
      obtain ⟨x, h1, h2⟩ := ih k
      exact ⟨x, .cons h h1, h2⟩
theorem Path.small (hc : ∀ s c u, (c, u) ∈ mv s → c < 256) {s t : S} {p : List Nat} (h : Path mv s p t) : Small p := by
  induction h with
  | nil s => intro c h; simp at h
  | cons h k ih =>
    intro d hd
    rcases List.mem_cons.1 hd with rfl | hd
    · exact hc _ _ _ h
    · exact ih d hd

/-! ### forward, in the order of a queue -/
/-- what the search has laid down: q i is reached from q (par i) by code i; dep, val: its way's length and number -/
structure Fw (mv : S → List (Nat × S)) (N : Nat) (q : Nat → S) (par cod dep val : Nat → Nat) : Prop where
  dep0 : dep 0 = 0
  val0 : val 0 = 0
  par_lt : ∀ j, 0 < j → j < N → par j < j
  edge : ∀ j, 0 < j → j < N → (cod j, q j) ∈ mv (q (par j))
  depS : ∀ j, 0 < j → j < N → dep j = dep (par j) + 1
  valS : ∀ j, 0 < j → j < N → val j = val (par j) * 256 + cod j
  sorted : ∀ a b, 0 < a → a < b → b < N → par a < par b ∨ (par a = par b ∧ cod a < cod b)
variable {N : Nat} {q : Nat → S} {par cod dep val : Nat → Nat}
theorem Fw.mono (hc : ∀ s c u, (c, u) ∈ mv s → c < 256) (F : Fw mv N q par cod dep val) : ∀ b, b < N → ∀ a, a < b → dep a ≤ dep b ∧ (dep a = dep b → val a < val b) := by
  intro b
  induction b using Nat.strongRecOn with
  | ind b ih =>
    intro hb a hab
    have hb0 : 0 < b := by omega
    have eb := F.depS b hb0 hb
    by_cases ha : a = 0
    · subst ha
      rw [F.dep0]
      exact ⟨by omega, fun h => by omega⟩
    have ha0 : 0 < a := by omega
    have ea := F.depS a ha0 (by omega)
    have va := F.valS a ha0 (by omega)
    have vb := F.valS b hb0 hb
    have pb := F.par_lt b hb0 hb
    have ca := hc _ _ _ (F.edge a ha0 (by omega))
    rcases F.sorted a b ha0 hab hb with h | ⟨h, h2⟩
    · obtain ⟨h3, h4⟩ := ih (par b) pb (by omega) (par a) h
      refine ⟨by omega, fun h5 => ?_⟩
      have h6 := h4 (by omega)
      have : (val (par a) + 1) * 256 ≤ val (par b) * 256 := Nat.mul_le_mul_right _ h6
      omega
    · rw [← h] at eb vb
      exact ⟨by omega, fun _ => by omega⟩
theorem Fw.mono_le (hc : ∀ s c u, (c, u) ∈ mv s → c < 256) (F : Fw mv N q par cod dep val) {a b : Nat} (hb : b < N) (hab : a ≤ b) : dep a ≤ dep b ∧ (dep a = dep b → val a ≤ val b) := by
  rcases Nat.lt_or_eq_of_le hab with h | rfl
  · obtain ⟨h1, h2⟩ := F.mono hc b hb a h
    exact ⟨h1, fun e => Nat.le_of_lt (h2 e)⟩
  · exact ⟨Nat.le_refl _, fun _ => Nat.le_refl _⟩
/-- the ways that it has laid down -/
theorem Fw.path (F : Fw mv N q par cod dep val) : ∀ j, j < N → ∃ p, Path mv (q 0) p (q j) ∧ p.length = dep j ∧ num p = val j := by
  intro j
  induction j using Nat.strongRecOn with
  | ind j ih =>
    intro hj
    by_cases h0 : j = 0
    · subst h0
      exact ⟨[], .nil _, by simp [F.dep0], by simp [F.val0, num]⟩
    · obtain ⟨p, h1, h2, h3⟩ := ih (par j) (F.par_lt j (by omega) hj) (by have := F.par_lt j (by omega) hj; omega)
      exact ⟨p ++ [cod j], h1.snoc (F.edge j (by omega) hj), by simp [F.depS j (by omega) hj, h2], by rw [num_snoc, h3, F.valS j (by omega) hj]⟩
/-- all that the first k reach has been laid down, from the first that reached it -/
def Full (mv : S → List (Nat × S)) (N : Nat) (q : Nat → S) (par cod : Nat → Nat) (k : Nat) : Prop :=
  ∀ j, j < k → ∀ c u, (c, u) ∈ mv (q j) → ∃ i, i < N ∧ q i = u ∧ (0 < i → par i < j ∨ (par i = j ∧ cod i ≤ c))
theorem Fw.best (hc : ∀ s c u, (c, u) ∈ mv s → c < 256) (F : Fw mv N q par cod dep val) {k : Nat} (hk : k < N) (hF : Full mv N q par cod k) (goal : S → Prop) (hg : ∀ j, j < k → ¬ goal (q j)) {p : List Nat} {t : S} (hp : Path mv (q 0) p t) (ht : goal t) :
    dep k ≤ p.length ∧ (dep k = p.length → val k ≤ num p) := by
  have key : ∀ (n : Nat) (p : List Nat), p.length = n → ∀ t, Path mv (q 0) p t → (∃ i, i < k ∧ q i = t ∧ dep i ≤ p.length ∧ (dep i = p.length → val i ≤ num p)) ∨ (dep k ≤ p.length ∧ (dep k = p.length → val k ≤ num p)) := by
    intro n
    induction n with
    | zero =>
      intro p hn t hp
      have : p = [] := List.eq_nil_of_length_eq_zero hn
      subst this
      cases hp
      by_cases h0 : k = 0
      · subst h0; right; rw [F.dep0, F.val0]; exact ⟨Nat.zero_le _, fun _ => Nat.zero_le _⟩
      · left; exact ⟨0, by omega, rfl, by rw [F.dep0]; exact Nat.zero_le _, fun _ => by rw [F.val0]; exact Nat.zero_le _⟩
    | succ n ih =>
      intro p hn t hp
      have hne : p ≠ [] := by rintro rfl; simp at hn
      obtain ⟨p', c, rfl⟩ : ∃ p' c, p = p' ++ [c] := ⟨p.dropLast, p.getLast hne, (List.dropLast_concat_getLast hne).symm⟩
      obtain ⟨u, h1, h2⟩ := hp.split
      simp only [List.length_append, List.length_cons, List.length_nil, Nat.zero_add, Nat.add_right_cancel_iff] at hn
      rw [num_snoc]
      simp only [List.length_append, List.length_cons, List.length_nil, Nat.zero_add]
      rcases ih p' hn u h1 with ⟨i, hi, rfl, hd, hv⟩ | ⟨hd, hv⟩
      · obtain ⟨j, hj, rfl, hj2⟩ := hF i hi c t h2
        have hfin : dep j ≤ p'.length + 1 ∧ (dep j = p'.length + 1 → val j ≤ num p' * 256 + c) := by
          by_cases h0 : j = 0
          · subst h0
            rw [F.dep0, F.val0]
            exact ⟨Nat.zero_le _, fun _ => Nat.zero_le _⟩
          have ed := F.depS j (by omega) hj
          have ev := F.valS j (by omega) hj
          have cl := hc _ _ _ (F.edge j (by omega) hj)
          rcases hj2 (by omega) with h3 | ⟨h3, h4⟩
          · obtain ⟨m1, m2⟩ := F.mono hc i (by omega) (par j) h3
            refine ⟨by omega, fun e => ?_⟩
            have h5 := m2 (by omega)
            have h6 := hv (by omega)
            have : (val (par j) + 1) * 256 ≤ num p' * 256 := Nat.mul_le_mul_right _ (by omega)
            omega
          · rw [h3] at ed ev
            refine ⟨by omega, fun e => ?_⟩
            have h6 := hv (by omega)
            have : val i * 256 ≤ num p' * 256 := Nat.mul_le_mul_right _ h6
            omega
        by_cases hjk : j < k
        · exact .inl ⟨j, hjk, rfl, hfin.1, hfin.2⟩
        · right
          obtain ⟨m1, m2⟩ := F.mono_le hc hj (show k ≤ j by omega)
          exact ⟨by omega, fun e => Nat.le_trans (m2 (by omega)) (hfin.2 (by omega))⟩
      · right
        exact ⟨by omega, fun e => by omega⟩
  rcases key p.length p rfl t hp with ⟨i, hi, rfl, _⟩ | h
  · exact absurd ht (hg i hi)
  · exact h
/-- where the queue comes to its end there is no way -/
theorem Fw.none (F : Fw mv N q par cod dep val) (hN : 0 < N) (hF : Full mv N q par cod N) (goal : S → Prop) (hg : ∀ j, j < N → ¬ goal (q j)) {p : List Nat} {t : S} (hp : Path mv (q 0) p t) : ¬ goal t := by
  have key : ∀ (n : Nat) (p : List Nat), p.length = n → ∀ t, Path mv (q 0) p t → ∃ i, i < N ∧ q i = t := by
    intro n
    induction n with
    | zero =>
      intro p hn t hp
      have : p = [] := List.eq_nil_of_length_eq_zero hn
      subst this
      cases hp
      exact ⟨0, hN, rfl⟩
    | succ n ih =>
      intro p hn t hp
      have hne : p ≠ [] := by rintro rfl; simp at hn
      obtain ⟨p', c, rfl⟩ : ∃ p' c, p = p' ++ [c] := ⟨p.dropLast, p.getLast hne, (List.dropLast_concat_getLast hne).symm⟩
      obtain ⟨u, h1, h2⟩ := hp.split
      simp only [List.length_append, List.length_cons, List.length_nil, Nat.zero_add, Nat.add_right_cancel_iff] at hn
      obtain ⟨i, hi, rfl⟩ := ih p' hn u h1
      obtain ⟨j, hj, e, _⟩ := hF i hi c t h2
      exact ⟨j, hj, e⟩
  obtain ⟨i, hi, rfl⟩ := key p.length p rfl t hp
  exact hg i hi

/-! ### distances -/
structure Dist (mv : S → List (Nat × S)) (goal : S → Prop) (left : S → Int) : Prop where
  zero : ∀ s, goal s → left s = 0
  back : ∀ s, left s = 0 → goal s
  low : ∀ s, -1 ≤ left s
  down : ∀ s (d : Nat), left s = (d : Int) + 1 → ∃ c u, (c, u) ∈ mv s ∧ left u = (d : Int)
  near : ∀ s c u, (c, u) ∈ mv s → 0 ≤ left u → 0 ≤ left s ∧ left s ≤ left u + 1
variable {goal : S → Prop} {left : S → Int}
theorem Dist.le (D : Dist mv goal left) {s t : S} {p : List Nat} (h : Path mv s p t) (ht : goal t) : 0 ≤ left s ∧ left s ≤ p.length := by
  induction h with
  | nil s => rw [D.zero s ht]; simp
  | cons h k ih =>
    obtain ⟨h1, h2⟩ := ih ht
    obtain ⟨h3, h4⟩ := D.near _ _ _ h h1
    exact ⟨h3, by simp; omega⟩
theorem Dist.path (D : Dist mv goal left) : ∀ (d : Nat) (s : S), left s = (d : Int) → ∃ p t, Path mv s p t ∧ goal t ∧ p.length = d
  | 0, s, h => ⟨[], s, .nil s, D.back s h, rfl⟩
  | d + 1, s, h => by
    obtain ⟨c, u, h1, h2⟩ := D.down s d (by omega)
    obtain ⟨p, t, h3, h4, h5⟩ := D.path d u h2
    exact ⟨c :: p, t, .cons h1 h3, h4, by simp [h5]⟩
/-- the way that takes the first step down each time -/
inductive Greedy (mv : S → List (Nat × S)) (goal : S → Prop) (left : S → Int) : S → List Nat → S → Prop
  | nil {s : S} (h : goal s) : Greedy mv goal left s [] s
  | cons {s u t : S} {c : Nat} {p : List Nat} (h : (c, u) ∈ mv s) (hd : left u = left s - 1) (hf : ∀ c' u', (c', u') ∈ mv s → left u' = left s - 1 → c < c' ∨ (c = c' ∧ u = u')) (k : Greedy mv goal left u p t) : Greedy mv goal left s (c :: p) t
theorem Greedy.path {s t : S} {p : List Nat} (h : Greedy mv goal left s p t) : Path mv s p t := by
  induction h with
  | nil h => exact .nil _
  | cons h _ _ _ ih => exact .cons h ih
theorem Greedy.ends {s t : S} {p : List Nat} (h : Greedy mv goal left s p t) : goal t := by
  induction h with
  | nil h => exact h
  | cons _ _ _ _ ih => exact ih
theorem Greedy.length (D : Dist mv goal left) {s t : S} {p : List Nat} (h : Greedy mv goal left s p t) : left s = p.length := by
  induction h with
  | nil h => rw [D.zero _ h]; simp
  | cons _ hd _ _ ih => simp; omega
theorem Greedy.best (hc : ∀ s c u, (c, u) ∈ mv s → c < 256) (D : Dist mv goal left) {s t : S} {p : List Nat} (h : Greedy mv goal left s p t) : ∀ {p' : List Nat} {t' : S}, Path mv s p' t' → goal t' → p.length ≤ p'.length ∧ (p.length = p'.length → num p ≤ num p') := by
  induction h with
  | nil h => intro p' t' _ _; simp [num]
  | @cons s u t c p h hd hf k ih =>
    intro p' t' hp ht
    have hl := (Greedy.cons h hd hf k).length D
    obtain ⟨h1, h2⟩ := D.le hp ht
    refine ⟨by rw [hl] at h2; omega, fun he => ?_⟩
    cases hp with
    | nil => simp at he
    | @cons _ u' _ c' p'' h' k' =>
      obtain ⟨h3, h4⟩ := D.le k' ht
      obtain ⟨h5, h6⟩ := D.near _ _ _ h' h3
      simp only [List.length_cons, Nat.add_right_cancel_iff] at he
      have h7 : left u' = left s - 1 := by rw [hl] at h6 ⊢; simp at h6 ⊢; omega
      rw [num_cons, num_cons, ← he]
      rcases hf c' u' h' h7 with h8 | ⟨rfl, rfl⟩
      · have := num_lt (k.path.small hc)
        have h9 : (c + 1) * 256 ^ p.length ≤ c' * 256 ^ p.length := Nat.mul_le_mul_right _ h8
        rw [Nat.add_mul] at h9
        omega
      · have := (ih k' ht).2 he
        omega
end
end Go.Graph
end

section
/-
  Searches of a graph as lists that grow; numbers as sets; the moves of cars, plainly; nothing of the program stands here.
-/
set_option linter.unusedVariables false
set_option linter.unusedSimpArgs false
namespace Go.Graph

/-! ### numbers as sets -/
def bitsF (x : Nat) : Nat := if h : x = 0 then 0 else x % 2 + bitsF (x / 2)
termination_by x
decreasing_by omega
theorem bitsF_zero : bitsF 0 = 0 := by rw [bitsF]; simp
theorem bitsF_step (x : Nat) : bitsF x = x % 2 + bitsF (x / 2) := by
  by_cases h : x = 0
  · subst h; rw [show (0 : Nat) / 2 = 0 from rfl, bitsF_zero]
  · rw [bitsF, dif_neg h]
theorem bit_add : ∀ (a x : Nat), x.testBit a = false → ∀ j, (x + 2 ^ a).testBit j = (x.testBit j || decide (j = a))
  | 0, x, h, j => by
    have hx : x % 2 = 0 := by simp [Nat.testBit_zero] at h; omega
    cases j with
    | zero => simp [Nat.testBit_zero]; omega
    | succ j => rw [Nat.testBit_succ, Nat.testBit_succ, show (x + 2 ^ 0) / 2 = x / 2 by simp; omega]; simp
  | a + 1, x, h, j => by
    cases j with
    | zero => simp [Nat.testBit_zero, Nat.pow_succ, Nat.add_mul_mod_self_right]
    | succ j =>
      rw [Nat.testBit_succ, Nat.testBit_succ, show (x + 2 ^ (a + 1)) / 2 = x / 2 + 2 ^ a by rw [Nat.pow_succ]; omega, bit_add a (x / 2) (by rw [← Nat.testBit_succ]; exact h) j]
      simp
theorem bit_sub : ∀ (b x : Nat), x.testBit b = true → ∃ y, x = y + 2 ^ b ∧ y.testBit b = false
  | 0, x, h => by
    have hx : x % 2 = 1 := by simpa [Nat.testBit_zero] using h
    exact ⟨x - 1, by simp; omega, by simp [Nat.testBit_zero]; omega⟩
  | b + 1, x, h => by
    rw [Nat.testBit_succ] at h
    obtain ⟨y, h1, h2⟩ := bit_sub b (x / 2) h
    refine ⟨2 * y + x % 2, by rw [Nat.pow_succ]; omega, ?_⟩
    rw [Nat.testBit_succ, show (2 * y + x % 2) / 2 = y by omega]; exact h2
theorem bits_add : ∀ (a x : Nat), x.testBit a = false → bitsF (x + 2 ^ a) = bitsF x + 1
  | 0, x, h => by
    have hx : x % 2 = 0 := by simp [Nat.testBit_zero] at h; omega
    rw [bitsF_step (x + 2 ^ 0), bitsF_step x, show (x + 2 ^ 0) / 2 = x / 2 by simp; omega, show (x + 2 ^ 0) % 2 = 1 by simp; omega, hx]
    omega
  | a + 1, x, h => by
    rw [bitsF_step (x + 2 ^ (a + 1)), bitsF_step x, show (x + 2 ^ (a + 1)) / 2 = x / 2 + 2 ^ a by rw [Nat.pow_succ]; omega, show (x + 2 ^ (a + 1)) % 2 = x % 2 by rw [Nat.pow_succ]; omega, bits_add a (x / 2) (by rw [← Nat.testBit_succ]; exact h)]
    omega
theorem xor_clear {x a : Nat} (h : x.testBit a = false) : x ^^^ 2 ^ a = x + 2 ^ a := by
  apply Nat.eq_of_testBit_eq
  intro j
  rw [bit_add a x h, Nat.testBit_xor, Nat.testBit_two_pow]
  by_cases e : j = a
  · subst e; simp [h]
  · simp [e, Ne.symm e]
theorem xor_set {x b y : Nat} (h : x = y + 2 ^ b) (hy : y.testBit b = false) : x ^^^ 2 ^ b = y := by
  rw [h, ← xor_clear hy, Nat.xor_assoc, Nat.xor_self, Nat.xor_zero]
theorem and_bit (x a : Nat) : x &&& 2 ^ a = if x.testBit a = true then 2 ^ a else 0 := by
  apply Nat.eq_of_testBit_eq
  intro j
  rw [Nat.testBit_and, Nat.testBit_two_pow]
  by_cases e : a = j
  · subst e
    cases hx : x.testBit a <;> simp [hx, Nat.testBit_two_pow]
  · split <;> simp [e, Nat.testBit_two_pow]
theorem or_clear {x a : Nat} (h : x.testBit a = false) : x ||| 2 ^ a = x + 2 ^ a := by
  apply Nat.eq_of_testBit_eq
  intro j
  rw [bit_add a x h, Nat.testBit_or, Nat.testBit_two_pow]
  by_cases e : j = a
  · subst e; simp
  · simp [e, Ne.symm e]

abbrev St2 := Nat × Nat
/-! ### the search forward -/
section
variable {mv : St2 → List (Nat × St2)}
def qOf (Q : List St2) (j : Nat) : St2 := Q.getD j default
theorem qOf_left {Q : List St2} {u : St2} {j : Nat} (h : j < Q.length) : qOf (Q ++ [u]) j = qOf Q j := by simp [qOf, List.getD, List.getElem?_append_left h]
theorem qOf_last {Q : List St2} {u : St2} : qOf (Q ++ [u]) Q.length = u := by simp [qOf, List.getD]
theorem qOf_mem {Q : List St2} {j : Nat} (h : j < Q.length) : qOf Q j ∈ Q := by simp [qOf, List.getD, h]
theorem mem_qOf {Q : List St2} {u : St2} (h : u ∈ Q) : ∃ j, j < Q.length ∧ qOf Q j = u := by
  obtain ⟨j, h1, h2⟩ := List.getElem_of_mem h
  exact ⟨j, h1, by simp [qOf, List.getD, h1, h2]⟩
theorem qOf_inj {Q : List St2} (hn : Q.Nodup) {i j : Nat} (hi : i < Q.length) (hj : j < Q.length) (h : qOf Q i = qOf Q j) : i = j := by
  simp [qOf, List.getD, hi, hj] at h
  rcases Nat.lt_trichotomy i j with h1 | h1 | h1
  · exact absurd h (List.pairwise_iff_getElem.1 hn i j hi hj h1)
  · exact h1
  · exact absurd h.symm (List.pairwise_iff_getElem.1 hn j i hj hi h1)
structure Srch (mv : St2 → List (Nat × St2)) (Q : List St2) (par cod dep val : Nat → Nat) (i K : Nat) : Prop where
  fw : Fw mv Q.length (qOf Q) par cod dep val
  full : Full mv Q.length (qOf Q) par cod i
  part : ∀ c u, (c, u) ∈ mv (qOf Q i) → c < K → ∃ j, j < Q.length ∧ qOf Q j = u ∧ (0 < j → par j < i ∨ (par j = i ∧ cod j ≤ c))
  last : ∀ a, 0 < a → a < Q.length → par a < i ∨ (par a = i ∧ cod a < K)
theorem srch_start (s : St2) : Srch mv [s] (fun _ => 0) (fun _ => 0) (fun _ => 0) (fun _ => 0) 0 0 :=
  ⟨⟨rfl, rfl, fun j h1 h2 => by simp at h2; omega, fun j h1 h2 => by simp at h2; omega, fun j h1 h2 => by simp at h2; omega, fun j h1 h2 => by simp at h2; omega, fun a b h1 h2 h3 => by simp at h3; omega⟩,
    fun j h => by omega, fun c u _ h => by omega, fun a h1 h2 => by simp at h2; omega⟩
variable {Q : List St2} {par cod dep val : Nat → Nat} {i K : Nat}
theorem srch_skip {K' : Nat} (h : Srch mv Q par cod dep val i K) (hK : K ≤ K') (hn : ∀ c u, (c, u) ∈ mv (qOf Q i) → K ≤ c → c < K' → False) : Srch mv Q par cod dep val i K' :=
  ⟨h.fw, h.full, fun c u hm hc => by
    rcases Nat.lt_or_ge c K with h1 | h1
    · exact h.part c u hm h1
    · exact absurd hc (fun hc => hn c u hm h1 hc), fun a h1 h2 => (h.last a h1 h2).imp_right fun ⟨e, h3⟩ => ⟨e, by omega⟩⟩
theorem srch_old (h : Srch mv Q par cod dep val i K) {u : St2} (hu : u ∈ Q) (hf : ∀ u', (K, u') ∈ mv (qOf Q i) → u' = u) : Srch mv Q par cod dep val i (K + 1) :=
  ⟨h.fw, h.full, fun c u' hm hc => by
    rcases Nat.lt_or_ge c K with h1 | h1
    · exact h.part c u' hm h1
    · obtain rfl : c = K := by omega
      rw [hf u' hm]
      obtain ⟨j, hj, e⟩ := mem_qOf hu
      exact ⟨j, hj, e, fun h0 => (h.last j h0 hj).imp_right fun ⟨e, h3⟩ => ⟨e, by omega⟩⟩, fun a h1 h2 => (h.last a h1 h2).imp_right fun ⟨e, h3⟩ => ⟨e, by omega⟩⟩
theorem srch_new (h : Srch mv Q par cod dep val i K) (hi : i < Q.length) {u : St2} (hu : (K, u) ∈ mv (qOf Q i)) (hf : ∀ u', (K, u') ∈ mv (qOf Q i) → u' = u) :
    Srch mv (Q ++ [u]) (fun j => if j = Q.length then i else par j) (fun j => if j = Q.length then K else cod j) (fun j => if j = Q.length then dep i + 1 else dep j) (fun j => if j = Q.length then val i * 256 + K else val j) i (K + 1) := by
  have hN : (Q ++ [u]).length = Q.length + 1 := by simp
  have hpar : ∀ j, 0 < j → j < Q.length → par j < Q.length := fun j h0 hj => by have := h.fw.par_lt j h0 hj; omega
  refine ⟨⟨?_, ?_, ?_, ?_, ?_, ?_, ?_⟩, ?_, ?_, ?_⟩
  · rw [if_neg (by omega)]; exact h.fw.dep0
  · rw [if_neg (by omega)]; exact h.fw.val0
  · intro j h0 hj
    by_cases e : j = Q.length
    · simp only [if_pos e]; omega
    · simp only [if_neg e]; exact h.fw.par_lt j h0 (by omega)
  · intro j h0 hj
    by_cases e : j = Q.length
    · subst e; simp only [if_pos]; rw [qOf_last, qOf_left hi]; exact hu
    · simp only [if_neg e]
      have hj' : j < Q.length := by omega
      have hp := hpar j h0 hj'
      rw [qOf_left (u := u) hj', qOf_left (u := u) hp]; exact h.fw.edge j h0 hj'
  · intro j h0 hj
    by_cases e : j = Q.length
    · subst e; simp only [if_pos]; rw [if_neg (by omega)]
    · simp only [if_neg e]; have := hpar j h0 (by omega); rw [if_neg (by omega)]; exact h.fw.depS j h0 (by omega)
  · intro j h0 hj
    by_cases e : j = Q.length
    · subst e; simp only [if_pos]; rw [if_neg (by omega)]
    · simp only [if_neg e]; have := hpar j h0 (by omega); rw [if_neg (by omega)]; exact h.fw.valS j h0 (by omega)
  · intro a b h0 hab hb
    have ha : a ≠ Q.length := by omega
    by_cases e : b = Q.length
    · simp only [if_pos e, if_neg ha]; exact h.last a h0 (by omega)
    · simp only [if_neg e, if_neg ha]; exact h.fw.sorted a b h0 hab (by omega)
  · intro j hj c u' hm
    rw [qOf_left (by omega)] at hm
    obtain ⟨k, hk, e, h1⟩ := h.full j hj c u' hm
    refine ⟨k, by omega, by rw [qOf_left hk]; exact e, ?_⟩
    have : k ≠ Q.length := by omega
    simp only [if_neg this]; exact h1
  · intro c u' hm hc
    rw [qOf_left hi] at hm
    rcases Nat.lt_or_ge c K with h1 | h1
    · obtain ⟨k, hk, e, h1⟩ := h.part c u' hm h1
      refine ⟨k, by omega, by rw [qOf_left hk]; exact e, ?_⟩
      have : k ≠ Q.length := by omega
      simp only [if_neg this]; exact h1
    · obtain rfl : c = K := by omega
      rw [hf u' hm]
      refine ⟨Q.length, by omega, qOf_last, fun _ => ?_⟩
      simp
  · intro a h0 ha
    by_cases e : a = Q.length
    · simp only [if_pos e]; exact .inr ⟨by first | rfl | trivial, by omega⟩
    · simp only [if_neg e]; exact (h.last a h0 (by omega)).imp_right fun ⟨e, h3⟩ => ⟨e, by omega⟩
theorem srch_next (h : Srch mv Q par cod dep val i K) (hK : ∀ c u, (c, u) ∈ mv (qOf Q i) → c < K) : Srch mv Q par cod dep val (i + 1) 0 :=
  ⟨h.fw, fun j hj c u hm => by
    rcases Nat.lt_or_ge j i with h1 | h1
    · exact h.full j h1 c u hm
    · obtain rfl : j = i := by omega
      exact h.part c u hm (hK c u hm), fun c u _ h => by omega, fun a h1 h2 => by
    rcases h.last a h1 h2 with h3 | ⟨h3, _⟩
    · exact .inl (by omega)
    · exact .inl (by omega)⟩
structure IsBest (mv : St2 → List (Nat × St2)) (goal : St2 → Prop) (s : St2) (p : List Nat) : Prop where
  there : ∃ t, Path mv s p t ∧ goal t
  least : ∀ {p' : List Nat} {t' : St2}, Path mv s p' t' → goal t' → p.length ≤ p'.length ∧ (p.length = p'.length → num p ≤ num p')
theorem IsBest.uniq (hc : ∀ s c u, (c, u) ∈ mv s → c < 256) {goal : St2 → Prop} {s : St2} {p p' : List Nat} (h : IsBest mv goal s p) (h' : IsBest mv goal s p') : p = p' := by
  obtain ⟨t, h1, h2⟩ := h.there
  obtain ⟨t', h3, h4⟩ := h'.there
  have a := h.least h3 h4
  have b := h'.least h1 h2
  have e : p.length = p'.length := by omega
  have := a.2 e
  have := b.2 e.symm
  exact num_inj (h1.small hc) (h3.small hc) e (by omega)
theorem srch_best (hc : ∀ s c u, (c, u) ∈ mv s → c < 256) (h : Srch mv Q par cod dep val i K) (hi : i < Q.length) {goal : St2 → Prop} (hg : ∀ j, j < i → ¬ goal (qOf Q j)) (ht : goal (qOf Q i)) {p : List Nat} (hp : Path mv (qOf Q 0) p (qOf Q i)) (hl : p.length = dep i) (hv : num p = val i) : IsBest mv goal (qOf Q 0) p :=
  ⟨⟨_, hp, ht⟩, fun hp' ht' => by rw [hl, hv]; exact h.fw.best hc hi h.full goal hg hp' ht'⟩
/-- the way back -/
inductive Laid (par cod : Nat → Nat) : Nat → List Nat → Prop
  | nil : Laid par cod 0 []
  | snoc {j : Nat} {p : List Nat} (h0 : 0 < j) (h : Laid par cod (par j) p) : Laid par cod j (p ++ [cod j])
theorem Fw.laid {N : Nat} {q : Nat → St2} (F : Fw mv N q par cod dep val) : ∀ j, j < N → ∃ p, Laid par cod j p ∧ Path mv (q 0) p (q j) ∧ p.length = dep j ∧ num p = val j := by
  intro j
  induction j using Nat.strongRecOn with
  | ind j ih =>
    intro hj
    by_cases h0 : j = 0
    · subst h0
      exact ⟨[], .nil, .nil _, by simp [F.dep0], by simp [F.val0, num]⟩
    · obtain ⟨p, h0', h1, h2, h3⟩ := ih (par j) (F.par_lt j (by omega) hj) (by have := F.par_lt j (by omega) hj; omega)
      exact ⟨p ++ [cod j], .snoc (by omega) h0', h1.snoc (F.edge j (by omega) hj), by simp [F.depS j (by omega) hj, h2], by rw [num_snoc, h3, F.valS j (by omega) hj]⟩

/-! ### distances, from the goals on -/
structure Back (mv : St2 → List (Nat × St2)) (G : St2 → Prop) (Q : List St2) (d : Nat → Int) (i K : Nat) : Prop where
  mono : ∀ a b, a ≤ b → b < Q.length → d a ≤ d b
  top : ∀ b, b < Q.length → i < Q.length → d b ≤ d i + 1
  pos : ∀ j, j < Q.length → 0 ≤ d j
  goal0 : ∀ s, G s → ∃ j, j < Q.length ∧ qOf Q j = s ∧ d j = 0
  zero : ∀ j, j < Q.length → d j = 0 → G (qOf Q j)
  pre : ∀ j, j < Q.length → 0 < d j → ∃ k c, k < Q.length ∧ (c, qOf Q j) ∈ mv (qOf Q k) ∧ d j = d k + 1
  full : ∀ j, j < i → j < Q.length → ∀ c u, (c, u) ∈ mv (qOf Q j) → ∃ k, k < Q.length ∧ qOf Q k = u ∧ d k ≤ d j + 1
  part : i < Q.length → ∀ c u, (c, u) ∈ mv (qOf Q i) → c < K → ∃ k, k < Q.length ∧ qOf Q k = u ∧ d k ≤ d i + 1
variable {G : St2 → Prop} {d : Nat → Int}
theorem back_start (hG : ∀ s, G s ↔ s ∈ Q) : Back mv G Q (fun _ => 0) 0 0 :=
  ⟨fun _ _ _ _ => Int.le_refl _, fun _ _ _ => by omega, fun _ _ => Int.le_refl _, fun s hs => by obtain ⟨j, h1, h2⟩ := mem_qOf ((hG s).1 hs); exact ⟨j, h1, h2, rfl⟩,
    fun j hj _ => (hG _).2 (qOf_mem hj), fun j _ h => by omega, fun j h => by omega, fun _ c u _ h => by omega⟩
theorem back_skip {K' : Nat} (h : Back mv G Q d i K) (hn : ∀ c u, (c, u) ∈ mv (qOf Q i) → K ≤ c → c < K' → False) : Back mv G Q d i K' :=
  ⟨h.mono, h.top, h.pos, h.goal0, h.zero, h.pre, h.full, fun hi c u hm hc => by
    rcases Nat.lt_or_ge c K with h1 | h1
    · exact h.part hi c u hm h1
    · exact absurd hc (fun hc => hn c u hm h1 hc)⟩
theorem back_old (h : Back mv G Q d i K) {u : St2} (hu : u ∈ Q) (hf : ∀ u', (K, u') ∈ mv (qOf Q i) → u' = u) : Back mv G Q d i (K + 1) :=
  ⟨h.mono, h.top, h.pos, h.goal0, h.zero, h.pre, h.full, fun hi c u' hm hc => by
    rcases Nat.lt_or_ge c K with h1 | h1
    · exact h.part hi c u' hm h1
    · obtain rfl : c = K := by omega
      rw [hf u' hm]
      obtain ⟨j, hj, e⟩ := mem_qOf hu
      exact ⟨j, hj, e, h.top j hj hi⟩⟩
theorem back_new (h : Back mv G Q d i K) (hi : i < Q.length) {u : St2} (hu : (K, u) ∈ mv (qOf Q i)) (hf : ∀ u', (K, u') ∈ mv (qOf Q i) → u' = u) :
    Back mv G (Q ++ [u]) (fun j => if j = Q.length then d i + 1 else d j) i (K + 1) := by
  have hN : (Q ++ [u]).length = Q.length + 1 := by simp
  have hdi : 0 ≤ d i := h.pos i hi
  have hi' : i ≠ Q.length := by omega
  refine ⟨?_, ?_, ?_, ?_, ?_, ?_, ?_, ?_⟩
  · intro a b hab hb
    by_cases e : b = Q.length
    · simp only [if_pos e]
      by_cases e' : a = Q.length
      · rw [if_pos e']; exact Int.le_refl _
      · rw [if_neg e']; exact h.top a (by omega) hi
    · have e' : a ≠ Q.length := by omega
      simp only [if_neg e, if_neg e']; exact h.mono a b hab (by omega)
  · intro b hb _
    simp only [if_neg hi']
    by_cases e : b = Q.length
    · rw [if_pos e]; exact Int.le_refl _
    · rw [if_neg e]; exact h.top b (by omega) hi
  · intro j hj
    by_cases e : j = Q.length
    · simp only [if_pos e]; omega
    · simp only [if_neg e]; exact h.pos j (by omega)
  · intro s hs
    obtain ⟨j, h1, h2, h3⟩ := h.goal0 s hs
    have : j ≠ Q.length := by omega
    exact ⟨j, by omega, by rw [qOf_left h1]; exact h2, by simp only [if_neg this]; exact h3⟩
  · intro j hj h0
    by_cases e : j = Q.length
    · simp only [if_pos e] at h0; omega
    · simp only [if_neg e] at h0; rw [qOf_left (by omega)]; exact h.zero j (by omega) h0
  · intro j hj h0
    by_cases e : j = Q.length
    · subst e
      exact ⟨i, K, by omega, by rw [qOf_last, qOf_left hi]; exact hu, by simp [hi']⟩
    · simp only [if_neg e] at h0 ⊢
      obtain ⟨k, c, h1, h2, h3⟩ := h.pre j (by omega) h0
      have : k ≠ Q.length := by omega
      exact ⟨k, c, by omega, by rw [qOf_left (u := u) (show j < Q.length by omega), qOf_left (u := u) h1]; exact h2, by simp only [if_neg this]; exact h3⟩
  · intro j hj hj' c u' hm
    rw [qOf_left (by omega)] at hm
    obtain ⟨k, h1, h2, h3⟩ := h.full j hj (by omega) c u' hm
    have e : k ≠ Q.length := by omega
    have e' : j ≠ Q.length := by omega
    exact ⟨k, by omega, by rw [qOf_left h1]; exact h2, by simp only [if_neg e, if_neg e']; exact h3⟩
  · intro _ c u' hm hc
    rw [qOf_left hi] at hm
    rcases Nat.lt_or_ge c K with h1 | h1
    · obtain ⟨k, h1, h2, h3⟩ := h.part hi c u' hm h1
      have e : k ≠ Q.length := by omega
      exact ⟨k, by omega, by rw [qOf_left h1]; exact h2, by simp only [if_neg e, if_neg hi']; exact h3⟩
    · obtain rfl : c = K := by omega
      rw [hf u' hm]
      exact ⟨Q.length, by omega, qOf_last, by simp [hi']⟩
theorem back_next (h : Back mv G Q d i K) (hi : i < Q.length) (hK : ∀ c u, (c, u) ∈ mv (qOf Q i) → c < K) : Back mv G Q d (i + 1) 0 :=
  ⟨h.mono, fun b hb hi' => by have := h.top b hb hi; have := h.mono i (i + 1) (by omega) hi'; omega, h.pos, h.goal0, h.zero, h.pre, fun j hj hjN c u hm => by
    rcases Nat.lt_or_ge j i with h1 | h1
    · exact h.full j h1 hjN c u hm
    · obtain rfl : j = i := by omega
      exact h.part hi c u hm (hK c u hm), fun _ c u _ h => by omega⟩
/-- at the end: the distances -/
theorem back_dist {mv' : St2 → List (Nat × St2)} {left : St2 → Int} (h : Back mv G Q d i K) (hi : Q.length ≤ i) (hl : ∀ s, (∃ j, j < Q.length ∧ qOf Q j = s ∧ left s = d j) ∨ (s ∉ Q ∧ left s = -1)) (hn : Q.Nodup)
    (hrev : ∀ s c u, (c, u) ∈ mv s → ∃ c', (c', s) ∈ mv' u) (hrev' : ∀ s c u, (c, u) ∈ mv' s → ∃ c', (c', s) ∈ mv u) : Dist mv' G left := by
  have key : ∀ j, j < Q.length → left (qOf Q j) = d j := fun j hj => by
    rcases hl (qOf Q j) with ⟨k, h1, h2, h3⟩ | ⟨h1, _⟩
    · rw [h3, qOf_inj hn h1 hj h2]
    · exact absurd (qOf_mem hj) h1
  have back : ∀ s, 0 ≤ left s → ∃ j, j < Q.length ∧ qOf Q j = s ∧ left s = d j := fun s h0 => by
    rcases hl s with h1 | ⟨_, h1⟩
    · exact h1
    · omega
  refine ⟨?_, ?_, ?_, ?_, ?_⟩
  · intro s hs
    obtain ⟨j, h1, rfl, h3⟩ := h.goal0 s hs
    rw [key j h1, h3]
  · intro s hs
    obtain ⟨j, h1, rfl, h3⟩ := back s (by omega)
    exact h.zero j h1 (by omega)
  · intro s
    rcases hl s with ⟨j, h1, h2, h3⟩ | ⟨_, h1⟩
    · have := h.pos j h1; omega
    · omega
  · intro s e he
    obtain ⟨j, h1, rfl, h3⟩ := back s (by omega)
    obtain ⟨k, c, h4, h5, h6⟩ := h.pre j h1 (by omega)
    obtain ⟨c', h7⟩ := hrev _ _ _ h5
    exact ⟨c', _, h7, by rw [key k h4]; omega⟩
  · intro s c u hm h0
    obtain ⟨j, h1, rfl, h3⟩ := back u h0
    obtain ⟨c', h7⟩ := hrev' _ _ _ hm
    obtain ⟨k, h4, rfl, h5⟩ := h.full j (by omega) h1 _ _ h7
    have := h.pos k h4
    rw [key k h4]; omega
/-- the first step down, each time -/
theorem Dist.greedy {goal : St2 → Prop} {left : St2 → Int} (D : Dist mv goal left) (hu : ∀ s c u u', (c, u) ∈ mv s → (c, u') ∈ mv s → u = u') : ∀ (k : Nat) (s : St2), left s = (k : Int) → ∃ p t, Greedy mv goal left s p t
  | 0, s, h => ⟨[], s, .nil (D.back s h)⟩
  | k + 1, s, h => by
    have hex : ∃ c, ∃ u, (c, u) ∈ mv s ∧ left u = left s - 1 := by
      obtain ⟨c, u, h1, h2⟩ := D.down s k (by omega)
      exact ⟨c, u, h1, by omega⟩
    have hmin : ∃ c, (∃ u, (c, u) ∈ mv s ∧ left u = left s - 1) ∧ ∀ c', (∃ u, (c', u) ∈ mv s ∧ left u = left s - 1) → c ≤ c' := by
      obtain ⟨c, hc⟩ := hex
      induction c using Nat.strongRecOn with
      | ind c ih =>
        by_cases hlt : ∃ c', c' < c ∧ ∃ u, (c', u) ∈ mv s ∧ left u = left s - 1
        · obtain ⟨c', h1, h2⟩ := hlt
          exact ih c' h1 h2
        · exact ⟨c, hc, fun c' h' => Nat.le_of_not_lt fun hl => hlt ⟨c', hl, h'⟩⟩
    obtain ⟨c, ⟨u, h1, h2⟩, h3⟩ := hmin
    obtain ⟨p, t, h4⟩ := D.greedy hu k u (by omega)
    refine ⟨c :: p, t, .cons h1 h2 (fun c' u' h5 h6 => ?_) h4⟩
    have := h3 c' ⟨u', h5, h6⟩
    rcases Nat.lt_or_eq_of_le this with h7 | h7
    · exact .inl h7
    · exact .inr ⟨h7, hu s c u u' h1 (by rw [h7]; exact h5)⟩
end

/-! ### the moves of cars: a state is the car's cell and the set of the free cells -/
def mvAt (B : Nat → List Nat) (s : St2) (a : Nat) : List (Nat × St2) := if s.2.testBit a = true then [] else ((B a).filter fun b => s.2.testBit b).map fun b => (a * 16 + b, (if s.1 = a then b else s.1, s.2 + 2 ^ a - 2 ^ b))
def mvF (n : Nat) (B : Nat → List Nat) (s : St2) : List (Nat × St2) := (List.range n).flatMap (mvAt B s)
def Wf (n many : Nat) (s : St2) : Prop := s.1 < n ∧ s.2 < 2 ^ n ∧ s.2.testBit s.1 = false ∧ bitsF s.2 = many
instance (n many : Nat) (s : St2) : Decidable (Wf n many s) := by unfold Wf; infer_instance
def mvW (n many : Nat) (B : Nat → List Nat) (s : St2) : List (Nat × St2) := if Wf n many s then mvF n B s else []
def goalW (n many : Nat) (s : St2) : Prop := Wf n many s ∧ s.1 = 0
structure BOk (n : Nat) (B : Nat → List Nat) : Prop where
  small : n ≤ 12
  cells : ∀ a, a < n → ∀ b, b ∈ B a → b < n ∧ b ≠ a
  sym : ∀ a, a < n → ∀ b, b ∈ B a → a ∈ B b
  asc : ∀ a, a < n → (B a).Pairwise (· < ·)
section
variable {n many : Nat} {B : Nat → List Nat} {s u : St2} {c : Nat}
structure IsMv (n : Nat) (B : Nat → List Nat) (s : St2) (a b : Nat) (u : St2) : Prop where
  la : a < n
  lb : b ∈ B a
  hasCar : s.2.testBit a = false
  free : s.2.testBit b = true
  to : u = (if s.1 = a then b else s.1, s.2 + 2 ^ a - 2 ^ b)
theorem mem_mvF : (c, u) ∈ mvF n B s ↔ ∃ a b, IsMv n B s a b u ∧ c = a * 16 + b := by
  unfold mvF mvAt
  rw [List.mem_flatMap]
  constructor
  · rintro ⟨a, ha, hm⟩
    split at hm
    · simp at hm
    · rename_i hb
      obtain ⟨b, hb1, hb2⟩ := List.mem_map.1 hm
      obtain ⟨hb3, hb4⟩ := List.mem_filter.1 hb1
      simp only [Prod.mk.injEq] at hb2
      exact ⟨a, b, ⟨List.mem_range.1 ha, hb3, by simpa using hb, by simpa using hb4, hb2.2.symm⟩, hb2.1.symm⟩
  · rintro ⟨a, b, ⟨h1, h2, h3, h4, rfl⟩, rfl⟩
    refine ⟨a, List.mem_range.2 h1, ?_⟩
    rw [if_neg (by simp [h3])]
    exact List.mem_map.2 ⟨b, List.mem_filter.2 ⟨h2, by simpa using h4⟩, rfl⟩
theorem mem_mvW : (c, u) ∈ mvW n many B s ↔ Wf n many s ∧ ∃ a b, IsMv n B s a b u ∧ c = a * 16 + b := by
  unfold mvW
  split
  · rename_i h; rw [mem_mvF]; exact ⟨fun h' => ⟨h, h'⟩, fun h' => h'.2⟩
  · rename_i h; simp [h]
theorem IsMv.open (hB : BOk n B) {a b : Nat} (h : IsMv n B s a b u) : ∃ y, s.2 = y + 2 ^ b ∧ u.2 = y + 2 ^ a ∧ y.testBit a = false ∧ y.testBit b = false ∧ b < n ∧ b ≠ a := by
  obtain ⟨hb, hne⟩ := hB.cells a h.la b h.lb
  obtain ⟨y, h1, h2⟩ := bit_sub b s.2 h.free
  have h3 := h.hasCar
  rw [h1, bit_add b y h2] at h3
  simp [Ne.symm hne] at h3
  refine ⟨y, h1, ?_, h3, h2, hb, hne⟩
  rw [h.to]; simp only; rw [h1]; generalize 2 ^ a = A; generalize 2 ^ b = A'; omega
theorem IsMv.wf (hB : BOk n B) {a b : Nat} (h : IsMv n B s a b u) (hw : Wf n many s) : Wf n many u := by
  obtain ⟨y, h1, h2, h3, h4, hb, hne⟩ := h.open hB
  obtain ⟨w1, w2, w3, w4⟩ := hw
  have hu1 : u.1 = if s.1 = a then b else s.1 := by rw [h.to]
  have hbits : bitsF u.2 = many := by rw [h2, bits_add a y h3, ← w4, h1, bits_add b y h4]
  refine ⟨?_, ?_, ?_, hbits⟩
  · rw [hu1]; split <;> omega
  · apply Nat.lt_pow_two_of_testBit
    intro j hj
    rw [h2, bit_add a y h3]
    have h5 : s.2.testBit j = false := Nat.testBit_lt_two_pow (Nat.lt_of_lt_of_le w2 (Nat.pow_le_pow_right (by omega) hj))
    rw [h1, bit_add b y h4] at h5
    have ha := h.la
    have : j ≠ a := by omega
    simp at h5 ⊢
    exact ⟨h5.1, this⟩
  · rw [h2, bit_add a y h3, hu1]
    rw [h1, bit_add b y h4] at w3
    simp at w3
    split
    · simp [h4, hne]
    · rename_i e; simp [w3.1, e]
theorem IsMv.back (hB : BOk n B) {a b : Nat} (h : IsMv n B s a b u) (hw : Wf n many s) : IsMv n B u b a s := by
  obtain ⟨y, h1, h2, h3, h4, hb, hne⟩ := h.open hB
  obtain ⟨w1, w2, w3, w4⟩ := hw
  refine ⟨hb, hB.sym a h.la b h.lb, by rw [h2, bit_add a y h3]; simp [h4, hne], by rw [h2, bit_add a y h3]; simp, ?_⟩
  have hu1 : u.1 = if s.1 = a then b else s.1 := by rw [h.to]
  rw [h2, hu1]
  rw [h1, bit_add b y h4] at w3
  simp at w3
  apply Prod.ext
  · simp only
    by_cases e : s.1 = a
    · simp [e]
    · simp [e, w3.2]
  · simp only; omega
theorem IsMv.code (hB : BOk n B) {a b : Nat} (h : IsMv n B s a b u) : a * 16 + b < 256 := by
  have := hB.small; have := h.la; have := (hB.cells a h.la b h.lb).1; omega
theorem IsMv.fn {a b : Nat} {u' : St2} (h : IsMv n B s a b u) (h' : IsMv n B s a b u') : u = u' := by rw [h.to, h'.to]
theorem mvW_small (hB : BOk n B) : ∀ s c u, (c, u) ∈ mvW n many B s → c < 256 := fun s c u h => by
  obtain ⟨_, a, b, m, rfl⟩ := mem_mvW.1 h; exact m.code hB
theorem mvW_fn (hB : BOk n B) : ∀ s c u u', (c, u) ∈ mvW n many B s → (c, u') ∈ mvW n many B s → u = u' := fun s c u u' h h' => by
  obtain ⟨_, a, b, m, e0⟩ := mem_mvW.1 h
  obtain ⟨_, a', b', m', e⟩ := mem_mvW.1 h'
  have := hB.small; have := (hB.cells a m.la b m.lb).1; have := (hB.cells a' m'.la b' m'.lb).1
  obtain rfl : a = a' := by omega
  obtain rfl : b = b' := by omega
  exact m.fn m'
/-- the same moves, told by the free cell first -/
def mvAtR (B : Nat → List Nat) (s : St2) (b : Nat) : List (Nat × St2) := if s.2.testBit b = true then ((B b).filter fun a => !s.2.testBit a).map fun a => (b * 16 + a, (if s.1 = a then b else s.1, s.2 + 2 ^ a - 2 ^ b)) else []
def mvR (n many : Nat) (B : Nat → List Nat) (s : St2) : List (Nat × St2) := if Wf n many s then (List.range n).flatMap (mvAtR B s) else []
theorem mem_mvR (hB : BOk n B) : (c, u) ∈ mvR n many B s ↔ Wf n many s ∧ ∃ a b, IsMv n B s a b u ∧ c = b * 16 + a := by
  unfold mvR
  split
  · rename_i hw
    rw [List.mem_flatMap]
    constructor
    · rintro ⟨b, hb, hm⟩
      unfold mvAtR at hm
      split at hm
      · rename_i hfr
        obtain ⟨a, ha1, ha2⟩ := List.mem_map.1 hm
        obtain ⟨ha3, ha4⟩ := List.mem_filter.1 ha1
        simp only [Prod.mk.injEq] at ha2
        have hb' := List.mem_range.1 hb
        exact ⟨hw, a, b, ⟨(hB.cells b hb' a ha3).1, hB.sym b hb' a ha3, by simpa using ha4, hfr, ha2.2.symm⟩, ha2.1.symm⟩
      · simp at hm
    · rintro ⟨_, a, b, h, rfl⟩
      refine ⟨b, List.mem_range.2 (hB.cells a h.la b h.lb).1, ?_⟩
      unfold mvAtR
      rw [if_pos h.free]
      exact List.mem_map.2 ⟨a, List.mem_filter.2 ⟨hB.sym a h.la b h.lb, by simp [h.hasCar]⟩, by rw [h.to]⟩
  · rename_i hw; simp [hw]
theorem mvR_rev (hB : BOk n B) : ∀ s c u, (c, u) ∈ mvR n many B s → ∃ c', (c', s) ∈ mvW n many B u := fun s c u h => by
  obtain ⟨hw, a, b, m, _⟩ := (mem_mvR hB).1 h
  exact ⟨_, mem_mvW.2 ⟨m.wf hB hw, b, a, m.back hB hw, rfl⟩⟩
theorem mvW_rev (hB : BOk n B) : ∀ s c u, (c, u) ∈ mvW n many B s → ∃ c', (c', s) ∈ mvR n many B u := fun s c u h => by
  obtain ⟨hw, a, b, m, _⟩ := mem_mvW.1 h
  exact ⟨_, (mem_mvR hB).2 ⟨m.wf hB hw, b, a, m.back hB hw, rfl⟩⟩
end
end Go.Graph
end

section
/-
  The two searches as they stand in memory, plainly: states as numbers, the table of parents, the table of distances.
-/
set_option linter.unusedVariables false
set_option linter.unusedSimpArgs false
namespace Go.Graph

def gI (l : List Int) (j : Nat) : Int := l.getD j 0
theorem gI_set {l : List Int} {i j : Nat} {x : Int} (hi : i < l.length) : gI (l.set i x) j = if i = j then x else gI l j := by
  unfold gI
  rw [List.getD_eq_getElem?_getD, List.getD_eq_getElem?_getD, List.getElem?_set]
  by_cases e : i = j
  · subst e; simp [hi]
  · simp [e]
theorem gI_rep {n j : Nat} {x : Int} (hj : j < n) : gI (List.replicate n x) j = x := by simp [gI, hj]
/-! states as numbers -/
def encM (M : Nat) (s : St2) : Nat := s.1 * M + s.2
section
variable {M : Nat} {s t : St2}
theorem enc_div (hs : s.2 < M) : encM M s / M = s.1 := by
  unfold encM
  rw [Nat.mul_comm, Nat.mul_add_div (by omega), Nat.div_eq_of_lt hs]; rfl
theorem enc_mod (hs : s.2 < M) : encM M s % M = s.2 := by
  unfold encM
  rw [Nat.mul_comm, Nat.mul_add_mod, Nat.mod_eq_of_lt hs]
theorem enc_inj (hs : s.2 < M) (ht : t.2 < M) (h : encM M s = encM M t) : s = t :=
  Prod.ext (by rw [← enc_div hs, ← enc_div ht, h]) (by rw [← enc_mod hs, ← enc_mod ht, h])
theorem enc_lt {n : Nat} (h1 : s.1 < n) (h2 : s.2 < M) : encM M s < n * M := by
  have : (s.1 + 1) * M ≤ n * M := Nat.mul_le_mul_right _ h1
  rw [Nat.add_mul] at this
  unfold encM; omega
theorem enc_bit {n j : Nat} (hj : j < n) (hs : s.2 < 2 ^ n) : (encM (2 ^ n) s).testBit j = s.2.testBit j := by
  have : (encM (2 ^ n) s % 2 ^ n).testBit j = (encM (2 ^ n) s).testBit j := by rw [Nat.testBit_mod_two_pow]; simp [hj]
  rw [← this, enc_mod hs]
end
theorem nodup_le : ∀ (N : Nat) (l : List Nat), l.Nodup → (∀ x, x ∈ l → x < N) → l.length ≤ N
  | 0, l, _, h => by
    cases l with
    | nil => simp
    | cons x l => have := h x (by simp); omega
  | N+1, l, hn, h => by
    have ih := nodup_le N (l.erase N) (hn.erase N) (fun x hx => by
      have h1 := h x (List.mem_of_mem_erase hx)
      have h2 : x ≠ N := by rintro rfl; exact (List.Nodup.not_mem_erase hn) hx
      omega)
    by_cases hm : N ∈ l
    · rw [List.length_erase_of_mem hm] at ih; omega
    · rw [List.erase_of_not_mem hm] at ih; omega
theorem queue_le {n many M : Nat} {Q : List St2} (hn : Q.Nodup) (hw : ∀ s, s ∈ Q → Wf n many s) (hM : 2 ^ n ≤ M) : Q.length ≤ n * M := by
  have hlt : ∀ s, s ∈ Q → s.2 < M := fun s hs => Nat.lt_of_lt_of_le (hw s hs).2.1 hM
  have : (Q.map (encM M)).Nodup := by
    rw [List.Nodup, List.pairwise_map]
    exact hn.imp_of_mem fun ha hb hne e => hne (enc_inj (hlt _ ha) (hlt _ hb) e)
  have h2 := nodup_le (n * M) _ this (fun x hx => by
    obtain ⟨s, hs, rfl⟩ := List.mem_map.1 hx
    exact enc_lt (hw s hs).1 (hlt s hs))
  simpa using h2
section
variable {n many : Nat} {B : Nat → List Nat}
/-! the table of parents -/
structure Bf (n many : Nat) (Q : List St2) (bf : List Int) (par : Nat → Nat) : Prop where
  len : bf.length = n * 2 ^ n
  wf : ∀ s, s ∈ Q → Wf n many s
  nodup : Q.Nodup
  first : 0 < Q.length ∧ gI bf (encM (2 ^ n) (qOf Q 0)) = (encM (2 ^ n) (qOf Q 0) : Int)
  old : ∀ j, 0 < j → j < Q.length → gI bf (encM (2 ^ n) (qOf Q j)) = (encM (2 ^ n) (qOf Q (par j)) : Int)
  new : ∀ s, Wf n many s → s ∉ Q → gI bf (encM (2 ^ n) s) = -1
variable {Q : List St2} {bf : List Int} {par cod dep val : Nat → Nat} {i K : Nat} {s0 : St2}
theorem bf_start (hw : Wf n many s0) : Bf n many [s0] ((List.replicate (n * 2 ^ n) (-1)).set (encM (2 ^ n) s0) (encM (2 ^ n) s0 : Int)) par := by
  have hlt := enc_lt hw.1 hw.2.1
  refine ⟨by simp, fun s hs => by simp at hs; subst hs; exact hw, by simp, ⟨by simp, ?_⟩, fun j h0 hj => by simp at hj; omega, fun s hs hn => ?_⟩
  · show gI _ (encM (2 ^ n) s0) = _
    rw [gI_set (by simpa using hlt), if_pos rfl]; rfl
  · rw [gI_set (by simpa using hlt), if_neg (fun e => hn (by simp [enc_inj hw.2.1 hs.2.1 e])), gI_rep (enc_lt hs.1 hs.2.1)]
theorem Bf.seen (F : Bf n many Q bf par) {u : St2} (hu : Wf n many u) : gI bf (encM (2 ^ n) u) < 0 ↔ u ∉ Q := by
  constructor
  · intro h hm
    obtain ⟨j, hj, rfl⟩ := mem_qOf hm
    by_cases h0 : j = 0
    · subst h0; rw [F.first.2] at h; omega
    · rw [F.old j (by omega) hj] at h; omega
  · intro h; rw [F.new u hu h]; omega
theorem Bf.push (F : Bf n many Q bf par) (hp : ∀ j, 0 < j → j < Q.length → par j < j) (hi : i < Q.length) {u : St2} (hu : Wf n many u) (hn : u ∉ Q) : Bf n many (Q ++ [u]) (bf.set (encM (2 ^ n) u) (encM (2 ^ n) (qOf Q i) : Int)) (fun j => if j = Q.length then i else par j) := by
  have hlt : encM (2 ^ n) u < bf.length := by rw [F.len]; exact enc_lt hu.1 hu.2.1
  have hne : ∀ j, j < Q.length → encM (2 ^ n) u ≠ encM (2 ^ n) (qOf Q j) := fun j hj e => hn (by rw [enc_inj hu.2.1 (F.wf _ (qOf_mem hj)).2.1 e]; exact qOf_mem hj)
  refine ⟨by rw [List.length_set]; exact F.len, fun s hs => ?_, ?_, ⟨by simp, ?_⟩, fun j h0 hj => ?_, fun s hs hns => ?_⟩
  · rcases List.mem_append.1 hs with h | h
    · exact F.wf s h
    · simp at h; subst h; exact hu
  · rw [List.nodup_append]
    exact ⟨F.nodup, by simp, fun a ha b hb e => by simp at hb; subst hb; subst e; exact hn ha⟩
  · rw [qOf_left F.first.1, gI_set hlt, if_neg (hne 0 F.first.1)]; exact F.first.2
  · by_cases e : j = Q.length
    · subst e
      rw [qOf_last, gI_set hlt, if_pos rfl]
      simp only [if_pos]
      rw [qOf_left hi]
    · have hj' : j < Q.length := by simp at hj; omega
      simp only [if_neg e]
      rw [qOf_left hj', gI_set hlt, if_neg (hne j hj'), qOf_left (by have := hp j h0 hj'; omega)]
      exact F.old j h0 hj'
  · rw [gI_set hlt, if_neg (fun e => hns (by rw [enc_inj hu.2.1 hs.2.1 e]; simp))]
    exact F.new s hs (fun h => hns (by simp [h]))
/-- how far the search has come -/
structure Look (n many : Nat) (B : Nat → List Nat) (s0 : St2) (Q : List St2) (bf : List Int) (i K : Nat) : Prop where
  ex : ∃ par cod dep val, Srch (mvW n many B) Q par cod dep val i K ∧ Bf n many Q bf par
  away : ∀ j, j < i → (qOf Q j).1 ≠ 0
  home : qOf Q 0 = s0
theorem Look.len (L : Look n many B s0 Q bf i K) : bf.length = n * 2 ^ n := by obtain ⟨_, _, _, _, _, F⟩ := L.ex; exact F.len
theorem Look.le (L : Look n many B s0 Q bf i K) : Q.length ≤ n * 2 ^ n := by obtain ⟨_, _, _, _, _, F⟩ := L.ex; exact queue_le F.nodup F.wf (Nat.le_refl _)
theorem Look.wf (L : Look n many B s0 Q bf i K) {j : Nat} (hj : j < Q.length) : Wf n many (qOf Q j) := by obtain ⟨_, _, _, _, _, F⟩ := L.ex; exact F.wf _ (qOf_mem hj)
theorem look_start (hw : Wf n many s0) : Look n many B s0 [s0] ((List.replicate (n * 2 ^ n) (-1)).set (encM (2 ^ n) s0) (encM (2 ^ n) s0 : Int)) 0 0 :=
  ⟨⟨_, _, _, _, srch_start s0, bf_start hw⟩, fun j hj => by omega, rfl⟩
theorem Look.skip (L : Look n many B s0 Q bf i K) {K' : Nat} (hK : K ≤ K') (hn : ∀ c u, (c, u) ∈ mvW n many B (qOf Q i) → K ≤ c → c < K' → False) : Look n many B s0 Q bf i K' := by
  obtain ⟨par, cod, dep, val, S, F⟩ := L.ex
  exact ⟨⟨par, cod, dep, val, srch_skip S hK hn, F⟩, L.away, L.home⟩
theorem Look.step (L : Look n many B s0 Q bf i K) (hB : BOk n B) (hi : i < Q.length) {a b : Nat} {u : St2} (m : IsMv n B (qOf Q i) a b u) (hK : K = a * 16 + b) :
    (gI bf (encM (2 ^ n) u) < 0 → Look n many B s0 (Q ++ [u]) (bf.set (encM (2 ^ n) u) (encM (2 ^ n) (qOf Q i) : Int)) i (K + 1)) ∧ (¬ gI bf (encM (2 ^ n) u) < 0 → Look n many B s0 Q bf i (K + 1)) := by
  obtain ⟨par, cod, dep, val, S, F⟩ := L.ex
  have hw := F.wf _ (qOf_mem hi)
  have hu := m.wf hB hw
  have hm : (K, u) ∈ mvW n many B (qOf Q i) := mem_mvW.2 ⟨hw, a, b, m, hK⟩
  have hf : ∀ u', (K, u') ∈ mvW n many B (qOf Q i) → u' = u := fun u' h' => mvW_fn hB _ _ _ _ h' hm
  constructor
  · intro h
    have hn := (F.seen hu).1 h
    refine ⟨⟨_, _, _, _, srch_new S hi hm hf, F.push (fun j h0 hj => S.fw.par_lt j h0 hj) hi hu hn⟩, fun j hj => ?_, by rw [qOf_left F.first.1]; exact L.home⟩
    rw [qOf_left (by omega)]; exact L.away j hj
  · intro h
    have hn : u ∈ Q := by
      by_cases h1 : u ∈ Q
      · exact h1
      · exact absurd ((F.seen hu).2 h1) h
    exact ⟨⟨_, _, _, _, srch_old S hn hf, F⟩, L.away, L.home⟩
theorem Look.next (L : Look n many B s0 Q bf i K) (hK : ∀ c u, (c, u) ∈ mvW n many B (qOf Q i) → c < K) (hc : (qOf Q i).1 ≠ 0) : Look n many B s0 Q bf (i + 1) 0 := by
  obtain ⟨par, cod, dep, val, S, F⟩ := L.ex
  refine ⟨⟨par, cod, dep, val, srch_next S hK, F⟩, fun j hj => ?_, L.home⟩
  by_cases e : j = i
  · subst e; exact hc
  · exact L.away j (by omega)
theorem Look.none (L : Look n many B s0 Q bf i K) (hi : Q.length ≤ i) : ∀ p t, Path (mvW n many B) s0 p t → ¬ goalW n many t := by
  obtain ⟨par, cod, dep, val, S, F⟩ := L.ex
  intro p t hp ht
  rw [← L.home] at hp
  refine S.fw.none F.first.1 (fun j hj c u hm => S.full j (by omega) c u hm) (goalW n many) (fun j hj hg => L.away j (by omega) hg.2) hp ht
/-- what stands in the table of the way that was found -/
structure Trail (n : Nat) (B : Nat → List Nat) (Q : List St2) (bf : List Int) (par cod : Nat → Nat) : Prop where
  lt : ∀ j, j < Q.length → (qOf Q j).1 < n ∧ (qOf Q j).2 < 2 ^ n
  apart : ∀ j, j < Q.length → encM (2 ^ n) (qOf Q j) = encM (2 ^ n) (qOf Q 0) → j = 0
  up : ∀ j, 0 < j → j < Q.length → par j < j
  mv : ∀ j, 0 < j → j < Q.length → ∃ a b, IsMv n B (qOf Q (par j)) a b (qOf Q j) ∧ cod j = a * 16 + b
  tab : ∀ j, 0 < j → j < Q.length → gI bf (encM (2 ^ n) (qOf Q j)) = (encM (2 ^ n) (qOf Q (par j)) : Int)
theorem Look.found (L : Look n many B s0 Q bf i K) (hB : BOk n B) (hi : i < Q.length) (hg : (qOf Q i).1 = 0) : ∃ par cod p, IsBest (mvW n many B) (goalW n many) s0 p ∧ Laid par cod i p ∧ Trail n B Q bf par cod := by
  obtain ⟨par, cod, dep, val, S, F⟩ := L.ex
  obtain ⟨p, h0, h1, h2, h3⟩ := S.fw.laid i hi
  have hb := srch_best (mvW_small hB) S hi (goal := goalW n many) (fun j hj hg => L.away j hj hg.2) ⟨F.wf _ (qOf_mem hi), hg⟩ h1 h2 h3
  rw [L.home] at hb
  refine ⟨par, cod, p, hb, h0, fun j hj => ⟨(F.wf _ (qOf_mem hj)).1, (F.wf _ (qOf_mem hj)).2.1⟩, fun j hj e => ?_, S.fw.par_lt, fun j hj0 hj => ?_, F.old⟩
  · exact qOf_inj F.nodup hj F.first.1 (enc_inj (F.wf _ (qOf_mem hj)).2.1 (F.wf _ (qOf_mem F.first.1)).2.1 e)
  · obtain ⟨_, a, b, m, e⟩ := mem_mvW.1 (S.fw.edge j hj0 hj)
    exact ⟨a, b, m, e⟩
theorem laid_zero {p : List Nat} (h : Laid par cod 0 p) : p = [] := by
  cases h with
  | nil => rfl
  | snoc h0 _ => omega
theorem laid_succ {j : Nat} {p : List Nat} (hj : 0 < j) (h : Laid par cod j p) : ∃ p', p = p' ++ [cod j] ∧ Laid par cod (par j) p' := by
  cases h with
  | nil => omega
  | snoc h0 h => exact ⟨_, rfl, h⟩
/-! the moves as they are reckoned with -/
theorem mv_xor {s u : St2} {a b : Nat} (hB : BOk n B) (hs : s.2 < 2 ^ n) (m : IsMv n B s a b u) : (encM (2 ^ n) s ^^^ 2 ^ a) ^^^ 2 ^ b = encM (2 ^ n) (s.1, u.2) := by
  obtain ⟨y, h1, h2, h3, h4, hb, hne⟩ := m.open hB
  have ha := m.la
  have e1 : (encM (2 ^ n) s).testBit a = false := by rw [enc_bit ha hs]; exact m.hasCar
  rw [xor_clear e1]
  have e2 : (encM (2 ^ n) s).testBit b = true := by rw [enc_bit hb hs]; exact m.free
  have key : encM (2 ^ n) s + 2 ^ a = encM (2 ^ n) (s.1, u.2) + 2 ^ b := by
    unfold encM; simp only; rw [h1, h2]; generalize 2 ^ a = A; generalize 2 ^ b = C; omega
  have e3 : u.2 < 2 ^ n := by
    apply Nat.lt_pow_two_of_testBit
    intro j hj
    rw [h2, bit_add a y h3]
    have h5 : s.2.testBit j = false := Nat.testBit_lt_two_pow (Nat.lt_of_lt_of_le hs (Nat.pow_le_pow_right (by omega) hj))
    rw [h1, bit_add b y h4] at h5
    have : j ≠ a := by omega
    simp at h5 ⊢
    exact ⟨h5.1, this⟩
  refine xor_set key ?_
  rw [enc_bit (s := (s.1, u.2)) hb e3]
  show u.2.testBit b = false
  rw [h2, bit_add a y h3]
  simp [h4, hne]
theorem mv_to {s u : St2} {a b M : Nat} (m : IsMv n B s a b u) : (encM M u : Int) = (encM M (s.1, u.2) : Int) + (if a = s.1 then ((b : Int) - a) * (M : Int) else 0) := by
  have hu : u.1 = if s.1 = a then b else s.1 := by rw [m.to]
  unfold encM
  simp only
  rw [hu]
  by_cases e : s.1 = a
  · rw [if_pos e, if_pos e.symm, Int.sub_mul]
    rw [e]
    simp only [Int.natCast_add, Int.natCast_mul]
    omega
  · rw [if_neg e, if_neg (Ne.symm e)]; omega
end
/-! the table of distances -/
section
variable {n many : Nat} {B : Nat → List Nat}
structure Lf (n many : Nat) (Q : List St2) (L : List Int) (d : Nat → Int) : Prop where
  len : L.length = 49152
  wf : ∀ s, s ∈ Q → Wf n many s
  nodup : Q.Nodup
  old : ∀ j, j < Q.length → gI L (encM 4096 (qOf Q j)) = d j
  new : ∀ s, Wf n many s → s ∉ Q → gI L (encM 4096 s) = -1
theorem pow_le (hn : n ≤ 12) : 2 ^ n ≤ 4096 := Nat.pow_le_pow_right (n := 2) (by omega) hn
theorem wf_4096 (hn : n ≤ 12) {s : St2} (hw : Wf n many s) : s.2 < 4096 ∧ encM 4096 s < 49152 := by
  have h1 := Nat.lt_of_lt_of_le hw.2.1 (pow_le hn)
  have h2 := enc_lt (s := s) (n := 12) (M := 4096) (by have := hw.1; omega) h1
  exact ⟨h1, by omega⟩
variable {Q : List St2} {L : List Int} {d : Nat → Int} {i K : Nat}
theorem Lf.seen (hn : n ≤ 12) (F : Lf n many Q L d) (hd : ∀ j, j < Q.length → 0 ≤ d j) {u : St2} (hu : Wf n many u) : gI L (encM 4096 u) < 0 ↔ u ∉ Q := by
  constructor
  · intro h hm
    obtain ⟨j, hj, rfl⟩ := mem_qOf hm
    rw [F.old j hj] at h
    have := hd j hj; omega
  · intro h; rw [F.new u hu h]; omega
theorem Lf.push (hn : n ≤ 12) (F : Lf n many Q L d) {u : St2} (hu : Wf n many u) (hq : u ∉ Q) {x : Int} : Lf n many (Q ++ [u]) (L.set (encM 4096 u) x) (fun j => if j = Q.length then x else d j) := by
  have hlt : encM 4096 u < L.length := by rw [F.len]; exact (wf_4096 hn hu).2
  have hne : ∀ s, Wf n many s → encM 4096 u = encM 4096 s → u = s := fun s hs e => enc_inj (wf_4096 hn hu).1 (wf_4096 hn hs).1 e
  refine ⟨by rw [List.length_set]; exact F.len, fun s hs => ?_, ?_, fun j hj => ?_, fun s hs hns => ?_⟩
  · rcases List.mem_append.1 hs with h | h
    · exact F.wf s h
    · simp at h; subst h; exact hu
  · rw [List.nodup_append]
    exact ⟨F.nodup, by simp, fun a ha b hb e => by simp at hb; subst hb; subst e; exact hq ha⟩
  · by_cases e : j = Q.length
    · subst e
      rw [qOf_last, gI_set hlt, if_pos rfl]; simp
    · have hj' : j < Q.length := by simp at hj; omega
      simp only [if_neg e]
      rw [qOf_left hj', gI_set hlt, if_neg (fun e2 => hq (by rw [hne _ (F.wf _ (qOf_mem hj')) e2]; exact qOf_mem hj'))]
      exact F.old j hj'
  · rw [gI_set hlt, if_neg (fun e => hns (by rw [hne s hs e]; simp))]
    exact F.new s hs (fun h => hns (by simp [h]))
/-- the goals, up to a set -/
def goalsTo (many : Nat) : Nat → List St2
  | 0 => []
  | k+1 => goalsTo many k ++ (if bitsF (2 * k) = many then [(0, 2 * k)] else [])
theorem mem_goalsTo {k : Nat} {s : St2} : s ∈ goalsTo many k ↔ s.1 = 0 ∧ bitsF s.2 = many ∧ s.2 % 2 = 0 ∧ s.2 < 2 * k := by
  induction k with
  | zero => simp [goalsTo]
  | succ k ih =>
    simp only [goalsTo, List.mem_append, ih]
    constructor
    · rintro (⟨h1, h2, h3, h4⟩ | h)
      · exact ⟨h1, h2, h3, by omega⟩
      · split at h
        · rename_i hb; simp at h; subst h; exact ⟨rfl, hb, by simp, by simp⟩
        · simp at h
    · rintro ⟨h1, h2, h3, h4⟩
      by_cases e : s.2 < 2 * k
      · exact .inl ⟨h1, h2, h3, e⟩
      · right
        have e2 : s.2 = 2 * k := by omega
        rw [if_pos (by rw [← e2]; exact h2)]
        exact List.mem_singleton.2 (Prod.ext h1 e2)
theorem even_bit (x : Nat) : x % 2 = 0 ↔ x.testBit 0 = false := by simp [Nat.testBit_zero]
theorem goals_wf (h1 : 1 ≤ n) {k : Nat} (hk : 2 * k ≤ 2 ^ n) {s : St2} (hs : s ∈ goalsTo many k) : Wf n many s := by
  obtain ⟨e1, e2, e3, e4⟩ := mem_goalsTo.1 hs
  refine ⟨by omega, by omega, ?_, e2⟩
  rw [e1]; exact (even_bit _).1 e3
theorem goals_all (h1 : 1 ≤ n) {k : Nat} (hk : 2 * k = 2 ^ n) (s : St2) : goalW n many s ↔ s ∈ goalsTo many k := by
  constructor
  · rintro ⟨⟨w1, w2, w3, w4⟩, h0⟩
    refine mem_goalsTo.2 ⟨h0, w4, (even_bit _).2 (by rw [h0] at w3; exact w3), by omega⟩
  · intro hs
    exact ⟨goals_wf h1 (Nat.le_of_eq hk) hs, (mem_goalsTo.1 hs).1⟩
theorem goals_len {k : Nat} : (goalsTo many k).length ≤ k := by
  induction k with
  | zero => simp [goalsTo]
  | succ k ih =>
    simp only [goalsTo, List.length_append]
    split
    · simp only [List.length_cons, List.length_nil]; omega
    · simp only [List.length_nil]; omega
theorem lf_start (hn : n ≤ 12) : Lf n many [] (List.replicate 49152 (-1)) (fun _ => 0) :=
  ⟨List.length_replicate, fun s h => by simp at h, by simp, fun j hj => by simp at hj, fun s hs _ => gI_rep (wf_4096 hn hs).2⟩
theorem Lf.congr {d' : Nat → Int} (F : Lf n many Q L d) (h : ∀ j, j < Q.length → d j = d' j) : Lf n many Q L d' :=
  ⟨F.len, F.wf, F.nodup, fun j hj => by rw [F.old j hj, h j hj], F.new⟩
theorem lf_goal (hn : n ≤ 12) (h1 : 1 ≤ n) {k : Nat} (hk : 2 * (k + 1) ≤ 2 ^ n) (F : Lf n many (goalsTo many k) L (fun _ => 0)) (hb : bitsF (2 * k) = many) : Lf n many (goalsTo many (k + 1)) (L.set (2 * k) 0) (fun _ => 0) := by
  have hm : ((0, 2 * k) : St2) ∈ goalsTo many (k + 1) := mem_goalsTo.2 ⟨rfl, hb, by simp, by simp⟩
  have hw := goals_wf h1 hk hm
  have := F.push hn hw (fun h => by have := (mem_goalsTo.1 h).2.2.2; simp only at this; omega) (x := 0)
  have e : goalsTo many (k + 1) = goalsTo many k ++ [(0, 2 * k)] := by simp [goalsTo, hb]
  rw [e]
  have e2 : encM 4096 (0, 2 * k) = 2 * k := by simp [encM]
  rw [e2] at this
  exact this.congr fun j _ => by split <;> rfl
theorem goals_skip {k : Nat} (hb : ¬ bitsF (2 * k) = many) : goalsTo many (k + 1) = goalsTo many k := by simp [goalsTo, hb]
theorem goals_next {k : Nat} (hb : bitsF (2 * k) = many) : goalsTo many (k + 1) = goalsTo many k ++ [(0, 2 * k)] := by simp [goalsTo, hb]
structure Dig (n many : Nat) (B : Nat → List Nat) (Q : List St2) (L : List Int) (i K : Nat) : Prop where
  ex : ∃ d, Back (mvR n many B) (goalW n many) Q d i K ∧ Lf n many Q L d
theorem Dig.len (D : Dig n many B Q L i K) : L.length = 49152 := by obtain ⟨_, _, F⟩ := D.ex; exact F.len
theorem Dig.le (hn : n ≤ 12) (D : Dig n many B Q L i K) : Q.length ≤ 49152 := by
  obtain ⟨_, _, F⟩ := D.ex
  have h1 := queue_le F.nodup F.wf (pow_le hn)
  have : n * 4096 ≤ 12 * 4096 := Nat.mul_le_mul_right _ hn
  omega
theorem Dig.wf (D : Dig n many B Q L i K) {j : Nat} (hj : j < Q.length) : Wf n many (qOf Q j) := by obtain ⟨_, _, F⟩ := D.ex; exact F.wf _ (qOf_mem hj)
theorem dig_start (hG : ∀ s, goalW n many s ↔ s ∈ Q) (F : Lf n many Q L (fun _ => 0)) : Dig n many B Q L 0 0 := ⟨⟨_, back_start hG, F⟩⟩
theorem Dig.skip (D : Dig n many B Q L i K) {K' : Nat} (hn : ∀ c u, (c, u) ∈ mvR n many B (qOf Q i) → K ≤ c → c < K' → False) : Dig n many B Q L i K' := by
  obtain ⟨d, Bk, F⟩ := D.ex
  exact ⟨⟨d, back_skip Bk hn, F⟩⟩
theorem mvR_fn (hB : BOk n B) {s u u' : St2} {c : Nat} (h : (c, u) ∈ mvR n many B s) (h' : (c, u') ∈ mvR n many B s) : u = u' := by
  obtain ⟨_, a, b, m, e⟩ := (mem_mvR hB).1 h
  obtain ⟨_, a', b', m', e'⟩ := (mem_mvR hB).1 h'
  have := hB.small; have := m.la; have := m'.la; have := (hB.cells a m.la b m.lb).1; have := (hB.cells a' m'.la b' m'.lb).1
  obtain rfl : a = a' := by omega
  obtain rfl : b = b' := by omega
  exact m.fn m'
theorem Dig.step (D : Dig n many B Q L i K) (hB : BOk n B) (hi : i < Q.length) {a b : Nat} {u : St2} (m : IsMv n B (qOf Q i) a b u) (hK : K = b * 16 + a) :
    (gI L (encM 4096 u) < 0 → Dig n many B (Q ++ [u]) (L.set (encM 4096 u) (gI L (encM 4096 (qOf Q i)) + 1)) i (K + 1)) ∧ (¬ gI L (encM 4096 u) < 0 → Dig n many B Q L i (K + 1)) := by
  obtain ⟨d, Bk, F⟩ := D.ex
  have hw := F.wf _ (qOf_mem hi)
  have hu := m.wf hB hw
  have hm : (K, u) ∈ mvR n many B (qOf Q i) := (mem_mvR hB).2 ⟨hw, a, b, m, hK⟩
  have hf : ∀ u', (K, u') ∈ mvR n many B (qOf Q i) → u' = u := fun u' h' => mvR_fn hB h' hm
  have hd : ∀ j, j < Q.length → 0 ≤ d j := Bk.pos
  constructor
  · intro h
    have hq := (F.seen hB.small hd hu).1 h
    have h2 := F.push hB.small hu hq (x := d i + 1)
    rw [F.old i hi]
    exact ⟨⟨_, back_new Bk hi hm hf, h2⟩⟩
  · intro h
    have hq : u ∈ Q := by
      by_cases h1 : u ∈ Q
      · exact h1
      · exact absurd ((F.seen hB.small hd hu).2 h1) h
    exact ⟨⟨d, back_old Bk hq hf, F⟩⟩
theorem Dig.next (D : Dig n many B Q L i K) (hi : i < Q.length) (hK : ∀ c u, (c, u) ∈ mvR n many B (qOf Q i) → c < K) : Dig n many B Q L (i + 1) 0 := by
  obtain ⟨d, Bk, F⟩ := D.ex
  exact ⟨⟨d, back_next Bk hi hK, F⟩⟩
/-- the distances as the table has them -/
def leftOf (n many : Nat) (L : List Int) (s : St2) : Int := if Wf n many s then gI L (encM 4096 s) else -1
theorem Dig.dist (D : Dig n many B Q L i K) (hB : BOk n B) (hi : Q.length ≤ i) : Dist (mvW n many B) (goalW n many) (leftOf n many L) := by
  obtain ⟨d, Bk, F⟩ := D.ex
  refine back_dist Bk hi (fun s => ?_) F.nodup (mvR_rev hB) (mvW_rev hB)
  by_cases hs : s ∈ Q
  · left
    obtain ⟨j, hj, rfl⟩ := mem_qOf hs
    refine ⟨j, hj, rfl, ?_⟩
    unfold leftOf
    rw [if_pos (F.wf _ hs), F.old j hj]
  · right
    refine ⟨hs, ?_⟩
    unfold leftOf
    split
    · rename_i hw; exact F.new s hw hs
    · rfl
end
end Go.Graph
end
