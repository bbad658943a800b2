/-
  Halls as states of the search, slides as moves, plainly.
-/
import Derived.Test.YtnfjmcenjpoloaaDoorU4
import Derived.Test.YtnfjmcenjpoloaaDoorR
set_option linter.unusedVariables false
set_option linter.unusedSimpArgs false
namespace Go.Proofs.YtnfjmcenjpoloaaDoor
open Go Go.RowKit Go.Park Go.Graph

/-! the free cells as a number -/
def setTo (l : List Int) : Nat → Nat
  | 0 => 0
  | k+1 => setTo l k + (if gi l k = 0 then 2 ^ k else 0)
def setN (h : PHall) : Nat := setTo h.cells h.cells.length
theorem setTo_lt (l : List Int) : ∀ k, setTo l k < 2 ^ k
  | 0 => by simp [setTo]
  | k+1 => by
    have := setTo_lt l k
    simp only [setTo, Nat.pow_succ]
    split <;> omega
theorem setTo_bit (l : List Int) : ∀ k j, (setTo l k).testBit j = (decide (j < k) && decide (gi l j = 0))
  | 0, j => by simp [setTo]
  | k+1, j => by
    have ih := setTo_bit l k
    simp only [setTo]
    split
    · rename_i h0
      rw [bit_add k _ (by rw [ih]; simp), ih]
      by_cases e : j = k
      · subst e; simp [h0]
      · by_cases e2 : j < k
        · simp [e, e2, show j < k + 1 by omega]
        · simp [e, e2, show ¬ j < k + 1 by omega]
    · rename_i h0
      rw [Nat.add_zero, ih]
      by_cases e : j = k
      · subst e; simp [h0]
      · by_cases e2 : j < k
        · simp [e2, show j < k + 1 by omega]
        · simp [e2, show ¬ j < k + 1 by omega]
theorem bits_setTo (l : List Int) : ∀ k, bitsF (setTo l k) = (selTo (fun j => decide (gi l j = 0)) k).length
  | 0 => by simp [setTo, selTo, bitsF_zero]
  | k+1 => by
    have ih := bits_setTo l k
    simp only [setTo]
    by_cases h0 : gi l k = 0
    · rw [if_pos h0, bits_add k _ (by rw [setTo_bit]; simp), selTo_yes (by simpa using h0), ih]; simp
    · rw [if_neg h0, selTo_no (by simpa using h0)]; exact ih
theorem set_bit (h : PHall) (j : Nat) : (setN h).testBit j = (decide (j < h.cells.length) && decide (gi h.cells j = 0)) := setTo_bit _ _ _
theorem set_lt (h : PHall) : setN h < 2 ^ h.cells.length := setTo_lt _ _
theorem bits_set {h : PHall} (hv : validB h = true) : bitsF (setN h) = (hallFreeF h).length := by
  unfold setN hallFreeF
  rw [if_pos hv, bits_setTo]
/-! the cells beside -/
def nbN (h : PHall) (a : Nat) : List Nat := (besideF h (a : Int)).map Int.toNat
theorem mem_nbN {h : PHall} (hv : validB h = true) {a b : Nat} (ha : a < h.cells.length) : b ∈ nbN h a ↔ b < h.cells.length ∧ apartF h.wide a b = 1 := by
  unfold nbN besideF
  rw [if_pos ⟨hv, hasCell_iff.2 (by omega)⟩, List.mem_map]
  constructor
  · rintro ⟨x, hx, rfl⟩
    obtain ⟨j, h1, h2, rfl⟩ := selTo_mem.1 hx
    exact ⟨by simpa using h1, by simpa using h2⟩
  · rintro ⟨h1, h2⟩
    exact ⟨(b : Int), selTo_mem.2 ⟨b, h1, by simpa using h2, rfl⟩, by simp⟩
theorem sel_up (p : Nat → Bool) : ∀ k, ((selTo p k).map Int.toNat).Pairwise (· < ·)
  | 0 => by simp [selTo]
  | k+1 => by
    by_cases h : p k = true
    · rw [selTo_yes h, List.map_append]
      refine List.pairwise_append.2 ⟨sel_up p k, by simp, fun a ha b hb => ?_⟩
      obtain ⟨x, hx, rfl⟩ := List.mem_map.1 ha
      obtain ⟨j, h1, _, rfl⟩ := selTo_mem.1 hx
      simp at hb
      simp; omega
    · rw [selTo_no (by simpa using h)]; exact sel_up p k
theorem nb_ok {h : PHall} (hv : validB h = true) : BOk h.cells.length (nbN h) := by
  refine ⟨(valid_len hv).2, fun a ha b hb => ?_, fun a ha b hb => ?_, fun a ha => ?_⟩
  · obtain ⟨h1, h2⟩ := (mem_nbN hv ha).1 hb
    refine ⟨h1, ?_⟩
    rintro rfl
    unfold apartF farF at h2
    omega
  · obtain ⟨h1, h2⟩ := (mem_nbN hv ha).1 hb
    exact (mem_nbN hv h1).2 ⟨ha, by rw [apartF_comm]; exact h2⟩
  · unfold nbN besideF
    split
    · exact sel_up _ _
    · simp
theorem nb_same {g h : PHall} (hg : validB g = true) (hh : validB h = true) (hw : g.wide = h.wide) (hl : g.cells.length = h.cells.length) : nbN g = nbN h := by
  funext a
  unfold nbN besideF hasCellB
  rw [hg, hh, hw, hl]
/-! slides and moves -/
def slideOf (c : Nat) : Int × Int := (((c / 16 : Nat) : Int), ((c % 16 : Nat) : Int))
def codeOf (s : Int × Int) : Nat := s.1.toNat * 16 + s.2.toNat
theorem slide_code {a b : Nat} (hb : b < 16) : slideOf (a * 16 + b) = ((a : Int), (b : Int)) := by
  unfold slideOf
  rw [show (a * 16 + b) / 16 = a by omega, show (a * 16 + b) % 16 = b by omega]
theorem slid_at {h : PHall} {a b : Nat} (ha : a < h.cells.length) (hb : b < h.cells.length) (k : Nat) : gi (slidH h a b).cells k = if a = k then 0 else if b = k then gi h.cells a else gi h.cells k := gi_upd2 ha hb k
theorem may_iff {h : PHall} {a b : Int} : slideMayB h a b = true ↔ validB h = true ∧ (0 ≤ a ∧ a < h.cells.length) ∧ (0 ≤ b ∧ b < h.cells.length) ∧ gi h.cells a.toNat ≠ 0 ∧ gi h.cells b.toNat = 0 ∧ apartF h.wide a b = 1 := by
  simp only [slideMayB, Bool.and_eq_true, decide_eq_true_eq, hasCell_iff]
structure May (h : PHall) (a b : Nat) : Prop where
  valid : validB h = true
  la : a < h.cells.length
  lb : b < h.cells.length
  car : gi h.cells a ≠ 0
  free : gi h.cells b = 0
  near : apartF h.wide a b = 1
theorem may_nat {h : PHall} {a b : Int} (hm : slideMayB h a b = true) : May h a.toNat b.toNat ∧ ((a.toNat : Nat) : Int) = a ∧ ((b.toNat : Nat) : Int) = b := by
  obtain ⟨h1, h2, h3, h4, h5, h6⟩ := may_iff.1 hm
  have e1 : ((a.toNat : Nat) : Int) = a := by omega
  have e2 : ((b.toNat : Nat) : Int) = b := by omega
  exact ⟨⟨h1, by omega, by omega, h4, h5, by rw [e1, e2]; exact h6⟩, e1, e2⟩
theorem May.may {h : PHall} {a b : Nat} (m : May h a b) : slideMayB h a b = true := may_iff.2 ⟨m.valid, ⟨by omega, by have := m.la; omega⟩, ⟨by omega, by have := m.lb; omega⟩, m.car, m.free, m.near⟩
theorem May.ne {h : PHall} {a b : Nat} (m : May h a b) : a ≠ b := by rintro rfl; exact m.car m.free
theorem May.slid {h : PHall} {a b : Nat} (m : May h a b) : slideDoF h a b = (slidH h a b, true) := by
  unfold slideDoF
  rw [if_pos m.valid, if_pos m.may]
  simp
theorem May.ok {h : PHall} {a b : Nat} (m : May h a b) : validB (slidH h a b) = true := valid_slid m.valid m.la m.lb m.ne m.free
theorem May.set {h : PHall} {a b : Nat} (m : May h a b) : setN (slidH h a b) = setN h + 2 ^ a - 2 ^ b := by
  have hl := slid_len h a b
  have ha := m.la
  have hb := m.lb
  have hne := m.ne
  have hbb : (setN h).testBit b = true := by rw [set_bit]; simp [m.lb, m.free]
  obtain ⟨y, h1, h2⟩ := bit_sub b (setN h) hbb
  have hya : y.testBit a = false := by
    have : (setN h).testBit a = false := by rw [set_bit]; simp [m.car]
    rw [h1, bit_add b y h2] at this
    simp at this
    exact this.1
  have key : setN (slidH h a b) = y + 2 ^ a := by
    apply Nat.eq_of_testBit_eq
    intro j
    rw [set_bit, hl, slid_at m.la m.lb, bit_add a y hya]
    have hj := set_bit h j
    rw [h1, bit_add b y h2] at hj
    by_cases e1 : a = j
    · subst e1; simp [ha]
    · by_cases e2 : b = j
      · subst e2
        rw [if_neg e1, if_pos rfl, h2]
        simp [m.car, Ne.symm e1]
      · rw [if_neg e1, if_neg e2]
        simp [Ne.symm e2] at hj
        rw [hj]
        simp [Ne.symm e1]
  rw [key, h1]; generalize 2 ^ a = A; generalize 2 ^ b = A'; omega
theorem May.mv {h : PHall} {a b : Nat} (m : May h a b) (c : Nat) : IsMv h.cells.length (nbN h) (c, setN h) a b (if c = a then b else c, setN (slidH h a b)) :=
  ⟨m.la, (mem_nbN m.valid m.la).2 ⟨m.lb, m.near⟩, by show (setN h).testBit a = false; rw [set_bit]; simp [m.car], by show (setN h).testBit b = true; rw [set_bit]; simp [m.lb, m.free], by rw [m.set]⟩
theorem may_of_mv {h : PHall} (hv : validB h = true) {c a b : Nat} {u : St2} (m : IsMv h.cells.length (nbN h) (c, setN h) a b u) : May h a b := by
  obtain ⟨h1, h2⟩ := (mem_nbN hv m.la).1 m.lb
  have h3 : (setN h).testBit a = false := m.hasCar
  have h4 : (setN h).testBit b = true := m.free
  rw [set_bit] at h3 h4
  simp [m.la] at h3
  simp at h4
  exact ⟨hv, m.la, h1, h3, h4.2, h2⟩
/-! where a car is -/
theorem idx_at {l : List Int} {x : Int} {j : Nat} (hj : j < l.length) (e : gi l j = x) (hu : ∀ i, i < l.length → gi l i = x → i = j) : idxTo l x l.length = j := by
  have h0 : ∀ n, n ≤ j → idxTo l x n = -1 := by
    intro n
    induction n with
    | zero => intro _; rfl
    | succ n ih => intro hn; exact idxTo_no (ih (by omega)) (fun e' => by have := hu n (by omega) e'; omega)
  exact idxTo_hit (h0 j (Nat.le_refl _)) e _ hj
theorem find_is {h : PHall} {id : Int} (hv : validB h = true) (h0 : 1 ≤ id) {j : Nat} (hj : j < h.cells.length) (e : gi h.cells j = id) : hallFindF h id = j := by
  unfold hallFindF
  rw [if_pos ⟨hv, h0⟩]
  exact idx_at hj e fun i hi e' => (valid_iff.1 hv).2.one i j hi hj (by omega) (by omega)
theorem find_at {h : PHall} {id : Int} {c : Nat} (hf : hallFindF h id = c) : validB h = true ∧ 1 ≤ id ∧ c < h.cells.length ∧ gi h.cells c = id := by
  unfold hallFindF at hf
  by_cases hc : validB h = true ∧ 1 ≤ id
  · rw [if_pos hc] at hf
    have key : ∀ n (c : Nat), idxTo h.cells id n = c → c < n ∧ gi h.cells c = id := by
      intro n
      induction n with
      | zero => intro c h; simp [idxTo] at h
      | succ n ih =>
        intro c hn
        by_cases h1 : idxTo h.cells id n = -1
        · by_cases h2 : gi h.cells n = id
          · have : idxTo h.cells id (n+1) = n := by simp [idxTo, h1, h2]
            obtain rfl : c = n := by omega
            exact ⟨by omega, h2⟩
          · rw [idxTo_no h1 h2] at hn; omega
        · have : idxTo h.cells id (n+1) = idxTo h.cells id n := by simp [idxTo, h1]
          obtain ⟨a, b⟩ := ih c (by omega)
          exact ⟨by omega, b⟩
    obtain ⟨a, b⟩ := key _ c hf
    exact ⟨hc.1, hc.2, a, b⟩
  · rw [if_neg hc] at hf; omega
theorem idx_low (l : List Int) (x : Int) : ∀ n, -1 ≤ idxTo l x n
  | 0 => by simp [idxTo]
  | n+1 => by
    have := idx_low l x n
    by_cases h1 : idxTo l x n = -1
    · by_cases h2 : gi l n = x
      · have : idxTo l x (n+1) = n := by simp [idxTo, h1, h2]
        omega
      · rw [idxTo_no h1 h2]; omega
    · have : idxTo l x (n+1) = idxTo l x n := by simp [idxTo, h1]
      omega
theorem find_low (h : PHall) (id : Int) : -1 ≤ hallFindF h id := by
  unfold hallFindF
  split
  · exact idx_low _ _ _
  · omega
theorem May.find {h : PHall} {a b : Nat} (m : May h a b) {id : Int} {c : Nat} (hf : hallFindF h id = c) : hallFindF (slidH h a b) id = ((if c = a then b else c : Nat) : Int) := by
  obtain ⟨hv, h0, hc, e⟩ := find_at hf
  have hl := slid_len h a b
  refine find_is m.ok h0 ?_ ?_
  · rw [hl]; split
    · exact m.lb
    · exact hc
  · rw [slid_at m.la m.lb]
    by_cases e1 : c = a
    · subst e1; rw [if_pos rfl, if_neg m.ne, if_pos rfl, e]
    · rw [if_neg e1, if_neg (Ne.symm e1), if_neg (fun e2 => by have := m.free; rw [e2, e] at this; omega), e]
theorem wf_of {h : PHall} {id : Int} {c : Nat} (hf : hallFindF h id = c) : Wf h.cells.length (hallFreeF h).length (c, setN h) := by
  obtain ⟨hv, h0, hc, e⟩ := find_at hf
  refine ⟨hc, set_lt h, ?_, bits_set hv⟩
  show (setN h).testBit c = false
  rw [set_bit]
  have : ¬ gi h.cells c = 0 := by omega
  simp [this]
theorem doneS_cons {h : PHall} {s : Int × Int} {l : List (Int × Int)} {k : Nat} : doneS h (s :: l) (k+1) ↔ (slideDoF h s.1 s.2).2 = true ∧ doneS (slideDoF h s.1 s.2).1 l k := by
  constructor
  · intro hd
    refine ⟨hd 0 (by omega), fun j hj => ?_⟩
    have := hd (j+1) (by omega)
    rw [stS_cons] at this
    exact this
  · rintro ⟨h1, h2⟩ j hj
    cases j with
    | zero => exact h1
    | succ j =>
      have := h2 j (by omega)
      rw [stS_cons]
      exact this
/-! ways are runs of slides -/
theorem path_done {n many : Nat} {B : Nat → List Nat} {id : Int} {s t : St2} {p : List Nat} (hp : Path (mvW n many B) s p t) : ∀ h : PHall, validB h = true → h.cells.length = n → nbN h = B → hallFindF h id = (s.1 : Int) → setN h = s.2 →
    doneS h (p.map slideOf) p.length ∧ hallFindF (stS h (p.map slideOf) p.length) id = (t.1 : Int) ∧ setN (stS h (p.map slideOf) p.length) = t.2 := by
  induction hp with
  | nil s => intro h _ _ _ hf hs; exact ⟨fun j hj => by simp at hj, hf, hs⟩
  | @cons s u t c p hm _ ih =>
    intro h hv hl hB hf hs
    obtain ⟨hw, a, b, m, rfl⟩ := mem_mvW.1 hm
    subst hl hB
    have m' : IsMv h.cells.length (nbN h) (s.1, setN h) a b u := by rw [hs]; exact m
    have hmay := may_of_mv hv m'
    have h12 := (valid_len hv).2
    have hb16 : b < 16 := by have := hmay.lb; omega
    have hu : u = (if s.1 = a then b else s.1, setN (slidH h a b)) := m'.fn (hmay.mv s.1)
    have hl := slid_len h a b
    obtain ⟨i1, i2, i3⟩ := ih (slidH h a b) hmay.ok hl (nb_same hmay.ok hv rfl hl) (by rw [hmay.find hf, hu]) (by rw [hu])
    have hdo := hmay.slid
    rw [List.map_cons, slide_code hb16, List.length_cons, doneS_cons, stS_cons]
    dsimp only
    rw [hdo]
    exact ⟨⟨rfl, i1⟩, i2, i3⟩
theorem done_path {id : Int} : ∀ (l : List (Int × Int)) (h : PHall) (c : Nat), hallFindF h id = c → doneS h l l.length → ∃ p t, Path (mvW h.cells.length (hallFreeF h).length (nbN h)) (c, setN h) p t ∧ p.map slideOf = l ∧ hallFindF (stS h l l.length) id = (t.1 : Int) ∧ setN (stS h l l.length) = t.2
  | [], h, c, hf, _ => ⟨[], _, .nil _, rfl, hf, rfl⟩
  | s :: l, h, c, hf, hd => by
    rw [List.length_cons, doneS_cons] at hd
    obtain ⟨hv, h0, hc, e⟩ := find_at hf
    have hm : slideMayB h s.1 s.2 = true := by
      have := hd.1
      unfold slideDoF at this
      rw [if_pos hv] at this
      split at this
      · assumption
      · simp at this
    obtain ⟨m, e1, e2⟩ := may_nat hm
    have hdo := m.slid
    rw [e1, e2] at hdo
    have hd2 := hd.2
    rw [hdo] at hd2
    have hf2 := m.find hf
    obtain ⟨p, t, h1, h2, h3, h4⟩ := done_path l (slidH h s.1.toNat s.2.toNat) _ hf2 hd2
    have hl := slid_len h s.1.toNat s.2.toNat
    have hw : Wf h.cells.length (hallFreeF h).length (c, setN h) := wf_of hf
    have hmv := m.mv c
    have hw2 := hmv.wf (nb_ok hv) hw
    have hbits : (hallFreeF (slidH h s.1.toNat s.2.toNat)).length = (hallFreeF h).length := by rw [← bits_set m.ok]; exact hw2.2.2.2
    rw [hl, hbits, nb_same m.ok hv rfl hl] at h1
    have h12 := (valid_len hv).2
    have hb16 : s.2.toNat < 16 := by have := m.lb; omega
    refine ⟨(s.1.toNat * 16 + s.2.toNat) :: p, t, .cons (mem_mvW.2 ⟨hw, _, _, hmv, rfl⟩) h1, ?_, ?_, ?_⟩
    · rw [List.map_cons, slide_code hb16, e1, e2, h2]
    · rw [List.length_cons, stS_cons, hdo]; exact h3
    · rw [List.length_cons, stS_cons, hdo]; exact h4
/-! the best way -/
section
open Classical
noncomputable def bestP (n many : Nat) (B : Nat → List Nat) (s : St2) : Option (List Nat) := if h : ∃ p, IsBest (mvW n many B) (goalW n many) s p then some (Classical.choose h) else none
theorem bestP_some {n many : Nat} {B : Nat → List Nat} {s : St2} (hB : BOk n B) {p : List Nat} (h : IsBest (mvW n many B) (goalW n many) s p) : bestP n many B s = some p := by
  unfold bestP
  have hex : ∃ p, IsBest (mvW n many B) (goalW n many) s p := ⟨p, h⟩
  rw [dif_pos hex, IsBest.uniq (mvW_small hB) (Classical.choose_spec hex) h]
theorem bestP_none {n many : Nat} {B : Nat → List Nat} {s : St2} (h : ∀ p t, Path (mvW n many B) s p t → ¬ goalW n many t) : bestP n many B s = none := by
  unfold bestP
  rw [dif_neg]
  rintro ⟨p, hp⟩
  obtain ⟨t, h1, h2⟩ := hp.there
  exact h p t h1 h2
theorem bestP_is {n many : Nat} {B : Nat → List Nat} {s : St2} {p : List Nat} (h : bestP n many B s = some p) : IsBest (mvW n many B) (goalW n many) s p := by
  unfold bestP at h
  split at h
  · rename_i hex
    rw [Option.some.injEq] at h
    rw [← h]; exact Classical.choose_spec hex
  · cases h
end
noncomputable def bestAt (h : PHall) (c : Nat) : List (Int × Int) × Bool :=
  match bestP h.cells.length (hallFreeF h).length (nbN h) (c, setN h) with
  | some p => (p.map slideOf, true)
  | none => ([], false)
noncomputable def bestF (h : PHall) (id : Int) : List (Int × Int) × Bool := if hallFindF h id < 0 then ([], false) else bestAt h (hallFindF h id).toNat
noncomputable def leastF (h : PHall) (id : Int) : Int := if (bestF h id).2 = true then ((bestF h id).1.length : Int) else -1
theorem bestAt_some {h : PHall} {c : Nat} {p : List Nat} (e : bestP h.cells.length (hallFreeF h).length (nbN h) (c, setN h) = some p) : bestAt h c = (p.map slideOf, true) := by unfold bestAt; rw [e]
theorem bestAt_none {h : PHall} {c : Nat} (e : bestP h.cells.length (hallFreeF h).length (nbN h) (c, setN h) = none) : bestAt h c = ([], false) := by unfold bestAt; rw [e]
theorem bestF_at {h : PHall} {id : Int} {c : Nat} (hf : hallFindF h id = c) : bestF h id = bestAt h c := by unfold bestF; rw [hf, if_neg (by omega)]; simp
theorem bestF_no {h : PHall} {id : Int} (hf : hallFindF h id < 0) : bestF h id = ([], false) := by unfold bestF; rw [if_pos hf]
/-- where ways lead to the gate: the best one does it -/
structure BestGood (h : PHall) (id : Int) (l : List (Int × Int)) : Prop where
  done : doneS h l l.length
  gate : hallFindF (stS h l l.length) id = 0
  before : ∀ k, k < l.length → hallFindF (stS h l k) id ≠ 0
  least : ∀ m : List (Int × Int), doneS h m m.length → hallFindF (stS h m m.length) id = 0 → l.length ≤ m.length
theorem goal_of {n many : Nat} {B : Nat → List Nat} {s t : St2} {p : List Nat} (hp : Path (mvW n many B) s p t) (hw : Wf n many s) (hB : BOk n B) (h0 : t.1 = 0) : goalW n many t := by
  refine ⟨?_, h0⟩
  induction hp with
  | nil s => exact hw
  | cons hm _ ih =>
    obtain ⟨_, a, b, m, _⟩ := mem_mvW.1 hm
    exact ih (m.wf hB hw) h0
theorem doneS_take {h : PHall} {l : List (Int × Int)} {k : Nat} (hk : k ≤ l.length) : ∀ j, j ≤ k → stS h (l.take k) j = stS h l j
  | 0, _ => rfl
  | j+1, hj => by
    simp only [stS]
    rw [doneS_take hk j (by omega)]
    have : gs (l.take k) j = gs l j := by simp [gs, List.getD, List.getElem?_take, show j < k by omega]
    rw [this]
theorem done_take {h : PHall} {l : List (Int × Int)} {k : Nat} (hk : k ≤ l.length) (hd : doneS h l l.length) : doneS h (l.take k) (l.take k).length := by
  have hlen : (l.take k).length = k := by rw [List.length_take]; omega
  intro j hj
  rw [hlen] at hj
  have : gs (l.take k) j = gs l j := by simp [gs, List.getD, List.getElem?_take, hj]
  rw [doneS_take hk j (by omega), this]
  exact hd j (by omega)
theorem best_good {h : PHall} {id : Int} {c : Nat} (hf : hallFindF h id = c) {p : List Nat} (e : bestP h.cells.length (hallFreeF h).length (nbN h) (c, setN h) = some p) : BestGood h id (p.map slideOf) := by
  have hb := bestP_is e
  obtain ⟨hv, h0, hc, hcar⟩ := find_at hf
  obtain ⟨t, h1, h2⟩ := hb.there
  obtain ⟨d1, d2, d3⟩ := path_done (id := id) h1 h hv rfl rfl hf rfl
  have hlen : (p.map slideOf).length = p.length := by simp
  have hleast : ∀ m : List (Int × Int), doneS h m m.length → hallFindF (stS h m m.length) id = 0 → p.length ≤ m.length := by
    intro m hm hg
    obtain ⟨p', t', k1, k2, k3, k4⟩ := done_path m h c hf hm
    have ht0 : t'.1 = 0 := by rw [hg] at k3; omega
    have := (hb.least k1 (goal_of k1 (wf_of hf) (nb_ok hv) ht0)).1
    rw [← k2, List.length_map]; exact this
  refine ⟨by rw [hlen]; exact d1, by rw [hlen, d2, h2.2]; rfl, fun k hk e0 => ?_, fun m hm hg => by rw [hlen]; exact hleast m hm hg⟩
  have hd : doneS h (p.map slideOf) (p.map slideOf).length := by rw [hlen]; exact d1
  have h5 := done_take (k := k) (by omega) hd
  have hlt : ((p.map slideOf).take k).length = k := by rw [List.length_take]; omega
  have := hleast _ h5 (by rw [hlt, doneS_take (by omega) k (Nat.le_refl _)]; exact e0)
  omega
/-! the order of all slides -/
theorem mem_mayTo {h : PHall} {s : Int × Int} : ∀ k, k ≤ h.cells.length → (s ∈ mayTo h k ↔ slideMayB h s.1 s.2 = true ∧ s.1 < k)
  | 0, _ => by
    simp only [mayTo, List.not_mem_nil, false_iff]
    rintro ⟨h1, h2⟩
    have := (may_iff.1 h1).2.1.1
    omega
  | k+1, hk => by
    simp only [mayTo, List.mem_append, mem_mayTo (h := h) k (by omega), mayRow, List.mem_map]
    constructor
    · rintro (⟨h1, h2⟩ | ⟨x, hx, rfl⟩)
      · exact ⟨h1, by omega⟩
      · obtain ⟨j, h1, h2, rfl⟩ := selTo_mem.1 hx
        exact ⟨h2, by show (k : Int) < ((k + 1 : Nat) : Int); omega⟩
    · rintro ⟨h1, h2⟩
      obtain ⟨_, ⟨a0, a1⟩, ⟨b0, b1⟩, _⟩ := may_iff.1 h1
      by_cases e : s.1 < k
      · exact .inl ⟨h1, e⟩
      · right
        have ek : s.1 = k := by omega
        refine ⟨s.2, selTo_mem.2 ⟨s.2.toNat, by omega, ?_, by omega⟩, by rw [← ek]⟩
        rw [← ek, show ((s.2.toNat : Nat) : Int) = s.2 by omega]; exact h1
theorem mem_slidesAll {h : PHall} {s : Int × Int} : s ∈ slidesAllF h ↔ slideMayB h s.1 s.2 = true := by
  unfold slidesAllF
  rw [mem_mayTo _ (Nat.le_refl _)]
  constructor
  · exact fun h => h.1
  · intro h1; exact ⟨h1, (may_iff.1 h1).2.1.2⟩
theorem mayTo_up {h : PHall} (hv : validB h = true) : ∀ k, k ≤ h.cells.length → (mayTo h k).Pairwise fun s t => codeOf s < codeOf t
  | 0, _ => by simp [mayTo]
  | k+1, hk => by
    have h12 := (valid_len hv).2
    simp only [mayTo]
    refine List.pairwise_append.2 ⟨mayTo_up hv k (by omega), ?_, fun s hs t ht => ?_⟩
    · unfold mayRow
      rw [List.pairwise_map]
      have := sel_up (fun j => slideMayB h k j) h.cells.length
      rw [List.pairwise_map] at this
      exact this.imp (fun h => by simp only [codeOf]; omega)
    · obtain ⟨h1, h2⟩ := (mem_mayTo k (by omega)).1 hs
      obtain ⟨_, ⟨a0, a1⟩, ⟨b0, b1⟩, _⟩ := may_iff.1 h1
      simp only [mayRow, List.mem_map] at ht
      obtain ⟨x, hx, rfl⟩ := ht
      simp only [codeOf]
      omega
theorem slidesAll_up {h : PHall} (hv : validB h = true) : (slidesAllF h).Pairwise fun s t => codeOf s < codeOf t := mayTo_up hv _ (Nat.le_refl _)
/-! distances as they stand in a table -/
theorem least_of {h : PHall} {id : Int} {c : Nat} (hf : hallFindF h id = c) {left : St2 → Int} (D : Dist (mvW h.cells.length (hallFreeF h).length (nbN h)) (goalW h.cells.length (hallFreeF h).length) left) : leastF h id = left (c, setN h) := by
  obtain ⟨hv, h0, hc, hcar⟩ := find_at hf
  have hB := nb_ok hv
  unfold leastF
  rw [bestF_at hf]
  by_cases h1 : left (c, setN h) = -1
  · have hn : bestP h.cells.length (hallFreeF h).length (nbN h) (c, setN h) = none := bestP_none fun p t hp ht => by have := (D.le hp ht).1; omega
    rw [bestAt_none hn, h1]; simp
  · have := D.low (c, setN h)
    obtain ⟨k, hk⟩ : ∃ k : Nat, left (c, setN h) = k := ⟨(left (c, setN h)).toNat, by omega⟩
    obtain ⟨p, t, hg⟩ := D.greedy (mvW_fn hB) k _ hk
    have hb : IsBest (mvW h.cells.length (hallFreeF h).length (nbN h)) (goalW h.cells.length (hallFreeF h).length) (c, setN h) p := ⟨⟨t, hg.path, hg.ends⟩, fun hp ht => hg.best (mvW_small hB) D hp ht⟩
    rw [bestAt_some (bestP_some hB hb), hg.length D]; simp
end Go.Proofs.YtnfjmcenjpoloaaDoor
