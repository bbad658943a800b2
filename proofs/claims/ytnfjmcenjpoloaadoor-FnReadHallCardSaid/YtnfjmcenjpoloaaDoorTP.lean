/-
  Texts of halls: cutting at a byte, numbers that are read, what a text's parts are; no program stands here but the text's bytes.
-/
import Derived.Test.YtnfjmcenjpoloaaDoorP7
import Derived.Lib.SplitLaws
set_option linter.unusedVariables false
set_option linter.unusedSimpArgs false
namespace Go.Proofs.YtnfjmcenjpoloaaDoor
open Go Go.RowKit Go.Park
/-! cutting -/
def app1 (p : List UInt8) : List (List UInt8) → List (List UInt8)
  | [] => [p]
  | q :: qs => (p ++ q) :: qs
def cutL (c : UInt8) : List UInt8 → List (List UInt8)
  | [] => [[]]
  | x :: xs => if x = c then [] :: cutL c xs else app1 [x] (cutL c xs)
theorem cutL_ne (c : UInt8) : ∀ l, cutL c l ≠ []
  | [] => by simp [cutL]
  | x :: xs => by
    unfold cutL
    split
    · simp
    · cases h : cutL c xs <;> simp [app1]
theorem app1_nil {ps : List (List UInt8)} (h : ps ≠ []) : app1 [] ps = ps := by cases ps <;> simp_all [app1]
theorem app1_app (p q : List UInt8) (ps : List (List UInt8)) : app1 p (app1 q ps) = app1 (p ++ q) ps := by cases ps <;> simp [app1]
theorem app1_append (p : List UInt8) {a : List (List UInt8)} (b : List (List UInt8)) (h : a ≠ []) : app1 p (a ++ b) = app1 p a ++ b := by cases a <;> simp_all [app1]
theorem app1_len (p : List UInt8) {a : List (List UInt8)} (h : a ≠ []) : (app1 p a).length = a.length := by cases a <;> simp_all [app1]
theorem cutL_sep (c : UInt8) (m : List UInt8) : ∀ l, cutL c (l ++ c :: m) = cutL c l ++ cutL c m
  | [] => by simp [cutL]
  | x :: l => by
    have ih := cutL_sep c m l
    simp only [List.cons_append, cutL]
    split
    · rw [ih]; rfl
    · rw [ih, app1_append _ _ (cutL_ne c l)]
theorem cutL_plain (c : UInt8) : ∀ l, c ∉ l → cutL c l = [l]
  | [], _ => rfl
  | x :: l, h => by
    simp only [List.mem_cons, not_or] at h
    rw [cutL, if_neg (fun e => h.1 e.symm), cutL_plain c l h.2]; rfl
theorem cutL_len (c : UInt8) : ∀ l, (cutL c l).length ≤ l.length + 1
  | [] => by simp [cutL]
  | x :: l => by
    have ih := cutL_len c l
    unfold cutL
    split
    · simp; omega
    · rw [app1_len _ (cutL_ne c l)]; simp; omega
def sumL : List (List UInt8) → Nat
  | [] => 0
  | p :: ps => p.length + 1 + sumL ps
theorem sumL_app1 (p : List UInt8) {a : List (List UInt8)} (h : a ≠ []) : sumL (app1 p a) = p.length + sumL a := by cases a <;> simp_all [app1, sumL]; omega
theorem sumL_append : ∀ (a b : List (List UInt8)), sumL (a ++ b) = sumL a + sumL b
  | [], b => by simp [sumL]
  | p :: a, b => by simp [sumL, sumL_append a b]; omega
theorem cutL_sum (c : UInt8) : ∀ l, sumL (cutL c l) = l.length + 1
  | [] => rfl
  | x :: l => by
    have ih := cutL_sum c l
    unfold cutL
    split
    · simp [sumL]; omega
    · rw [sumL_app1 _ (cutL_ne c l)]; simp; omega
/-- the reference's loop: what is cut off, and the rest -/
theorem cut_step_sep {c : UInt8} {l : List UInt8} {k : Nat} (hk : k < l.length) (hc : l[k] = c) (p : List UInt8) : app1 p (cutL c (l.drop k)) = p :: cutL c (l.drop (k + 1)) := by
  rw [List.drop_eq_getElem_cons hk, hc]
  simp [cutL, app1]
theorem cut_step_ne {c : UInt8} {l : List UInt8} {k : Nat} (hk : k < l.length) (hc : l[k] ≠ c) (p : List UInt8) : app1 p (cutL c (l.drop k)) = app1 (p ++ [l[k]]) (cutL c (l.drop (k + 1))) := by
  rw [List.drop_eq_getElem_cons hk, cutL, if_neg hc, app1_app]
theorem take_from {l : List UInt8} {o k : Nat} (h : o ≤ k) (hk : k < l.length) : (l.drop o).take (k + 1 - o) = (l.drop o).take (k - o) ++ [l[k]] := by
  rw [show k + 1 - o = (k - o) + 1 by omega, List.take_add_one, List.getElem?_drop, show o + (k - o) = k by omega, List.getElem?_eq_getElem hk]; rfl
/-! numbers that are read -/
def isDig (b : UInt8) : Bool := 48 ≤ b && b ≤ 57
def numL (l : List UInt8) : Nat := l.foldl (fun n b => 10 * n + (b.toNat - 48)) 0
def readL (d : Nat) (l : List UInt8) : Option Nat := if 1 ≤ l.length ∧ l.length ≤ d ∧ ¬ (1 < l.length ∧ l.getD 0 0 = 48) ∧ l.all isDig = true then some (numL l) else none
theorem numL_snoc (l : List UInt8) (b : UInt8) : numL (l ++ [b]) = 10 * numL l + (b.toNat - 48) := by simp [numL]
theorem numL_bound : ∀ (k : Nat) (l : List UInt8), l.length = k → l.all isDig = true → numL l + 1 ≤ 10 ^ k
  | 0, l, h, _ => by rw [List.length_eq_zero_iff.1 h]; simp [numL]
  | k+1, l, h, hd => by
    obtain ⟨m, b, rfl⟩ : ∃ m b, l = m ++ [b] := ⟨l.dropLast, l.getLast (by intro e; subst e; simp at h), (List.dropLast_concat_getLast _).symm⟩
    simp only [List.all_append, List.all_cons, List.all_nil, Bool.and_true, Bool.and_eq_true] at hd
    have ih := numL_bound k m (by simpa using h) hd.1
    have hb : b.toNat ≤ 57 := by
      have h2 := hd.2
      simp only [isDig, Bool.and_eq_true, decide_eq_true_eq] at h2
      have := UInt8.le_iff_toNat_le.1 h2.2
      simpa using this
    rw [numL_snoc, Nat.pow_succ]; omega
/-! texts of halls in rows -/
theorem dig_range : ∀ i : Fin 10, UInt8.ofNat (48 + i.val) ≠ 44 ∧ UInt8.ofNat (48 + i.val) ≠ 46 ∧ UInt8.ofNat (48 + i.val) ≠ 47 := by decide
theorem read_one : ∀ i : Fin 10, i.val ≠ 0 → readL 2 [UInt8.ofNat (48 + i.val)] = some i.val ∧ readL 4 [UInt8.ofNat (48 + i.val)] = some i.val := by decide
theorem read_two : ∀ i : Fin 100, 10 ≤ i.val → readL 2 [UInt8.ofNat (48 + i.val / 10), UInt8.ofNat (48 + i.val % 10)] = some i.val ∧ readL 4 [UInt8.ofNat (48 + i.val / 10), UInt8.ofNat (48 + i.val % 10)] = some i.val := by decide
theorem cellB_mem {z : Int} (h0 : 0 ≤ z) (h1 : z ≤ 99) : (44 : UInt8) ∉ cellB z ∧ (47 : UInt8) ∉ cellB z ∧ cellB z ≠ [] := by
  unfold cellB
  split
  · decide
  · have hn : z.toNat < 100 := by omega
    by_cases h : z.toNat < 10
    · rw [Lib.decDigits_one h]
      have := dig_range ⟨z.toNat, h⟩
      simp only [List.mem_singleton]
      exact ⟨fun e => this.1 e.symm, fun e => this.2.2 e.symm, by simp⟩
    · rw [Lib.decDigits_two h hn]
      have a := dig_range ⟨z.toNat / 10, by omega⟩
      have b := dig_range ⟨z.toNat % 10, by omega⟩
      simp only [List.mem_cons, List.not_mem_nil, or_false, not_or]
      exact ⟨⟨fun e => a.1 e.symm, fun e => b.1 e.symm⟩, ⟨fun e => a.2.2 e.symm, fun e => b.2.2 e.symm⟩, by simp⟩
theorem cellB_dot {z : Int} (h0 : 0 ≤ z) (h1 : z ≤ 99) : (cellB z = [46] ↔ z = 0) := by
  unfold cellB
  split
  · simp_all
  · refine ⟨fun e => ?_, fun e => absurd e (by assumption)⟩
    have hn : z.toNat < 100 := by omega
    by_cases h : z.toNat < 10
    · rw [Lib.decDigits_one h] at e
      exact absurd (List.cons.inj e).1 (dig_range ⟨z.toNat, h⟩).2.1
    · rw [Lib.decDigits_two h hn] at e
      have := congrArg List.length e
      simp at this
theorem cellB_read {z : Int} (h0 : 0 < z) (h1 : z ≤ 99) : readL 2 (cellB z) = some z.toNat ∧ readL 4 (cellB z) = some z.toNat := by
  unfold cellB
  rw [if_neg (by omega)]
  have hn : z.toNat < 100 := by omega
  by_cases h : z.toNat < 10
  · rw [Lib.decDigits_one h]; exact read_one ⟨z.toNat, h⟩ (by show z.toNat ≠ 0; omega)
  · rw [Lib.decDigits_two h hn]; exact read_two ⟨z.toNat, hn⟩ (by show 10 ≤ z.toNat; omega)
/-- the first j cells of a row -/
def rowTo (h : PHall) (w r : Nat) : Nat → List UInt8
  | 0 => []
  | j+1 => (if j = 0 then [] else rowTo h w r j ++ [44]) ++ cellB (gi h.cells (r * w + j))
def preRows (h : PHall) (w : Nat) : Nat → List UInt8
  | 0 => []
  | r+1 => preRows h w r ++ (rowTo h w r w ++ [47])
theorem cut_row {h : PHall} {w r : Nat} (hc : ∀ j, j < h.cells.length → 0 ≤ gi h.cells j ∧ gi h.cells j ≤ 99) : ∀ j, r * w + j < h.cells.length → cutL 44 (rowTo h w r (j + 1)) = (List.range (j + 1)).map fun i => cellB (gi h.cells (r * w + i))
  | 0, hj => by
    have := hc _ hj
    rw [rowTo, if_pos rfl, List.nil_append, cutL_plain _ _ (cellB_mem this.1 this.2).1]; rfl
  | j+1, hj => by
    have := hc _ hj
    rw [rowTo, if_neg (by omega), List.append_assoc, List.singleton_append, cutL_sep, cut_row hc j (by omega), cutL_plain _ _ (cellB_mem this.1 this.2).1, List.range_succ (n := j + 1), List.map_append]; rfl
theorem row_mem {h : PHall} {w r : Nat} (hc : ∀ j, j < h.cells.length → 0 ≤ gi h.cells j ∧ gi h.cells j ≤ 99) : ∀ j, r * w + j ≤ h.cells.length → (47 : UInt8) ∉ rowTo h w r j
  | 0, _ => by simp [rowTo]
  | j+1, hj => by
    have h1 := hc (r * w + j) (by omega)
    have h2 := (cellB_mem h1.1 h1.2).2.1
    have ih := row_mem (r := r) (w := w) hc j (by omega)
    rw [rowTo]
    split <;> simp [h2, ih]
theorem cut_pre {h : PHall} {w : Nat} (hc : ∀ j, j < h.cells.length → 0 ≤ gi h.cells j ∧ gi h.cells j ≤ 99) : ∀ (r : Nat) (m : List UInt8), r * w ≤ h.cells.length → (47 : UInt8) ∉ m → cutL 47 (preRows h w r ++ m) = (List.range r).map (fun r => rowTo h w r w) ++ [m]
  | 0, m, _, hm => by rw [preRows, List.nil_append, cutL_plain _ _ hm]; rfl
  | r+1, m, hr, hm => by
    rw [Nat.add_mul, Nat.one_mul] at hr
    rw [preRows, List.append_assoc, List.append_assoc, List.singleton_append, ← List.append_assoc, cutL_sep, cut_pre hc r _ (by omega) (row_mem hc w (by omega)), cutL_plain _ _ hm, List.range_succ, List.map_append]; rfl
theorem text_rows {h : PHall} {w : Nat} (hw : h.wide = (w : Int)) (h0 : 0 < w) : ∀ (r j : Nat), j < w → textTo h (r * w + (j + 1)) = preRows h w r ++ rowTo h w r (j + 1)
  | 0, 0, _ => by simp [textTo, sepB, preRows, rowTo]
  | r+1, 0, _ => by
    have ih := text_rows hw h0 r (w - 1) (by omega)
    rw [show w - 1 + 1 = w by omega] at ih
    rw [show (r + 1) * w + (0 + 1) = (r * w + w) + 1 by rw [Nat.add_mul]; omega, textTo, ih]
    have hs : sepB h.wide (r * w + w) = [47] := by
      have h1 : ((r * w + w : Nat) : Int) % (w : Int) = 0 := by
        rw [← Int.natCast_emod, Nat.add_mod_right, Nat.mul_mod_left]; rfl
      rw [sepB, if_neg (by omega), hw, if_pos h1]
    rw [hs, preRows, rowTo, if_pos rfl, show (r + 1) * w + 0 = r * w + w by rw [Nat.add_mul]; omega]
    simp
  | r, j+1, hj => by
    have ih := text_rows hw h0 r j (by omega)
    rw [show r * w + (j + 1 + 1) = (r * w + (j + 1)) + 1 by omega, textTo, ih]
    have hs : sepB h.wide (r * w + (j + 1)) = [44] := by
      have h1 : ¬ ((r * w + (j + 1) : Nat) : Int) % (w : Int) = 0 := by
        rw [← Int.natCast_emod, Nat.mul_comm, Nat.mul_add_mod, Nat.mod_eq_of_lt hj]; omega
      rw [sepB, if_neg (by omega), hw, if_neg h1]
    rw [hs, show rowTo h w r (j + 1 + 1) = (if j + 1 = 0 then [] else rowTo h w r (j + 1) ++ [44]) ++ cellB (gi h.cells (r * w + (j + 1))) from rfl, if_neg (Nat.succ_ne_zero j)]
    simp
/-! parsing -/
def wideOf (rows : List (List UInt8)) : Nat := match rows.getLast? with
  | none => 0
  | some r => (cutL 44 r).length
def cellsTo (f : List UInt8 → Int) (rows : List (List UInt8)) : List Int := rows.flatMap fun r => (cutL 44 r).map f
def parseF (f : List UInt8 → Int) (s : List UInt8) : PHall := ⟨(wideOf (cutL 47 s) : Nat), ((cutL 47 s).length : Nat), cellsTo f (cutL 47 s)⟩
def GoodF (f : List UInt8 → Int) : Prop := ∀ z : Int, 0 ≤ z → z ≤ 99 → f (cellB z) = z
theorem gi_take {l : List Int} {a w : Nat} (h : a + w ≤ l.length) : (List.range w).map (fun i => gi l (a + i)) = (l.drop a).take w := by
  apply List.ext_getElem?
  intro i
  rw [List.getElem?_map, List.getElem?_take, List.getElem?_drop]
  by_cases hi : i < w
  · rw [if_pos hi, List.getElem?_range hi, List.getElem?_eq_getElem (by omega)]
    simp [gi, List.getD_eq_getElem?_getD, List.getElem?_eq_getElem (show a + i < l.length by omega)]
  · rw [if_neg hi, List.getElem?_eq_none (by simp; omega)]; rfl
theorem cells_rows {l : List Int} {w : Nat} : ∀ d, d * w ≤ l.length → (List.range d).flatMap (fun r => (List.range w).map fun i => gi l (r * w + i)) = l.take (d * w)
  | 0, _ => by simp
  | d+1, hd => by
    rw [Nat.add_mul, Nat.one_mul] at hd ⊢
    rw [List.range_succ, List.flatMap_append, cells_rows d (by omega), List.flatMap_cons, List.flatMap_nil, List.append_nil, gi_take hd, List.take_add]
structure Shaped (h : PHall) (w d : Nat) : Prop where
  wide : h.wide = (w : Int)
  deep : h.deep = (d : Int)
  w0 : 2 ≤ w ∧ w ≤ 4
  d0 : 2 ≤ d ∧ d ≤ 3
  len : h.cells.length = d * w
  cell : ∀ j, j < h.cells.length → 0 ≤ gi h.cells j ∧ gi h.cells j ≤ 99
theorem rows_of_text {h : PHall} {w d : Nat} (S : Shaped h w d) : cutL 47 (textTo h h.cells.length) = (List.range d).map fun r => rowTo h w r w := by
  obtain ⟨e, rfl⟩ : ∃ e, d = e + 1 := ⟨d - 1, by have := S.d0; omega⟩
  have hl := S.len
  rw [Nat.add_mul, Nat.one_mul] at hl
  have h1 := text_rows S.wide (by have := S.w0; omega) e (w - 1) (by have := S.w0; omega)
  rw [show w - 1 + 1 = w by have := S.w0; omega] at h1
  rw [hl, h1, cut_pre S.cell e _ (by omega) (row_mem S.cell w (by omega)), List.range_succ, List.map_append]; rfl
theorem cells_of_row {h : PHall} {w d r : Nat} (S : Shaped h w d) (hr : r < d) : cutL 44 (rowTo h w r w) = (List.range w).map fun i => cellB (gi h.cells (r * w + i)) := by
  have h1 : r * w + w ≤ d * w := by rw [← Nat.succ_mul]; exact Nat.mul_le_mul_right w hr
  have := cut_row S.cell (r := r) (w := w) (w - 1) (by have := S.len; have := S.w0; omega)
  rwa [show w - 1 + 1 = w by have := S.w0; omega] at this
theorem parse_text {h : PHall} {w d : Nat} (S : Shaped h w d) {f : List UInt8 → Int} (hf : GoodF f) : parseF f (textTo h h.cells.length) = h := by
  have hr := rows_of_text S
  have h1 : wideOf (cutL 47 (textTo h h.cells.length)) = w := by
    obtain ⟨e, rfl⟩ : ∃ e, d = e + 1 := ⟨d - 1, by have := S.d0; omega⟩
    rw [hr, List.range_succ, List.map_append, wideOf, List.getLast?_append]
    simp [cells_of_row S (show e < e + 1 by omega)]
  have h2 : cellsTo f (cutL 47 (textTo h h.cells.length)) = h.cells := by
    rw [hr, cellsTo, List.flatMap_map]
    have h3 : ((List.range d).flatMap fun r => (cutL 44 (rowTo h w r w)).map f) = (List.range d).flatMap fun r => (List.range w).map fun i => gi h.cells (r * w + i) := by
      rw [List.flatMap_def, List.flatMap_def]
      congr 1
      apply List.map_congr_left
      intro r hr
      have hr := List.mem_range.1 hr
      rw [cells_of_row S hr, List.map_map]
      apply List.map_congr_left
      intro i hi
      have hi := List.mem_range.1 hi
      have h4 : r * w + w ≤ d * w := by rw [← Nat.succ_mul]; exact Nat.mul_le_mul_right w hr
      have := S.cell (r * w + i) (by rw [S.len]; omega)
      exact hf _ this.1 this.2
    rw [h3, cells_rows d (by rw [S.len]; exact Nat.le_refl _), List.take_of_length_le (by rw [S.len]; exact Nat.le_refl _)]
  have h3 : (cutL 47 (textTo h h.cells.length)).length = d := by rw [hr]; simp
  cases h with
  | mk a b c =>
    have := S.wide; have := S.deep
    simp only [parseF]
    simp_all
def cellS (l : List UInt8) : Int := if l = [46] then 0 else match readL 4 l with
  | some n => n
  | none => -1
def cellI (l : List UInt8) : Int := if l = [46] then 0 else match readL 2 l with
  | some n => n
  | none => 0
theorem cellS_good : GoodF cellS := fun z h0 h1 => by
  unfold cellS
  by_cases hz : z = 0
  · rw [if_pos ((cellB_dot h0 h1).2 hz), hz]
  · rw [if_neg (fun e => hz ((cellB_dot h0 h1).1 e))]
    rw [(cellB_read (by omega) h1).2]; simp; omega
theorem cellI_good : GoodF cellI := fun z h0 h1 => by
  unfold cellI
  by_cases hz : z = 0
  · rw [if_pos ((cellB_dot h0 h1).2 hz), hz]
  · rw [if_neg (fun e => hz ((cellB_dot h0 h1).1 e))]
    rw [(cellB_read (by omega) h1).1]; simp; omega
/-! reading a number byte by byte -/
def gu (l : List UInt8) (j : Nat) : Int := ((l.getD j 0).toNat : Int)
theorem gu_is {l : List UInt8} {j : Nat} (h : j < l.length) : gu l j = (l[j].toNat : Int) := by simp [gu, List.getD_eq_getElem?_getD, List.getElem?_eq_getElem h]
theorem gu_range (l : List UInt8) (j : Nat) : 0 ≤ gu l j ∧ gu l j ≤ 255 := by
  have := (l.getD j 0).toNat_lt
  unfold gu; omega
theorem isDig_iff {b : UInt8} : isDig b = true ↔ 48 ≤ b.toNat ∧ b.toNat ≤ 57 := by
  simp only [isDig, Bool.and_eq_true, decide_eq_true_eq, UInt8.le_iff_toNat_le]
  exact Iff.rfl
theorem take_next {l : List UInt8} {k : Nat} (hk : k < l.length) : l.take (k + 1) = l.take k ++ [l[k]] := by rw [List.take_add_one, List.getElem?_eq_getElem hk]; rfl
theorem num_step {l : List UInt8} {k : Nat} (hk : k < l.length) (h : 48 ≤ gu l k) : (numL (l.take (k + 1)) : Int) = 10 * (numL (l.take k) : Int) + (gu l k - 48) := by
  rw [take_next hk, numL_snoc]
  rw [gu_is hk] at h ⊢
  omega
theorem dig_step {l : List UInt8} {k : Nat} (hk : k < l.length) (hd : (l.take k).all isDig = true) (h : 48 ≤ gu l k) (h' : gu l k ≤ 57) : (l.take (k + 1)).all isDig = true := by
  rw [take_next hk, List.all_append, hd]
  rw [gu_is hk] at h h'
  simp only [List.all_cons, List.all_nil, Bool.and_true, Bool.true_and]
  exact isDig_iff.2 (by omega)
theorem num_small {l : List UInt8} {k : Nat} (hk : k ≤ l.length) (hd : (l.take k).all isDig = true) (h4 : k ≤ 4) : numL (l.take k) ≤ 9999 := by
  have h1 := numL_bound k (l.take k) (by simp; omega) hd
  have h2 : 10 ^ k ≤ 10 ^ 4 := Nat.pow_le_pow_right (by omega) h4
  omega
theorem read_some {l : List UInt8} {d : Nat} (h1 : 1 ≤ l.length) (h2 : l.length ≤ d) (h3 : ¬ (1 < l.length ∧ gu l 0 = 48)) (h4 : (l.take l.length).all isDig = true) : readL d l = some (numL (l.take l.length)) := by
  rw [List.take_length] at h4 ⊢
  rw [readL, if_pos ⟨h1, h2, fun e => h3 ⟨e.1, by rw [gu, e.2]; rfl⟩, h4⟩]
theorem read_none_len {l : List UInt8} {d : Nat} (h : l.length < 1 ∨ d < l.length) : readL d l = none := by rw [readL, if_neg (fun e => by omega)]
theorem read_none_zero {l : List UInt8} {d : Nat} (h1 : 1 < l.length) (h2 : gu l 0 = 48) : readL d l = none := by
  rw [readL, if_neg (fun e => e.2.2.1 ⟨h1, UInt8.toNat.inj (by unfold gu at h2; show _ = 48; omega)⟩)]
theorem read_none_dig {l : List UInt8} {d k : Nat} (hk : k < l.length) (h : gu l k < 48 ∨ 57 < gu l k) : readL d l = none := by
  rw [readL, if_neg (fun e => by
    have h1 := List.all_eq_true.1 e.2.2.2 l[k] (List.getElem_mem hk)
    rw [gu_is hk] at h
    have := isDig_iff.1 h1
    omega)]
/-! what both read -/
theorem text_bytes {h : PHall} (hv : validB h = true) : textF h = ⟨(textTo h h.cells.length).toArray⟩ := by rw [textF, if_pos hv]
theorem shaped_of {h : PHall} (hv : validB h = true) : ∃ w d, Shaped h w d := by
  obtain ⟨h1, h2, h3⟩ := valid_size hv
  refine ⟨h.wide.toNat, h.deep.toNat, ⟨by omega, by omega, by omega, by omega, ?_, fun j hj => valid_cell hv hj⟩⟩
  have e1 : h.wide = (h.wide.toNat : Int) := by omega
  have e2 : h.deep = (h.deep.toNat : Int) := by omega
  rw [e1, e2, ← Int.natCast_mul] at h3
  rw [Nat.mul_comm]
  exact Int.ofNat.inj h3
def IsText (h : PHall) (s : List UInt8) : Prop := validB h = true ∧ textF h = ⟨s.toArray⟩
theorem isText_bytes {h : PHall} {s : List UInt8} (H : IsText h s) : textTo h h.cells.length = s := by
  have e := H.2
  rw [text_bytes H.1] at e
  have := congrArg (fun b : ByteArray => b.data.toList) e
  simpa using this
theorem isText_parse {h : PHall} {s : List UInt8} (H : IsText h s) {f : List UInt8 → Int} (hf : GoodF f) : parseF f s = h := by
  obtain ⟨w, d, S⟩ := shaped_of H.1
  rw [← isText_bytes H]
  exact parse_text S hf
theorem isText_rows {h : PHall} {s : List UInt8} (H : IsText h s) : (cutL 47 s).length ≤ 3 ∧ ∀ r, r ∈ cutL 47 s → r ≠ [] ∧ (cutL 44 r).length ≤ 4 ∧ ∀ p, p ∈ cutL 44 r → p = [46] ∨ ∃ n, readL 2 p = some n := by
  obtain ⟨w, d, S⟩ := shaped_of H.1
  have hr := rows_of_text S
  rw [isText_bytes H] at hr
  refine ⟨by rw [hr]; simp; exact S.d0.2, fun r hm => ?_⟩
  rw [hr] at hm
  obtain ⟨q, hq, rfl⟩ := List.mem_map.1 hm
  have hq := List.mem_range.1 hq
  have hc := cells_of_row S hq
  have h4 : q * w + w ≤ d * w := by rw [← Nat.succ_mul]; exact Nat.mul_le_mul_right w hq
  have hcell : ∀ i, i < w → 0 ≤ gi h.cells (q * w + i) ∧ gi h.cells (q * w + i) ≤ 99 := fun i hi => S.cell _ (by rw [S.len]; omega)
  refine ⟨fun e => ?_, by rw [hc]; simp; exact S.w0.2, fun p hp => ?_⟩
  · rw [e] at hc
    have := congrArg List.length hc
    have := S.w0
    simp [cutL] at *
    omega
  · rw [hc] at hp
    obtain ⟨i, hi, rfl⟩ := List.mem_map.1 hp
    have := hcell i (List.mem_range.1 hi)
    by_cases hz : gi h.cells (q * w + i) = 0
    · exact .inl ((cellB_dot this.1 this.2).2 hz)
    · exact .inr ⟨_, (cellB_read (by omega) this.2).1⟩
open Classical in
noncomputable def readF (s : List UInt8) : PHall × Bool := if IsText (parseF cellS s) s then (parseF cellS s, true) else (zeroHall, false)
theorem readF_is {h : PHall} {s : List UInt8} (H : IsText h s) : readF s = (h, true) := by
  rw [readF, isText_parse H cellS_good, if_pos H]
theorem readF_no {s : List UInt8} (hn : ∀ h, ¬ IsText h s) : readF s = (zeroHall, false) := by rw [readF, if_neg (hn _)]
theorem readF_true {s : List UInt8} (H : (readF s).2 = true) : IsText (readF s).1 s := by
  unfold readF at H ⊢
  split at H
  · rename_i h; rw [if_pos h]; exact h
  · cases H
theorem readF_false {s : List UInt8} (H : (readF s).2 = false) : (readF s).1 = zeroHall := by
  unfold readF at H ⊢
  split at H
  · cases H
  · rename_i h; rw [if_neg h]
/-- what was parsed is no hall of this text: then none is -/
theorem readF_not {f : List UInt8 → Int} (hf : GoodF f) {s : List UInt8} (H : ¬ IsText (parseF f s) s) : readF s = (zeroHall, false) :=
  readF_no fun h hh => H (by rw [isText_parse hh hf]; exact hh)
theorem isText_slash {h : PHall} {s : List UInt8} (H : IsText h (s ++ [47])) : False := by
  have := (isText_rows H).2
  rw [cutL_sep] at this
  exact (this [] (by simp [cutL])).1 rfl
theorem text_ne {h : PHall} (hv : validB h = true) : textF h ≠ ⟨#[]⟩ := fun e => by
  have := isText_rows (h := h) (s := []) ⟨hv, e⟩
  exact (this.2 [] (by simp [cutL])).1 rfl
theorem text_not {h : PHall} (hv : validB h = false) : textF h = ⟨#[]⟩ := by rw [textF, if_neg (by simp [hv])]
theorem text_size {h : PHall} : (textF h).size ≤ 1212 := by
  unfold textF
  split
  · rename_i hv
    have h1 := textTo_len hv h.cells.length (Nat.le_refl _)
    have h2 := (valid_len hv).2
    show (textTo h h.cells.length).toArray.size ≤ 1212
    simp; omega
  · exact Nat.zero_le _
theorem readF_len {s : List UInt8} : (readF s).1.cells.length ≤ lim := by
  have := lim_eq
  cases h : (readF s).2
  · rw [readF_false h]; simp [zeroHall]
  · have := (valid_len (readF_true h).1).2; omega
/-! the library's cutting -/
theorem splitK_cut (c : UInt8) : ∀ l : List UInt8, Lib.splitK [c] 0 (l.count c) l = cutL c l
  | [] => by simp [Lib.splitK, cutL]
  | x :: l => by
    have ih := splitK_cut c l
    by_cases h : x = c
    · subst h
      have hix : Lib.index (x :: l) [x] = 0 := by rw [Lib.index]; simp [List.isPrefixOf]
      rw [List.count_cons_self, Lib.splitK, hix]
      simp [cutL, ih]
    · have hix : Lib.index (x :: l) [c] = if Lib.index l [c] == -1 then -1 else Lib.index l [c] + 1 := by
        have hp : ([c] : List UInt8).isPrefixOf (x :: l) = false := by simp [List.isPrefixOf, Ne.symm h]
        rw [Lib.index, hp]; simp
      rw [List.count_cons_of_ne (by simpa using h), cutL, if_neg h, ← ih]
      cases hk : l.count c with
      | zero => simp [Lib.splitK, app1]
      | succ k =>
        rw [hk] at ih
        by_cases hm : Lib.index l [c] = -1
        · rw [Lib.splitK, Lib.splitK, hix, hm]; simp [app1]
        · have hge := Lib.index_ge l [c]
          obtain ⟨j, hj⟩ : ∃ j : Nat, Lib.index l [c] = j := ⟨(Lib.index l [c]).toNat, by omega⟩
          have e1 : ¬ ((j : Int) == -1) = true := fun e => by have := beq_iff_eq.1 e; omega
          have e2 : ¬ ((j : Int) + 1 == -1) = true := fun e => by have := beq_iff_eq.1 e; omega
          have e3 : ((j : Int) + 1).toNat = j + 1 := by omega
          rw [Lib.splitK, Lib.splitK, hix, hj, if_neg e1, if_neg e2, if_neg e1, e3]
          simp [app1]
theorem splitB_cut (c : UInt8) (s : ByteArray) : (Lib.splitB ⟨#[c]⟩ 0 (Lib.countB s ⟨#[c]⟩) s).map (·.data.toList) = cutL c s.data.toList := by
  rw [Lib.splitB_data]
  have : Lib.countB s ⟨#[c]⟩ = s.data.toList.count c := Lib.count_one c s.data.toList
  rw [this]
  exact splitK_cut c _
end Go.Proofs.YtnfjmcenjpoloaaDoor
