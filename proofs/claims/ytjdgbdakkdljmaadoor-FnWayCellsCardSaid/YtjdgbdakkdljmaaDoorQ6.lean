/-
  Regions, in the text's order or in whatever order, and code, on abstract states; nothing of the program stands here.
-/
import Derived.Test.YtjdgbdakkdljmaaDoorQ5
import Derived.LoopN
set_option linter.unusedVariables false
set_option linter.unusedSimpArgs false
namespace Go.Sym
open Go Go.RowKit

structure Upd where
  d : Option Nat
  x : AV
  rs : List (Nat × Option Row)
def St.app (σ : St) (u : Upd) : St := σ.upd u.d u.x u.rs

/-- one operation of a region, guard and all -/
def OStep (P : Program) (nt : Nat) (ops : Array Oper) (o : Oper) (σ : St) (R : Foot) (u : Upd) : Prop :=
  ∀ τ, Agree R τ σ → ∀ F, F.nt = nt → ∀ a w, Sim F τ a w → ∀ (Q : Exit → Act → World → Prop) (K : Act → World → Prop), (∀ a' w', Sim F (τ.app u) a' w' → K a' w') →
    if Region.wanted o (yielded ops a.tmps) then o.wp P a w K Q ∨ (o.asks P a w ∧ LetsOut Q) else K (a.put o.dst undef) w

theorem yielded_of {ops : Array Oper} {g d : Nat} {F : Fr} {φ : Nat → Value} {Z : Nat → Prop} {τ : St} {a : Act} {w : World} (hS : SimAt F φ Z τ a w) (hd : (ops[g]?).bind (·.dst) = some d) {b : Bool} (hv : τ.env d = .bool b) : yielded ops a.tmps g = some b := by
  have h1 := hS.env d
  rw [hv] at h1
  simp only [relV] at h1
  unfold yielded
  rw [hd]
  simp only [Option.bind_some]
  cases h2 : a.tmps[d]? with
  | none =>
    rw [Array.getD_eq_getD_getElem?, h2] at h1
    simp [undef] at h1
  | some u =>
    rw [Array.getD_eq_getD_getElem?, h2] at h1
    simp at h1
    subst h1
    rfl
theorem yielded_undef {ops : Array Oper} {g d : Nat} {F : Fr} {φ : Nat → Value} {Z : Nat → Prop} {τ : St} {a : Act} {w : World} (hS : SimAt F φ Z τ a w) (hd : (ops[g]?).bind (·.dst) = some d) (hv : τ.env d = .v undef) : yielded ops a.tmps g = none := by
  have h1 := hS.env d
  rw [hv] at h1
  simp only [relV] at h1
  unfold yielded
  rw [hd]
  simp only [Option.bind_some]
  cases h2 : a.tmps[d]? with
  | none => rfl
  | some u =>
    rw [Array.getD_eq_getD_getElem?, h2] at h1
    simp at h1
    subst h1
    rfl
section
variable {P : Program} {nt : Nat} {ops : Array Oper} {σ : St} {o : Oper} {R : Foot} {x : AV} {rs : List (Nat × Option Row)}
theorem ostep_plain (hg : o.guard = none) (h : Does P nt o R x rs σ) : OStep P nt ops o σ R ⟨o.dst, x, rs⟩ := by
  intro τ hag F hF a w hS Q K hK
  rw [if_pos (by simp [Region.wanted, hg])]
  exact .inl (h.out τ hag F hF a w hS Q K (fun u w' hs => hK _ _ hs))
theorem ostep_yes {g d : Nat} {b : Bool} (hg : o.guard = some (g, b)) (hd : (ops[g]?).bind (·.dst) = some d) (hv : σ.env d = .bool b) (h : Does P nt o R x rs σ) : OStep P nt ops o σ ⟨d :: R.e, R.r⟩ ⟨o.dst, x, rs⟩ := by
  intro τ hag F hF a w hS Q K hK
  obtain ⟨φ, Z, hS'⟩ := id hS
  have hy := yielded_of hS' hd (by rw [hag.1 d (by simp)]; exact hv)
  rw [if_pos (by simp [Region.wanted, hg, hy])]
  exact .inl (h.out τ ⟨fun t ht => hag.1 t (by simp [ht]), hag.2⟩ F hF a w hS Q K (fun u w' hs => hK _ _ hs))
theorem sim_put_undef {F : Fr} {τ : St} {a : Act} {w : World} (hS : Sim F τ a w) {d : Option Nat} (hd : dstOk F.nt d = true) : Sim F (τ.app ⟨d, .v undef, []⟩) (a.put d undef) w := by
  obtain ⟨φ, Z, hS⟩ := hS
  cases d with
  | none => exact ⟨φ, Z, hS⟩
  | some d =>
    simp [dstOk] at hd
    exact ⟨φ, Z, hS.put hd (by simp [relV])⟩
theorem ostep_no {g d : Nat} {b : Bool} (hdo : dstOk nt o.dst = true) (hg : o.guard = some (g, b)) (hd : (ops[g]?).bind (·.dst) = some d) (hv : σ.env d = .bool (!b)) : OStep P nt ops o σ ⟨[d], []⟩ ⟨o.dst, .v undef, []⟩ := by
  intro τ hag F hF a w hS Q K hK
  obtain ⟨φ, Z, hS'⟩ := id hS
  have hy := yielded_of hS' hd (by rw [hag.1 d (by simp)]; exact hv)
  rw [if_neg (by cases b <;> simp [Region.wanted, hg, hy])]
  exact hK _ _ (sim_put_undef hS (by rw [hF]; exact hdo))
theorem ostep_un {g d : Nat} {b : Bool} (hdo : dstOk nt o.dst = true) (hg : o.guard = some (g, b)) (hd : (ops[g]?).bind (·.dst) = some d) (hv : σ.env d = .v undef) : OStep P nt ops o σ ⟨[d], []⟩ ⟨o.dst, .v undef, []⟩ := by
  intro τ hag F hF a w hS Q K hK
  obtain ⟨φ, Z, hS'⟩ := id hS
  have hy := yielded_undef hS' hd (by rw [hag.1 d (by simp)]; exact hv)
  rw [if_neg (by cases b <;> simp [Region.wanted, hg, hy])]
  exact hK _ _ (sim_put_undef hS (by rw [hF]; exact hdo))
end

inductive Chain (P : Program) (nt : Nat) (ops : Array Oper) : List Oper → St → List (Foot × Upd) → St → Prop
  | nil (σ : St) : Chain P nt ops [] σ [] σ
  | cons {o : Oper} {os : List Oper} {σ σ' : St} {R : Foot} {u : Upd} {l : List (Foot × Upd)} (h : OStep P nt ops o σ R u) (k : Chain P nt ops os (σ.app u) l σ') : Chain P nt ops (o :: os) σ ((R, u) :: l) σ'

/-- in the text's order -/
theorem Chain.list {P : Program} {nt : Nat} {ops : Array Oper} {os : List Oper} {σ σ' : St} {l : List (Foot × Upd)} (h : Chain P nt ops os σ l σ') : ∀ F, F.nt = nt → ∀ a w, Sim F σ a w → ∀ Q : Exit → Act → World → Prop, (∀ a' w', Sim F σ' a' w' → Q .normal a' w') → wpList P ops Q os a w := by
  induction h with
  | nil σ => intro F hF a w hS Q hQ; exact hQ a w hS
  | cons h k ih =>
    intro F hF a w hS Q hQ
    have := h _ ⟨fun _ _ => rfl, fun _ _ => rfl⟩ F hF a w hS Q (wpList P ops Q _) (fun a' w' hs => ih F hF a' w' hs Q hQ)
    exact this

/-! ### any order -/
def part : List (Foot × Upd) → (Nat → Bool) → Nat → St → St
  | [], _, _, τ => τ
  | (_, u) :: l, D, k, τ => part l D (k + 1) (if D k then τ.app u else τ)
def valE (t : Nat) : List (Foot × Upd) → (Nat → Bool) → Nat → AV → AV
  | [], _, _, x => x
  | (_, u) :: l, D, k, x => valE t l D (k + 1) (if D k then (if u.d = some t then u.x else x) else x)
def valR (t : Nat) : List (Foot × Upd) → (Nat → Bool) → Nat → Option Row → Option Row
  | [], _, _, x => x
  | (_, u) :: l, D, k, x => valR t l D (k + 1) (if D k then overR (fun _ => x) u.rs t else x)
theorem app_env (τ : St) (u : Upd) (t : Nat) : (τ.app u).env t = if u.d = some t then u.x else τ.env t := by
  obtain ⟨d, x, rs⟩ := u
  cases d with
  | none => simp [St.app, St.upd, St.rowsUpd]
  | some d =>
    simp only [St.app, St.upd, St.put, St.rowsUpd, Option.some.injEq]
    by_cases e : t = d
    · subst e; simp
    · rw [if_neg e, if_neg (Ne.symm e)]
theorem overR_const (f : Nat → Option Row) (rs : List (Nat × Option Row)) (t : Nat) : overR f rs t = overR (fun _ => f t) rs t := by
  induction rs with
  | nil => rfl
  | cons a rs ih => obtain ⟨d, x⟩ := a; simp only [overR, ih]
theorem app_row (τ : St) (u : Upd) (t : Nat) : (τ.app u).row t = overR (fun _ => τ.row t) u.rs t := by
  obtain ⟨d, x, rs⟩ := u
  cases d <;> simp only [St.app, St.upd, St.put, St.rowsUpd] <;> exact overR_const _ _ _
theorem part_env (t : Nat) : ∀ (l : List (Foot × Upd)) (D : Nat → Bool) (k : Nat) (τ : St), (part l D k τ).env t = valE t l D k (τ.env t)
  | [], D, k, τ => rfl
  | (R, u) :: l, D, k, τ => by
    simp only [part, valE, part_env t l]
    congr 1
    cases D k <;> simp [app_env]
theorem part_row (t : Nat) : ∀ (l : List (Foot × Upd)) (D : Nat → Bool) (k : Nat) (τ : St), (part l D k τ).row t = valR t l D k (τ.row t)
  | [], D, k, τ => rfl
  | (R, u) :: l, D, k, τ => by
    simp only [part, valR, part_row t l]
    congr 1
    cases D k <;> simp [app_row]
theorem valE_congr (t : Nat) : ∀ (l : List (Foot × Upd)) (D D' : Nat → Bool) (k : Nat) (x : AV), (∀ j R u, l[j]? = some (R, u) → u.d = some t → D (k + j) = D' (k + j)) → valE t l D k x = valE t l D' k x
  | [], D, D', k, x, _ => rfl
  | (R, u) :: l, D, D', k, x, h => by
    simp only [valE]
    have h0 := h 0 R u (by simp)
    have e : (if D k then (if u.d = some t then u.x else x) else x) = (if D' k then (if u.d = some t then u.x else x) else x) := by
      by_cases hd : u.d = some t
      · rw [show D k = D' k from h0 hd]
      · simp [hd]
    rw [e]
    exact valE_congr t l D D' (k + 1) _ (fun j R' u' hj hd => by have := h (j + 1) R' u' (by simpa using hj) hd; rw [show k + 1 + j = k + (j + 1) by omega]; exact this)
theorem overR_out {f : Nat → Option Row} {rs : List (Nat × Option Row)} {t : Nat} (h : t ∉ rs.map (·.1)) : overR f rs t = f t := by
  induction rs with
  | nil => rfl
  | cons a rs ih =>
    obtain ⟨d, x⟩ := a
    simp only [List.map_cons, List.mem_cons, not_or] at h
    simp only [overR]
    have : Nat.beq d t = false := by
      cases hb : Nat.beq d t
      · rfl
      · exact absurd (Nat.eq_of_beq_eq_true hb).symm h.1
    rw [this]
    exact ih h.2
theorem valR_congr (t : Nat) : ∀ (l : List (Foot × Upd)) (D D' : Nat → Bool) (k : Nat) (x : Option Row), (∀ j R u, l[j]? = some (R, u) → t ∈ u.rs.map (·.1) → D (k + j) = D' (k + j)) → valR t l D k x = valR t l D' k x
  | [], D, D', k, x, _ => rfl
  | (R, u) :: l, D, D', k, x, h => by
    simp only [valR]
    have h0 := h 0 R u (by simp)
    have e : (if D k then overR (fun _ => x) u.rs t else x) = (if D' k then overR (fun _ => x) u.rs t else x) := by
      by_cases hd : t ∈ u.rs.map (·.1)
      · rw [show D k = D' k from h0 hd]
      · rw [overR_out hd]; simp
    rw [e]
    exact valR_congr t l D D' (k + 1) _ (fun j R' u' hj hd => by have := h (j + 1) R' u' (by simpa using hj) hd; rw [show k + 1 + j = k + (j + 1) by omega]; exact this)
theorem St.ext' {σ τ : St} (h1 : ∀ t, σ.env t = τ.env t) (h2 : ∀ t, σ.row t = τ.row t) : σ = τ := by
  cases σ; cases τ
  simp only [St.mk.injEq]
  exact ⟨funext h1, funext h2⟩
/-- one more behind all that it does not meet -/
theorem valE_add (t : Nat) : ∀ (l : List (Foot × Upd)) (D : Nat → Bool) (k i : Nat) (x : AV) (R : Foot) (u : Upd), l[i]? = some (R, u) → D (k + i) = false → (∀ j R' u', l[j]? = some (R', u') → i < j → D (k + j) = true → ¬ (u'.d = some t ∧ u.d = some t)) →
    valE t l (fun j => if j = k + i then true else D j) k x = if u.d = some t then u.x else valE t l D k x
  | [], D, k, i, x, R, u, h, _, _ => by simp at h
  | (R0, u0) :: l, D, k, i, x, R, u, h, hD, hj => by
    cases i with
    | zero =>
      simp at h
      obtain ⟨rfl, rfl⟩ := h
      simp only [valE, Nat.add_zero, if_true]
      simp only [Nat.add_zero] at hD
      rw [hD]
      simp only [Bool.false_eq_true, if_false]
      have key : ∀ y, valE t l (fun j => if j = k then true else D j) (k + 1) y = valE t l D (k + 1) y := fun y => valE_congr t l _ _ _ _ (fun j _ _ _ _ => by rw [if_neg (by omega)])
      rw [key]
      by_cases hu : u0.d = some t
      · rw [if_pos hu, if_pos hu]
        have : ∀ (m : List (Foot × Upd)) (q : Nat) (y : AV), (∀ j R' u', m[j]? = some (R', u') → D (q + j) = true → u'.d ≠ some t) → valE t m D q y = y := by
          intro m
          induction m with
          | nil => intro q y _; rfl
          | cons a m ih =>
            obtain ⟨R1, u1⟩ := a
            intro q y hm
            simp only [valE]
            rw [ih (q + 1) _ (fun j R' u' h1 h2 => hm (j + 1) R' u' (by simpa using h1) (by rw [show q + (j + 1) = q + 1 + j by omega]; exact h2))]
            have := hm 0 R1 u1 (by simp)
            cases hq : D q with
            | false => simp
            | true => simp [this hq]
        exact this l (k + 1) u0.x (fun j R' u' h1 h2 h3 => hj (j + 1) R' u' (by simpa using h1) (by omega) (by rw [show k + (j + 1) = k + 1 + j by omega]; exact h2) ⟨h3, hu⟩)
      · rw [if_neg hu, if_neg hu]
    | succ i =>
      simp at h
      simp only [valE]
      have e1 : (if k = k + (i + 1) then true else D k) = D k := if_neg (by omega)
      simp only [e1]
      have := valE_add t l D (k + 1) i (if D k then (if u0.d = some t then u0.x else x) else x) R u h (by rw [show k + 1 + i = k + (i + 1) by omega]; exact hD)
        (fun j R' u' h1 h2 h3 => hj (j + 1) R' u' (by simpa using h1) (by omega) (by rw [show k + (j + 1) = k + 1 + j by omega]; exact h3))
      rw [← this]
      congr 1
      funext j
      rw [show k + 1 + i = k + (i + 1) by omega]
theorem overR_const_eq {rs : List (Nat × Option Row)} {t : Nat} (h : t ∈ rs.map (·.1)) (x y : Option Row) : overR (fun _ => x) rs t = overR (fun _ => y) rs t := by
  induction rs with
  | nil => simp at h
  | cons a rs ih =>
    obtain ⟨d, z⟩ := a
    simp only [overR]
    cases hb : Nat.beq d t
    · simp only [List.map_cons, List.mem_cons] at h
      rcases h with h | h
      · have h' : t = d := h
        subst h'
        simp at hb
      · exact ih h
    · rfl
theorem valR_add (t : Nat) : ∀ (l : List (Foot × Upd)) (D : Nat → Bool) (k i : Nat) (x : Option Row) (R : Foot) (u : Upd), l[i]? = some (R, u) → D (k + i) = false → (∀ j R' u', l[j]? = some (R', u') → i < j → D (k + j) = true → ¬ (t ∈ u'.rs.map (·.1) ∧ t ∈ u.rs.map (·.1))) →
    valR t l (fun j => if j = k + i then true else D j) k x = overR (fun _ => valR t l D k x) u.rs t
  | [], D, k, i, x, R, u, h, _, _ => by simp at h
  | (R0, u0) :: l, D, k, i, x, R, u, h, hD, hj => by
    cases i with
    | zero =>
      simp at h
      obtain ⟨rfl, rfl⟩ := h
      simp only [valR, Nat.add_zero, if_true]
      simp only [Nat.add_zero] at hD
      rw [hD]
      simp only [Bool.false_eq_true, if_false]
      have key : ∀ y, valR t l (fun j => if j = k then true else D j) (k + 1) y = valR t l D (k + 1) y := fun y => valR_congr t l _ _ _ _ (fun j _ _ _ _ => by rw [if_neg (by omega)])
      rw [key]
      by_cases hu : t ∈ u0.rs.map (·.1)
      · have : ∀ (m : List (Foot × Upd)) (q : Nat) (y : Option Row), (∀ j R' u', m[j]? = some (R', u') → D (q + j) = true → t ∉ u'.rs.map (·.1)) → valR t m D q y = y := by
          intro m
          induction m with
          | nil => intro q y _; rfl
          | cons a m ih =>
            obtain ⟨R1, u1⟩ := a
            intro q y hm
            simp only [valR]
            rw [ih (q + 1) _ (fun j R' u' h1 h2 => hm (j + 1) R' u' (by simpa using h1) (by rw [show q + (j + 1) = q + 1 + j by omega]; exact h2))]
            have := hm 0 R1 u1 (by simp)
            cases hq : D q with
            | false => simp
            | true => simp only [if_true]; exact overR_out (this hq)
        have h2 := this l (k + 1) (overR (fun _ => x) u0.rs t) (fun j R' u' h1 h2 h3 => hj (j + 1) R' u' (by simpa using h1) (by omega) (by rw [show k + (j + 1) = k + 1 + j by omega]; exact h2) ⟨h3, hu⟩)
        rw [h2]
        exact overR_const_eq hu _ _
      · rw [overR_out hu, overR_out hu]
    | succ i =>
      simp at h
      simp only [valR]
      have e1 : (if k = k + (i + 1) then true else D k) = D k := if_neg (by omega)
      simp only [e1]
      have := valR_add t l D (k + 1) i (if D k then overR (fun _ => x) u0.rs t else x) R u h (by rw [show k + 1 + i = k + (i + 1) by omega]; exact hD)
        (fun j R' u' h1 h2 h3 => hj (j + 1) R' u' (by simpa using h1) (by omega) (by rw [show k + (j + 1) = k + 1 + j by omega]; exact h3))
      rw [← this]
      congr 1
      funext j
      rw [show k + 1 + i = k + (i + 1) by omega]

/-! what waits for what -/
structure Fp where
  re : List Nat
  rr : List Nat
  we : List Nat
  wr : List Nat
def fpOf (x : Foot × Upd) : Fp := ⟨x.1.e, x.1.r, x.2.d.toList, x.2.rs.map (·.1)⟩
def meets (xs ys : List Nat) : Bool := xs.any fun x => ys.any fun y => Nat.beq x y
theorem meets_of {xs ys : List Nat} {t : Nat} (h1 : t ∈ xs) (h2 : t ∈ ys) : meets xs ys = true :=
  List.any_eq_true.2 ⟨t, h1, List.any_eq_true.2 ⟨t, h2, by simp⟩⟩
def conf (f g : Fp) : Bool := meets f.we (g.re ++ g.we) || (meets f.re g.we || (meets f.wr (g.rr ++ g.wr) || meets f.rr g.wr))
def maskStep (acc : List Nat) (s : Nat) (e : Edge) : Nat := if Region.binds .any e then s ||| (2 ^ e.on ||| acc.getD e.on 0) else s
def maskOf (o : Oper) (acc : List Nat) : Nat := o.after.toList.foldl (maskStep acc) 0
def masks : List Oper → List Nat → List Nat
  | [], acc => acc
  | o :: os, acc => masks os (acc ++ [maskOf o acc])
def edgesBack : List Oper → Nat → Bool
  | [], _ => true
  | o :: os, i => (o.after.toList.all fun e => !Region.binds .any e || decide (e.on < i)) && edgesBack os (i + 1)
def chkRow (f : Fp) (m : Nat) : List Fp → Nat → Bool
  | [], _ => true
  | g :: gs, i => (!conf g f || Nat.testBit m i) && chkRow f m gs (i + 1)
def chkRows (ms : List Nat) : List Fp → List Fp → Nat → Bool
  | _, [], _ => true
  | done, f :: rest, j => chkRow f (ms.getD j 0) done 0 && chkRows ms (done ++ [f]) rest (j + 1)
def chk (os : List Oper) (fs : List Fp) : Bool := edgesBack os 0 && chkRows (masks os []) [] fs 0

inductive Anc (os : List Oper) : Nat → Nat → Prop
  | one {i : Nat} {o : Oper} {e : Edge} (h : os[i]? = some o) (he : e ∈ o.after.toList) (hb : Region.binds .any e = true) : Anc os i e.on
  | more {i j : Nat} {o : Oper} {e : Edge} (h : os[i]? = some o) (he : e ∈ o.after.toList) (hb : Region.binds .any e = true) (k : Anc os e.on j) : Anc os i j
theorem maskFold (acc : List Nat) : ∀ (es : List Edge) (s j : Nat), Nat.testBit (es.foldl (maskStep acc) s) j = true → Nat.testBit s j = true ∨ ∃ e, e ∈ es ∧ Region.binds .any e = true ∧ (e.on = j ∨ Nat.testBit (acc.getD e.on 0) j = true)
  | [], s, j, h => .inl h
  | e :: es, s, j, h => by
    rcases maskFold acc es _ j h with h1 | ⟨e', h1, h2, h3⟩
    · unfold maskStep at h1
      by_cases hb : Region.binds .any e = true
      · rw [if_pos hb, Nat.testBit_or, Nat.testBit_or, Bool.or_eq_true, Bool.or_eq_true] at h1
        rcases h1 with h1 | h1 | h1
        · exact .inl h1
        · right
          refine ⟨e, by simp, hb, .inl ?_⟩
          rw [Nat.testBit_two_pow] at h1
          simpa using h1
        · exact .inr ⟨e, by simp, hb, .inr h1⟩
      · rw [if_neg hb] at h1; exact .inl h1
    · exact .inr ⟨e', by simp [h1], h2, h3⟩
theorem masks_anc (os : List Oper) : ∀ (rest : List Oper) (pre : List Oper) (acc : List Nat), os = pre ++ rest → acc.length = pre.length → (∀ i j, Nat.testBit (acc.getD i 0) j = true → Anc os i j) → ∀ i j, Nat.testBit ((masks rest acc).getD i 0) j = true → Anc os i j
  | [], pre, acc, _, _, h, i, j, hb => h i j hb
  | o :: rest, pre, acc, he, hl, h, i, j, hb => by
    refine masks_anc os rest (pre ++ [o]) (acc ++ [maskOf o acc]) (by simp [he]) (by simp [hl]) (fun i j hb => ?_) i j hb
    rw [List.getD_eq_getElem?_getD] at hb
    by_cases hi : i < acc.length
    · rw [List.getElem?_append_left hi, ← List.getD_eq_getElem?_getD] at hb
      exact h i j hb
    · by_cases hi2 : i = acc.length
      · subst hi2
        rw [List.getElem?_append_right (Nat.le_refl _)] at hb
        simp at hb
        rcases maskFold acc o.after.toList 0 j hb with h1 | ⟨e, h1, h2, h3⟩
        · simp at h1
        · have ho : os[acc.length]? = some o := by rw [he, hl, List.getElem?_append_right (Nat.le_refl _)]; simp
          rcases h3 with h3 | h3
          · subst h3; exact .one ho h1 h2
          · exact .more ho h1 h2 (h _ _ h3)
      · rw [List.getElem?_eq_none (by simp; omega)] at hb
        simp at hb
theorem chkRow_get {f : Fp} {m : Nat} : ∀ {gs : List Fp} {k : Nat}, chkRow f m gs k = true → ∀ i g, gs[i]? = some g → conf g f = true → Nat.testBit m (k + i) = true
  | [], k, _, i, g, h, _ => by simp at h
  | g0 :: gs, k, hc, i, g, h, hf => by
    simp only [chkRow, Bool.and_eq_true] at hc
    cases i with
    | zero =>
      simp at h; subst h
      have := hc.1
      rw [hf] at this
      simpa using this
    | succ i =>
      simp at h
      have := chkRow_get hc.2 i g h hf
      rw [show k + (i + 1) = k + 1 + i by omega]; exact this
theorem chkRows_get {ms : List Nat} : ∀ {rest done : List Fp} {j : Nat}, done.length = j → chkRows ms done rest j = true → ∀ q f i g, rest[q]? = some f → (done ++ rest)[i]? = some g → i < j + q → conf g f = true → Nat.testBit (ms.getD (j + q) 0) i = true
  | [], done, j, _, _, q, f, i, g, h, _, _, _ => by simp at h
  | f0 :: rest, done, j, hl, hc, q, f, i, g, h, hg, hi, hf => by
    simp only [chkRows, Bool.and_eq_true] at hc
    cases q with
    | zero =>
      simp at h; subst h
      simp only [Nat.add_zero] at hi ⊢
      rw [List.getElem?_append_left (by omega)] at hg
      have := chkRow_get hc.1 i g hg hf
      simpa using this
    | succ q =>
      simp at h
      have := chkRows_get (rest := rest) (done := done ++ [f0]) (j := j + 1) (by simp [hl]) hc.2 q f i g h (by simpa using hg) (by omega) hf
      rw [show j + (q + 1) = j + 1 + q by omega]; exact this
theorem chk_anc {os : List Oper} {fs : List Fp} (h : chk os fs = true) {i j : Nat} {f g : Fp} (hj : fs[j]? = some f) (hi : fs[i]? = some g) (hij : i < j) (hc : conf g f = true) : Anc os j i := by
  simp only [chk, Bool.and_eq_true] at h
  have := chkRows_get (done := []) (j := 0) rfl h.2 j f i g hj (by simpa using hi) (by omega) hc
  simp only [Nat.zero_add] at this
  exact masks_anc os os [] [] rfl rfl (fun i j hb => by simp at hb) j i this
theorem edgesBack_get : ∀ {os : List Oper} {k : Nat}, edgesBack os k = true → ∀ i o, os[i]? = some o → ∀ e, e ∈ o.after.toList → Region.binds .any e = true → e.on < k + i
  | [], k, _, i, o, h, _, _, _ => by simp at h
  | o0 :: os, k, hc, i, o, h, e, he, hb => by
    simp only [edgesBack, Bool.and_eq_true] at hc
    cases i with
    | zero =>
      simp at h; subst h
      have := List.all_eq_true.1 hc.1 e he
      rw [hb] at this
      simpa using this
    | succ i =>
      simp at h
      have := edgesBack_get hc.2 i o h e he hb
      omega

end Go.Sym
