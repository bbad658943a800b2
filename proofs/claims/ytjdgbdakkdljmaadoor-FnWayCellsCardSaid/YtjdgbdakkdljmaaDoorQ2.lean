/-
  What single operations do to an abstract state; nothing of the program stands here.
-/
import Derived.Test.YtjdgbdakkdljmaaDoorQ1
import Derived.Laws.Tables
import Derived.Laws.Entries
import Derived.Laws.OwnMore
import Derived.IntWalk
set_option linter.unusedVariables false
namespace Go.Sym
open Go Go.RowKit

/-! ### types -/
inductive ZK where
  | int (k : IntKind) | bool | str | nilsl | nilptr
def ZK.val : ZK → Value
  | .int k => .int k 0
  | .bool => .bool false
  | .str => .string .empty
  | .nilsl => .slice none 0 0
  | .nilptr => .pointer none
def ZK.is : ZK → Value → Bool
  | .int k, .int k' n => k == k' && n == 0
  | .bool, .bool b => !b
  | .str, .string s => s.data.isEmpty
  | .nilsl, .slice none n c => n == 0 && c == 0
  | .nilptr, .pointer none => true
  | _, _ => false
theorem ZK.is_val {z : ZK} {v : Value} (h : z.is v = true) : v = z.val := by
  cases z <;> cases v <;> simp [ZK.is] at h <;> try (simp [ZK.val]; done)
  · obtain ⟨rfl, rfl⟩ := h; rfl
  · subst h; rfl
  · rename_i s
    obtain ⟨d⟩ := s
    simp at h
    subst h; rfl
  · rename_i a n c
    cases a <;> simp at h
    obtain ⟨rfl, rfl⟩ := h; rfl
  · rename_i a
    cases a <;> simp at h
    rfl
def isZs : List ZK → List Value → Bool
  | [], [] => true
  | z :: zs, v :: vs => z.is v && isZs zs vs
  | _, _ => false
theorem isZs_val : ∀ {zs : List ZK} {vs : List Value}, isZs zs vs = true → vs = zs.map ZK.val
  | [], [], _ => rfl
  | z :: zs, v :: vs, h => by
    simp [isZs] at h
    rw [ZK.is_val h.1, isZs_val h.2]; rfl
  | [], _ :: _, h => by simp [isZs] at h
  | _ :: _, [], h => by simp [isZs] at h
inductive TyU where
  | slice (e : Nat) | str | int (k : IntKind) | bool | struct (fs : List (Nat × Nat × Nat)) | ptr
structure TyI where
  agg : Bool
  size : Nat
  bytes : Nat
  zero : List ZK
  u : TyU
def chkU (P : Program) : TypeDesc → TyU → Bool → Bool
  | .slice e, .slice e', agg => e == e' && !agg
  | .string, .str, agg => !agg
  | .int k, .int k', agg => k == k' && !agg
  | .bool, .bool, agg => !agg
  | .struct fs, .struct l, agg => agg && (fs.toList.map fun f => (f.offset, f.type, ((P.info? f.type).map (·.size)).getD 0)) == l
  | .pointer _, .ptr, agg => !agg
  | _, _, _ => false
def chkT (P : Program) (t : Nat) (i : TyI) : Bool :=
  match P.info? t, P.underlying t with
  | some inf, some d => inf.size == i.size && inf.bytes == i.bytes && (match inf.zero with | some z => isZs i.zero z.cells.toList | none => false) && chkU P d i.u i.agg
  | _, _ => false
def lkT : List (Nat × TyI) → Nat → Option TyI
  | [], _ => none
  | (s, i) :: l, t => bif Nat.beq s t then some i else lkT l t
def chkAll (P : Program) : List (Nat × TyI) → Bool
  | [] => true
  | (t, i) :: l => chkT P t i && chkAll P l
def TabOk (P : Program) (T : List (Nat × TyI)) : Prop := chkAll P T = true
theorem TabOk.get {P : Program} : ∀ {T : List (Nat × TyI)}, TabOk P T → ∀ {t : Nat} {i : TyI}, lkT T t = some i → chkT P t i = true
  | [], _, t, i, h => by simp [lkT] at h
  | (s, j) :: l, hT, t, i, h => by
    simp only [TabOk, chkAll, Bool.and_eq_true] at hT
    simp only [lkT] at h
    cases e : Nat.beq s t
    · rw [e] at h; exact TabOk.get (T := l) hT.2 h
    · rw [e] at h
      simp at h
      subst h
      have := Nat.eq_of_beq_eq_true e
      subst this
      exact hT.1
structure Known (P : Program) (t : Nat) (i : TyI) (inf : TypeInfo) (d : TypeDesc) : Prop where
  info : P.info? t = some inf
  und : P.underlying t = some d
  size : inf.size = i.size
  bytes : inf.bytes = i.bytes
  zero : ∃ z, inf.zero = some z ∧ z.cells.toList = i.zero.map ZK.val
  u : chkU P d i.u i.agg = true
theorem TabOk.known {P : Program} {T : List (Nat × TyI)} (hT : TabOk P T) {t : Nat} {i : TyI} (h : lkT T t = some i) : ∃ inf d, Known P t i inf d := by
  have hc := hT.get h
  unfold chkT at hc
  cases h1 : P.info? t with
  | none => simp [h1] at hc
  | some inf =>
    cases h2 : P.underlying t with
    | none => simp [h1, h2] at hc
    | some d =>
      simp only [h1, h2, Bool.and_eq_true, beq_iff_eq] at hc
      obtain ⟨⟨⟨a, b⟩, c⟩, e⟩ := hc
      refine ⟨inf, d, h1, h2, a, b, ?_, e⟩
      cases h3 : inf.zero with
      | none => simp [h3] at c
      | some z => simp only [h3] at c; exact ⟨z, rfl, isZs_val c⟩
theorem Known.slice {P : Program} {t : Nat} {i : TyI} {inf : TypeInfo} {d : TypeDesc} (h : Known P t i inf d) {e : Nat} (hu : i.u = .slice e) : P.underlying t = some (.slice e) := by
  have := h.u
  rw [hu] at this
  cases d <;> simp [chkU] at this
  rw [h.und, this.1]
theorem Known.str {P : Program} {t : Nat} {i : TyI} {inf : TypeInfo} {d : TypeDesc} (h : Known P t i inf d) (hu : i.u = .str) : P.underlying t = some .string := by
  have := h.u
  rw [hu] at this
  cases d <;> simp [chkU] at this
  rw [h.und]
theorem Known.int {P : Program} {t : Nat} {i : TyI} {inf : TypeInfo} {d : TypeDesc} (h : Known P t i inf d) {k : IntKind} (hu : i.u = .int k) : P.underlying t = some (.int k) := by
  have := h.u
  rw [hu] at this
  cases d <;> simp [chkU] at this
  rw [h.und, this.1]
theorem Known.struct {P : Program} {t : Nat} {i : TyI} {inf : TypeInfo} {d : TypeDesc} (h : Known P t i inf d) {l : List (Nat × Nat × Nat)} (hu : i.u = .struct l) :
    ∃ fs : Array Field, P.underlying t = some (.struct fs) ∧ (fs.toList.map fun f => (f.offset, f.type, ((P.info? f.type).map (·.size)).getD 0)) = l := by
  have := h.u
  rw [hu] at this
  cases d <;> simp [chkU] at this
  rename_i fs
  exact ⟨fs, h.und, this.2⟩
theorem run_sizeOf_known {P : Program} {t : Nat} {inf : TypeInfo} (h : P.info? t = some inf) (w : World) : (sizeOf t).run P w = .ok inf.size w := by
  simp [sizeOf, typeInfo, h]
theorem Known.run_agg {P : Program} {t : Nat} {i : TyI} {inf : TypeInfo} {d : TypeDesc} (h : Known P t i inf d) (w : World) : (isAgg t).run P w = .ok i.agg w := by
  have hu := h.u
  cases d <;> cases hiu : i.u <;> simp [chkU, hiu] at hu <;> simp [Go.isAgg, run_underlying h.und, hu]

/-! ### states -/
def lkE : List (Nat × AV) → Nat → AV
  | [], _ => .any
  | (d, x) :: e, t => bif Nat.beq d t then x else lkE e t
def lkR : List (Nat × Option Row) → Nat → Option Row
  | [], _ => none
  | (d, x) :: e, t => bif Nat.beq d t then x else lkR e t
def mkSt (E : List (Nat × AV)) (H : List (Nat × Option Row)) : St := ⟨lkE E, lkR H⟩
def overR (f : Nat → Option Row) : List (Nat × Option Row) → Nat → Option Row
  | [], t => f t
  | (d, x) :: e, t => bif Nat.beq d t then x else overR f e t
def St.rowsUpd (σ : St) (rs : List (Nat × Option Row)) : St := { σ with row := overR σ.row rs }
def St.upd (σ : St) (d : Option Nat) (x : AV) (rs : List (Nat × Option Row)) : St :=
  match d with
  | some d => (σ.rowsUpd rs).put d x
  | none => σ.rowsUpd rs
theorem lkR_append (rs H : List (Nat × Option Row)) (t : Nat) : lkR (rs ++ H) t = overR (lkR H) rs t := by
  induction rs with
  | nil => rfl
  | cons a rs ih => obtain ⟨d, x⟩ := a; simp only [List.cons_append, lkR, overR, ih]
theorem upd_mk (E : List (Nat × AV)) (H rs : List (Nat × Option Row)) (d : Option Nat) (x : AV) :
    (mkSt E H).upd d x rs = mkSt (match d with | some d => (d, x) :: E | none => E) (rs ++ H) := by
  have hr : ∀ t, overR (lkR H) rs t = lkR (rs ++ H) t := fun t => (lkR_append rs H t).symm
  cases d with
  | none => simp only [St.upd, St.rowsUpd, mkSt]; congr 1; funext t; exact hr t
  | some d =>
    simp only [St.upd, St.rowsUpd, mkSt, St.put]
    congr 1
    · funext t
      simp only [lkE]
      by_cases e : t = d
      · subst e; simp
      · rw [if_neg e]
        have : Nat.beq d t = false := by
          cases hb : Nat.beq d t
          · rfl
          · exact absurd (Nat.eq_of_beq_eq_true hb).symm e
        rw [this]; rfl
    · funext t; exact hr t
theorem set_eq_upd (σ : St) (r : Nat) (o : Option Row) : σ.set r o = σ.rowsUpd [(r, o)] := by
  simp only [St.set, St.rowsUpd, overR]
  congr 1
  funext t
  by_cases e : t = r
  · subst e; simp
  · rw [if_neg e]
    have : Nat.beq r t = false := by
      cases hb : Nat.beq r t
      · rfl
      · exact absurd (Nat.eq_of_beq_eq_true hb).symm e
    rw [this]; rfl
theorem rowsUpd_nil (σ : St) : σ.rowsUpd [] = σ := rfl

def St.ev (σ : St) : Operand → AV
  | .tmp t => σ.env t
  | .const c => .v c
  | .global _ => .any
  | .func f => .v (.func (.func f) #[] #[])
theorem SimAt.ev {F : Fr} {φ : Nat → Value} {Z : Nat → Prop} {σ : St} {a : Act} {w : World} (h : SimAt F φ Z σ a w) (x : Operand) : relV (cxOf φ Z σ w) (σ.ev x) (a.eval x) := by
  cases x with
  | tmp t => exact h.env t
  | const c => simp [St.ev, relV, Act.eval]
  | global g => simp [St.ev, relV]
  | func f => simp [St.ev, relV, Act.eval]

structure Foot where
  e : List Nat
  r : List Nat
def fo : Operand → List Nat
  | .tmp t => [t]
  | _ => []
def Agree (R : Foot) (τ σ : St) : Prop := (∀ t, t ∈ R.e → τ.env t = σ.env t) ∧ (∀ r, r ∈ R.r → τ.row r = σ.row r)
theorem Agree.ev {R : Foot} {τ σ : St} (h : Agree R τ σ) {x : Operand} (hx : ∀ t, t ∈ fo x → t ∈ R.e) : τ.ev x = σ.ev x := by
  cases x with
  | tmp t => exact h.1 t (hx t (by simp [fo]))
  | _ => rfl

/-- operation o, in every state that agrees with σ on R, leaves x in its slot and turns the rows rs -/
structure Does (P : Program) (nt : Nat) (o : Oper) (R : Foot) (x : AV) (rs : List (Nat × Option Row)) (σ : St) : Prop where
  out : ∀ τ, Agree R τ σ → ∀ F, F.nt = nt → ∀ a w, Sim F τ a w → ∀ (Q : Exit → Act → World → Prop) (K : Act → World → Prop), (∀ u w', Sim F (τ.upd o.dst x rs) (a.put o.dst u) w' → K (a.put o.dst u) w') → o.wp P a w K Q

def dstOk (nt : Nat) : Option Nat → Bool
  | none => true
  | some d => decide (d < nt)

theorem does_run {P : Program} {nt : Nat} {o : Oper} {R : Foot} {x : AV} {rs : List (Nat × Option Row)} {σ : St} (hd : dstOk nt o.dst = true)
    (h : ∀ τ, Agree R τ σ → ∀ F φ Z a w, F.nt = nt → SimAt F φ Z τ a w → ∃ u w' φ' Z', (execOp a.eval o).run P w = .ok (.value u) w' ∧ SimAt F φ' Z' (τ.rowsUpd rs) a w' ∧ relV (cxOf φ' Z' (τ.rowsUpd rs) w') x u) :
    Does P nt o R x rs σ := by
  refine ⟨?_⟩
  intro τ hag F hF a w hS Q K hK
  obtain ⟨φ, Z, hS⟩ := hS
  obtain ⟨u, w', φ', Z', hr, hS', hx⟩ := h τ hag F φ Z a w hF hS
  unfold Oper.wp
  rw [hr]
  refine hK u w' ⟨φ', Z', ?_⟩
  cases hdst : o.dst with
  | none => exact hS'
  | some d =>
    rw [hdst] at hd
    simp [dstOk] at hd
    exact hS'.put (by omega) hx
/-- nothing of the world turns -/
theorem does_pure {P : Program} {nt : Nat} {o : Oper} {R : Foot} {x : AV} {σ : St} (hd : dstOk nt o.dst = true)
    (h : ∀ τ, Agree R τ σ → ∀ F φ Z a w, F.nt = nt → SimAt F φ Z τ a w → ∃ u, (execOp a.eval o).run P w = .ok (.value u) w ∧ relV (cxOf φ Z τ w) x u) :
    Does P nt o R x [] σ :=
  does_run hd fun τ hag F φ Z a w hF hS => by
    obtain ⟨u, hr, hx⟩ := h τ hag F φ Z a w hF hS
    exact ⟨u, w, φ, Z, hr, hS, hx⟩
theorem does_skip {P : Program} {nt : Nat} {o : Oper} {R : Foot} {rs : List (Nat × Option Row)} {σ : St} (hd : o.dst = none)
    (h : ∀ τ, Agree R τ σ → ∀ F φ Z a w, F.nt = nt → SimAt F φ Z τ a w → ∃ w' φ' Z', (execOp a.eval o).run P w = .ok .skip w' ∧ SimAt F φ' Z' (τ.rowsUpd rs) a w') :
    Does P nt o R .any rs σ := by
  refine ⟨?_⟩
  intro τ hag F hF a w hS Q K hK
  obtain ⟨φ, Z, hS⟩ := hS
  obtain ⟨w', φ', Z', hr, hS'⟩ := h τ hag F φ Z a w hF hS
  unfold Oper.wp
  rw [hr]
  show K (a.put o.dst undef) w'
  refine hK undef w' ⟨φ', Z', ?_⟩
  rw [hd]
  exact hS'

section
variable {P : Program} {nt : Nat} {σ : St} {dst : Option Nat} {ty : Nat} {pos : String} {aft : Array Edge} {gd : Option (Nat × Bool)}

theorem does_move {x : Operand} (hd : dstOk nt dst = true) : Does P nt ⟨dst, .move x, ty, pos, aft, gd⟩ ⟨fo x, []⟩ (σ.ev x) [] σ :=
  does_pure hd fun τ hag F φ Z a w hF hS => ⟨a.eval x, by simp [execOp], by rw [← hag.ev (fun t h => h)]; exact hS.ev x⟩
theorem does_assign {x : Operand} (hd : dstOk nt dst = true) : Does P nt ⟨dst, .assign x, ty, pos, aft, gd⟩ ⟨fo x, []⟩ (σ.ev x) [] σ :=
  does_pure hd fun τ hag F φ Z a w hF hS => ⟨a.eval x, by simp [execOp], by rw [← hag.ev (fun t h => h)]; exact hS.ev x⟩
theorem does_pick {c x y : Operand} {b : Bool} (hd : dstOk nt dst = true) (hc : σ.ev c = .bool b) :
    Does P nt ⟨dst, .pick c x y, ty, pos, aft, gd⟩ ⟨fo c ++ (fo x ++ fo y), []⟩ (bif b then σ.ev x else σ.ev y) [] σ :=
  does_pure hd fun τ hag F φ Z a w hF hS => by
    have e1 : τ.ev c = σ.ev c := hag.ev (fun t h => by simp [h])
    have e2 : τ.ev x = σ.ev x := hag.ev (fun t h => by simp [h])
    have e3 : τ.ev y = σ.ev y := hag.ev (fun t h => by simp [h])
    have h1 := hS.ev c
    rw [e1, hc] at h1
    simp [relV] at h1
    refine ⟨if b then a.eval x else a.eval y, by simp [execOp, h1, asBool], ?_⟩
    cases b
    · simp only [cond_false]; rw [← e3]; exact hS.ev y
    · simp only [cond_true]; rw [← e2]; exact hS.ev x

theorem relV_int {cx : Cx} {k : IntKind} {z : Int} {u : Value} (h : relV cx (.v (.int k z)) u) : u = .int k z := by simpa [relV] using h
theorem ev_v {x : Operand} {c : Value} {R : Foot} {τ : St} {F : Fr} {φ : Nat → Value} {Z : Nat → Prop} {a : Act} {w : World} (hag : Agree R τ σ) (hS : SimAt F φ Z τ a w) (hx : σ.ev x = .v c) (hR : ∀ t, t ∈ fo x → t ∈ R.e) : a.eval x = c := by
  have h1 := hS.ev x
  rw [hag.ev hR, hx] at h1
  simpa [relV] using h1
theorem ev_rel {x : Operand} {c : AV} {R : Foot} {τ : St} {F : Fr} {φ : Nat → Value} {Z : Nat → Prop} {a : Act} {w : World} (hag : Agree R τ σ) (hS : SimAt F φ Z τ a w) (hx : σ.ev x = c) (hR : ∀ t, t ∈ fo x → t ∈ R.e) : relV (cxOf φ Z τ w) c (a.eval x) := by
  have h1 := hS.ev x
  rw [hag.ev hR, hx] at h1
  exact h1

/-! arithmetic -/
theorem does_add {t t' : Nat} {x y : Operand} {i j : Int} {k : IntKind} (hd : dstOk nt dst = true) (hx : σ.ev x = .v (.int k i)) (hy : σ.ev y = .v (.int k j)) (hw : k.wrap (i + j) = i + j) :
    Does P nt ⟨dst, .binOp .add t x y t', ty, pos, aft, gd⟩ ⟨fo x ++ fo y, []⟩ (.v (.int k (i + j))) [] σ :=
  does_pure hd fun τ hag F φ Z a w hF hS =>
    ⟨.int k (i + j), by simp [execOp, eqGuard, binOp, Op.intArith, ev_v hag hS hx (by simp +contextual), ev_v hag hS hy (by simp +contextual), hw], by simp [relV]⟩
theorem does_sub {t t' : Nat} {x y : Operand} {i j : Int} {k : IntKind} (hd : dstOk nt dst = true) (hx : σ.ev x = .v (.int k i)) (hy : σ.ev y = .v (.int k j)) (hw : k.wrap (i - j) = i - j) :
    Does P nt ⟨dst, .binOp .sub t x y t', ty, pos, aft, gd⟩ ⟨fo x ++ fo y, []⟩ (.v (.int k (i - j))) [] σ :=
  does_pure hd fun τ hag F φ Z a w hF hS =>
    ⟨.int k (i - j), by simp [execOp, eqGuard, binOp, Op.intArith, ev_v hag hS hx (by simp +contextual), ev_v hag hS hy (by simp +contextual), hw], by simp [relV]⟩
theorem does_mul {t t' : Nat} {x y : Operand} {i j : Int} {k : IntKind} (hd : dstOk nt dst = true) (hx : σ.ev x = .v (.int k i)) (hy : σ.ev y = .v (.int k j)) (hw : k.wrap (i * j) = i * j) :
    Does P nt ⟨dst, .binOp .mul t x y t', ty, pos, aft, gd⟩ ⟨fo x ++ fo y, []⟩ (.v (.int k (i * j))) [] σ :=
  does_pure hd fun τ hag F φ Z a w hF hS =>
    ⟨.int k (i * j), by simp [execOp, eqGuard, binOp, Op.intArith, ev_v hag hS hx (by simp +contextual), ev_v hag hS hy (by simp +contextual), hw], by simp [relV]⟩
theorem does_lss {t t' : Nat} {x y : Operand} {i j : Int} {k : IntKind} (hd : dstOk nt dst = true) (hx : σ.ev x = .v (.int k i)) (hy : σ.ev y = .v (.int k j)) :
    Does P nt ⟨dst, .binOp .lss t x y t', ty, pos, aft, gd⟩ ⟨fo x ++ fo y, []⟩ (.bool (decide (i < j))) [] σ :=
  does_pure hd fun τ hag F φ Z a w hF hS =>
    ⟨.bool (decide (i < j)), by simp [execOp, eqGuard, binOp, Op.intCmp, ev_v hag hS hx (by simp +contextual), ev_v hag hS hy (by simp +contextual)], by simp [relV]⟩
theorem does_leq {t t' : Nat} {x y : Operand} {i j : Int} {k : IntKind} (hd : dstOk nt dst = true) (hx : σ.ev x = .v (.int k i)) (hy : σ.ev y = .v (.int k j)) :
    Does P nt ⟨dst, .binOp .leq t x y t', ty, pos, aft, gd⟩ ⟨fo x ++ fo y, []⟩ (.bool (decide (i ≤ j))) [] σ :=
  does_pure hd fun τ hag F φ Z a w hF hS =>
    ⟨.bool (decide (i ≤ j)), by simp [execOp, eqGuard, binOp, Op.intCmp, ev_v hag hS hx (by simp +contextual), ev_v hag hS hy (by simp +contextual)], by simp [relV]⟩
theorem does_gtr {t t' : Nat} {x y : Operand} {i j : Int} {k : IntKind} (hd : dstOk nt dst = true) (hx : σ.ev x = .v (.int k i)) (hy : σ.ev y = .v (.int k j)) :
    Does P nt ⟨dst, .binOp .gtr t x y t', ty, pos, aft, gd⟩ ⟨fo x ++ fo y, []⟩ (.bool (decide (j < i))) [] σ :=
  does_pure hd fun τ hag F φ Z a w hF hS =>
    ⟨.bool (decide (j < i)), by simp [execOp, eqGuard, binOp, Op.intCmp, ev_v hag hS hx (by simp +contextual), ev_v hag hS hy (by simp +contextual)], by simp [relV]⟩
theorem does_geq {t t' : Nat} {x y : Operand} {i j : Int} {k : IntKind} (hd : dstOk nt dst = true) (hx : σ.ev x = .v (.int k i)) (hy : σ.ev y = .v (.int k j)) :
    Does P nt ⟨dst, .binOp .geq t x y t', ty, pos, aft, gd⟩ ⟨fo x ++ fo y, []⟩ (.bool (decide (j ≤ i))) [] σ :=
  does_pure hd fun τ hag F φ Z a w hF hS =>
    ⟨.bool (decide (j ≤ i)), by simp [execOp, eqGuard, binOp, Op.intCmp, ev_v hag hS hx (by simp +contextual), ev_v hag hS hy (by simp +contextual)], by simp [relV]⟩
theorem does_eql {t t' : Nat} {x y : Operand} {i j : Int} {k : IntKind} (hd : dstOk nt dst = true) (hx : σ.ev x = .v (.int k i)) (hy : σ.ev y = .v (.int k j)) :
    Does P nt ⟨dst, .binOp .eql t x y t', ty, pos, aft, gd⟩ ⟨fo x ++ fo y, []⟩ (.bool (decide (i = j))) [] σ :=
  does_pure hd fun τ hag F φ Z a w hF hS =>
    ⟨.bool (decide (i = j)), by simp [execOp, eqGuard, binOp, Op.intCmp, ev_v hag hS hx (by simp +contextual), ev_v hag hS hy (by simp +contextual)]; rfl, by simp [relV]⟩
theorem does_neq {t t' : Nat} {x y : Operand} {i j : Int} {k : IntKind} (hd : dstOk nt dst = true) (hx : σ.ev x = .v (.int k i)) (hy : σ.ev y = .v (.int k j)) :
    Does P nt ⟨dst, .binOp .neq t x y t', ty, pos, aft, gd⟩ ⟨fo x ++ fo y, []⟩ (.bool (decide (i ≠ j))) [] σ :=
  does_pure hd fun τ hag F φ Z a w hF hS =>
    ⟨.bool (decide (i ≠ j)), by simp [execOp, eqGuard, binOp, Op.intCmp, ev_v hag hS hx (by simp +contextual), ev_v hag hS hy (by simp +contextual)]; rfl, by simp [relV]⟩
theorem does_not {t : Nat} {x : Operand} {b : Bool} (hd : dstOk nt dst = true) (hx : σ.ev x = .bool b) :
    Does P nt ⟨dst, .unOp .not t x, ty, pos, aft, gd⟩ ⟨fo x, []⟩ (.bool (!b)) [] σ :=
  does_pure hd fun τ hag F φ Z a w hF hS =>
    ⟨.bool (!b), by simp [execOp, Op.unary, ev_v hag hS hx (by simp)], by simp [relV]⟩
end

end Go.Sym
