/-
  Calls that write into a row of the caller's own, on abstract states.
-/
import Derived.Test.YtjdgbdakkdljmaaDoorQA
import Derived.Laws.Cover3
set_option linter.unusedVariables false
set_option linter.unusedSimpArgs false
namespace Go.Sym
open Go Go.RowKit Go.Park Go.Proofs.YtjdgbdakkdljmaaDoor

/-- f, of a row's slice (within what mk tells) and a constant: turns the row's cells, gives c -/
def FnM (P : Program) (f : Nat) (mk : Value → Value) (kk : Value) (ty sz : Nat) (cs cs' : List AV) (c : Value) : Prop :=
  Enters P f ∧ pureL cs' ∧ cs'.length = cs.length ∧ ∀ w n xs t, w.ownsRow 0 ty sz t n xs → cs.length = n * sz → Calls P f #[mk t, kk] w fun e w' => e = .returned c ∧ w.grownBy w' t.ownBlock ∧ ∃ xs', w'.ownsRow 0 ty sz t n xs' ∧ (∀ cx, relL cx cs' xs') ∧ ∀ u, u ∈ xs' → u.oneCell' = true
/-- the value holds the row's slice -/
inductive MkV : AV → Nat → Nat → (Value → Value) → Prop
  | own (r k : Nat) : MkV (.own r k) r k (fun t => t)
  | hall (a b : Value) (r k : Nat) : MkV (.agg [.v a, .v b, .own r k]) r k (fun t => .agg #[a, b, t])
theorem mkV_rel {F : Fr} {φ : Nat → Value} {Z : Nat → Prop} {σ : St} {a : Act} {w : World} (hS : SimAt F φ Z σ a w) {y : AV} {r k : Nat} {mk : Value → Value} (h : MkV y r k mk) {row : Row} (hr : σ.row r = some row) (hv : row.ver = k) {u : Value} (hu : relV (cxOf φ Z σ w) y u) : u = mk (φ r) := by
  cases h with
  | own => exact own_open hS hr hv hu
  | hall a b =>
    rw [relV] at hu
    obtain ⟨vs, rfl, hu⟩ := hu
    rw [relL] at hu
    obtain ⟨u0, us0, rfl, h0, hu⟩ := hu
    rw [relL] at hu
    obtain ⟨u1, us1, rfl, h1, hu⟩ := hu
    rw [relL] at hu
    obtain ⟨u2, us2, rfl, h2, hu⟩ := hu
    rw [relL] at hu
    subst hu
    rw [relV] at h0 h1
    subst h0 h1
    rw [own_open hS hr hv h2]
theorem does_mark {P : Program} {nt : Nat} {σ : St} {dst : Option Nat} {ty : Nat} {pos : String} {aft : Array Edge} {gd : Option (Nat × Bool)} {f : Nat} {x x' : Operand} {at' : Array TypeId} {mk : Value → Value} {kk c : Value} {cs cs' : List AV} {y : AV} {r k rt rz : Nat} {row : Row} (hd : dstOk nt dst = true)
    (hfn : FnM P f mk kk rt rz cs cs' c) (hy : σ.ev x = y) (hmk : MkV y r k mk) (hr : σ.row r = some row) (hv : row.ver = k) (hk : σ.ev x' = .v kk) (ht : row.ty = rt) (hz : row.sz = rz) (hc : row.cs = cs) :
    Does P nt ⟨dst, .call ⟨.value (.func f), #[x, x'], at'⟩, ty, pos, aft, gd⟩ ⟨fo x ++ fo x', [r]⟩ (.v c) [(r, some ⟨row.ty, row.sz, row.ver, true, row.box, cs'⟩)] σ := by
  subst ht hz hc
  refine ⟨?_⟩
  intro τ hag F hF a w hS Q K hK
  obtain ⟨φ, Z, hS⟩ := hS
  have hr' : τ.row r = some row := by rw [hag.2 r (by simp)]; exact hr
  have h1 : a.eval x = mk (φ r) := mkV_rel hS hmk hr' hv (by rw [← hy, ← hag.ev (fun t h => by simp [h])]; exact hS.ev x)
  have h2 : a.eval x' = kk := by
    have := hS.ev x'
    rw [hag.ev (σ := σ) (fun t h => by simp [h]), hk] at this
    simpa [relV] using this
  obtain ⟨n, xs, hm⟩ := rowMem hS hr'
  have hcall := hfn.2.2.2 w n xs (φ r) hm.own hm.len
  unfold Oper.wp
  have hrun : (execOp a.eval ⟨dst, .call ⟨.value (.func f), #[x, x'], at'⟩, ty, pos, aft, gd⟩).run P w = .ok (.enter f #[mk (φ r), kk]) w := by
    simp [execOp, resolve, Act.eval, Deferred.ofValue, invoke, run_callFunc hfn.1] at h1 h2 ⊢
    simp [h1, h2, run_callFunc hfn.1]
  rw [hrun, Oper.upon_enter]
  refine hcall.mono ?_
  rintro e w' ⟨rfl, hg, xs', ho, hrel, hone⟩
  show K (a.put dst c) w'
  refine hK c w' ?_
  have hrr := hS.rows r row hr'
  have htn := hS.turn (r := r) (row := row) (row' := ⟨row.ty, row.sz, row.ver, true, row.box, cs'⟩) (t' := φ r) (w' := w') hr' hg (Nat.le_refl _) (fun _ => rfl)
    (fun hcx => ⟨hrr.sz, fun _ => hfn.2.1, hrr.box, hrr.blk, n, xs', ho, by show cs'.length = _; rw [hfn.2.2.1]; exact hm.len, hrel _, hone⟩)
    (fun g' h => .inl h) (fun _ => rfl)
  rw [set_eq_upd] at htn
  cases dst with
  | none => exact ⟨_, Z, htn.1⟩
  | some d =>
    simp [dstOk] at hd
    exact ⟨_, Z, htn.1.put (by omega) (by simp [relV])⟩
section
variable {P : Program} {nt : Nat} {E : List (Nat × AV)} {H : Hp} {dst : Option Nat} {ty : Nat} {pos : String} {aft : Array Edge} {gd : Option (Nat × Bool)} {f : Nat} {at' : Array TypeId}
theorem st_mark {x x' : Operand} {mk : Value → Value} {kk c : Value} {cs cs' : List AV} {y : AV} {r k rt rz : Nat} {row : Row} (hfn : FnM P f mk kk rt rz cs cs' c) (hd : dstOk nt dst = true)
    (hy : (mkS E H).ev x = y) (hmk : MkV y r k mk) (hr : (mkS E H).row r = some row) (hv : row.ver = k) (hk : (mkS E H).ev x' = .v kk) (ht : row.ty = rt) (hz : row.sz = rz) (hc : row.cs = cs) :
    Does P nt ⟨dst, .call ⟨.value (.func f), #[x, x'], at'⟩, ty, pos, aft, gd⟩ ⟨fo x ++ fo x', [r]⟩ (.v c) [(r, some ⟨row.ty, row.sz, row.ver, true, row.box, cs'⟩)] (mkS E H) :=
  does_mark hd hfn hy hmk hr hv hk ht hz hc
end

/-! tests that are decided -/
section
variable {P : Program} {T : List (Nat × TyI)} {nt : Nat} {ops : Array Oper} {os : List Oper} {fs : List Fp} {E : List (Nat × AV)} {H : Hp} {K : List Fp → St → Prop} {Φ : Exit → St → Prop}
theorem rh_know_t {op : Op} {dst : Option Nat} {ty : Nat} {pos : String} {aft : Array Edge} {g d : Nat} {b : Bool} {p : Prop} {hdec : Decidable p} (hd : (ops[g]?).bind (·.dst) = some d) (hv : lkE E d = .bool (decide p)) (hp : p) (h : RunsH P nt ops (⟨dst, op, ty, pos, aft, some (g, b)⟩ :: os) fs ((d, .bool true) :: E) H K) :
    RunsH P nt ops (⟨dst, op, ty, pos, aft, some (g, b)⟩ :: os) fs E H K := rh_split hd hv (fun _ => h) (fun e => by simp [hp] at e)
theorem rh_know_f {op : Op} {dst : Option Nat} {ty : Nat} {pos : String} {aft : Array Edge} {g d : Nat} {b : Bool} {p : Prop} {hdec : Decidable p} (hd : (ops[g]?).bind (·.dst) = some d) (hv : lkE E d = .bool (decide p)) (hp : ¬ p) (h : RunsH P nt ops (⟨dst, op, ty, pos, aft, some (g, b)⟩ :: os) fs ((d, .bool false) :: E) H K) :
    RunsH P nt ops (⟨dst, op, ty, pos, aft, some (g, b)⟩ :: os) fs E H K := rh_split hd hv (fun e => by simp [hp] at e) (fun _ => h)
theorem ax_know_t {c : Operand} {x y : Code} {σ : St} {p : Prop} {hdec : Decidable p} (hc : σ.ev c = .bool (decide p)) (hp : p) (h : AX P nt x σ Φ) : AX P nt (.cond c x y) σ Φ := ax_cond hc (fun _ => h) (fun e => by simp [hp] at e)
theorem ax_know_f {c : Operand} {x y : Code} {σ : St} {p : Prop} {hdec : Decidable p} (hc : σ.ev c = .bool (decide p)) (hp : ¬ p) (h : AX P nt y σ Φ) : AX P nt (.cond c x y) σ Φ := ax_cond hc (fun e => by simp [hp] at e) (fun _ => h)
end
theorem Known.bool {P : Program} {t : Nat} {i : TyI} {inf : TypeInfo} {d : TypeDesc} (h : Known P t i inf d) (hu : i.u = .bool) : P.underlying t = some .bool := by
  have := h.u
  rw [hu] at this
  cases d <;> simp [chkU] at this
  exact h.und
section
variable {P : Program} {T : List (Nat × TyI)} {nt : Nat} {E : List (Nat × AV)} {H : Hp} {dst : Option Nat} {ty : Nat} {pos : String} {aft : Array Edge} {gd : Option (Nat × Bool)}
theorem does_neqb (hT : TabOk P T) {t t' : Nat} {i : TyI} {x y : Operand} {a b : Bool} (hd : dstOk nt dst = true) (ht : lkT T t = some i) (hu : i.u = .bool) (hx : (mkS E H).ev x = .bool a) (hy : (mkS E H).ev y = .bool b) :
    Does P nt ⟨dst, .binOp .neq t x y t', ty, pos, aft, gd⟩ ⟨fo x ++ fo y, []⟩ (.bool (!(a == b))) [] (mkS E H) :=
  does_pure hd fun τ hag F φ Z a' w hF hS => by
    obtain ⟨inf, d, hk⟩ := hT.known ht
    exact ⟨.bool (!(a == b)), by simp [execOp, eqGuard, binOp, run_equal_bool _ _ _ _ (hk.bool hu), ev_v hag hS hx (by simp +contextual), ev_v hag hS hy (by simp +contextual)], by simp [relV]⟩
theorem does_neqb_same (hT : TabOk P T) {t t' : Nat} {i : TyI} {x y : Operand} {a b : Bool} (hd : dstOk nt dst = true) (ht : lkT T t = some i) (hu : i.u = .bool) (hx : (mkS E H).ev x = .bool a) (hy : (mkS E H).ev y = .bool b) (he : a = b) :
    Does P nt ⟨dst, .binOp .neq t x y t', ty, pos, aft, gd⟩ ⟨fo x ++ fo y, []⟩ (.bool false) [] (mkS E H) := by
  have := does_neqb (P := P) (nt := nt) (dst := dst) (ty := ty) (pos := pos) (aft := aft) (gd := gd) (t' := t') hT hd ht hu hx hy
  subst he
  simpa using this
theorem does_neqs_same {t t' : Nat} {x y : Operand} {a b : ByteArray} (hd : dstOk nt dst = true) (hx : (mkS E H).ev x = .v (.string a)) (hy : (mkS E H).ev y = .v (.string b)) (he : a = b) :
    Does P nt ⟨dst, .binOp .neq t x y t', ty, pos, aft, gd⟩ ⟨fo x ++ fo y, []⟩ (.bool false) [] (mkS E H) :=
  does_pure hd fun τ hag F φ Z a' w hF hS => by
    subst he
    exact ⟨.bool false, by simp [execOp, eqGuard, binOp, Op.stringOp, ev_v hag hS hx (by simp +contextual), ev_v hag hS hy (by simp +contextual)], by simp [relV]⟩
theorem st_build0_h (hT : TabOk P T) {t : Nat} {i : TyI} {l : List (Nat × Nat × Nat)} (hd : dstOk nt dst = true) (ht : lkT T t = some i) (hu : i.u = .struct l) (hl : (l.all fun x => !Nat.beq x.2.2 0) = true) (hz : (i.zero.map fun z => AV.v z.val) = [.int 0, .int 0, .v (.slice none 0 0)]) :
    Does P nt ⟨dst, .build t #[], ty, pos, aft, gd⟩ ⟨[], []⟩ (.agg [.int 0, .int 0, .v (.slice none 0 0)]) [] (mkS E H) := by
  have := does_build0 (P := P) (nt := nt) (dst := dst) (ty := ty) (pos := pos) (aft := aft) (gd := gd) (σ := mkS E H) hT hd ht hu hl
  rw [hz] at this
  exact this
theorem st_nil_nil (hT : TabOk P T) {t e t' : Nat} {i : TyI} {x y : Operand} (hd : dstOk nt dst = true) (ht : lkT T t = some i) (hu : i.u = .slice e) (hx : (mkS E H).ev x = .v (.slice none 0 0)) (hy : (mkS E H).ev y = .v (.slice none 0 0)) :
    Does P nt ⟨dst, .binOp .eql t x y t', ty, pos, aft, gd⟩ ⟨fo x ++ fo y, []⟩ (.bool true) [] (mkS E H) :=
  does_pure hd fun τ hag F φ Z a' w hF hS => by
    obtain ⟨inf, d, hk⟩ := hT.known ht
    exact ⟨.bool true, by simp [execOp, eqGuard, binOp, run_equal_slice_nil _ _ _ _ _ _ (hk.slice hu), ev_v hag hS hx (by simp +contextual), ev_v hag hS hy (by simp +contextual)], by simp [relV]⟩
theorem st_nil_own (hT : TabOk P T) {t e t' r k : Nat} {i : TyI} {row : Row} {zs : List Int} {x y : Operand} (hd : dstOk nt dst = true) (ht : lkT T t = some i) (hu : i.u = .slice e) (hx : (mkS E H).ev x = .own r k) (hr : (mkS E H).row r = some row) (hv : row.ver = k) (hy : (mkS E H).ev y = .v (.slice none 0 0)) (hc : row.cs = ints zs) (hne : 0 < zs.length) :
    Does P nt ⟨dst, .binOp .eql t x y t', ty, pos, aft, gd⟩ ⟨fo x ++ fo y, [r]⟩ (.bool false) [] (mkS E H) :=
  does_pure hd fun τ hag F φ Z a' w hF hS => by
    obtain ⟨inf, d, hk⟩ := hT.known ht
    have hr' : τ.row r = some row := by rw [hag.2 r (by simp)]; exact hr
    obtain ⟨n, xs, hm⟩ := rowMem hS hr'
    have e1 := own_open hS hr' hv (ev_rel hag hS hx (by simp +contextual))
    obtain ⟨g, cap, cur, h1, _⟩ := hm.open (by rw [hc, ints_length]; exact hne)
    rw [h1] at e1
    exact ⟨.bool false, by simp [execOp, eqGuard, binOp, run_equal_slice_nil _ _ _ _ _ _ (hk.slice hu), e1, ev_v hag hS hy (by simp +contextual)], by simp [relV]⟩
end
/-! two ways that meet -/
structure meetS (σ1 : St) (Φ : Exit → St → Prop) (e : Exit) (σ : St) : Prop where
  here : e = .normal → Weak σ σ1
  away : e ≠ .normal → Φ e σ
section
variable {P : Program} {nt : Nat} {Φ : Exit → St → Prop} {σ σ1 : St} {c : Code}
theorem ax_meet (σ1 : St) (h : AX P nt c σ (meetS σ1 Φ)) (k : Φ .normal σ1) : AX P nt c σ Φ := by
  obtain ⟨e, σ', h1, h2⟩ := h
  by_cases he : e = .normal
  · subst he
    exact ⟨.normal, σ1, k, fun F hF a w hS => Code.wp_mono (fun e1 a1 w1 hh => ⟨hh.1, h1.here rfl F a1 w1 hh.2⟩) (h2 F hF a w hS)⟩
  · exact ⟨e, σ', h1.away he, h2⟩
theorem meet_here (h : Weak σ σ1) : meetS σ1 Φ .normal σ := ⟨fun _ => h, fun h => absurd rfl h⟩
theorem meet_ret (h : Φ .ret σ) : meetS σ1 Φ .ret σ := ⟨fun e => by simp at e, fun _ => h⟩
theorem meet_exit {id : Nat} (h : Φ (.exit id) σ) : meetS σ1 Φ (.exit id) σ := ⟨fun e => by simp at e, fun _ => h⟩
end
end Go.Sym
