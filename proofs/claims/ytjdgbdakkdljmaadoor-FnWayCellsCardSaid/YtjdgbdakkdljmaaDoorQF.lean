/-
  More steps on abstract states: remainders, bits, conversions, bytes, strings, literals, made slices, pointers that are not nil.
-/
import Derived.Test.YtjdgbdakkdljmaaDoorQA
import Derived.IntWalk
import Derived.Laws.BytesArg
import Derived.Laws.StructEq
import Derived.Great.BuildSlice
set_option linter.unusedVariables false
set_option linter.unusedSimpArgs false
namespace Go.Sym
open Go Go.RowKit Go.Park Go.Proofs.YtjdgbdakkdljmaaDoor

/-! rows of bytes -/
def byts (l : List Int) : List AV := l.map fun z => AV.v (.int .u8 z)
theorem byts_length (l : List Int) : (byts l).length = l.length := by simp [byts]
theorem rd_byts {l : List Int} {j : Nat} (h : j < l.length) : rd (byts l) j = .v (.int .u8 (gi l j)) := by
  simp only [rd, byts, List.getD_eq_getElem?_getD, List.getElem?_map, gi]
  rw [List.getElem?_eq_getElem h]
  rfl
theorem scal_byts (l : List Int) : scalL (byts l) := fun x hx => by
  simp only [byts, List.mem_map] at hx
  obtain ⟨z, _, rfl⟩ := hx
  exact ⟨_, rfl⟩
theorem pure_byts (l : List Int) : pureL (byts l) := pureL_scal (scal_byts l)
theorem byts_take (l : List Int) (n : Nat) : (byts l).take n = byts (l.take n) := by simp [byts, List.map_take]

/-! bits -/
def xorI (a b : Int) : Int := IntKind.i64.wrap ((BitVec.ofInt IntKind.i64.bits a ^^^ BitVec.ofInt IntKind.i64.bits b).toNat : Int)
def andI (a b : Int) : Int := IntKind.i64.wrap ((BitVec.ofInt IntKind.i64.bits a &&& BitVec.ofInt IntKind.i64.bits b).toNat : Int)
def orI (a b : Int) : Int := IntKind.i64.wrap ((BitVec.ofInt IntKind.i64.bits a ||| BitVec.ofInt IntKind.i64.bits b).toNat : Int)
def bicI (a b : Int) : Int := IntKind.i64.wrap ((BitVec.ofInt IntKind.i64.bits a &&& ~~~BitVec.ofInt IntKind.i64.bits b).toNat : Int)

section
variable {P : Program} {T : List (Nat × TyI)} {nt : Nat} {σ : St} {dst : Option Nat} {ty : Nat} {pos : String} {aft : Array Edge} {gd : Option (Nat × Bool)}
theorem st_nilck {x : Operand} {r k o : Nat} {row : Row} (hd : dstOk nt dst = true) (hx : σ.ev x = .ptr r k o) (hr : σ.row r = some row) (hv : row.ver = k) :
    Does P nt ⟨dst, .nilCheck x, ty, pos, aft, gd⟩ ⟨fo x, [r]⟩ (.ptr r k o) [] σ :=
  does_pure hd fun τ hag F φ Z a w hF hS => by
    have hr' : τ.row r = some row := by rw [hag.2 r (by simp)]; exact hr
    have h1 := ev_rel hag hS hx (by simp)
    obtain ⟨g, m, c, e1, e2⟩ := ptr_open hS hr' hv h1
    exact ⟨a.eval x, by simp [execOp, e2], h1⟩
theorem st_rem {t t' : Nat} {x y : Operand} {i j : Int} (hd : dstOk nt dst = true) (hx : σ.ev x = .int i) (hy : σ.ev y = .int j) (h0 : 0 ≤ i) (h1 : 0 < j) :
    Does P nt ⟨dst, .binOp .rem t x y t', ty, pos, aft, gd⟩ ⟨fo x ++ fo y, []⟩ (.int (i % j)) [] σ :=
  does_pure hd fun τ hag F φ Z a w hF hS =>
    ⟨.int .i64 (i % j), by simp [execOp, eqGuard, binOp, Op.intDiv, ev_v hag hS hx (by simp +contextual), ev_v hag hS hy (by simp +contextual), Int.ne_of_gt h1, Int.tmod_eq_emod_of_nonneg h0], by simp [relV]⟩
theorem st_quo {t t' : Nat} {x y : Operand} {i j : Int} (hd : dstOk nt dst = true) (hx : σ.ev x = .int i) (hy : σ.ev y = .int j) (h0 : 0 ≤ i ∧ i ≤ 9223372036854775807) (h1 : 0 < j) :
    Does P nt ⟨dst, .binOp .quo t x y t', ty, pos, aft, gd⟩ ⟨fo x ++ fo y, []⟩ (.int (i / j)) [] σ :=
  does_pure hd fun τ hag F φ Z a w hF hS => by
    have h2 : 0 ≤ i / j := Int.ediv_nonneg h0.1 (Int.le_of_lt h1)
    have h3 : i / j ≤ i := Int.ediv_le_self _ h0.1
    have h4 : IntKind.i64.wrap (i / j) = i / j := i64_ok (by omega)
    exact ⟨.int .i64 (i / j), by simp [execOp, eqGuard, binOp, Op.intDiv, ev_v hag hS hx (by simp +contextual), ev_v hag hS hy (by simp +contextual), Int.ne_of_gt h1, Int.tdiv_eq_ediv_of_nonneg h0.1, h4], by simp [relV]⟩
theorem st_neg {t : Nat} {x : Operand} {i : Int} (hd : dstOk nt dst = true) (hx : σ.ev x = .int i) (h0 : -9223372036854775807 ≤ i ∧ i ≤ 9223372036854775807) :
    Does P nt ⟨dst, .unOp .neg t x, ty, pos, aft, gd⟩ ⟨fo x, []⟩ (.int (-i)) [] σ :=
  does_pure hd fun τ hag F φ Z a w hF hS => by
    have h4 : IntKind.i64.wrap (-i) = -i := i64_ok (by omega)
    exact ⟨.int .i64 (-i), by simp [execOp, Op.unary, Op.intArith, ev_v hag hS hx (by simp), h4], by simp [relV]⟩
theorem st_xor {t t' : Nat} {x y : Operand} {i j : Int} (hd : dstOk nt dst = true) (hx : σ.ev x = .int i) (hy : σ.ev y = .int j) :
    Does P nt ⟨dst, .binOp .xor t x y t', ty, pos, aft, gd⟩ ⟨fo x ++ fo y, []⟩ (.int (xorI i j)) [] σ :=
  does_pure hd fun τ hag F φ Z a w hF hS =>
    ⟨.int .i64 (xorI i j), by simp [execOp, eqGuard, binOp, Op.intBits, xorI, ev_v hag hS hx (by simp +contextual), ev_v hag hS hy (by simp +contextual)], by simp [relV]⟩
theorem st_and {t t' : Nat} {x y : Operand} {i j : Int} (hd : dstOk nt dst = true) (hx : σ.ev x = .int i) (hy : σ.ev y = .int j) :
    Does P nt ⟨dst, .binOp .and t x y t', ty, pos, aft, gd⟩ ⟨fo x ++ fo y, []⟩ (.int (andI i j)) [] σ :=
  does_pure hd fun τ hag F φ Z a w hF hS =>
    ⟨.int .i64 (andI i j), by simp [execOp, eqGuard, binOp, Op.intBits, andI, ev_v hag hS hx (by simp +contextual), ev_v hag hS hy (by simp +contextual)], by simp [relV]⟩
theorem st_or {t t' : Nat} {x y : Operand} {i j : Int} (hd : dstOk nt dst = true) (hx : σ.ev x = .int i) (hy : σ.ev y = .int j) :
    Does P nt ⟨dst, .binOp .or t x y t', ty, pos, aft, gd⟩ ⟨fo x ++ fo y, []⟩ (.int (orI i j)) [] σ :=
  does_pure hd fun τ hag F φ Z a w hF hS =>
    ⟨.int .i64 (orI i j), by simp [execOp, eqGuard, binOp, Op.intBits, orI, ev_v hag hS hx (by simp +contextual), ev_v hag hS hy (by simp +contextual)], by simp [relV]⟩
theorem st_bic {t t' : Nat} {x y : Operand} {i j : Int} (hd : dstOk nt dst = true) (hx : σ.ev x = .int i) (hy : σ.ev y = .int j) :
    Does P nt ⟨dst, .binOp .andNot t x y t', ty, pos, aft, gd⟩ ⟨fo x ++ fo y, []⟩ (.int (bicI i j)) [] σ :=
  does_pure hd fun τ hag F φ Z a w hF hS =>
    ⟨.int .i64 (bicI i j), by simp [execOp, eqGuard, binOp, Op.intBits, bicI, ev_v hag hS hx (by simp +contextual), ev_v hag hS hy (by simp +contextual)], by simp [relV]⟩
theorem st_shl {t t' : Nat} {x y : Operand} {i j : Int} (hd : dstOk nt dst = true) (hx : σ.ev x = .int i) (hy : σ.ev y = .int j) (h0 : 0 ≤ j ∧ j ≤ 62) (h1 : -9223372036854775808 ≤ i * 2 ^ j.toNat ∧ i * 2 ^ j.toNat ≤ 9223372036854775807) :
    Does P nt ⟨dst, .binOp .shl t x y t', ty, pos, aft, gd⟩ ⟨fo x ++ fo y, []⟩ (.int (i * 2 ^ j.toNat)) [] σ :=
  does_pure hd fun τ hag F φ Z a w hF hS => by
    have h2 : ¬ j < 0 := by omega
    have h3 : min j.toNat IntKind.i64.bits = j.toNat := by have : IntKind.i64.bits = 64 := rfl; omega
    exact ⟨.int .i64 (i * 2 ^ j.toNat), by simp [execOp, eqGuard, binOp, Op.shift, ev_v hag hS hx (by simp +contextual), ev_v hag hS hy (by simp +contextual), h2, h3, i64_ok h1], by simp [relV]⟩
theorem st_shr {t t' : Nat} {x y : Operand} {i j : Int} (hd : dstOk nt dst = true) (hx : σ.ev x = .int i) (hy : σ.ev y = .int j) (h0 : 0 ≤ j ∧ j ≤ 62) (h1 : 0 ≤ i) :
    Does P nt ⟨dst, .binOp .shr t x y t', ty, pos, aft, gd⟩ ⟨fo x ++ fo y, []⟩ (.int (i / 2 ^ j.toNat)) [] σ :=
  does_pure hd fun τ hag F φ Z a w hF hS => by
    have h2 : ¬ j < 0 := by omega
    have h3 : min j.toNat IntKind.i64.bits = j.toNat := by have : IntKind.i64.bits = 64 := rfl; omega
    have h4 : i.fdiv (2 ^ j.toNat) = i / 2 ^ j.toNat := Int.fdiv_eq_ediv_of_nonneg _ (Int.le_of_lt (Int.pow_pos (by decide)))
    exact ⟨.int .i64 (i / 2 ^ j.toNat), by simp [execOp, eqGuard, binOp, Op.shift, ev_v hag hS hx (by simp +contextual), ev_v hag hS hy (by simp +contextual), h2, h3, h4], by simp [relV]⟩
theorem st_conv (hT : TabOk P T) {s t : Nat} {x : Operand} {i0 i : TyI} {k0 k : IntKind} {z : Int} (hd : dstOk nt dst = true) (hx : σ.ev x = .v (.int k0 z)) (h0 : lkT T s = some i0) (hu0 : i0.u = .int k0) (ht : lkT T t = some i) (hu : i.u = .int k) (hw : k.wrap z = z) :
    Does P nt ⟨dst, .convert s t x, ty, pos, aft, gd⟩ ⟨fo x, []⟩ (.v (.int k z)) [] σ :=
  does_pure hd fun τ hag F φ Z a w hF hS => by
    obtain ⟨inf0, d0, hk0⟩ := hT.known h0
    obtain ⟨inf, d, hk⟩ := hT.known ht
    exact ⟨.int k z, by simp [execOp, convert, run_underlying (hk0.int hu0), run_underlying (hk.int hu), Conv.intToInt, ev_v hag hS hx (by simp), hw], by simp [relV]⟩

/-! bytes of still memory -/
theorem st_ix_sl_b (hT : TabOk P T) {t e o : Nat} {x y : Operand} {i j : TyI} {ty' sz : Nat} {z : Int} {zs : List Int} (hd : dstOk nt dst = true) (hx : σ.ev x = .sl ty' sz (byts zs)) (hy : σ.ev y = .int z)
    (ht : lkT T t = some i) (hu : i.u = .slice e) (he : lkT T e = some j) (hs : sz = 1) (hj : j.size = 1) (ho : z.toNat = o) (h : 0 ≤ z ∧ o < zs.length) :
    Does P nt ⟨dst, .indexAddr t x y, ty, pos, aft, gd⟩ ⟨fo x ++ fo y, []⟩ (.ip (byts zs) o) [] σ := by
  have := does_index_sl (P := P) (nt := nt) (dst := dst) (ty := ty) (pos := pos) (aft := aft) (gd := gd) hT hd hx hy ht hu he (by omega) h.1 (by rw [byts_length, hj]; omega)
  rw [hj, Nat.mul_one, ho] at this
  exact this
theorem st_ld_ip_b (hT : TabOk P T) {t : Nat} {x : Operand} {i : TyI} {o : Nat} {zs : List Int} (hd : dstOk nt dst = true) (hx : σ.ev x = .ip (byts zs) o) (ht : lkT T t = some i) (hg : i.agg = false) (ho : o < zs.length) :
    Does P nt ⟨dst, .load t x, ty, pos, aft, gd⟩ ⟨fo x, []⟩ (.v (.int .u8 (gi zs o))) [] σ := by
  have := does_load_ip (P := P) (nt := nt) (dst := dst) (ty := ty) (pos := pos) (aft := aft) (gd := gd) hT hd hx ht hg (by rw [byts_length]; exact ho)
  rw [rd_byts ho] at this
  exact this
theorem st_len_sl_b (hT : TabOk P T) {t e : Nat} {x : Operand} {i : TyI} {ty' sz : Nat} {zs : List Int} (hd : dstOk nt dst = true) (hx : σ.ev x = .sl ty' sz (byts zs)) (hs : sz = 1) (ht : lkT T t = some i) (hu : i.u = .slice e) :
    Does P nt ⟨dst, .call ⟨.builtin .len, #[x], #[t]⟩, ty, pos, aft, gd⟩ ⟨fo x, []⟩ (.int (zs.length : Int)) [] σ := by
  have := does_len_sl (P := P) (nt := nt) (dst := dst) (ty := ty) (pos := pos) (aft := aft) (gd := gd) hT hd hx ht hu
  rw [hs, byts_length, Nat.div_one] at this
  exact this
theorem st_len_both_b (hT : TabOk P T) {t e : Nat} {x : Operand} {i : TyI} {c : Value} {ty' sz : Nat} {zs : List Int} (hd : dstOk nt dst = true) (hx : σ.ev x = .both c (.sl ty' sz (byts zs))) (hs : sz = 1) (ht : lkT T t = some i) (hu : i.u = .slice e) :
    Does P nt ⟨dst, .call ⟨.builtin .len, #[x], #[t]⟩, ty, pos, aft, gd⟩ ⟨fo x, []⟩ (.int (zs.length : Int)) [] σ :=
  does_pure hd fun τ hag F φ Z a w hF hS => by
    have h2 := ev_rel hag hS hx (by simp)
    simp only [relV] at h2
    obtain ⟨_, hp, ao, n, c, e1, h3, h4, h5, h6, h7⟩ := h2
    have hn : zs.length = n := by rw [byts_length, hs] at h6; omega
    exact ⟨.int .i64 n, by simp [execOp, resolve, invoke, builtin, e1, run_len_slice hT ht hu], by simp [relV, hn]⟩
/-- a value known twice: what one loads of it is its second part -/
theorem does_snd {o : Oper} {R : Foot} {x : Value} {y : AV} (h : Does P nt o R (.both x y) [] σ) : Does P nt o R y [] σ := by
  refine ⟨?_⟩
  intro τ hag F hF a w hS Q K hK
  refine h.out τ hag F hF a w hS Q K fun u w' hs => hK u w' ?_
  obtain ⟨φ, Z, hS'⟩ := hs
  refine ⟨φ, Z, ?_⟩
  cases hdst : o.dst with
  | none => rw [hdst] at hS'; simpa [St.upd] using hS'
  | some d =>
    rw [hdst] at hS'
    have he : ∀ i, relV (cxOf φ Z (τ.upd (some d) (.both x y) []) w') ((τ.upd (some d) (.both x y) []).env i) ((a.put (some d) u).tmps.getD i undef) → relV (cxOf φ Z (τ.upd (some d) y []) w') ((τ.upd (some d) y []).env i) ((a.put (some d) u).tmps.getD i undef) := fun i h1 => by
      simp only [St.upd, St.put, St.rowsUpd] at h1 ⊢
      by_cases e : i = d
      · rw [if_pos e] at h1 ⊢; simp only [relV] at h1; exact h1.2
      · rw [if_neg e] at h1 ⊢; exact h1
    exact ⟨hS'.dfr, hS'.nt, fun i => he i (hS'.env i), hS'.rows, hS'.disj, hS'.zlt, hS'.zrow, hS'.base, hS'.keep, hS'.recv⟩
theorem st_ld_both (hT : TabOk P T) {t : Nat} {x : Operand} {i : TyI} {r k : Nat} {row : Row} {c : Value} {y : AV} {ys : List AV} (hd : dstOk nt dst = true) (hx : σ.ev x = .ptr r k 0) (hr : σ.row r = some row) (hc : row.cs = .both c y :: ys) (hv : row.ver = k) (ht : lkT T t = some i) (hg : i.agg = false) :
    Does P nt ⟨dst, .load t x, ty, pos, aft, gd⟩ ⟨fo x, [r]⟩ y [] σ := by
  have := does_load (P := P) (nt := nt) (dst := dst) (ty := ty) (pos := pos) (aft := aft) (gd := gd) hT hd hx hr hv ht hg (by rw [hc]; simp)
  rw [show rd row.cs 0 = .both c y by rw [hc]; rfl] at this
  exact does_snd this

/-! strings -/
theorem str_beq (a b : ByteArray) : (a.toList == b.toList) = decide (a = b) := by
  rw [ByteArray.toList_eq, ByteArray.toList_eq]
  by_cases h : a = b
  · subst h; simp
  · rw [decide_eq_false h]
    refine beq_false_of_ne fun e => h ?_
    cases a; cases b
    simp only [ByteArray.mk.injEq]
    exact Array.ext' e
theorem st_seql {t t' : Nat} {x y : Operand} {a b : ByteArray} (hd : dstOk nt dst = true) (hx : σ.ev x = .str a) (hy : σ.ev y = .str b) :
    Does P nt ⟨dst, .binOp .eql t x y t', ty, pos, aft, gd⟩ ⟨fo x ++ fo y, []⟩ (.bool (decide (a = b))) [] σ :=
  does_pure hd fun τ hag F φ Z a' w hF hS =>
    ⟨.bool (decide (a = b)), by simp [execOp, eqGuard, binOp, Op.stringOp, ev_v hag hS hx (by simp +contextual), ev_v hag hS hy (by simp +contextual), str_beq], by simp [relV]⟩
theorem st_sneq {t t' : Nat} {x y : Operand} {a b : ByteArray} (hd : dstOk nt dst = true) (hx : σ.ev x = .str a) (hy : σ.ev y = .str b) :
    Does P nt ⟨dst, .binOp .neq t x y t', ty, pos, aft, gd⟩ ⟨fo x ++ fo y, []⟩ (.bool (decide (a ≠ b))) [] σ :=
  does_pure hd fun τ hag F φ Z a' w hF hS =>
    ⟨.bool (decide (a ≠ b)), by simp [execOp, eqGuard, binOp, Op.stringOp, ev_v hag hS hx (by simp +contextual), ev_v hag hS hy (by simp +contextual), str_beq], by simp [relV]⟩
theorem st_sadd {t t' : Nat} {x y : Operand} {a b : ByteArray} (hd : dstOk nt dst = true) (hx : σ.ev x = .str a) (hy : σ.ev y = .str b) (hs : a.size + b.size ≤ 9223372036854775807) :
    Does P nt ⟨dst, .binOp .add t x y t', ty, pos, aft, gd⟩ ⟨fo x ++ fo y, []⟩ (.str (a ++ b)) [] σ :=
  does_pure hd fun τ hag F φ Z a' w hF hS => by
    have h1 : ¬ (((a.size + b.size : Nat) : Int) > IntKind.i64.max) := by have : IntKind.i64.max = 9223372036854775807 := rfl; omega
    exact ⟨.string (a ++ b), by simp [execOp, eqGuard, binOp, Op.stringOp, ev_v hag hS hx (by simp +contextual), ev_v hag hS hy (by simp +contextual)]; omega, by simp [relV]⟩
end
end Go.Sym
