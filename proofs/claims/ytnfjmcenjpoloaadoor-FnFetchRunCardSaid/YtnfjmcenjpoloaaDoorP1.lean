/-
  The texts Q1 Q2 Q3 Q4 Q5 Q6 Q7 Q8 in one.
-/
import Derived.WalkKit
import Derived.Below
import Derived.Orders
import Derived.OwnWalk
import Derived.Deep.Draws
import Derived.Lib.Hide
import Derived.Laws.Tables
import Derived.Laws.Entries
import Derived.Laws.OwnMore
import Derived.IntWalk
import Derived.Great.BuildSlice
import Derived.LoopN
section
/-
  Abstract values, abstract states, and what they say of a frame and a world; nothing of the program stands here.
-/
set_option linter.unusedVariables false
namespace Go.Sym
open Go Go.RowKit

/-- what is known of a value: nothing | it is x | a struct | a tuple | a slice of memory that nobody writes | a pointer into such memory | the slice that owns row r | a part of it | its first n elements | a pointer into row r -/
inductive AV where
  | any
  | v (x : Value)
  | agg (xs : List AV)
  | tup (xs : List AV)
  | sl (ty sz : Nat) (cs : List AV)
  | ip (cs : List AV) (off : Nat)
  | own (r k : Nat)
  | sub (r k off n : Nat)
  | pre (r k n : Nat)
  | ptr (r k off : Nat)
  | both (x : Value) (y : AV)
  | tab (g : Nat) (cs : List AV)

abbrev AV.int (z : Int) : AV := .v (.int .i64 z)
abbrev AV.bool (b : Bool) : AV := .v (.bool b)
abbrev AV.str (s : ByteArray) : AV := .v (.string s)

structure Cx where
  w : World
  Z : Nat → Prop
  tip : Nat → Option (Value × Nat)

mutual
/-- no row is mentioned -/
def pureV : AV → Prop
  | .any => True
  | .v _ => True
  | .agg xs => pureL xs
  | .tup xs => pureL xs
  | .sl _ _ cs => pureL cs
  | .ip _ _ => False
  | .own _ _ => False
  | .sub _ _ _ _ => False
  | .pre _ _ _ => False
  | .ptr _ _ _ => False
  | .both _ y => pureV y
  | .tab _ cs => pureL cs
def pureL : List AV → Prop
  | [] => True
  | x :: xs => pureV x ∧ pureL xs
end

mutual
def relV (cx : Cx) : AV → Value → Prop
  | .any, _ => True
  | .v x, u => u = x
  | .agg xs, u => ∃ vs : List Value, u = .agg vs.toArray ∧ relL cx xs vs
  | .tup xs, u => ∃ vs : List Value, u = .tuple vs.toArray ∧ relL cx xs vs
  | .sl _ sz cs, u => pureL cs ∧ ∃ ao n c, u = .slice ao n c ∧ n ≤ c ∧ c ≤ maxLen ∧ 0 < sz ∧ cs.length = n * sz ∧ (cs = [] ∨ ∃ b off, ao = some ⟨b, off, none⟩ ∧ cx.Z b ∧ relC cx b off cs)
  | .ip cs k, u => pureL cs ∧ ∃ b off, u = .pointer (some ⟨b, off + k, none⟩) ∧ cx.Z b ∧ relC cx b off cs
  | .own r k, u => ∃ t j, cx.tip r = some (t, j) ∧ k ≤ j ∧ (j = k → u = t)
  | .sub r k off n, u => ∃ t j, cx.tip r = some (t, j) ∧ k ≤ j ∧ (j = k → ∃ ao c, u = .slice ao n c ∧ n ≤ c ∧ c ≤ maxLen ∧ (n = 0 ∨ ∃ g m c', t = .slice (some ⟨g, 0, none⟩) m c' ∧ ao = some ⟨g, off, none⟩))
  | .pre r k n, u => ∃ t j, cx.tip r = some (t, j) ∧ k ≤ j ∧ (j = k → (t = .slice none 0 0 ∧ u = t ∧ n = 0) ∨ ∃ g m c, t = .slice (some ⟨g, 0, none⟩) m c ∧ u = .slice (some ⟨g, 0, none⟩) n c ∧ n ≤ m)
  | .ptr r k off, u => ∃ t j, cx.tip r = some (t, j) ∧ k ≤ j ∧ (j = k → ∃ g m c, t = .slice (some ⟨g, 0, none⟩) m c ∧ u = .pointer (some ⟨g, off, none⟩))
  | .both x y, u => u = x ∧ relV cx y u
  | .tab g cs, _ => pureL cs ∧ cx.Z g ∧ relC cx g 0 cs
def relL (cx : Cx) : List AV → List Value → Prop
  | [], vs => vs = []
  | x :: xs, vs => ∃ u us, vs = u :: us ∧ relV cx x u ∧ relL cx xs us
def relC (cx : Cx) (b off : Nat) : List AV → Prop
  | [] => True
  | x :: xs => (∃ u, cx.w.cell? ⟨b, off, none⟩ = some u ∧ u.oneCell' = true ∧ relV cx x u) ∧ relC cx b (off + 1) xs
end

theorem relL_length {cx : Cx} : ∀ {xs : List AV} {vs : List Value}, relL cx xs vs → vs.length = xs.length
  | [], vs, h => by simp [relL] at h; simp [h]
  | x :: xs, vs, h => by
    simp only [relL] at h
    obtain ⟨u, us, rfl, _, h⟩ := h
    simp [relL_length h]
theorem relL_get {cx : Cx} : ∀ {xs : List AV} {vs : List Value}, relL cx xs vs → ∀ (i : Nat) x, xs[i]? = some x → ∃ u, vs[i]? = some u ∧ relV cx x u
  | [], vs, h, i, x, hx => by simp at hx
  | y :: xs, vs, h, i, x, hx => by
    simp only [relL] at h
    obtain ⟨u, us, rfl, h1, h⟩ := h
    cases i with
    | zero => simp at hx; subst hx; exact ⟨u, by simp, h1⟩
    | succ i => simp at hx; simpa using relL_get h i x hx
theorem relL_of {cx : Cx} : ∀ {xs : List AV} {vs : List Value}, vs.length = xs.length → (∀ (i : Nat) x u, xs[i]? = some x → vs[i]? = some u → relV cx x u) → relL cx xs vs
  | [], vs, h, _ => by simp at h; simp [relL, h]
  | x :: xs, [], h, _ => by simp at h
  | x :: xs, u :: us, h, k => by
    simp only [relL]
    exact ⟨u, us, rfl, k 0 x u (by simp) (by simp), relL_of (by simpa using h) (fun i x u hx hu => k (i + 1) x u (by simpa using hx) (by simpa using hu))⟩
theorem relC_get {cx : Cx} {b : Nat} : ∀ {cs : List AV} {off : Nat}, relC cx b off cs → ∀ (i : Nat) x, cs[i]? = some x → ∃ u, cx.w.cell? ⟨b, off + i, none⟩ = some u ∧ u.oneCell' = true ∧ relV cx x u
  | [], off, h, i, x, hx => by simp at hx
  | y :: xs, off, h, i, x, hx => by
    simp only [relC] at h
    cases i with
    | zero => simp at hx; subst hx; simpa using h.1
    | succ i =>
      simp at hx
      obtain ⟨u, h1, h2⟩ := relC_get h.2 i x hx
      exact ⟨u, by rw [← h1]; congr 2; omega, h2⟩
theorem relC_of {cx : Cx} {b : Nat} : ∀ {cs : List AV} {off : Nat}, (∀ (i : Nat) x, cs[i]? = some x → ∃ u, cx.w.cell? ⟨b, off + i, none⟩ = some u ∧ u.oneCell' = true ∧ relV cx x u) → relC cx b off cs
  | [], off, h => by simp [relC]
  | x :: xs, off, h => by
    simp only [relC]
    refine ⟨by simpa using h 0 x (by simp), relC_of fun i x hx => ?_⟩
    obtain ⟨u, h1, h2⟩ := h (i + 1) x (by simpa using hx)
    exact ⟨u, by rw [← h1]; congr 2; omega, h2⟩
theorem pureL_get : ∀ {xs : List AV}, pureL xs → ∀ (i : Nat) x, xs[i]? = some x → pureV x
  | [], _, i, x, hx => by simp at hx
  | y :: xs, h, i, x, hx => by
    simp only [pureL] at h
    cases i with
    | zero => simp at hx; subst hx; exact h.1
    | succ i => simp at hx; exact pureL_get h.2 i x hx
theorem pureL_of : ∀ {xs : List AV}, (∀ x, x ∈ xs → pureV x) → pureL xs
  | [], _ => by simp [pureL]
  | y :: xs, h => by simp only [pureL]; exact ⟨h y (by simp), pureL_of fun x hx => h x (by simp [hx])⟩
theorem pureL_mem : ∀ {xs : List AV}, pureL xs → ∀ x, x ∈ xs → pureV x
  | y :: xs, h, x, hx => by
    simp only [pureL] at h
    rcases List.mem_cons.1 hx with rfl | hx
    · exact h.1
    · exact pureL_mem h.2 x hx

/-- what is known stays known: no memory of the zone has turned, rows keep their slices or have a new version -/
structure CxLe (cx cx' : Cx) : Prop where
  z : ∀ b, cx.Z b → cx'.Z b ∧ cx'.w.heap[b]? = cx.w.heap[b]?
  t : ∀ r t j, cx.tip r = some (t, j) → ∃ t' j', cx'.tip r = some (t', j') ∧ j ≤ j' ∧ (j' = j → t' = t)

mutual
theorem relV_mono {cx cx' : Cx} (h : CxLe cx cx') : ∀ (x : AV) (u : Value), relV cx x u → relV cx' x u
  | .any, u, _ => by simp [relV]
  | .v x, u, hx => by simpa [relV] using hx
  | .agg xs, u, hx => by
    simp only [relV] at hx ⊢
    obtain ⟨vs, rfl, hx⟩ := hx
    exact ⟨vs, rfl, relL_mono h xs vs hx⟩
  | .tup xs, u, hx => by
    simp only [relV] at hx ⊢
    obtain ⟨vs, rfl, hx⟩ := hx
    exact ⟨vs, rfl, relL_mono h xs vs hx⟩
  | .sl ty sz cs, u, hx => by
    simp only [relV] at hx ⊢
    obtain ⟨h0, ao, n, c, rfl, h1, h2, h3, h4, hx⟩ := hx
    refine ⟨h0, ao, n, c, rfl, h1, h2, h3, h4, ?_⟩
    rcases hx with hx | ⟨b, off, rfl, hb, hx⟩
    · exact .inl hx
    · exact .inr ⟨b, off, rfl, (h.z b hb).1, relC_mono h b off cs hb hx⟩
  | .ip cs k, u, hx => by
    simp only [relV] at hx ⊢
    obtain ⟨h0, b, off, rfl, hb, hx⟩ := hx
    exact ⟨h0, b, off, rfl, (h.z b hb).1, relC_mono h b off cs hb hx⟩
  | .own r k, u, hx => by
    simp only [relV] at hx ⊢
    obtain ⟨t, j, h1, h2, h3⟩ := hx
    obtain ⟨t', j', h4, h5, h6⟩ := h.t r t j h1
    exact ⟨t', j', h4, by omega, fun e => by rw [h6 (by omega)]; exact h3 (by omega)⟩
  | .sub r k off n, u, hx => by
    simp only [relV] at hx ⊢
    obtain ⟨t, j, h1, h2, h3⟩ := hx
    obtain ⟨t', j', h4, h5, h6⟩ := h.t r t j h1
    exact ⟨t', j', h4, by omega, fun e => by rw [h6 (by omega)]; exact h3 (by omega)⟩
  | .pre r k n, u, hx => by
    simp only [relV] at hx ⊢
    obtain ⟨t, j, h1, h2, h3⟩ := hx
    obtain ⟨t', j', h4, h5, h6⟩ := h.t r t j h1
    exact ⟨t', j', h4, by omega, fun e => by rw [h6 (by omega)]; exact h3 (by omega)⟩
  | .ptr r k off, u, hx => by
    simp only [relV] at hx ⊢
    obtain ⟨t, j, h1, h2, h3⟩ := hx
    obtain ⟨t', j', h4, h5, h6⟩ := h.t r t j h1
    exact ⟨t', j', h4, by omega, fun e => by rw [h6 (by omega)]; exact h3 (by omega)⟩
  | .both x y, u, hx => by
    simp only [relV] at hx ⊢
    exact ⟨hx.1, relV_mono h y u hx.2⟩
  | .tab g cs, u, hx => by
    simp only [relV] at hx ⊢
    exact ⟨hx.1, (h.z g hx.2.1).1, relC_mono h g 0 cs hx.2.1 hx.2.2⟩
theorem relL_mono {cx cx' : Cx} (h : CxLe cx cx') : ∀ (xs : List AV) (us : List Value), relL cx xs us → relL cx' xs us
  | [], us, hx => by simpa [relL] using hx
  | x :: xs, us, hx => by
    simp only [relL] at hx ⊢
    obtain ⟨u, us, rfl, h1, h2⟩ := hx
    exact ⟨u, us, rfl, relV_mono h x u h1, relL_mono h xs us h2⟩
theorem relC_mono {cx cx' : Cx} (h : CxLe cx cx') (b off : Nat) : ∀ (xs : List AV), cx.Z b → relC cx b off xs → relC cx' b off xs
  | [], _, hx => by simp [relC]
  | x :: xs, hb, hx => by
    simp only [relC] at hx ⊢
    obtain ⟨⟨u, h1, h1', h2⟩, h3⟩ := hx
    exact ⟨⟨u, by rw [← h1]; exact World.cell?_of_block (h.z b hb).2, h1', relV_mono h x u h2⟩, relC_mono h b (off + 1) xs hb h3⟩
end

/-- what mentions no row hangs on the zone's memory alone -/
structure CxZ (cx cx' : Cx) : Prop where
  z : ∀ b, cx.Z b → cx'.Z b ∧ cx'.w.heap[b]? = cx.w.heap[b]?
mutual
theorem relV_pure {cx cx' : Cx} (h : CxZ cx cx') : ∀ (x : AV) (u : Value), pureV x → relV cx x u → relV cx' x u
  | .any, u, _, _ => by simp [relV]
  | .v x, u, _, hx => by simpa [relV] using hx
  | .agg xs, u, hp, hx => by
    simp only [relV, pureV] at hx hp ⊢
    obtain ⟨vs, rfl, hx⟩ := hx
    exact ⟨vs, rfl, relL_pure h xs vs hp hx⟩
  | .tup xs, u, hp, hx => by
    simp only [relV, pureV] at hx hp ⊢
    obtain ⟨vs, rfl, hx⟩ := hx
    exact ⟨vs, rfl, relL_pure h xs vs hp hx⟩
  | .sl ty sz cs, u, hp, hx => by
    simp only [relV, pureV] at hx hp ⊢
    obtain ⟨h0, ao, n, c, rfl, h1, h2, h3, h4, hx⟩ := hx
    refine ⟨h0, ao, n, c, rfl, h1, h2, h3, h4, ?_⟩
    rcases hx with hx | ⟨b, off, rfl, hb, hx⟩
    · exact .inl hx
    · exact .inr ⟨b, off, rfl, (h.z b hb).1, relC_pure h b off cs hp hb hx⟩
  | .ip cs k, u, hp, hx => by simp [pureV] at hp
  | .own r k, u, hp, hx => by simp [pureV] at hp
  | .sub r k off n, u, hp, hx => by simp [pureV] at hp
  | .pre r k n, u, hp, hx => by simp [pureV] at hp
  | .ptr r k off, u, hp, hx => by simp [pureV] at hp
  | .both x y, u, hp, hx => by
    simp only [relV, pureV] at hx hp ⊢
    exact ⟨hx.1, relV_pure h y u hp hx.2⟩
  | .tab g cs, u, hp, hx => by
    simp only [relV, pureV] at hx hp ⊢
    exact ⟨hx.1, (h.z g hx.2.1).1, relC_pure h g 0 cs hp hx.2.1 hx.2.2⟩
theorem relL_pure {cx cx' : Cx} (h : CxZ cx cx') : ∀ (xs : List AV) (us : List Value), pureL xs → relL cx xs us → relL cx' xs us
  | [], us, _, hx => by simpa [relL] using hx
  | x :: xs, us, hp, hx => by
    simp only [relL, pureL] at hx hp ⊢
    obtain ⟨u, us, rfl, h1, h2⟩ := hx
    exact ⟨u, us, rfl, relV_pure h x u hp.1 h1, relL_pure h xs us hp.2 h2⟩
theorem relC_pure {cx cx' : Cx} (h : CxZ cx cx') (b off : Nat) : ∀ (xs : List AV), pureL xs → cx.Z b → relC cx b off xs → relC cx' b off xs
  | [], _, _, hx => by simp [relC]
  | x :: xs, hp, hb, hx => by
    simp only [relC, pureL] at hx hp ⊢
    obtain ⟨⟨u, h1, h1', h2⟩, h3⟩ := hx
    exact ⟨⟨u, by rw [← h1]; exact World.cell?_of_block (h.z b hb).2, h1', relV_pure h x u hp.1 h2⟩, relC_pure h b (off + 1) xs hp.2 hb h3⟩
end

structure Row where
  ty : Nat
  sz : Nat
  ver : Nat
  pure : Bool
  box : Bool
  cs : List AV

structure St where
  env : Nat → AV
  row : Nat → Option Row

/-- what a call began with: its world, the blocks that it may write, the receiver's row, the number of its slots -/
structure Fr where
  w0 : World
  M : Nat → Prop
  recv : Option Value
  nt : Nat
  B : Nat → Prop

def cxOf (φ : Nat → Value) (Z : Nat → Prop) (σ : St) (w : World) : Cx := ⟨w, Z, fun r => (σ.row r).map fun row => (φ r, row.ver)⟩

structure RowRel (F : Fr) (cx : Cx) (t : Value) (row : Row) : Prop where
  sz : 0 < row.sz
  pur : row.pure = true → pureL row.cs
  box : row.box = true → t.ownBlock ≠ none
  blk : ∀ g, t.ownBlock = some g → F.w0.heap.size ≤ g ∨ (row.box = true ∧ F.M g)
  own : ∃ n xs, cx.w.ownsRow 0 row.ty row.sz t n xs ∧ row.cs.length = n * row.sz ∧ relL cx row.cs xs ∧ ∀ u, u ∈ xs → u.oneCell' = true

structure KeptBut (M : Nat → Prop) (w w' : World) : Prop where
  os : w'.os = w.os
  tape : w'.tape = w.tape
  output : w'.output = w.output
  size : w.heap.size ≤ w'.heap.size
  block : ∀ k, k < w.heap.size → ¬ M k → w'.heap[k]? = w.heap[k]?

structure SimAt (F : Fr) (φ : Nat → Value) (Z : Nat → Prop) (σ : St) (a : Act) (w : World) : Prop where
  dfr : a.defers = []
  nt : a.tmps.size = F.nt
  env : ∀ i, relV (cxOf φ Z σ w) (σ.env i) (a.tmps.getD i undef)
  rows : ∀ r row, σ.row r = some row → RowRel F (cxOf φ Z σ w) (φ r) row
  disj : ∀ r s, r ≠ s → (σ.row r).isSome → (σ.row s).isSome → ∀ g, (φ r).ownBlock = some g → (φ s).ownBlock ≠ some g
  zlt : ∀ b, Z b → b < w.heap.size
  zrow : ∀ b, Z b → ∀ r, (σ.row r).isSome → (φ r).ownBlock ≠ some b
  base : ∀ b, Z b → b < F.w0.heap.size → F.B b
  keep : KeptBut F.M F.w0 w
  recv : ∀ t, F.recv = some t → (σ.row 0).isSome → φ 0 = t
def Sim (F : Fr) (σ : St) (a : Act) (w : World) : Prop := ∃ φ Z, SimAt F φ Z σ a w

theorem RowRel.lt {F : Fr} {cx : Cx} {t : Value} {row : Row} (h : RowRel F cx t row) {g : Nat} (hg : t.ownBlock = some g) : g < cx.w.heap.size := by
  obtain ⟨n, xs, ho, _⟩ := h.own
  exact (ho.lt g hg).2
theorem ownsRow_of_block {w w' : World} {base : Nat} {e : TypeId} {size : Nat} {v : Value} {n : Nat} {xs : List Value} (h : w.ownsRow base e size v n xs) (hb : ∀ g, v.ownBlock = some g → w'.heap[g]? = w.heap[g]?) : w'.ownsRow base e size v n xs := by
  refine ⟨h.1, ?_⟩
  rcases h.2 with h2 | ⟨g, cap, cur, rfl, hg, hh, r⟩
  · exact .inl h2
  · exact .inr ⟨g, cap, cur, rfl, hg, by rw [hb g rfl]; exact hh, r⟩
theorem RowRel.mono {F : Fr} {cx cx' : Cx} {t : Value} {row : Row} (h : RowRel F cx t row) (hc : CxLe cx cx') (hb : ∀ g, t.ownBlock = some g → cx'.w.heap[g]? = cx.w.heap[g]?) : RowRel F cx' t row := by
  refine ⟨h.sz, h.pur, h.box, h.blk, ?_⟩
  obtain ⟨n, xs, ho, hl, hr, h1⟩ := h.own
  exact ⟨n, xs, ownsRow_of_block ho hb, hl, relL_mono hc _ _ hr, h1⟩

theorem keptBut_below {M : Nat → Prop} {w w1 w2 : World} (h : KeptBut M w w1) (k : Below w1.heap.size w1 w2) : KeptBut M w w2 :=
  ⟨k.os.trans h.os, k.tape.trans h.tape, k.output.trans h.output, Nat.le_trans h.size k.size, fun b hb hm => (k.block b (Nat.lt_of_lt_of_le hb h.size)).trans (h.block b hb hm)⟩

def St.put (σ : St) (d : Nat) (x : AV) : St := { σ with env := fun i => if i = d then x else σ.env i }
def St.set (σ : St) (r : Nat) (o : Option Row) : St := { σ with row := fun i => if i = r then o else σ.row i }

theorem SimAt.put {F : Fr} {φ : Nat → Value} {Z : Nat → Prop} {σ : St} {a : Act} {w : World} (h : SimAt F φ Z σ a w) {d : Nat} {x : AV} {u : Value} (hd : d < F.nt) (hx : relV (cxOf φ Z σ w) x u) :
    SimAt F φ Z (σ.put d x) (a.put (some d) u) w := by
  refine ⟨h.dfr, by simpa [Act.put] using h.nt, ?_, h.rows, h.disj, h.zlt, h.zrow, h.base, h.keep, h.recv⟩
  intro i
  have hs := h.nt
  simp only [St.put, Act.put]
  by_cases e : i = d
  · subst e
    rw [if_pos rfl]
    simp only [Array.getD_eq_getD_getElem?, Array.getElem?_setIfInBounds]
    rw [if_pos trivial, if_pos (by omega)]
    exact hx
  · rw [if_neg e]
    simp only [Array.getD_eq_getD_getElem?, Array.getElem?_setIfInBounds]
    rw [if_neg (by omega)]
    have := h.env i
    simp only [Array.getD_eq_getD_getElem?] at this
    exact this

/-- new memory, and more of the zone -/
theorem SimAt.grow {F : Fr} {φ : Nat → Value} {Z Z' : Nat → Prop} {σ : St} {a : Act} {w w' : World} (h : SimAt F φ Z σ a w) (hb : Below w.heap.size w w')
    (hz : ∀ b, Z b → Z' b) (hz' : ∀ b, Z' b → Z b ∨ (w.heap.size ≤ b ∧ b < w'.heap.size)) : SimAt F φ Z' σ a w' := by
  have hc : CxLe (cxOf φ Z σ w) (cxOf φ Z' σ w') := ⟨fun b hb' => ⟨hz b hb', hb.block b (h.zlt b hb')⟩, fun r t j e => ⟨t, j, e, Nat.le_refl _, fun _ => rfl⟩⟩
  refine ⟨h.dfr, h.nt, fun i => relV_mono hc _ _ (h.env i), ?_, h.disj, ?_, ?_, fun b h1 h2 => (hz' b h1).elim (fun h3 => h.base b h3 h2) (fun h3 => absurd (Nat.lt_of_lt_of_le h2 h.keep.size) (by omega)), keptBut_below h.keep hb, h.recv⟩
  · intro r row hr
    exact (h.rows r row hr).mono hc (fun g hg => hb.block g ((h.rows r row hr).lt hg))
  · intro b hb'
    rcases hz' b hb' with h1 | h1
    · exact Nat.lt_of_lt_of_le (h.zlt b h1) hb.size
    · exact h1.2
  · intro b hb' r hr e
    obtain ⟨row, hrow⟩ := Option.isSome_iff_exists.1 hr
    have := (h.rows r row hrow).lt e
    rcases hz' b hb' with h1 | h1
    · exact h.zrow b h1 r hr e
    · simp [cxOf] at this; omega
theorem SimAt.grow' {F : Fr} {φ : Nat → Value} {Z : Nat → Prop} {σ : St} {a : Act} {w w' : World} (h : SimAt F φ Z σ a w) (hb : Below w.heap.size w w') : SimAt F φ Z σ a w' :=
  h.grow hb (fun _ h => h) (fun _ h => .inl h)

/-- a row is taken in -/
theorem SimAt.adopt {F : Fr} {φ : Nat → Value} {Z : Nat → Prop} {σ : St} {a : Act} {w : World} (h : SimAt F φ Z σ a w) {r : Nat} {row : Row} {t : Value} (hr : σ.row r = none) (h0 : r ≠ 0)
    (ht : RowRel F (cxOf φ Z σ w) t row) (hz : ∀ g, t.ownBlock = some g → ¬ Z g ∧ ∀ s, (σ.row s).isSome → (φ s).ownBlock ≠ some g) :
    SimAt F (fun i => if i = r then t else φ i) Z (σ.set r (some row)) a w ∧ CxLe (cxOf φ Z σ w) (cxOf (fun i => if i = r then t else φ i) Z (σ.set r (some row)) w) := by
  have hc : CxLe (cxOf φ Z σ w) (cxOf (fun i => if i = r then t else φ i) Z (σ.set r (some row)) w) := by
    refine ⟨fun b hb => ⟨hb, rfl⟩, fun s u j e => ?_⟩
    have hsr : s ≠ r := by rintro rfl; simp [cxOf, hr] at e
    refine ⟨u, j, ?_, Nat.le_refl _, fun _ => rfl⟩
    simp only [cxOf, St.set, if_neg hsr] at e ⊢
    exact e
  refine ⟨⟨h.dfr, h.nt, fun i => relV_mono hc _ _ (h.env i), ?_, ?_, h.zlt, ?_, h.base, h.keep, ?_⟩, hc⟩
  · intro s rw' hs
    simp only [St.set] at hs
    by_cases e : s = r
    · subst e
      rw [if_pos rfl] at hs ⊢
      cases hs
      exact ht.mono hc (fun _ _ => rfl)
    · rw [if_neg e] at hs ⊢
      exact (h.rows s rw' hs).mono hc (fun _ _ => rfl)
  · intro s s' hne h1 h2 g hg
    simp only [St.set] at h1 h2
    by_cases e : s = r
    · subst e
      rw [if_pos rfl] at hg
      rw [if_neg (Ne.symm hne)] at h2 ⊢
      exact (hz g hg).2 s' h2
    · rw [if_neg e] at h1 hg
      by_cases e' : s' = r
      · subst e'
        rw [if_pos rfl]
        intro hg'
        exact (hz g hg').2 s h1 hg
      · rw [if_neg e'] at h2 ⊢
        exact h.disj s s' hne h1 h2 g hg
  · intro b hb s hs
    simp only [St.set] at hs
    by_cases e : s = r
    · subst e
      rw [if_pos rfl]
      intro hg
      exact (hz b hg).1 hb
    · rw [if_neg e] at hs ⊢
      exact h.zrow b hb s hs
  · intro t' ht' hs
    have : (0 : Nat) ≠ r := fun e => h0 e.symm
    simp only [St.set, if_neg this] at hs ⊢
    exact h.recv t' ht' hs

/-- one row turns -/
theorem SimAt.turn {F : Fr} {φ : Nat → Value} {Z : Nat → Prop} {σ : St} {a : Act} {w w' : World} (h : SimAt F φ Z σ a w) {r : Nat} {row row' : Row} {t' : Value} (hr : σ.row r = some row)
    (hg : w.grownBy w' (φ r).ownBlock) (hv : row.ver ≤ row'.ver) (hv' : row'.ver = row.ver → t' = φ r)
    (hrow : CxLe (cxOf φ Z σ w) (cxOf (fun i => if i = r then t' else φ i) Z (σ.set r (some row')) w') → RowRel F (cxOf (fun i => if i = r then t' else φ i) Z (σ.set r (some row')) w') t' row')
    (hb : ∀ g, t'.ownBlock = some g → (φ r).ownBlock = some g ∨ w.heap.size ≤ g) (h0 : r = 0 → t' = φ r) :
    SimAt F (fun i => if i = r then t' else φ i) Z (σ.set r (some row')) a w' ∧ CxLe (cxOf φ Z σ w) (cxOf (fun i => if i = r then t' else φ i) Z (σ.set r (some row')) w') := by
  have hrs : (σ.row r).isSome := by simp [hr]
  have hc : CxLe (cxOf φ Z σ w) (cxOf (fun i => if i = r then t' else φ i) Z (σ.set r (some row')) w') := by
    refine ⟨fun b hb => ⟨hb, hg.block b (h.zlt b hb) (fun e => h.zrow b hb r hrs e.symm)⟩, fun s u j e => ?_⟩
    by_cases hsr : s = r
    · subst hsr
      simp only [cxOf, hr, Option.map_some, Option.some.injEq, Prod.mk.injEq] at e
      obtain ⟨rfl, rfl⟩ := e
      exact ⟨t', row'.ver, by simp [cxOf, St.set], hv, hv'⟩
    · refine ⟨u, j, ?_, Nat.le_refl _, fun _ => rfl⟩
      simp only [cxOf, St.set, if_neg hsr] at e ⊢
      exact e
  have hlt : ∀ s row, σ.row s = some row → ∀ g, (φ s).ownBlock = some g → g < w.heap.size := fun s row hs g hg => (h.rows s row hs).lt hg
  refine ⟨⟨h.dfr, h.nt, fun i => relV_mono hc _ _ (h.env i), ?_, ?_, ?_, ?_, h.base, ?_, ?_⟩, hc⟩
  · intro s rw' hs
    simp only [St.set] at hs
    by_cases e : s = r
    · subst e
      rw [if_pos rfl] at hs ⊢
      cases hs
      exact hrow hc
    · rw [if_neg e] at hs ⊢
      refine (h.rows s rw' hs).mono hc (fun g hg' => hg.block g (hlt s rw' hs g hg') (fun e' => ?_))
      exact h.disj s r e (by simp [hs]) hrs g hg' e'.symm
  · intro s s' hne h1 h2 g hg'
    simp only [St.set] at h1 h2
    by_cases e : s = r
    · subst e
      rw [if_pos rfl] at hg'
      rw [if_neg (Ne.symm hne)] at h2 ⊢
      intro hs'
      obtain ⟨rw2, hrw2⟩ := Option.isSome_iff_exists.1 h2
      rcases hb g hg' with h3 | h3
      · exact h.disj s s' hne hrs h2 g h3 hs'
      · have := hlt s' rw2 hrw2 g hs'; omega
    · rw [if_neg e] at h1 hg'
      by_cases e' : s' = r
      · subst e'
        rw [if_pos rfl]
        intro hg2
        obtain ⟨rw2, hrw2⟩ := Option.isSome_iff_exists.1 h1
        rcases hb g hg2 with h3 | h3
        · exact h.disj s s' hne h1 hrs g hg' h3
        · have := hlt s rw2 hrw2 g hg'; omega
      · rw [if_neg e'] at h2 ⊢
        exact h.disj s s' hne h1 h2 g hg'
  · intro b hb'; exact Nat.lt_of_lt_of_le (h.zlt b hb') hg.size
  · intro b hb' s hs
    simp only [St.set] at hs
    by_cases e : s = r
    · subst e
      rw [if_pos rfl]
      intro hg2
      rcases hb b hg2 with h3 | h3
      · exact h.zrow b hb' s hrs h3
      · have := h.zlt b hb'; omega
    · rw [if_neg e] at hs ⊢
      exact h.zrow b hb' s hs
  · have hk := h.keep
    refine ⟨hg.os.trans hk.os, hg.tape.trans hk.tape, hg.output.trans hk.output, Nat.le_trans hk.size hg.size, fun b hb' hm => ?_⟩
    refine (hg.block b (Nat.lt_of_lt_of_le hb' hk.size) (fun e => ?_)).trans (hk.block b hb' hm)
    rcases (h.rows r row hr).blk b e.symm with h3 | h3
    · omega
    · exact hm h3.2
  · intro u hu hs
    by_cases e : r = 0
    · have ht := h0 e
      subst e
      simp only [if_pos]
      rw [ht]
      exact h.recv u hu (by simp [hr])
    · have e' : (0 : Nat) ≠ r := fun x => e x.symm
      simp only [St.set, if_neg e'] at hs ⊢
      exact h.recv u hu hs

end Go.Sym
end

section
/-
  What single operations do to an abstract state; nothing of the program stands here.
-/
set_option linter.unusedVariables false
namespace Go.Sym
open Go Go.RowKit

/-! ### types -/
inductive ZK where
  | int (k : IntKind) | bool | str | nilsl | nilptr
def ZK.val : ZK → Value
  | .int k => .int k 0
  | .bool => .bool false
  | .str => .string .empty
  | .nilsl => .slice none 0 0
  | .nilptr => .pointer none
def ZK.is : ZK → Value → Bool
  | .int k, .int k' n => k == k' && n == 0
  | .bool, .bool b => !b
  | .str, .string s => s.data.isEmpty
  | .nilsl, .slice none n c => n == 0 && c == 0
  | .nilptr, .pointer none => true
  | _, _ => false
theorem ZK.is_val {z : ZK} {v : Value} (h : z.is v = true) : v = z.val := by
  cases z <;> cases v <;> simp [ZK.is] at h <;> try (simp [ZK.val]; done)
  · obtain ⟨rfl, rfl⟩ := h; rfl
  · subst h; rfl
  · rename_i s
    obtain ⟨d⟩ := s
    simp at h
    subst h; rfl
  · rename_i a n c
    cases a <;> simp at h
    obtain ⟨rfl, rfl⟩ := h; rfl
  · rename_i a
    cases a <;> simp at h
    rfl
def isZs : List ZK → List Value → Bool
  | [], [] => true
  | z :: zs, v :: vs => z.is v && isZs zs vs
  | _, _ => false
theorem isZs_val : ∀ {zs : List ZK} {vs : List Value}, isZs zs vs = true → vs = zs.map ZK.val
  | [], [], _ => rfl
  | z :: zs, v :: vs, h => by
    simp [isZs] at h
    rw [ZK.is_val h.1, isZs_val h.2]; rfl
  | [], _ :: _, h => by simp [isZs] at h
  | _ :: _, [], h => by simp [isZs] at h
inductive TyU where
  | slice (e : Nat) | str | int (k : IntKind) | bool | struct (fs : List (Nat × Nat × Nat)) | ptr
structure TyI where
  agg : Bool
  size : Nat
  bytes : Nat
  zero : List ZK
  u : TyU
def chkU (P : Program) : TypeDesc → TyU → Bool → Bool
  | .slice e, .slice e', agg => e == e' && !agg
  | .string, .str, agg => !agg
  | .int k, .int k', agg => k == k' && !agg
  | .bool, .bool, agg => !agg
  | .struct fs, .struct l, agg => agg && (fs.toList.map fun f => (f.offset, f.type, ((P.info? f.type).map (·.size)).getD 0)) == l
  | .pointer _, .ptr, agg => !agg
  | _, _, _ => false
def chkT (P : Program) (t : Nat) (i : TyI) : Bool :=
  match P.info? t, P.underlying t with
  | some inf, some d => inf.size == i.size && inf.bytes == i.bytes && (match inf.zero with | some z => isZs i.zero z.cells.toList | none => false) && chkU P d i.u i.agg
  | _, _ => false
def lkT : List (Nat × TyI) → Nat → Option TyI
  | [], _ => none
  | (s, i) :: l, t => bif Nat.beq s t then some i else lkT l t
def chkAll (P : Program) : List (Nat × TyI) → Bool
  | [] => true
  | (t, i) :: l => chkT P t i && chkAll P l
def TabOk (P : Program) (T : List (Nat × TyI)) : Prop := chkAll P T = true
theorem TabOk.get {P : Program} : ∀ {T : List (Nat × TyI)}, TabOk P T → ∀ {t : Nat} {i : TyI}, lkT T t = some i → chkT P t i = true
  | [], _, t, i, h => by simp [lkT] at h
  | (s, j) :: l, hT, t, i, h => by
    simp only [TabOk, chkAll, Bool.and_eq_true] at hT
    simp only [lkT] at h
    cases e : Nat.beq s t
    · rw [e] at h; exact TabOk.get (T := l) hT.2 h
    · rw [e] at h
      simp at h
      subst h
      have := Nat.eq_of_beq_eq_true e
      subst this
      exact hT.1
structure Known (P : Program) (t : Nat) (i : TyI) (inf : TypeInfo) (d : TypeDesc) : Prop where
  info : P.info? t = some inf
  und : P.underlying t = some d
  size : inf.size = i.size
  bytes : inf.bytes = i.bytes
  zero : ∃ z, inf.zero = some z ∧ z.cells.toList = i.zero.map ZK.val
  u : chkU P d i.u i.agg = true
theorem TabOk.known {P : Program} {T : List (Nat × TyI)} (hT : TabOk P T) {t : Nat} {i : TyI} (h : lkT T t = some i) : ∃ inf d, Known P t i inf d := by
  have hc := hT.get h
  unfold chkT at hc
  cases h1 : P.info? t with
  | none => simp [h1] at hc
  | some inf =>
    cases h2 : P.underlying t with
    | none => simp [h1, h2] at hc
    | some d =>
      simp only [h1, h2, Bool.and_eq_true, beq_iff_eq] at hc
      obtain ⟨⟨⟨a, b⟩, c⟩, e⟩ := hc
      refine ⟨inf, d, h1, h2, a, b, ?_, e⟩
      cases h3 : inf.zero with
      | none => simp [h3] at c
      | some z => simp only [h3] at c; exact ⟨z, rfl, isZs_val c⟩
theorem Known.slice {P : Program} {t : Nat} {i : TyI} {inf : TypeInfo} {d : TypeDesc} (h : Known P t i inf d) {e : Nat} (hu : i.u = .slice e) : P.underlying t = some (.slice e) := by
  have := h.u
  rw [hu] at this
  cases d <;> simp [chkU] at this
  rw [h.und, this.1]
theorem Known.str {P : Program} {t : Nat} {i : TyI} {inf : TypeInfo} {d : TypeDesc} (h : Known P t i inf d) (hu : i.u = .str) : P.underlying t = some .string := by
  have := h.u
  rw [hu] at this
  cases d <;> simp [chkU] at this
  rw [h.und]
theorem Known.int {P : Program} {t : Nat} {i : TyI} {inf : TypeInfo} {d : TypeDesc} (h : Known P t i inf d) {k : IntKind} (hu : i.u = .int k) : P.underlying t = some (.int k) := by
  have := h.u
  rw [hu] at this
  cases d <;> simp [chkU] at this
  rw [h.und, this.1]
theorem Known.struct {P : Program} {t : Nat} {i : TyI} {inf : TypeInfo} {d : TypeDesc} (h : Known P t i inf d) {l : List (Nat × Nat × Nat)} (hu : i.u = .struct l) :
    ∃ fs : Array Field, P.underlying t = some (.struct fs) ∧ (fs.toList.map fun f => (f.offset, f.type, ((P.info? f.type).map (·.size)).getD 0)) = l := by
  have := h.u
  rw [hu] at this
  cases d <;> simp [chkU] at this
  rename_i fs
  exact ⟨fs, h.und, this.2⟩
theorem run_sizeOf_known {P : Program} {t : Nat} {inf : TypeInfo} (h : P.info? t = some inf) (w : World) : (sizeOf t).run P w = .ok inf.size w := by
  simp [sizeOf, typeInfo, h]
theorem Known.run_agg {P : Program} {t : Nat} {i : TyI} {inf : TypeInfo} {d : TypeDesc} (h : Known P t i inf d) (w : World) : (isAgg t).run P w = .ok i.agg w := by
  have hu := h.u
  cases d <;> cases hiu : i.u <;> simp [chkU, hiu] at hu <;> simp [Go.isAgg, run_underlying h.und, hu]

/-! ### states -/
def lkE : List (Nat × AV) → Nat → AV
  | [], _ => .any
  | (d, x) :: e, t => bif Nat.beq d t then x else lkE e t
def lkR : List (Nat × Option Row) → Nat → Option Row
  | [], _ => none
  | (d, x) :: e, t => bif Nat.beq d t then x else lkR e t
def mkSt (E : List (Nat × AV)) (H : List (Nat × Option Row)) : St := ⟨lkE E, lkR H⟩
def overR (f : Nat → Option Row) : List (Nat × Option Row) → Nat → Option Row
  | [], t => f t
  | (d, x) :: e, t => bif Nat.beq d t then x else overR f e t
def St.rowsUpd (σ : St) (rs : List (Nat × Option Row)) : St := { σ with row := overR σ.row rs }
def St.upd (σ : St) (d : Option Nat) (x : AV) (rs : List (Nat × Option Row)) : St :=
  match d with
  | some d => (σ.rowsUpd rs).put d x
  | none => σ.rowsUpd rs
theorem lkR_append (rs H : List (Nat × Option Row)) (t : Nat) : lkR (rs ++ H) t = overR (lkR H) rs t := by
  induction rs with
  | nil => rfl
  | cons a rs ih => obtain ⟨d, x⟩ := a; simp only [List.cons_append, lkR, overR, ih]
theorem upd_mk (E : List (Nat × AV)) (H rs : List (Nat × Option Row)) (d : Option Nat) (x : AV) :
    (mkSt E H).upd d x rs = mkSt (match d with | some d => (d, x) :: E | none => E) (rs ++ H) := by
  have hr : ∀ t, overR (lkR H) rs t = lkR (rs ++ H) t := fun t => (lkR_append rs H t).symm
  cases d with
  | none => simp only [St.upd, St.rowsUpd, mkSt]; congr 1; funext t; exact hr t
  | some d =>
    simp only [St.upd, St.rowsUpd, mkSt, St.put]
    congr 1
    · funext t
      simp only [lkE]
      by_cases e : t = d
      · subst e; simp
      · rw [if_neg e]
        have : Nat.beq d t = false := by
          cases hb : Nat.beq d t
          · rfl
          · exact absurd (Nat.eq_of_beq_eq_true hb).symm e
        rw [this]; rfl
    · funext t; exact hr t
theorem set_eq_upd (σ : St) (r : Nat) (o : Option Row) : σ.set r o = σ.rowsUpd [(r, o)] := by
  simp only [St.set, St.rowsUpd, overR]
  congr 1
  funext t
  by_cases e : t = r
  · subst e; simp
  · rw [if_neg e]
    have : Nat.beq r t = false := by
      cases hb : Nat.beq r t
      · rfl
      · exact absurd (Nat.eq_of_beq_eq_true hb).symm e
    rw [this]; rfl
def St.ev (σ : St) : Operand → AV
  | .tmp t => σ.env t
  | .const c => .v c
  | .global _ => .any
  | .func f => .v (.func (.func f) #[] #[])
theorem SimAt.ev {F : Fr} {φ : Nat → Value} {Z : Nat → Prop} {σ : St} {a : Act} {w : World} (h : SimAt F φ Z σ a w) (x : Operand) : relV (cxOf φ Z σ w) (σ.ev x) (a.eval x) := by
  cases x with
  | tmp t => exact h.env t
  | const c => simp [St.ev, relV, Act.eval]
  | global g => simp [St.ev, relV]
  | func f => simp [St.ev, relV, Act.eval]

structure Foot where
  e : List Nat
  r : List Nat
def fo : Operand → List Nat
  | .tmp t => [t]
  | _ => []
def Agree (R : Foot) (τ σ : St) : Prop := (∀ t, t ∈ R.e → τ.env t = σ.env t) ∧ (∀ r, r ∈ R.r → τ.row r = σ.row r)
theorem Agree.ev {R : Foot} {τ σ : St} (h : Agree R τ σ) {x : Operand} (hx : ∀ t, t ∈ fo x → t ∈ R.e) : τ.ev x = σ.ev x := by
  cases x with
  | tmp t => exact h.1 t (hx t (by simp [fo]))
  | _ => rfl

/-- operation o, in every state that agrees with σ on R, leaves x in its slot and turns the rows rs -/
structure Does (P : Program) (nt : Nat) (o : Oper) (R : Foot) (x : AV) (rs : List (Nat × Option Row)) (σ : St) : Prop where
  out : ∀ τ, Agree R τ σ → ∀ F, F.nt = nt → ∀ a w, Sim F τ a w → ∀ (Q : Exit → Act → World → Prop) (K : Act → World → Prop), (∀ u w', Sim F (τ.upd o.dst x rs) (a.put o.dst u) w' → K (a.put o.dst u) w') → o.wp P a w K Q

def dstOk (nt : Nat) : Option Nat → Bool
  | none => true
  | some d => decide (d < nt)

theorem does_run {P : Program} {nt : Nat} {o : Oper} {R : Foot} {x : AV} {rs : List (Nat × Option Row)} {σ : St} (hd : dstOk nt o.dst = true)
    (h : ∀ τ, Agree R τ σ → ∀ F φ Z a w, F.nt = nt → SimAt F φ Z τ a w → ∃ u w' φ' Z', (execOp a.eval o).run P w = .ok (.value u) w' ∧ SimAt F φ' Z' (τ.rowsUpd rs) a w' ∧ relV (cxOf φ' Z' (τ.rowsUpd rs) w') x u) :
    Does P nt o R x rs σ := by
  refine ⟨?_⟩
  intro τ hag F hF a w hS Q K hK
  obtain ⟨φ, Z, hS⟩ := hS
  obtain ⟨u, w', φ', Z', hr, hS', hx⟩ := h τ hag F φ Z a w hF hS
  unfold Oper.wp
  rw [hr]
  refine hK u w' ⟨φ', Z', ?_⟩
  cases hdst : o.dst with
  | none => exact hS'
  | some d =>
    rw [hdst] at hd
    simp [dstOk] at hd
    exact hS'.put (by omega) hx
/-- nothing of the world turns -/
theorem does_pure {P : Program} {nt : Nat} {o : Oper} {R : Foot} {x : AV} {σ : St} (hd : dstOk nt o.dst = true)
    (h : ∀ τ, Agree R τ σ → ∀ F φ Z a w, F.nt = nt → SimAt F φ Z τ a w → ∃ u, (execOp a.eval o).run P w = .ok (.value u) w ∧ relV (cxOf φ Z τ w) x u) :
    Does P nt o R x [] σ :=
  does_run hd fun τ hag F φ Z a w hF hS => by
    obtain ⟨u, hr, hx⟩ := h τ hag F φ Z a w hF hS
    exact ⟨u, w, φ, Z, hr, hS, hx⟩
theorem does_skip {P : Program} {nt : Nat} {o : Oper} {R : Foot} {rs : List (Nat × Option Row)} {σ : St} (hd : o.dst = none)
    (h : ∀ τ, Agree R τ σ → ∀ F φ Z a w, F.nt = nt → SimAt F φ Z τ a w → ∃ w' φ' Z', (execOp a.eval o).run P w = .ok .skip w' ∧ SimAt F φ' Z' (τ.rowsUpd rs) a w') :
    Does P nt o R .any rs σ := by
  refine ⟨?_⟩
  intro τ hag F hF a w hS Q K hK
  obtain ⟨φ, Z, hS⟩ := hS
  obtain ⟨w', φ', Z', hr, hS'⟩ := h τ hag F φ Z a w hF hS
  unfold Oper.wp
  rw [hr]
  show K (a.put o.dst undef) w'
  refine hK undef w' ⟨φ', Z', ?_⟩
  rw [hd]
  exact hS'

section
variable {P : Program} {nt : Nat} {σ : St} {dst : Option Nat} {ty : Nat} {pos : String} {aft : Array Edge} {gd : Option (Nat × Bool)}

theorem does_move {x : Operand} (hd : dstOk nt dst = true) : Does P nt ⟨dst, .move x, ty, pos, aft, gd⟩ ⟨fo x, []⟩ (σ.ev x) [] σ :=
  does_pure hd fun τ hag F φ Z a w hF hS => ⟨a.eval x, by simp [execOp], by rw [← hag.ev (fun t h => h)]; exact hS.ev x⟩
theorem does_assign {x : Operand} (hd : dstOk nt dst = true) : Does P nt ⟨dst, .assign x, ty, pos, aft, gd⟩ ⟨fo x, []⟩ (σ.ev x) [] σ :=
  does_pure hd fun τ hag F φ Z a w hF hS => ⟨a.eval x, by simp [execOp], by rw [← hag.ev (fun t h => h)]; exact hS.ev x⟩
theorem does_pick {c x y : Operand} {b : Bool} (hd : dstOk nt dst = true) (hc : σ.ev c = .bool b) :
    Does P nt ⟨dst, .pick c x y, ty, pos, aft, gd⟩ ⟨fo c ++ (fo x ++ fo y), []⟩ (bif b then σ.ev x else σ.ev y) [] σ :=
  does_pure hd fun τ hag F φ Z a w hF hS => by
    have e1 : τ.ev c = σ.ev c := hag.ev (fun t h => by simp [h])
    have e2 : τ.ev x = σ.ev x := hag.ev (fun t h => by simp [h])
    have e3 : τ.ev y = σ.ev y := hag.ev (fun t h => by simp [h])
    have h1 := hS.ev c
    rw [e1, hc] at h1
    simp [relV] at h1
    refine ⟨if b then a.eval x else a.eval y, by simp [execOp, h1, asBool], ?_⟩
    cases b
    · simp only [cond_false]; rw [← e3]; exact hS.ev y
    · simp only [cond_true]; rw [← e2]; exact hS.ev x

theorem ev_v {x : Operand} {c : Value} {R : Foot} {τ : St} {F : Fr} {φ : Nat → Value} {Z : Nat → Prop} {a : Act} {w : World} (hag : Agree R τ σ) (hS : SimAt F φ Z τ a w) (hx : σ.ev x = .v c) (hR : ∀ t, t ∈ fo x → t ∈ R.e) : a.eval x = c := by
  have h1 := hS.ev x
  rw [hag.ev hR, hx] at h1
  simpa [relV] using h1
theorem ev_rel {x : Operand} {c : AV} {R : Foot} {τ : St} {F : Fr} {φ : Nat → Value} {Z : Nat → Prop} {a : Act} {w : World} (hag : Agree R τ σ) (hS : SimAt F φ Z τ a w) (hx : σ.ev x = c) (hR : ∀ t, t ∈ fo x → t ∈ R.e) : relV (cxOf φ Z τ w) c (a.eval x) := by
  have h1 := hS.ev x
  rw [hag.ev hR, hx] at h1
  exact h1

/-! arithmetic -/
theorem does_add {t t' : Nat} {x y : Operand} {i j : Int} {k : IntKind} (hd : dstOk nt dst = true) (hx : σ.ev x = .v (.int k i)) (hy : σ.ev y = .v (.int k j)) (hw : k.wrap (i + j) = i + j) :
    Does P nt ⟨dst, .binOp .add t x y t', ty, pos, aft, gd⟩ ⟨fo x ++ fo y, []⟩ (.v (.int k (i + j))) [] σ :=
  does_pure hd fun τ hag F φ Z a w hF hS =>
    ⟨.int k (i + j), by simp [execOp, eqGuard, binOp, Op.intArith, ev_v hag hS hx (by simp +contextual), ev_v hag hS hy (by simp +contextual), hw], by simp [relV]⟩
theorem does_sub {t t' : Nat} {x y : Operand} {i j : Int} {k : IntKind} (hd : dstOk nt dst = true) (hx : σ.ev x = .v (.int k i)) (hy : σ.ev y = .v (.int k j)) (hw : k.wrap (i - j) = i - j) :
    Does P nt ⟨dst, .binOp .sub t x y t', ty, pos, aft, gd⟩ ⟨fo x ++ fo y, []⟩ (.v (.int k (i - j))) [] σ :=
  does_pure hd fun τ hag F φ Z a w hF hS =>
    ⟨.int k (i - j), by simp [execOp, eqGuard, binOp, Op.intArith, ev_v hag hS hx (by simp +contextual), ev_v hag hS hy (by simp +contextual), hw], by simp [relV]⟩
theorem does_mul {t t' : Nat} {x y : Operand} {i j : Int} {k : IntKind} (hd : dstOk nt dst = true) (hx : σ.ev x = .v (.int k i)) (hy : σ.ev y = .v (.int k j)) (hw : k.wrap (i * j) = i * j) :
    Does P nt ⟨dst, .binOp .mul t x y t', ty, pos, aft, gd⟩ ⟨fo x ++ fo y, []⟩ (.v (.int k (i * j))) [] σ :=
  does_pure hd fun τ hag F φ Z a w hF hS =>
    ⟨.int k (i * j), by simp [execOp, eqGuard, binOp, Op.intArith, ev_v hag hS hx (by simp +contextual), ev_v hag hS hy (by simp +contextual), hw], by simp [relV]⟩
theorem does_lss {t t' : Nat} {x y : Operand} {i j : Int} {k : IntKind} (hd : dstOk nt dst = true) (hx : σ.ev x = .v (.int k i)) (hy : σ.ev y = .v (.int k j)) :
    Does P nt ⟨dst, .binOp .lss t x y t', ty, pos, aft, gd⟩ ⟨fo x ++ fo y, []⟩ (.bool (decide (i < j))) [] σ :=
  does_pure hd fun τ hag F φ Z a w hF hS =>
    ⟨.bool (decide (i < j)), by simp [execOp, eqGuard, binOp, Op.intCmp, ev_v hag hS hx (by simp +contextual), ev_v hag hS hy (by simp +contextual)], by simp [relV]⟩
theorem does_leq {t t' : Nat} {x y : Operand} {i j : Int} {k : IntKind} (hd : dstOk nt dst = true) (hx : σ.ev x = .v (.int k i)) (hy : σ.ev y = .v (.int k j)) :
    Does P nt ⟨dst, .binOp .leq t x y t', ty, pos, aft, gd⟩ ⟨fo x ++ fo y, []⟩ (.bool (decide (i ≤ j))) [] σ :=
  does_pure hd fun τ hag F φ Z a w hF hS =>
    ⟨.bool (decide (i ≤ j)), by simp [execOp, eqGuard, binOp, Op.intCmp, ev_v hag hS hx (by simp +contextual), ev_v hag hS hy (by simp +contextual)], by simp [relV]⟩
theorem does_gtr {t t' : Nat} {x y : Operand} {i j : Int} {k : IntKind} (hd : dstOk nt dst = true) (hx : σ.ev x = .v (.int k i)) (hy : σ.ev y = .v (.int k j)) :
    Does P nt ⟨dst, .binOp .gtr t x y t', ty, pos, aft, gd⟩ ⟨fo x ++ fo y, []⟩ (.bool (decide (j < i))) [] σ :=
  does_pure hd fun τ hag F φ Z a w hF hS =>
    ⟨.bool (decide (j < i)), by simp [execOp, eqGuard, binOp, Op.intCmp, ev_v hag hS hx (by simp +contextual), ev_v hag hS hy (by simp +contextual)], by simp [relV]⟩
theorem does_geq {t t' : Nat} {x y : Operand} {i j : Int} {k : IntKind} (hd : dstOk nt dst = true) (hx : σ.ev x = .v (.int k i)) (hy : σ.ev y = .v (.int k j)) :
    Does P nt ⟨dst, .binOp .geq t x y t', ty, pos, aft, gd⟩ ⟨fo x ++ fo y, []⟩ (.bool (decide (j ≤ i))) [] σ :=
  does_pure hd fun τ hag F φ Z a w hF hS =>
    ⟨.bool (decide (j ≤ i)), by simp [execOp, eqGuard, binOp, Op.intCmp, ev_v hag hS hx (by simp +contextual), ev_v hag hS hy (by simp +contextual)], by simp [relV]⟩
theorem does_eql {t t' : Nat} {x y : Operand} {i j : Int} {k : IntKind} (hd : dstOk nt dst = true) (hx : σ.ev x = .v (.int k i)) (hy : σ.ev y = .v (.int k j)) :
    Does P nt ⟨dst, .binOp .eql t x y t', ty, pos, aft, gd⟩ ⟨fo x ++ fo y, []⟩ (.bool (decide (i = j))) [] σ :=
  does_pure hd fun τ hag F φ Z a w hF hS =>
    ⟨.bool (decide (i = j)), by simp [execOp, eqGuard, binOp, Op.intCmp, ev_v hag hS hx (by simp +contextual), ev_v hag hS hy (by simp +contextual)]; rfl, by simp [relV]⟩
theorem does_neq {t t' : Nat} {x y : Operand} {i j : Int} {k : IntKind} (hd : dstOk nt dst = true) (hx : σ.ev x = .v (.int k i)) (hy : σ.ev y = .v (.int k j)) :
    Does P nt ⟨dst, .binOp .neq t x y t', ty, pos, aft, gd⟩ ⟨fo x ++ fo y, []⟩ (.bool (decide (i ≠ j))) [] σ :=
  does_pure hd fun τ hag F φ Z a w hF hS =>
    ⟨.bool (decide (i ≠ j)), by simp [execOp, eqGuard, binOp, Op.intCmp, ev_v hag hS hx (by simp +contextual), ev_v hag hS hy (by simp +contextual)]; rfl, by simp [relV]⟩
theorem does_not {t : Nat} {x : Operand} {b : Bool} (hd : dstOk nt dst = true) (hx : σ.ev x = .bool b) :
    Does P nt ⟨dst, .unOp .not t x, ty, pos, aft, gd⟩ ⟨fo x, []⟩ (.bool (!b)) [] σ :=
  does_pure hd fun τ hag F φ Z a w hF hS =>
    ⟨.bool (!b), by simp [execOp, Op.unary, ev_v hag hS hx (by simp)], by simp [relV]⟩
end

end Go.Sym
end

section
/-
  What operations on memory do to an abstract state; nothing of the program stands here.
-/
set_option linter.unusedVariables false
set_option linter.unusedSimpArgs false
namespace Go.Sym
open Go Go.RowKit

def rd (cs : List AV) (off : Nat) : AV := cs.getD off (.int 0)
def rds (cs : List AV) (off : Nat) : Nat → List AV
  | 0 => []
  | n+1 => rd cs off :: rds cs (off + 1) n
theorem rd_get {cs : List AV} {j : Nat} (h : j < cs.length) : cs[j]? = some (rd cs j) := by simp [rd, List.getD, h]
def setL (cs : List AV) (o : Nat) : List AV → List AV
  | [] => cs
  | y :: ys => setL (cs.set o y) (o + 1) ys
theorem setL_length (ys : List AV) : ∀ (cs : List AV) (o : Nat), (setL cs o ys).length = cs.length := by
  induction ys with
  | nil => intro cs o; rfl
  | cons y ys ih => intro cs o; simp [setL, ih]
theorem setL_get (ys : List AV) : ∀ (cs : List AV) (o i : Nat), o + ys.length ≤ cs.length → (setL cs o ys)[i]? = if o ≤ i ∧ i < o + ys.length then ys[i - o]? else cs[i]? := by
  induction ys with
  | nil => intro cs o i h; simp [setL]; intro h1 h2; omega
  | cons y ys ih =>
    intro cs o i h
    simp only [List.length_cons] at h
    rw [setL, ih (cs.set o y) (o + 1) i (by simp; omega)]
    by_cases h1 : o = i
    · subst h1
      rw [if_neg (by omega), if_pos (by simp), List.getElem?_set, if_pos rfl, if_pos (by omega)]
      simp
    · by_cases h2 : o + 1 ≤ i ∧ i < o + 1 + ys.length
      · rw [if_pos h2, if_pos (by simp; omega)]
        rw [show i - o = (i - (o + 1)) + 1 by omega, List.getElem?_cons_succ]
      · rw [if_neg h2, if_neg (by simp; omega), List.getElem?_set, if_neg h1]

/-- one cell -/
def AV.one : AV → Bool
  | .any => false
  | .v x => x.oneCell'
  | .agg _ => false
  | .tup _ => false
  | _ => true
/-- a value that is one cell, plainly: a scalar, a slice of still memory, the slice of a row that stands -/
def cellB (σ : St) : AV → Bool
  | .v x => x.oneCell'
  | .sl _ _ _ => true
  | .both _ (.sl _ _ _) => true
  | .own r k => match σ.row r with
    | some row => Nat.beq row.ver k
    | none => false
  | _ => false
def rowOf : AV → List Nat
  | .own r _ => [r]
  | _ => []
def rowsOf : List AV → List Nat
  | [] => []
  | x :: xs => rowOf x ++ rowsOf xs
def allCells (σ : St) : List AV → Bool
  | [] => true
  | x :: xs => cellB σ x && allCells σ xs
theorem cellB_agree {R : Foot} {τ σ : St} (hag : Agree R τ σ) {x : AV} (h : ∀ r, r ∈ rowOf x → r ∈ R.r) : cellB τ x = cellB σ x := by
  cases x <;> simp only [cellB]
  case own r k => rw [hag.2 r (h r (by simp [rowOf]))]
  case both x y => cases y <;> rfl
theorem allCells_agree {R : Foot} {τ σ : St} (hag : Agree R τ σ) : ∀ {xs : List AV}, (∀ r, r ∈ rowsOf xs → r ∈ R.r) → allCells τ xs = allCells σ xs
  | [], _ => rfl
  | x :: xs, h => by
    simp only [allCells]
    rw [cellB_agree hag (fun r hr => h r (by simp [rowsOf, hr])), allCells_agree hag (fun r hr => h r (by simp [rowsOf, hr]))]
theorem rowTip {F : Fr} {φ : Nat → Value} {Z : Nat → Prop} {σ : St} {a : Act} {w : World} (h : SimAt F φ Z σ a w) {r : Nat} {row : Row} (hr : σ.row r = some row) : (cxOf φ Z σ w).tip r = some (φ r, row.ver) := by
  simp [cxOf, hr]
theorem own_one {w : World} {b : Nat} {e : TypeId} {s : Nat} {v : Value} {n : Nat} {xs : List Value} (h : w.ownsRow b e s v n xs) : v.oneCell' = true := by
  rcases h.2 with ⟨rfl, _⟩ | ⟨g, cap, cur, rfl, _⟩ <;> rfl
theorem cellB_one {F : Fr} {φ : Nat → Value} {Z : Nat → Prop} {σ : St} {a : Act} {w : World} (h : SimAt F φ Z σ a w) {x : AV} {u : Value} (hx : relV (cxOf φ Z σ w) x u) (hc : cellB σ x = true) : u.oneCell' = true := by
  cases x <;> simp only [cellB] at hc <;> try (cases hc; done)
  case v c => simp [relV] at hx; subst hx; exact hc
  case sl ty sz cs => simp only [relV] at hx; obtain ⟨_, ao, n, c, rfl, _⟩ := hx; rfl
  case both x y =>
    cases y <;> simp at hc
    simp only [relV] at hx; obtain ⟨_, _, ao, n, c, rfl, _⟩ := hx; rfl
  case own r k =>
    cases hr : σ.row r with
    | none => simp [hr] at hc
    | some row =>
      rw [hr] at hc
      have hv := Nat.eq_of_beq_eq_true hc
      simp only [relV, rowTip h hr] at hx
      obtain ⟨t, j, e, _, h4⟩ := hx
      simp at e
      obtain ⟨rfl, rfl⟩ := e
      rw [h4 hv]
      obtain ⟨n, xs, ho, _⟩ := (h.rows r row hr).own
      exact own_one ho
theorem allCells_one {F : Fr} {φ : Nat → Value} {Z : Nat → Prop} {σ : St} {a : Act} {w : World} (h : SimAt F φ Z σ a w) : ∀ {xs : List AV} {us : List Value}, relL (cxOf φ Z σ w) xs us → allCells σ xs = true → ∀ u, u ∈ us → u.oneCell' = true
  | [], us, hx, _, u, hu => by simp [relL] at hx; subst hx; simp at hu
  | x :: xs, us, hx, hc, u, hu => by
    simp only [relL] at hx
    obtain ⟨v, vs, rfl, h1, h2⟩ := hx
    simp only [allCells, Bool.and_eq_true] at hc
    rcases List.mem_cons.1 hu with rfl | hu
    · exact cellB_one h h1 hc.1
    · exact allCells_one h h2 hc.2 u hu

/-! what a row is in memory -/
structure RowMem (w : World) (t : Value) (row : Row) (cx : Cx) (n : Nat) (xs : List Value) : Prop where
  own : w.ownsRow 0 row.ty row.sz t n xs
  len : row.cs.length = n * row.sz
  rel : relL cx row.cs xs
  one : ∀ u, u ∈ xs → u.oneCell' = true
theorem rowMem {F : Fr} {φ : Nat → Value} {Z : Nat → Prop} {σ : St} {a : Act} {w : World} (h : SimAt F φ Z σ a w) {r : Nat} {row : Row} (hr : σ.row r = some row) : ∃ n xs, RowMem w (φ r) row (cxOf φ Z σ w) n xs := by
  obtain ⟨n, xs, h1, h2, h3, h4⟩ := (h.rows r row hr).own
  exact ⟨n, xs, h1, h2, h3, h4⟩
/-- the block of a row that is not empty -/
theorem RowMem.open {w : World} {t : Value} {row : Row} {cx : Cx} {n : Nat} {xs : List Value} (h : RowMem w t row cx n xs) (hne : 0 < row.cs.length) :
    ∃ g cap cur, t = .slice (some ⟨g, 0, none⟩) n cap ∧ w.heap[g]? = some (.cells cur row.ty (0, 0)) ∧ n ≤ cap ∧ cap ≤ maxLen ∧ cur.size = cap * row.sz ∧ cur.toList.take (n * row.sz) = xs := by
  rcases h.own.2 with ⟨rfl, h0⟩ | ⟨g, cap, cur, h1, _, h2⟩
  · have := h.len
    rw [h0] at this
    omega
  · exact ⟨g, cap, cur, h1, h2⟩
theorem RowMem.cell {w : World} {t : Value} {row : Row} {cx : Cx} {n : Nat} {xs : List Value} (h : RowMem w t row cx n xs) {g m c : Nat} (ht : t = .slice (some ⟨g, 0, none⟩) m c) {j : Nat} (hj : j < row.cs.length) :
    ∃ u, w.cell? ⟨g, j, none⟩ = some u ∧ relV cx (rd row.cs j) u := by
  obtain ⟨g', cap, cur, e, hg, h1, h2, h3, h4⟩ := h.open (by omega)
  rw [ht] at e
  cases e
  obtain ⟨u, hu, hr⟩ := relL_get h.rel j _ (rd_get hj)
  refine ⟨u, ?_, hr⟩
  rw [cell_of_row w g j cur _ _ hg]
  rw [← h4, List.getElem?_take] at hu
  split at hu
  · simpa using hu
  · cases hu
theorem ptr_open {F : Fr} {φ : Nat → Value} {Z : Nat → Prop} {σ : St} {a : Act} {w : World} (h : SimAt F φ Z σ a w) {r k off : Nat} {row : Row} {u : Value} (hr : σ.row r = some row) (hv : row.ver = k) (hu : relV (cxOf φ Z σ w) (.ptr r k off) u) :
    ∃ g m c, φ r = .slice (some ⟨g, 0, none⟩) m c ∧ u = .pointer (some ⟨g, off, none⟩) := by
  simp only [relV, rowTip h hr] at hu
  obtain ⟨t, j, e, _, h4⟩ := hu
  simp at e
  obtain ⟨rfl, rfl⟩ := e
  exact h4 hv
theorem own_open {F : Fr} {φ : Nat → Value} {Z : Nat → Prop} {σ : St} {a : Act} {w : World} (h : SimAt F φ Z σ a w) {r k : Nat} {row : Row} {u : Value} (hr : σ.row r = some row) (hv : row.ver = k) (hu : relV (cxOf φ Z σ w) (.own r k) u) : u = φ r := by
  simp only [relV, rowTip h hr] at hu
  obtain ⟨t, j, e, _, h4⟩ := hu
  simp at e
  obtain ⟨rfl, rfl⟩ := e
  exact h4 hv
theorem pre_open {F : Fr} {φ : Nat → Value} {Z : Nat → Prop} {σ : St} {a : Act} {w : World} (h : SimAt F φ Z σ a w) {r k n : Nat} {row : Row} {u : Value} (hr : σ.row r = some row) (hv : row.ver = k) (hu : relV (cxOf φ Z σ w) (.pre r k n) u) :
    (φ r = .slice none 0 0 ∧ u = φ r ∧ n = 0) ∨ ∃ g m c, φ r = .slice (some ⟨g, 0, none⟩) m c ∧ u = .slice (some ⟨g, 0, none⟩) n c ∧ n ≤ m := by
  simp only [relV, rowTip h hr] at hu
  obtain ⟨t, j, e, _, h4⟩ := hu
  simp at e
  obtain ⟨rfl, rfl⟩ := e
  exact h4 hv
theorem sub_open {F : Fr} {φ : Nat → Value} {Z : Nat → Prop} {σ : St} {a : Act} {w : World} (h : SimAt F φ Z σ a w) {r k off n : Nat} {row : Row} {u : Value} (hr : σ.row r = some row) (hv : row.ver = k) (hu : relV (cxOf φ Z σ w) (.sub r k off n) u) :
    ∃ ao c, u = .slice ao n c ∧ n ≤ c ∧ c ≤ maxLen ∧ (n = 0 ∨ ∃ g m c', φ r = .slice (some ⟨g, 0, none⟩) m c' ∧ ao = some ⟨g, off, none⟩) := by
  simp only [relV, rowTip h hr] at hu
  obtain ⟨t, j, e, _, h4⟩ := hu
  simp at e
  obtain ⟨rfl, rfl⟩ := e
  exact h4 hv

section
variable {P : Program} {T : List (Nat × TyI)} {nt : Nat} {σ : St} {dst : Option Nat} {ty : Nat} {pos : String} {aft : Array Edge} {gd : Option (Nat × Bool)}

/-! loads -/
theorem run_load_one (hT : TabOk P T) {t : Nat} {i : TyI} (ht : lkT T t = some i) (hg : i.agg = false) {w : World} {A : Addr} {u : Value} (hc : w.cell? A = some u) : (Instr.loadAt t (.pointer (some A))).run P w = .ok u w := by
  obtain ⟨inf, d, hk⟩ := hT.known ht
  simp [Instr.loadAt, Instr.sureAddr, loadVar, hk.run_agg w, hg, hc]
theorem run_load_many (hT : TabOk P T) {t : Nat} {i : TyI} (ht : lkT T t = some i) (hg : i.agg = true) {w : World} {g o : Nat} {us : List Value} (hl : us.length = i.size) (hc : ∀ j u, us[j]? = some u → w.cell? ⟨g, o + j, none⟩ = some u) :
    (Instr.loadAt t (.pointer (some ⟨g, o, none⟩))).run P w = .ok (.agg us.toArray) w := by
  obtain ⟨inf, d, hk⟩ := hT.known ht
  have h1 := run_loadCells_list (P := P) (w := w) ⟨g, o, none⟩ us (fun j v hj => by rw [Addr.add_lit]; exact hc j v hj)
  simp [Instr.loadAt, Instr.sureAddr, loadVar, hk.run_agg w, hg, run_sizeOf_known hk.info, hk.size, ← hl, h1]
theorem cells_list {cx : Cx} {cs : List AV} {f : Nat → Option Value} : ∀ n off, (∀ j, off ≤ j → j < off + n → ∃ u, f j = some u ∧ relV cx (rd cs j) u) → ∃ us : List Value, us.length = n ∧ (∀ j u, us[j]? = some u → f (off + j) = some u) ∧ relL cx (rds cs off n) us
  | 0, off, h => ⟨[], rfl, by simp, by simp [rds, relL]⟩
  | n+1, off, h => by
    obtain ⟨us, h1, h2, h3⟩ := cells_list n (off + 1) (fun j a b => h j (by omega) (by omega))
    obtain ⟨u, hu, hr⟩ := h off (by omega) (by omega)
    refine ⟨u :: us, by simp [h1], ?_, ?_⟩
    · intro j v hj
      cases j with
      | zero => simp at hj; subst hj; simpa using hu
      | succ j => simp at hj; rw [show off + (j + 1) = off + 1 + j by omega]; exact h2 j v hj
    · simp only [rds, relL]; exact ⟨u, us, rfl, hr, h3⟩

theorem does_load (hT : TabOk P T) {t : Nat} {x : Operand} {i : TyI} {r k off : Nat} {row : Row} (hd : dstOk nt dst = true) (hx : σ.ev x = .ptr r k off) (hr : σ.row r = some row) (hv : row.ver = k) (ht : lkT T t = some i) (hg : i.agg = false) (ho : off < row.cs.length) :
    Does P nt ⟨dst, .load t x, ty, pos, aft, gd⟩ ⟨fo x, [r]⟩ (rd row.cs off) [] σ :=
  does_pure hd fun τ hag F φ Z a w hF hS => by
    have hr' : τ.row r = some row := by rw [hag.2 r (by simp)]; exact hr
    obtain ⟨g, m, c, e1, e2⟩ := ptr_open hS hr' hv (ev_rel hag hS hx (by simp))
    obtain ⟨n, xs, hm⟩ := rowMem hS hr'
    obtain ⟨u, hu, hrel⟩ := hm.cell e1 ho
    exact ⟨u, by simp [execOp, e2, run_load_one hT ht hg hu], hrel⟩
theorem does_load_agg (hT : TabOk P T) {t : Nat} {x : Operand} {i : TyI} {r k off : Nat} {row : Row} (hd : dstOk nt dst = true) (hx : σ.ev x = .ptr r k off) (hr : σ.row r = some row) (hv : row.ver = k) (ht : lkT T t = some i) (hg : i.agg = true) (ho : off + i.size ≤ row.cs.length) :
    Does P nt ⟨dst, .load t x, ty, pos, aft, gd⟩ ⟨fo x, [r]⟩ (.agg (rds row.cs off i.size)) [] σ :=
  does_pure hd fun τ hag F φ Z a w hF hS => by
    have hr' : τ.row r = some row := by rw [hag.2 r (by simp)]; exact hr
    obtain ⟨g, m, c, e1, e2⟩ := ptr_open hS hr' hv (ev_rel hag hS hx (by simp))
    obtain ⟨n, xs, hm⟩ := rowMem hS hr'
    obtain ⟨us, h1, h2, h3⟩ := cells_list (cx := cxOf φ Z τ w) (cs := row.cs) (f := fun j => w.cell? ⟨g, j, none⟩) i.size off (fun j a b => hm.cell e1 (by omega))
    exact ⟨.agg us.toArray, by simp [execOp, e2, run_load_many hT ht hg h1 h2], by simp only [relV]; exact ⟨us, rfl, h3⟩⟩
theorem ip_cell {cx : Cx} {cs : List AV} {k : Nat} {u : Value} (h : relV cx (.ip cs k) u) : ∃ b off, u = .pointer (some ⟨b, off + k, none⟩) ∧ cx.Z b ∧ ∀ j, j < cs.length → ∃ v, cx.w.cell? ⟨b, off + j, none⟩ = some v ∧ relV cx (rd cs j) v := by
  simp only [relV] at h
  obtain ⟨_, b, off, rfl, hb, hc⟩ := h
  exact ⟨b, off, rfl, hb, fun j hj => by obtain ⟨u, h1, _, h2⟩ := relC_get hc j _ (rd_get hj); exact ⟨u, h1, h2⟩⟩
theorem does_load_ip (hT : TabOk P T) {t : Nat} {x : Operand} {i : TyI} {cs : List AV} {off : Nat} (hd : dstOk nt dst = true) (hx : σ.ev x = .ip cs off) (ht : lkT T t = some i) (hg : i.agg = false) (ho : off < cs.length) :
    Does P nt ⟨dst, .load t x, ty, pos, aft, gd⟩ ⟨fo x, []⟩ (rd cs off) [] σ :=
  does_pure hd fun τ hag F φ Z a w hF hS => by
    obtain ⟨b, o, e, hb, hc⟩ := ip_cell (ev_rel hag hS hx (by simp))
    obtain ⟨u, hu, hrel⟩ := hc off ho
    have hu' : w.cell? ⟨b, o + off, none⟩ = some u := hu
    exact ⟨u, by simp [execOp, e, run_load_one hT ht hg hu'], hrel⟩
theorem does_load_agg_ip (hT : TabOk P T) {t : Nat} {x : Operand} {i : TyI} {cs : List AV} {off : Nat} (hd : dstOk nt dst = true) (hx : σ.ev x = .ip cs off) (ht : lkT T t = some i) (hg : i.agg = true) (ho : off + i.size ≤ cs.length) :
    Does P nt ⟨dst, .load t x, ty, pos, aft, gd⟩ ⟨fo x, []⟩ (.agg (rds cs off i.size)) [] σ :=
  does_pure hd fun τ hag F φ Z a w hF hS => by
    obtain ⟨b, o, e, hb, hc⟩ := ip_cell (ev_rel hag hS hx (by simp))
    obtain ⟨us, h1, h2, h3⟩ := cells_list (cx := cxOf φ Z τ w) (cs := cs) (f := fun j => w.cell? ⟨b, o + j, none⟩) i.size off (fun j a b => hc j (by omega))
    exact ⟨.agg us.toArray, by simp [execOp, e, run_load_many hT ht hg h1 (fun j u hj => by rw [Nat.add_assoc]; exact h2 j u hj)], by simp only [relV]; exact ⟨us, rfl, h3⟩⟩

/-! addresses -/
theorem run_field (hT : TabOk P T) {t f : Nat} {i : TyI} {l : List (Nat × Nat × Nat)} {o ft s : Nat} (ht : lkT T t = some i) (hu : i.u = .struct l) (hf : l[f]? = some (o, ft, s)) (hs : 0 < s) (w : World) (g off : Nat) :
    (Instr.fieldAt t (.pointer (some ⟨g, off, none⟩)) f).run P w = .ok (.pointer (some ⟨g, off + o, none⟩)) w := by
  obtain ⟨inf, d, hk⟩ := hT.known ht
  obtain ⟨fs, h1, h2⟩ := hk.struct hu
  rw [← h2] at hf
  simp only [List.getElem?_map, Option.map_eq_some_iff, Prod.mk.injEq] at hf
  obtain ⟨fd, h3, rfl, rfl, h4⟩ := hf
  have h3' : fs[f]? = some fd := by simpa using h3
  cases h5 : P.info? fd.type with
  | none => simp [h5] at h4; omega
  | some inf2 =>
    simp [h5] at h4
    have h6 : ¬ (inf2.size = 0) := by omega
    simp [Instr.fieldAt, Instr.sureAddr, run_underlying h1, h3', fieldPlace, run_sizeOf_known h5, h6, Addr.add_lit]
theorem does_fieldAddr (hT : TabOk P T) {t f : Nat} {x : Operand} {i : TyI} {l : List (Nat × Nat × Nat)} {o ft s : Nat} {r k off : Nat} {row : Row} (hd : dstOk nt dst = true) (hx : σ.ev x = .ptr r k off) (hr : σ.row r = some row) (hv : row.ver = k)
    (ht : lkT T t = some i) (hu : i.u = .struct l) (hf : l[f]? = some (o, ft, s)) (hs : 0 < s) :
    Does P nt ⟨dst, .fieldAddr t x f, ty, pos, aft, gd⟩ ⟨fo x, [r]⟩ (.ptr r k (off + o)) [] σ :=
  does_pure hd fun τ hag F φ Z a w hF hS => by
    have hr' : τ.row r = some row := by rw [hag.2 r (by simp)]; exact hr
    obtain ⟨g, m, c, e1, e2⟩ := ptr_open hS hr' hv (ev_rel hag hS hx (by simp))
    refine ⟨.pointer (some ⟨g, off + o, none⟩), by simp [execOp, e2, run_field hT ht hu hf hs], ?_⟩
    simp only [relV, rowTip hS hr']
    exact ⟨_, _, rfl, by omega, fun _ => ⟨g, m, c, e1, rfl⟩⟩
theorem run_indexAt (hT : TabOk P T) {t e : Nat} {i j : TyI} (ht : lkT T t = some i) (hu : i.u = .slice e) (he : lkT T e = some j) (w : World) (g off n c : Nat) (kd : IntKind) (z : Int) (h0 : 0 ≤ z) (h1 : z < n) :
    (Instr.indexAt t (.slice (some ⟨g, off, none⟩) n c) (.int kd z)).run P w = .ok (.pointer (some ⟨g, off + z.toNat * j.size, none⟩)) w := by
  obtain ⟨inf, d, hk⟩ := hT.known ht
  obtain ⟨inf2, d2, hk2⟩ := hT.known he
  have h2 := hk.slice hu
  simp [Instr.indexAt, asIntOf, run_underlying h2, run_sizeOf_known hk2.info, hk2.size, h0, h1, Addr.add_lit]
theorem mul_lt_len {z n s l : Nat} (hs : 0 < s) (hl : l = n * s) (h : z * s < l) : z < n := by
  subst hl
  exact Nat.lt_of_mul_lt_mul_right h
theorem does_index_own (hT : TabOk P T) {t e : Nat} {x y : Operand} {i j : TyI} {r k : Nat} {row : Row} {kd : IntKind} {z : Int} (hd : dstOk nt dst = true) (hx : σ.ev x = .own r k) (hy : σ.ev y = .v (.int kd z)) (hr : σ.row r = some row) (hv : row.ver = k)
    (ht : lkT T t = some i) (hu : i.u = .slice e) (he : lkT T e = some j) (hs : row.sz = j.size) (h0 : 0 ≤ z) (h1 : z.toNat * j.size < row.cs.length) :
    Does P nt ⟨dst, .indexAddr t x y, ty, pos, aft, gd⟩ ⟨fo x ++ fo y, [r]⟩ (.ptr r k (z.toNat * j.size)) [] σ :=
  does_pure hd fun τ hag F φ Z a w hF hS => by
    have hr' : τ.row r = some row := by rw [hag.2 r (by simp)]; exact hr
    have e1 := own_open hS hr' hv (ev_rel hag hS hx (by simp +contextual))
    have e2 := ev_v hag hS hy (by simp +contextual)
    obtain ⟨n, xs, hm⟩ := rowMem hS hr'
    obtain ⟨g, cap, cur, e3, h2⟩ := hm.open (by omega)
    have hsz := (hS.rows r row hr').sz
    have hz : z < n := by
      have := mul_lt_len (by omega) hm.len (by rw [hs]; exact h1)
      omega
    refine ⟨.pointer (some ⟨g, 0 + z.toNat * j.size, none⟩), by simp [execOp, e1, e2, e3, run_indexAt hT ht hu he w g 0 n cap kd z h0 hz], ?_⟩
    simp only [relV, rowTip hS hr']
    exact ⟨_, _, rfl, by omega, fun _ => ⟨g, n, cap, e3, by simp⟩⟩
theorem does_index_sl (hT : TabOk P T) {t e : Nat} {x y : Operand} {i j : TyI} {ty' sz : Nat} {cs : List AV} {kd : IntKind} {z : Int} (hd : dstOk nt dst = true) (hx : σ.ev x = .sl ty' sz cs) (hy : σ.ev y = .v (.int kd z))
    (ht : lkT T t = some i) (hu : i.u = .slice e) (he : lkT T e = some j) (hs : sz = j.size) (h0 : 0 ≤ z) (h1 : z.toNat * j.size < cs.length) :
    Does P nt ⟨dst, .indexAddr t x y, ty, pos, aft, gd⟩ ⟨fo x ++ fo y, []⟩ (.ip cs (z.toNat * j.size)) [] σ :=
  does_pure hd fun τ hag F φ Z a w hF hS => by
    have e2 := ev_v hag hS hy (by simp +contextual)
    have h2 := ev_rel hag hS hx (by simp +contextual)
    simp only [relV] at h2
    obtain ⟨hp, ao, n, c, e1, h3, h4, h5, h6, h7⟩ := h2
    rcases h7 with h7 | ⟨b, off, rfl, hb, hc⟩
    · rw [h7] at h1; simp at h1
    · have hz : z < n := by
        have := mul_lt_len (by omega) h6 (by rw [hs]; exact h1)
        omega
      refine ⟨.pointer (some ⟨b, off + z.toNat * j.size, none⟩), by simp [execOp, e1, e2, run_indexAt hT ht hu he w b off n c kd z h0 hz], ?_⟩
      simp only [relV]
      exact ⟨hp, b, off, rfl, hb, hc⟩

/-! lengths -/
theorem run_len_slice (hT : TabOk P T) {t e : Nat} {i : TyI} (ht : lkT T t = some i) (hu : i.u = .slice e) (w : World) (ao : Option Addr) (n c ty : Nat) :
    (Builtin.len_ #[t] ty #[.slice ao n c]).run P w = .ok (.int .i64 n) w := by
  obtain ⟨inf, d, hk⟩ := hT.known ht
  simp [Builtin.len_, run_underlying (hk.slice hu), goInt]
theorem div_len {l n s : Nat} (hs : 0 < s) (h : l = n * s) : l / s = n := by rw [h, Nat.mul_div_cancel _ hs]
theorem does_len_own (hT : TabOk P T) {t e : Nat} {x : Operand} {i : TyI} {r k : Nat} {row : Row} (hd : dstOk nt dst = true) (hx : σ.ev x = .own r k) (hr : σ.row r = some row) (hv : row.ver = k) (ht : lkT T t = some i) (hu : i.u = .slice e) :
    Does P nt ⟨dst, .call ⟨.builtin .len, #[x], #[t]⟩, ty, pos, aft, gd⟩ ⟨fo x, [r]⟩ (.int ((row.cs.length / row.sz : Nat) : Int)) [] σ :=
  does_pure hd fun τ hag F φ Z a w hF hS => by
    have hr' : τ.row r = some row := by rw [hag.2 r (by simp)]; exact hr
    have e1 := own_open hS hr' hv (ev_rel hag hS hx (by simp))
    obtain ⟨n, xs, hm⟩ := rowMem hS hr'
    have hn := div_len (hS.rows r row hr').sz hm.len
    have hsl : ∃ ao c, φ r = .slice ao n c := by
      rcases hm.own.2 with ⟨h1, h2⟩ | ⟨g, cap, cur, h1, _⟩
      · exact ⟨none, 0, by rw [h1, h2]⟩
      · exact ⟨_, _, h1⟩
    obtain ⟨ao, c, e2⟩ := hsl
    exact ⟨.int .i64 n, by simp [execOp, resolve, invoke, builtin, e1, e2, run_len_slice hT ht hu], by simp [relV, hn]⟩
theorem does_len_sl (hT : TabOk P T) {t e : Nat} {x : Operand} {i : TyI} {ty' sz : Nat} {cs : List AV} (hd : dstOk nt dst = true) (hx : σ.ev x = .sl ty' sz cs) (ht : lkT T t = some i) (hu : i.u = .slice e) :
    Does P nt ⟨dst, .call ⟨.builtin .len, #[x], #[t]⟩, ty, pos, aft, gd⟩ ⟨fo x, []⟩ (.int ((cs.length / sz : Nat) : Int)) [] σ :=
  does_pure hd fun τ hag F φ Z a w hF hS => by
    have h2 := ev_rel hag hS hx (by simp)
    simp only [relV] at h2
    obtain ⟨hp, ao, n, c, e1, h3, h4, h5, h6, h7⟩ := h2
    exact ⟨.int .i64 n, by simp [execOp, resolve, invoke, builtin, e1, run_len_slice hT ht hu], by simp [relV, div_len h5 h6]⟩
theorem does_len_nil (hT : TabOk P T) {t e : Nat} {x : Operand} {i : TyI} {ao : Option Addr} {n c : Nat} (hd : dstOk nt dst = true) (hx : σ.ev x = .v (.slice ao n c)) (ht : lkT T t = some i) (hu : i.u = .slice e) :
    Does P nt ⟨dst, .call ⟨.builtin .len, #[x], #[t]⟩, ty, pos, aft, gd⟩ ⟨fo x, []⟩ (.int (n : Int)) [] σ :=
  does_pure hd fun τ hag F φ Z a w hF hS =>
    ⟨.int .i64 n, by simp [execOp, resolve, invoke, builtin, ev_v hag hS hx (by simp), run_len_slice hT ht hu], by simp [relV]⟩
theorem does_len_str (hT : TabOk P T) {t : Nat} {x : Operand} {i : TyI} {s : ByteArray} (hd : dstOk nt dst = true) (hx : σ.ev x = .str s) (ht : lkT T t = some i) (hu : i.u = .str) :
    Does P nt ⟨dst, .call ⟨.builtin .len, #[x], #[t]⟩, ty, pos, aft, gd⟩ ⟨fo x, []⟩ (.int (s.size : Int)) [] σ :=
  does_pure hd fun τ hag F φ Z a w hF hS => by
    obtain ⟨inf, d, hk⟩ := hT.known ht
    exact ⟨.int .i64 s.size, by simp [execOp, resolve, invoke, builtin, ev_v hag hS hx (by simp), Builtin.len_, run_underlying (hk.str hu), goInt], by simp [relV]⟩

theorem does_extract {x : Operand} {n : Nat} {xs : List AV} {y : AV} (hd : dstOk nt dst = true) (hx : σ.ev x = .tup xs) (hy : xs[n]? = some y) :
    Does P nt ⟨dst, .extract x n, ty, pos, aft, gd⟩ ⟨fo x, []⟩ y [] σ :=
  does_pure hd fun τ hag F φ Z a w hF hS => by
    have h2 := ev_rel hag hS hx (by simp)
    simp only [relV] at h2
    obtain ⟨vs, e1, h3⟩ := h2
    obtain ⟨u, hu, hr⟩ := relL_get h3 n y hy
    exact ⟨u, by simp [execOp, e1, Instr.extract, hu], hr⟩

end
end Go.Sym
end

section
/-
  What operations that make or write memory do to an abstract state; nothing of the program stands here.
-/
set_option linter.unusedVariables false
set_option linter.unusedSimpArgs false
namespace Go.Sym
open Go Go.RowKit

def pureB : AV → Bool
  | .any => true
  | .v _ => true
  | .sl _ _ _ => true
  | .both _ (.sl _ _ _) => true
  | _ => false
theorem pure_of {cx : Cx} {x : AV} {u : Value} (h : relV cx x u) (hp : pureB x = true) : pureV x := by
  cases x <;> simp [pureB] at hp <;> simp only [pureV]
  case sl ty sz cs => simp only [relV] at h; exact h.1
  case both x y => cases y <;> simp at hp; simp only [relV] at h; simp only [pureV]; exact h.2.1
def pureBs : List AV → Bool
  | [] => true
  | x :: xs => pureB x && pureBs xs
theorem pureL_of_rel {cx : Cx} : ∀ {xs : List AV} {us : List Value}, relL cx xs us → pureBs xs = true → pureL xs
  | [], us, _, _ => by simp [pureL]
  | x :: xs, us, h, hp => by
    simp only [relL] at h
    obtain ⟨u, vs, rfl, h1, h2⟩ := h
    simp only [pureBs, Bool.and_eq_true] at hp
    simp only [pureL]
    exact ⟨pure_of h1 hp.1, pureL_of_rel h2 hp.2⟩
theorem pureL_append {xs ys : List AV} (h : pureL xs) (k : pureL ys) : pureL (xs ++ ys) := by
  induction xs with
  | nil => simpa using k
  | cons x xs ih => simp only [List.cons_append, pureL] at h ⊢; exact ⟨h.1, ih h.2⟩
theorem pureL_set {xs : List AV} {y : AV} (h : pureL xs) (hy : pureV y) : ∀ o, pureL (xs.set o y) := by
  induction xs with
  | nil => intro o; simpa using h
  | cons x xs ih =>
    intro o
    simp only [pureL] at h
    cases o with
    | zero => simp only [List.set_cons_zero, pureL]; exact ⟨hy, h.2⟩
    | succ o => simp only [List.set_cons_succ, pureL]; exact ⟨h.1, ih h.2 o⟩
theorem pureL_setL {ys : List AV} : ∀ {xs : List AV} (o : Nat), pureL xs → pureL ys → pureL (setL xs o ys) := by
  induction ys with
  | nil => intro xs o h _; exact h
  | cons y ys ih => intro xs o h hy; simp only [pureL] at hy; exact ih (o + 1) (pureL_set h hy.1 o) hy.2
theorem pureL_vals : ∀ (l : List Value), pureL (l.map AV.v)
  | [] => by simp [pureL]
  | x :: l => by simp only [List.map_cons, pureL, pureV]; exact ⟨trivial, pureL_vals l⟩
theorem relL_vals (cx : Cx) : ∀ (l : List Value), relL cx (l.map AV.v) l
  | [] => by simp [relL]
  | x :: l => by simp only [List.map_cons, relL, relV]; exact ⟨x, l, rfl, rfl, relL_vals cx l⟩
theorem relL_append {cx : Cx} {xs ys : List AV} {us vs : List Value} (h : relL cx xs us) (k : relL cx ys vs) : relL cx (xs ++ ys) (us ++ vs) := by
  induction xs generalizing us with
  | nil => simp [relL] at h; subst h; simpa using k
  | cons x xs ih =>
    simp only [relL] at h
    obtain ⟨u, us, rfl, h1, h2⟩ := h
    simp only [List.cons_append, relL]
    exact ⟨u, us ++ vs, rfl, h1, ih h2⟩

def avCells : AV → Option (List AV)
  | .agg xs => some xs
  | .any => none
  | .tup _ => none
  | .v x => match x with
    | .agg cs => some (cs.toList.map .v)
    | .tuple _ => none
    | x => some [.v x]
  | x => some [x]
/-- the cells of a value that is laid down -/
theorem avCells_rel {F : Fr} {φ : Nat → Value} {Z : Nat → Prop} {σ : St} {a : Act} {w : World} (h : SimAt F φ Z σ a w) {x : AV} {u : Value} {ys : List AV} (hx : relV (cxOf φ Z σ w) x u) (hy : avCells x = some ys) (hc : allCells σ ys = true) :
    relL (cxOf φ Z σ w) ys u.cells.toList := by
  have one : ∀ x : AV, relV (cxOf φ Z σ w) x u → cellB σ x = true → relL (cxOf φ Z σ w) [x] u.cells.toList := fun x h1 h2 => by
    have h3 := cellB_one h h1 h2
    cases u <;> simp [Value.oneCell'] at h3 <;> (simp only [Value.cells, relL]; exact ⟨_, [], rfl, h1, rfl⟩)
  cases x with
  | any => simp [avCells] at hy
  | agg xs =>
    simp only [avCells, Option.some.injEq] at hy
    subst hy
    simp only [relV] at hx
    obtain ⟨vs, rfl, h1⟩ := hx
    simpa [Value.cells] using h1
  | tup xs => simp [avCells] at hy
  | v c =>
    have hx' := hx
    simp only [relV] at hx'
    subst hx'
    cases u <;> simp only [avCells, Option.some.injEq] at hy <;> try (cases hy; done)
    case agg cs => subst hy; simp only [Value.cells]; exact relL_vals _ _
    all_goals (subst hy; simp only [allCells, Bool.and_true] at hc; exact one _ hx hc)
  | sl ty sz cs => simp only [avCells, Option.some.injEq] at hy; subst hy; simp only [allCells, Bool.and_true] at hc; exact one _ hx hc
  | ip cs k => simp only [avCells, Option.some.injEq] at hy; subst hy; simp only [allCells, Bool.and_true] at hc; exact one _ hx hc
  | own r k => simp only [avCells, Option.some.injEq] at hy; subst hy; simp only [allCells, Bool.and_true] at hc; exact one _ hx hc
  | sub r k o n => simp only [avCells, Option.some.injEq] at hy; subst hy; simp only [allCells, Bool.and_true] at hc; exact one _ hx hc
  | pre r k n => simp only [avCells, Option.some.injEq] at hy; subst hy; simp only [allCells, Bool.and_true] at hc; exact one _ hx hc
  | ptr r k o => simp only [avCells, Option.some.injEq] at hy; subst hy; simp only [allCells, Bool.and_true] at hc; exact one _ hx hc
  | both x y => simp only [avCells, Option.some.injEq] at hy; subst hy; simp only [allCells, Bool.and_true] at hc; exact one _ hx hc
  | tab g cs => simp only [avCells, Option.some.injEq] at hy; subst hy; simp only [allCells, Bool.and_true] at hc; exact one _ hx hc

theorem cxLe_grow {F : Fr} {φ : Nat → Value} {Z Z' : Nat → Prop} {σ : St} {a : Act} {w w' : World} (h : SimAt F φ Z σ a w) (hb : Below w.heap.size w w') (hz : ∀ b, Z b → Z' b) : CxLe (cxOf φ Z σ w) (cxOf φ Z' σ w') :=
  ⟨fun b hb' => ⟨hz b hb', hb.block b (h.zlt b hb')⟩, fun r t j e => ⟨t, j, e, Nat.le_refl _, fun _ => rfl⟩⟩

/-- a fresh row -/
theorem alloc_row {F : Fr} {φ : Nat → Value} {Z : Nat → Prop} {σ : St} {a : Act} {w : World} (h : SimAt F φ Z σ a w) {r : Nat} (hr : σ.row r = none) (h0 : r ≠ 0) {t sz n : Nat} {pure box : Bool} {ys : List AV} {us : List Value}
    (hrel : relL (cxOf φ Z σ w) ys us) (h1 : ∀ u, u ∈ us → u.oneCell' = true) (hs : 0 < sz) (hl : ys.length = n * sz) (hn : n ≤ maxLen) (hp : pure = true → pureL ys) :
    ∃ φ', SimAt F φ' Z (σ.rowsUpd [(r, some ⟨t, sz, 0, pure, box, ys⟩)]) a (w.alloc (.cells us.toArray t)) ∧ φ' r = .slice (some ⟨w.heap.size, 0, none⟩) n n ∧
      CxLe (cxOf φ Z σ w) (cxOf φ' Z (σ.rowsUpd [(r, some ⟨t, sz, 0, pure, box, ys⟩)]) (w.alloc (.cells us.toArray t))) := by
  have hb : Below w.heap.size w (w.alloc (.cells us.toArray t)) := (Below.refl _ _).alloc (Nat.le_refl _) _
  have hS := h.grow' hb
  have hc := cxLe_grow h hb (fun _ h => h)
  have hlu := relL_length hrel
  have hrow : RowRel F (cxOf φ Z σ (w.alloc (.cells us.toArray t))) (.slice (some ⟨w.heap.size, 0, none⟩) n n) ⟨t, sz, 0, pure, box, ys⟩ := by
    refine ⟨hs, hp, fun _ => by simp [Value.ownBlock], ?_, n, us, ?_, hl, relL_mono hc _ _ hrel, h1⟩
    · intro g hg
      simp [Value.ownBlock] at hg
      subst hg
      exact .inl h.keep.size
    · have := World.ownsRow_lit (base := 0) (e := t) (size := sz) w us.toArray n (Nat.zero_le _) hn (by simp; omega)
      have this' : (w.alloc (.cells us.toArray t)).ownsRow 0 t sz (.slice (some ⟨w.heap.size, 0, none⟩) n n) n us := by simpa using this
      exact this'
  obtain ⟨h2, h3⟩ := hS.adopt hr h0 hrow (by
    intro g hg
    simp [Value.ownBlock] at hg
    subst hg
    refine ⟨fun hz => by have := h.zlt _ hz; omega, fun s hs' e => ?_⟩
    obtain ⟨row, hrow'⟩ := Option.isSome_iff_exists.1 hs'
    have := (h.rows s row hrow').lt e
    simp [cxOf] at this)
  rw [set_eq_upd] at h2 h3
  exact ⟨_, h2, by simp, ⟨fun b hb' => ⟨(h3.z b (hc.z b hb').1).1, ((h3.z b (hc.z b hb').1).2).trans (hc.z b hb').2⟩, fun s u j e => by
    obtain ⟨u1, j1, e1, e2, e3⟩ := hc.t s u j e
    obtain ⟨u2, j2, e4, e5, e6⟩ := h3.t s u1 j1 e1
    exact ⟨u2, j2, e4, by omega, fun e' => by rw [e6 (by omega), e3 (by omega)]⟩⟩⟩

section
variable {P : Program} {T : List (Nat × TyI)} {nt : Nat} {σ : St} {dst : Option Nat} {ty : Nat} {pos : String} {aft : Array Edge} {gd : Option (Nat × Bool)}

theorem one_vals {l : List ZK} : ∀ u, u ∈ l.map ZK.val → u.oneCell' = true := by
  intro u hu
  obtain ⟨z, _, rfl⟩ := List.mem_map.1 hu
  cases z <;> rfl
theorem does_alloc (hT : TabOk P T) {t r : Nat} {i : TyI} (hd : dstOk nt dst = true) (ht : lkT T t = some i) (hr : σ.row r = none) (h0 : r ≠ 0) (hs : i.zero.length = i.size) (hp : 0 < i.size) :
    Does P nt ⟨dst, .alloc t, ty, pos, aft, gd⟩ ⟨[], [r]⟩ (.ptr r 0 0) [(r, some ⟨t, i.size, 0, true, true, i.zero.map fun z => .v z.val⟩)] σ :=
  does_run hd fun τ hag F φ Z a w hF hS => by
    have hr' : τ.row r = none := by rw [hag.2 r (by simp)]; exact hr
    obtain ⟨inf, d, hk⟩ := hT.known ht
    obtain ⟨z, hz, hzc⟩ := hk.zero
    have e : (i.zero.map fun z => AV.v z.val) = (i.zero.map ZK.val).map AV.v := by simp
    obtain ⟨φ', h1, h2, h3⟩ := alloc_row hS hr' h0 (t := t) (sz := i.size) (n := 1) (pure := true) (box := true) (ys := i.zero.map fun z => .v z.val) (us := i.zero.map ZK.val) (by rw [e]; exact relL_vals _ _) one_vals hp (by simp [hs]) (by simp [maxLen]) (fun _ => by rw [e]; exact pureL_vals _)
    refine ⟨.pointer (some ⟨w.heap.size, 0, none⟩), _, φ', Z, ?_, h1, ?_⟩
    · have : z.cells = (i.zero.map ZK.val).toArray := by rw [← hzc]
      simp [execOp, Instr.alloc, zeroValue, typeInfo, hk.info, hz, newVar, newRow, this]
    · simp only [relV, cxOf, St.rowsUpd, overR]
      simp
      exact ⟨_, _, ⟨rfl, rfl⟩, fun _ => ⟨_, _, h2⟩⟩
theorem does_box {t r : Nat} {x : Operand} {y : AV} {ys : List AV} (hd : dstOk nt dst = true) (hx : σ.ev x = y) (hy : avCells y = some ys) (hc : allCells σ ys = true) (hr : σ.row r = none) (h0 : r ≠ 0) (hp : ys ≠ []) :
    Does P nt ⟨dst, .box t x, ty, pos, aft, gd⟩ ⟨fo x, r :: rowsOf ys⟩ (.ptr r 0 0) [(r, some ⟨t, ys.length, 0, pureBs ys, true, ys⟩)] σ :=
  does_run hd fun τ hag F φ Z a w hF hS => by
    have hr' : τ.row r = none := by rw [hag.2 r (by simp)]; exact hr
    have h2 := ev_rel hag hS hx (by simp)
    have hc' : allCells τ ys = true := by rw [allCells_agree hag (fun r h => by simp [h])]; exact hc
    have h3 := avCells_rel hS h2 hy hc'
    have hl := List.length_pos_iff.2 hp
    obtain ⟨φ', h4, h5, h6⟩ := alloc_row hS hr' h0 (t := t) (sz := ys.length) (n := 1) (pure := pureBs ys) (box := true) h3 (allCells_one hS h3 hc') hl (by simp) (by simp [maxLen]) (fun h => pureL_of_rel h3 h)
    refine ⟨.pointer (some ⟨w.heap.size, 0, none⟩), _, φ', Z, by simp [execOp, Instr.box, newVar, newRow]; rfl, by simpa using h4, ?_⟩
    simp only [relV, cxOf, St.rowsUpd, overR]
    simp
    exact ⟨_, _, ⟨rfl, rfl⟩, fun _ => ⟨_, _, h5⟩⟩

/-! stores -/
theorem grownBy_setRow (w : World) (g : Nat) (cs : Array Value) : w.grownBy (w.setRow g cs) (some g) :=
  ⟨rfl, rfl, rfl, by simp, fun k _ hk => setRow_other w g k _ (fun e => hk (by rw [e]))⟩
theorem relL_setL {cx : Cx} {cs ys : List AV} {xs us : List Value} {o : Nat} (h : relL cx cs xs) (k : relL cx ys us) (ho : o + ys.length ≤ cs.length) : relL cx (setL cs o ys) (xs.take o ++ us ++ xs.drop (o + us.length)) := by
  have h1 := relL_length h
  have h2 := relL_length k
  refine relL_of (by rw [setL_length]; simp; omega) (fun i x u hx hu => ?_)
  rw [setL_get ys cs o i ho] at hx
  by_cases hi : o ≤ i ∧ i < o + ys.length
  · rw [if_pos hi] at hx
    obtain ⟨v, hv, hr⟩ := relL_get k (i - o) x hx
    rw [List.getElem?_append_left (by simp; omega), List.getElem?_append_right (by simp; omega)] at hu
    rw [show i - (List.take o xs).length = i - o by simp; omega, hv] at hu
    cases hu
    exact hr
  · rw [if_neg hi] at hx
    obtain ⟨v, hv, hr⟩ := relL_get h i x hx
    have hil : i < cs.length := (List.getElem?_eq_some_iff.1 hx).1
    by_cases hlt : i < o
    · rw [List.getElem?_append_left (by simp; omega), List.getElem?_append_left (by simp; omega), List.getElem?_take, if_pos hlt, hv] at hu
      cases hu; exact hr
    · rw [List.getElem?_append_right (by simp; omega), List.getElem?_drop] at hu
      rw [show o + us.length + (i - (List.take o xs ++ us).length) = i by simp; omega, hv] at hu
      cases hu; exact hr
theorem does_store (hT : TabOk P T) {t : Nat} {x v : Operand} {i : TyI} {r k off : Nat} {row : Row} {y : AV} {ys : List AV} (hx : σ.ev x = .ptr r k off) (hr : σ.row r = some row) (hv : row.ver = k) (ht : lkT T t = some i)
    (hy : σ.ev v = y) (hys : avCells y = some ys) (hc : allCells σ ys = true) (hsz : ys.length = i.size) (ho : off + ys.length ≤ row.cs.length) :
    Does P nt ⟨none, .store t x v, ty, pos, aft, gd⟩ ⟨fo x ++ fo v, r :: rowsOf ys⟩ .any [(r, some ⟨row.ty, row.sz, row.ver, row.pure && pureBs ys, row.box, setL row.cs off ys⟩)] σ :=
  does_skip rfl fun τ hag F φ Z a w hF hS => by
    have hr' : τ.row r = some row := by rw [hag.2 r (by simp)]; exact hr
    obtain ⟨g, m, c, e1, e2⟩ := ptr_open hS hr' hv (ev_rel hag hS hx (by simp +contextual))
    have h2 := ev_rel hag hS hy (by simp +contextual)
    have hc' : allCells τ ys = true := by rw [allCells_agree hag (fun r h => by simp [h])]; exact hc
    have h3 := avCells_rel hS h2 hys hc'
    have h4 := allCells_one hS h3 hc'
    have hl3 := relL_length h3
    obtain ⟨inf, d, hk⟩ := hT.known ht
    obtain ⟨n, xs, hm⟩ := rowMem hS hr'
    have hlen := hm.len
    have hxs := hm.own.1
    have hrel := hm.rel
    by_cases hne : 0 < row.cs.length
    · obtain ⟨g', cap, cur, e3, hg, h5, h6, h7, h8⟩ := hm.open hne
      rw [e1] at e3
      obtain ⟨hgg, hmn, hcc⟩ : g = g' ∧ n = m ∧ cap = c := by
        simp at e3
        exact ⟨e3.1, e3.2.1.symm, e3.2.2.symm⟩
      subst hgg hmn hcc
      have hcapn : n * row.sz ≤ cap * row.sz := Nat.mul_le_mul_right _ h5
      have hst := run_storeCells_at P g off row.ty (a.eval v).cells.toList 0 cur w hg (by simp at hl3 ⊢; omega) h4
      simp only [Nat.add_zero] at hst
      have hsize : (a.eval v).cells.size = inf.size := by rw [hk.size, ← hsz]; simpa using hl3
      generalize hnew : cur.toList.take off ++ (a.eval v).cells.toList ++ cur.toList.drop (off + (a.eval v).cells.toList.length) = new at hst
      have hob : (φ r).ownBlock = some g := by rw [e1]; rfl
      have htn := hS.turn (r := r) (row := row) (row' := ⟨row.ty, row.sz, row.ver, row.pure && pureBs ys, row.box, setL row.cs off ys⟩) (t' := φ r) (w' := w.setRow g new.toArray) hr' (by rw [hob]; exact grownBy_setRow w g _) (Nat.le_refl _) (fun _ => rfl)
        (fun hcx => by
          have hrr := hS.rows r row hr'
          refine ⟨hrr.sz, ?_, hrr.box, hrr.blk, n, xs.take off ++ (a.eval v).cells.toList ++ xs.drop (off + (a.eval v).cells.toList.length), ?_, ?_, ?_, ?_⟩
          · intro hp
            simp only [Bool.and_eq_true] at hp
            exact pureL_setL off (hrr.pur hp.1) (pureL_of_rel h3 hp.2)
          · refine ⟨by simp at hl3 ⊢; omega, .inr ⟨g, cap, new.toArray, e1, Nat.zero_le _, setRow_heap w g cur _ _ _ hg, h5, h6, ?_, ?_⟩⟩
            · rw [← hnew]; simp at hl3 ⊢; omega
            · rw [← hnew, ← h8]
              simp only [List.append_assoc]
              apply List.ext_getElem?
              intro q
              simp only [List.getElem?_take, List.getElem?_append, List.getElem?_drop, List.length_take, List.length_drop]
              simp at hl3
              simp only [Array.length_toList]
              repeat' split
              all_goals first | rfl | omega | (congr 1; omega) | (rw [List.getElem?_eq_none]; simp; omega) | (symm; rw [List.getElem?_eq_none]; simp; omega)
          · rw [setL_length]; exact hlen
          · exact relL_setL (relL_mono hcx _ _ hrel) (relL_mono hcx _ _ h3) ho
          · intro u hu
            simp only [List.mem_append] at hu
            rcases hu with (hu | hu) | hu
            · exact hm.one u (List.mem_of_mem_take hu)
            · exact h4 u hu
            · exact hm.one u (List.mem_of_mem_drop hu))
        (fun g' h => .inl h) (fun _ => rfl)
      rw [set_eq_upd] at htn
      refine ⟨_, _, Z, ?_, htn.1⟩
      simp [execOp, Instr.storeAt, Instr.sureAddr, e2, storeVar, run_sizeOf_known hk.info, hsize, hst]
    · have h0 : ys.length = 0 := by omega
      have hz : i.size = 0 := by omega
      have hys0 : ys = [] := List.eq_nil_of_length_eq_zero h0
      have hcs0 : row.cs = [] := List.eq_nil_of_length_eq_zero (by omega)
      subst hys0
      have hu0 : (a.eval v).cells.toList = [] := List.eq_nil_of_length_eq_zero (by simpa using hl3)
      have hsize : (a.eval v).cells.size = inf.size := by rw [hk.size, hz]; rw [← Array.length_toList, hu0]; rfl
      refine ⟨w, φ, Z, by simp [execOp, Instr.storeAt, Instr.sureAddr, e2, storeVar, run_sizeOf_known hk.info, hsize, hu0, storeCells], ?_⟩
      have : τ.rowsUpd [(r, some ⟨row.ty, row.sz, row.ver, row.pure && pureBs [], row.box, setL row.cs off []⟩)] = τ := by
        rw [← set_eq_upd]
        simp only [St.set, setL, pureBs, Bool.and_true]
        cases τ with | mk env rw' =>
        simp only at hr'
        congr 1
        funext j
        by_cases e : j = r
        · subst e; rw [if_pos rfl, hr']
        · rw [if_neg e]
      rw [this]
      exact hS
end
end Go.Sym
end

section
/-
  Literals, make and append on abstract states; nothing of the program stands here.
-/
set_option linter.unusedVariables false
set_option linter.unusedSimpArgs false
namespace Go.Sym
open Go Go.RowKit

section
variable {P : Program} {T : List (Nat × TyI)} {nt : Nat} {σ : St} {dst : Option Nat} {ty : Nat} {pos : String} {aft : Array Edge} {gd : Option (Nat × Bool)}

/-! struct literals -/
theorem mapM_places {P : Program} : ∀ {fs : List Field} {l : List (Nat × Nat × Nat)}, (fs.map fun f => (f.offset, f.type, ((P.info? f.type).map (·.size)).getD 0)) = l → (∀ x, x ∈ l → x.2.2 ≠ 0) →
    fs.mapM (fun f => (P.info? f.type).map fun i => (f.offset, i.size)) = some (l.map fun x => (x.1, x.2.2))
  | [], l, h, _ => by subst h; rfl
  | f :: fs, l, h, k => by
    subst h
    have h1 := k (f.offset, f.type, ((P.info? f.type).map (·.size)).getD 0) (by simp)
    have h2 := mapM_places (fs := fs) rfl (fun x hx => k x (by simp at hx ⊢; exact .inr hx))
    cases hi : P.info? f.type with
    | none => simp [hi] at h1
    | some i => simp [List.mapM_cons, hi, h2]
theorem built_struct (hT : TabOk P T) {t : Nat} {i : TyI} {l : List (Nat × Nat × Nat)} (ht : lkT T t = some i) (hu : i.u = .struct l) (hl : ∀ x, x ∈ l → x.2.2 ≠ 0) (parts : List (Nat × Value)) :
    P.built t parts = Instr.fill ((l.map fun x => (x.1, x.2.2)).toArray[·]?) (i.zero.map ZK.val).toArray parts := by
  obtain ⟨inf, d, hk⟩ := hT.known ht
  obtain ⟨fs, h1, h2⟩ := hk.struct hu
  obtain ⟨z, hz, hzc⟩ := hk.zero
  have e : z.cells = (i.zero.map ZK.val).toArray := by rw [← hzc]
  unfold Program.built
  simp only [hk.info, h1, hz, mapM_places h2 hl, e]
theorem relV_agg_vals (cx : Cx) (l : List Value) : relV cx (.agg (l.map AV.v)) (.agg l.toArray) := by
  simp only [relV]; exact ⟨l, rfl, relL_vals cx l⟩
/-- the zero struct -/
theorem does_build0 (hT : TabOk P T) {t : Nat} {i : TyI} {l : List (Nat × Nat × Nat)} (hd : dstOk nt dst = true) (ht : lkT T t = some i) (hu : i.u = .struct l) (hl : (l.all fun x => !Nat.beq x.2.2 0) = true) :
    Does P nt ⟨dst, .build t #[], ty, pos, aft, gd⟩ ⟨[], []⟩ (.agg (i.zero.map fun z => .v z.val)) [] σ :=
  does_pure hd fun τ hag F φ Z a w hF hS => by
    have hl' : ∀ x, x ∈ l → x.2.2 ≠ 0 := fun x hx e => by
      have := List.all_eq_true.1 hl x hx
      rw [e] at this; simp at this
    refine ⟨.agg (i.zero.map ZK.val).toArray, by simp [execOp, run_build w t #[] (i.zero.map ZK.val).toArray (by rw [built_struct hT ht hu hl' ([] : List (Nat × Value))]; rfl)], ?_⟩
    have e : (i.zero.map fun z => AV.v z.val) = (i.zero.map ZK.val).map AV.v := by simp
    rw [e]
    exact relV_agg_vals _ _
/-- one part, one cell: the field that begins at o -/
theorem does_build1 (hT : TabOk P T) {t f : Nat} {p : Operand} {i : TyI} {l : List (Nat × Nat × Nat)} {o ft : Nat} {y : AV} (hd : dstOk nt dst = true) (ht : lkT T t = some i) (hu : i.u = .struct l) (hl : (l.all fun x => !Nat.beq x.2.2 0) = true)
    (hf : l[f]? = some (o, ft, 1)) (ho : o < i.zero.length) (hp : σ.ev p = y) (hc : cellB σ y = true) :
    Does P nt ⟨dst, .build t #[(f, p)], ty, pos, aft, gd⟩ ⟨fo p, rowOf y⟩ (.agg ((i.zero.map fun z => .v z.val).set o y)) [] σ :=
  does_pure hd fun τ hag F φ Z a w hF hS => by
    have hl' : ∀ x, x ∈ l → x.2.2 ≠ 0 := fun x hx e => by
      have := List.all_eq_true.1 hl x hx
      rw [e] at this; simp at this
    have h2 := ev_rel hag hS hp (by simp)
    have h1 := cellB_one hS h2 (by rw [cellB_agree hag (fun r h => h)]; exact hc)
    have hcells : (a.eval p).cells = #[a.eval p] := by cases hv : a.eval p <;> simp [hv, Value.oneCell'] at h1 <;> rfl
    have hb : P.built t [(f, a.eval p)] = some ((i.zero.map ZK.val).set o (a.eval p)).toArray := by
      rw [built_struct hT ht hu hl']
      simp [Instr.fill, hf, hcells]
      omega
    refine ⟨.agg ((i.zero.map ZK.val).set o (a.eval p)).toArray, by simp [execOp]; rw [run_build w t #[(f, a.eval p)] _ hb]; simp, ?_⟩
    simp only [relV]
    refine ⟨_, rfl, relL_of (by simp) fun j x u hx hu' => ?_⟩
    rw [List.getElem?_set] at hx hu'
    by_cases e : o = j
    · subst e
      rw [if_pos rfl] at hx hu'
      simp at hx hu'
      obtain ⟨_, rfl⟩ := hx
      obtain ⟨_, rfl⟩ := hu'
      exact h2
    · rw [if_neg e] at hx hu'
      simp only [List.getElem?_map, Option.map_eq_some_iff] at hx hu'
      obtain ⟨z, hz, rfl⟩ := hx
      obtain ⟨z', hz', rfl⟩ := hu'
      rw [hz] at hz'
      cases hz'
      simp [relV]
theorem does_build2 (hT : TabOk P T) {t : Nat} {p q : Operand} {i : TyI} {t0 t1 : Nat} {z0 z1 : ZK} {y0 y1 : AV} (hd : dstOk nt dst = true) (ht : lkT T t = some i) (hu : i.u = .struct [(0, t0, 1), (1, t1, 1)]) (hz : i.zero = [z0, z1])
    (hp : σ.ev p = y0) (hq : σ.ev q = y1) (hc : allCells σ [y0, y1] = true) :
    Does P nt ⟨dst, .build t #[(0, p), (1, q)], ty, pos, aft, gd⟩ ⟨fo p ++ fo q, rowsOf [y0, y1]⟩ (.agg [y0, y1]) [] σ :=
  does_pure hd fun τ hag F φ Z a w hF hS => by
    have h2 := ev_rel hag hS hp (by simp +contextual)
    have h3 := ev_rel hag hS hq (by simp +contextual)
    have hc' : allCells τ [y0, y1] = true := by rw [allCells_agree hag (fun r h => h)]; exact hc
    simp only [allCells, Bool.and_eq_true] at hc'
    have h4 := cellB_one hS h2 hc'.1
    have h5 := cellB_one hS h3 hc'.2.1
    have k2 : (a.eval p).cells = #[a.eval p] := by cases hv : a.eval p <;> simp [hv, Value.oneCell'] at h4 <;> rfl
    have k3 : (a.eval q).cells = #[a.eval q] := by cases hv : a.eval q <;> simp [hv, Value.oneCell'] at h5 <;> rfl
    have hb : P.built t [(0, a.eval p), (1, a.eval q)] = some #[a.eval p, a.eval q] := by
      rw [built_struct hT ht hu (by simp), hz]
      simp [Instr.fill, k2, k3]
    refine ⟨.agg #[a.eval p, a.eval q], by simp [execOp]; rw [run_build w t #[(0, a.eval p), (1, a.eval q)] _ hb]; simp, ?_⟩
    simp only [relV]
    exact ⟨[a.eval p, a.eval q], rfl, by simp only [relL]; exact ⟨_, _, rfl, h2, _, _, rfl, h3, rfl⟩⟩
theorem does_build3 (hT : TabOk P T) {t : Nat} {p q s : Operand} {i : TyI} {t0 t1 t2 : Nat} {z0 z1 z2 : ZK} {y0 y1 y2 : AV} (hd : dstOk nt dst = true) (ht : lkT T t = some i) (hu : i.u = .struct [(0, t0, 1), (1, t1, 1), (2, t2, 1)]) (hz : i.zero = [z0, z1, z2])
    (hp : σ.ev p = y0) (hq : σ.ev q = y1) (hs : σ.ev s = y2) (hc : allCells σ [y0, y1, y2] = true) :
    Does P nt ⟨dst, .build t #[(0, p), (1, q), (2, s)], ty, pos, aft, gd⟩ ⟨fo p ++ (fo q ++ fo s), rowsOf [y0, y1, y2]⟩ (.agg [y0, y1, y2]) [] σ :=
  does_pure hd fun τ hag F φ Z a w hF hS => by
    have h2 := ev_rel hag hS hp (by simp +contextual)
    have h3 := ev_rel hag hS hq (by simp +contextual)
    have h3' := ev_rel hag hS hs (by simp +contextual)
    have hc' : allCells τ [y0, y1, y2] = true := by rw [allCells_agree hag (fun r h => h)]; exact hc
    simp only [allCells, Bool.and_eq_true] at hc'
    have h4 := cellB_one hS h2 hc'.1
    have h5 := cellB_one hS h3 hc'.2.1
    have h6 := cellB_one hS h3' hc'.2.2.1
    have k2 : (a.eval p).cells = #[a.eval p] := by cases hv : a.eval p <;> simp [hv, Value.oneCell'] at h4 <;> rfl
    have k3 : (a.eval q).cells = #[a.eval q] := by cases hv : a.eval q <;> simp [hv, Value.oneCell'] at h5 <;> rfl
    have k4 : (a.eval s).cells = #[a.eval s] := by cases hv : a.eval s <;> simp [hv, Value.oneCell'] at h6 <;> rfl
    have hb : P.built t [(0, a.eval p), (1, a.eval q), (2, a.eval s)] = some #[a.eval p, a.eval q, a.eval s] := by
      rw [built_struct hT ht hu (by simp), hz]
      simp [Instr.fill, k2, k3, k4]
    refine ⟨.agg #[a.eval p, a.eval q, a.eval s], by simp [execOp]; rw [run_build w t #[(0, a.eval p), (1, a.eval q), (2, a.eval s)] _ hb]; simp, ?_⟩
    simp only [relV]
    exact ⟨[a.eval p, a.eval q, a.eval s], rfl, by simp only [relL]; exact ⟨_, _, rfl, h2, _, _, rfl, h3, _, _, rfl, h3', rfl⟩⟩
/-! slice literals -/
theorem run_buildSlice0 (hT : TabOk P T) {t e : Nat} {i j : TyI} (ht : lkT T t = some i) (hu : i.u = .slice e) (he : lkT T e = some j) (w : World) :
    (Instr.buildSlice t 0 #[]).run P w = .ok (.slice (some ⟨w.heap.size, 0, none⟩) 0 0) (w.alloc (.cells #[] e)) := by
  obtain ⟨inf, d, hk⟩ := hT.known ht
  obtain ⟨inf2, d2, hk2⟩ := hT.known he
  simp [Instr.buildSlice, run_underlying (hk.slice hu), run_sizeOf_known hk2.info, Instr.fill, newRow]
  congr 2
  apply Array.eq_empty_of_size_eq_zero
  simp
theorem does_buildSlice0 (hT : TabOk P T) {t e r : Nat} {i j : TyI} (hd : dstOk nt dst = true) (ht : lkT T t = some i) (hu : i.u = .slice e) (he : lkT T e = some j) (hs : 0 < j.size) (hr : σ.row r = none) (h0 : r ≠ 0) :
    Does P nt ⟨dst, .buildSlice t 0 #[], ty, pos, aft, gd⟩ ⟨[], [r]⟩ (.own r 0) [(r, some ⟨e, j.size, 0, true, false, []⟩)] σ :=
  does_run hd fun τ hag F φ Z a w hF hS => by
    have hr' : τ.row r = none := by rw [hag.2 r (by simp)]; exact hr
    obtain ⟨φ', h4, h5, h6⟩ := alloc_row hS hr' h0 (t := e) (sz := j.size) (n := 0) (pure := true) (box := false) (ys := []) (us := []) (by simp [relL]) (by simp) hs (by simp) (by simp [maxLen]) (fun _ => by simp [pureL])
    refine ⟨.slice (some ⟨w.heap.size, 0, none⟩) 0 0, w.alloc (.cells #[] e), φ', Z, by simp [execOp, run_buildSlice0 hT ht hu he], h4, ?_⟩
    simp only [relV, cxOf, St.rowsUpd, overR]
    simp
    exact ⟨_, _, ⟨rfl, rfl⟩, fun _ => h5.symm⟩
theorem fill_one {s : Nat} (hs : 0 < s) (v : Value) (cells : Array Value) (hv : v.cells.size = s) (hc : cells.size = s) : Instr.fill (fun i => some (i * s, s)) cells [(0, v)] = some v.cells := by
  obtain ⟨r, h1, h2, h3⟩ := Great.fill_dense hs [v] 0 cells (by simpa using hv) (by simp; omega)
  have : r = v.cells := by
    apply Array.ext_getElem?
    intro k
    rw [h3 k]
    by_cases hk : k < s
    · rw [if_pos (by simp; omega), Nat.div_eq_of_lt hk, Nat.mod_eq_of_lt hk]; simp
    · rw [if_neg (by simp; omega), Array.getElem?_eq_none (by omega), Array.getElem?_eq_none (by omega)]
  rw [← this]; simpa using h1
theorem run_buildSlice1 (hT : TabOk P T) {t e : Nat} {i j : TyI} (ht : lkT T t = some i) (hu : i.u = .slice e) (he : lkT T e = some j) (hs : 0 < j.size) (hs' : j.size ≤ 1000) (v : Value) (hv : v.cells.size = j.size) (w : World) :
    (Instr.buildSlice t 1 #[(0, v)]).run P w = .ok (.slice (some ⟨w.heap.size, 0, none⟩) 1 1) (w.alloc (.cells v.cells e)) := by
  obtain ⟨inf, d, hk⟩ := hT.known ht
  obtain ⟨inf2, d2, hk2⟩ := hT.known he
  obtain ⟨z, hz, _⟩ := hk2.zero
  have hi := hk2.size
  exact run_buildSlice w t e 1 #[(0, v)] v.cells inf2 z (hk.slice hu) hk2.info hz (by omega) (by omega) (by simpa using fill_one (s := inf2.size) (by omega) v _ (by omega) (by simp))
theorem does_buildSlice1 (hT : TabOk P T) {t e r : Nat} {p : Operand} {i j : TyI} {y : AV} {ys : List AV} (hd : dstOk nt dst = true) (hp : σ.ev p = y) (hy : avCells y = some ys) (hc : allCells σ ys = true) (ht : lkT T t = some i) (hu : i.u = .slice e) (he : lkT T e = some j)
    (hs : 0 < j.size) (hs' : j.size ≤ 1000) (hl : ys.length = j.size) (hr : σ.row r = none) (h0 : r ≠ 0) :
    Does P nt ⟨dst, .buildSlice t 1 #[(0, p)], ty, pos, aft, gd⟩ ⟨fo p, r :: rowsOf ys⟩ (.own r 0) [(r, some ⟨e, j.size, 0, pureBs ys, false, ys⟩)] σ :=
  does_run hd fun τ hag F φ Z a w hF hS => by
    have hr' : τ.row r = none := by rw [hag.2 r (by simp)]; exact hr
    have h2 := ev_rel hag hS hp (by simp)
    have hc' : allCells τ ys = true := by rw [allCells_agree hag (fun r h => by simp [h])]; exact hc
    have h3 := avCells_rel hS h2 hy hc'
    have hl3 := relL_length h3
    obtain ⟨φ', h4, h5, h6⟩ := alloc_row hS hr' h0 (t := e) (sz := j.size) (n := 1) (pure := pureBs ys) (box := false) h3 (allCells_one hS h3 hc') hs (by omega) (by simp [maxLen]) (fun h => pureL_of_rel h3 h)
    refine ⟨.slice (some ⟨w.heap.size, 0, none⟩) 1 1, w.alloc (.cells (a.eval p).cells e), φ', Z, by simp [execOp]; rw [run_buildSlice1 hT ht hu he hs hs' (a.eval p) (by simp at hl3; omega)]; simp, by simpa using h4, ?_⟩
    simp only [relV, cxOf, St.rowsUpd, overR]
    simp
    exact ⟨_, _, ⟨rfl, rfl⟩, fun _ => h5.symm⟩

/-! make -/
theorem does_make (hT : TabOk P T) {t e r n : Nat} {p q : Operand} {i j : TyI} {zk : ZK} {kl kc : IntKind} {L C : Int} (hd : dstOk nt dst = true) (hp : σ.ev p = .v (.int kl L)) (hq : σ.ev q = .v (.int kc C)) (hL : L = (n : Int)) (hC : C = (n : Int))
    (ht : lkT T t = some i) (hu : i.u = .slice e) (he : lkT T e = some j) (hz : j.zero = [zk]) (hs : j.size = 1) (hb : j.bytes * n ≤ 281474976710656) (hn : n ≤ maxLen) (hr : σ.row r = none) (h0 : r ≠ 0) :
    Does P nt ⟨dst, .makeSlice t p q, ty, pos, aft, gd⟩ ⟨fo p ++ fo q, [r]⟩ (.own r 0) [(r, some ⟨e, 1, 0, true, false, List.replicate n (.v zk.val)⟩)] σ :=
  does_run hd fun τ hag F φ Z a w hF hS => by
    have hr' : τ.row r = none := by rw [hag.2 r (by simp)]; exact hr
    have e1 := ev_v hag hS hp (by simp +contextual)
    have e2 := ev_v hag hS hq (by simp +contextual)
    obtain ⟨inf, d, hk⟩ := hT.known ht
    obtain ⟨inf2, d2, hk2⟩ := hT.known he
    obtain ⟨z, hzz, hzc⟩ := hk2.zero
    have hzc' : z.cells = #[zk.val] := by rw [hz] at hzc; apply Array.ext'; simpa using hzc
    obtain ⟨w', hrun, hown, hgr⟩ := run_make_full (P := P) w F.w0.heap.size t e inf2 z 1 (hk.slice hu) hk2.info hzz (by rw [hk2.size, hs]) kl kc n (by rw [hk2.bytes]; exact hb) hn hS.keep.size
    subst hL hC
    rw [hzc', Nat.mul_one, toList_madeCells_one] at hown
    have hbel : Below w.heap.size w w' := (Below.refl _ _).grown hgr (Nat.le_refl _) (fun k h => by cases h)
    have hS' := hS.grow' hbel
    have hcx := cxLe_grow hS hbel (fun _ h => h)
    have hbl : ∀ g, (Value.slice (some ⟨w.heap.size, 0, none⟩) n n).ownBlock = some g → g = w.heap.size := fun g hg => by simp [Value.ownBlock] at hg; exact hg.symm
    have hrow : RowRel F (cxOf φ Z τ w') (.slice (some ⟨w.heap.size, 0, none⟩) n n) ⟨e, 1, 0, true, false, List.replicate n (.v zk.val)⟩ := by
      refine ⟨by simp, fun _ => ?_, fun h => by simp at h, fun g hg => .inl (by rw [hbl g hg]; exact hS.keep.size), n, List.replicate n zk.val, ?_, by simp, ?_, ?_⟩
      · have := pureL_vals (List.replicate n zk.val)
        simpa using this
      · refine ⟨hown.1, ?_⟩
        rcases hown.2 with h | ⟨g, cap, cur, h1, h2, h3⟩
        · exact .inl h
        · exact .inr ⟨g, cap, cur, h1, Nat.zero_le _, h3⟩
      · have := relL_vals (cxOf φ Z τ w') (List.replicate n zk.val)
        simpa using this
      · intro u hu
        rw [List.eq_of_mem_replicate hu]
        cases zk <;> rfl
    obtain ⟨h2, h3⟩ := hS'.adopt hr' h0 hrow (by
      intro g hg
      rw [hbl g hg]
      refine ⟨fun hz => by have := hS.zlt _ hz; omega, fun s hs' e => ?_⟩
      obtain ⟨row, hrow'⟩ := Option.isSome_iff_exists.1 hs'
      have := (hS.rows s row hrow').lt e
      simp [cxOf] at this)
    rw [set_eq_upd] at h2
    refine ⟨.slice (some ⟨w.heap.size, 0, none⟩) n n, w', _, Z, by simp [execOp, e1, e2, hrun], h2, ?_⟩
    simp only [relV, cxOf, St.rowsUpd, overR]
    simp
    exact ⟨_, _, ⟨rfl, rfl⟩, fun _ => rfl⟩

/-! append -/
/-- the cells that an operand's slice holds -/
structure SrcRel (cx : Cx) (sz : Nat) (u : Value) (cs : List AV) (m : Nat) (us : List Value) : Prop where
  shape : (∃ c, u = .slice none 0 c ∧ m = 0) ∨ ∃ ad c, u = .slice (some ad) m c ∧ ∀ j v, us[j]? = some v → cx.w.cell? (ad.add j) = some v
  len : us.length = m * sz
  rel : relL cx cs us
  one : ∀ v, v ∈ us → v.oneCell' = true
theorem run_append_sym {t ty e : TypeId} {inf : TypeInfo} {z : Value} {sz by' : Nat} (ht : P.underlying t = some (.slice e)) (hi : P.info? e = some inf) (hz : inf.zero = some z) (hsz : inf.size = sz) (hby : inf.bytes = by') (hzs : z.cells.size = sz) (hs0 : 0 < sz)
    {w : World} {v u : Value} {n m : Nat} {xs us : List Value} (hown : w.ownsRow 0 e sz v n xs) {cx : Cx} {cs : List AV} (hcx : cx.w = w) (hsrc : SrcRel cx sz u cs m us) (h63 : n + m ≤ maxLen) (hbytes : (n + m) * by' ≤ 140737488355328) :
    ∃ v' w', (Builtin.append_ #[t, t] ty #[v, u]).run P w = .ok v' w' ∧ w'.ownsRow 0 e sz v' (n + m) (xs ++ us) ∧ w.grownBy w' v.ownBlock ∧ ∀ g, v'.ownBlock = some g → v.ownBlock = some g ∨ w.heap.size ≤ g := by
  rcases hsrc.shape with ⟨c, rfl, rfl⟩ | ⟨ad, c, rfl, hcell⟩
  · have hus : us = [] := List.eq_nil_of_length_eq_zero (by have := hsrc.len; simpa using this)
    subst hus
    refine ⟨v, w, ?_, by simpa using hown, ⟨rfl, rfl, rfl, Nat.le_refl _, fun _ _ _ => rfl⟩, fun g hg => .inl hg⟩
    rcases hown.2 with ⟨rfl, rfl⟩ | ⟨g, cap, cur, rfl, _, _, hnc, _⟩
    · simp [Builtin.append_, run_underlying ht, sizeOf, typeInfo, hi, Builtin.lenOf, Builtin.firstCells]
    · simp [Builtin.append_, run_underlying ht, sizeOf, typeInfo, hi, Builtin.lenOf, Builtin.firstCells, hnc, storeCells]
  · rw [hcx] at hcell
    obtain ⟨v', w', hr, h1, h2, h3⟩ := run_append_own (P := P) w 0 t ty e inf z sz by' ht hi hz hsz hby hzs hs0 v n xs hown ad m c us hsrc.len hcell hsrc.one h63 hbytes (Nat.zero_le _)
    refine ⟨v', w', hr, h1, h2, fun g hg => ?_⟩
    rcases hown.2 with ⟨rfl, rfl⟩ | ⟨g0, cap, cur, rfl, _, hgg, hnc, hcm, hcs, htake⟩
    · have hx : xs = [] := List.eq_nil_of_length_eq_zero (by simpa using hown.1)
      subst hx
      obtain ⟨v2, w2, hr2, k1, _⟩ := run_append_own (P := P) w w.heap.size t ty e inf z sz by' ht hi hz hsz hby hzs hs0 (.slice none 0 0) 0 [] (World.ownsRow_nil w _ _ _) ad m c us hsrc.len hcell hsrc.one h63 hbytes (Nat.le_refl _)
      rw [hr] at hr2
      cases hr2
      exact .inr (k1.lt g hg).1
    · by_cases hroom : n + m ≤ cap
      · have hfit : n * inf.size + us.length ≤ cur.size := by rw [hsrc.len, hcs, hsz, ← Nat.add_mul]; exact Nat.mul_le_mul_right _ hroom
        have hr2 := run_append_room (P := P) w t ty e inf ht hi g0 n cap cur hgg ad m c us (by rw [hsz]; exact hsrc.len) hcell hsrc.one hroom hfit
        rw [hr] at hr2
        cases hr2
        left; exact hg
      · have hr2 := run_append_grow (P := P) w t ty e inf z ht hi hz ⟨g0, 0, none⟩ n cap xs (by rw [hsz]; exact hown.1) (hown.cells (g := g0) rfl) ad m c us (by rw [hsz]; exact hsrc.len) hcell (by omega) (by simp only [maxLen] at h63; omega) (growslice_fits (by omega) (by rw [hby]; exact hbytes))
        rw [hr] at hr2
        cases hr2
        simp [Value.ownBlock] at hg
        right; omega

/-- what a slice operand is known to hold, in every state that agrees on R -/
def Src (R : Foot) (σ : St) (y : Operand) (sz : Nat) (cs : List AV) (pure : Bool) : Prop :=
  ∀ τ, Agree R τ σ → ∀ F φ Z a w, SimAt F φ Z τ a w → ∃ m us, SrcRel (cxOf φ Z τ w) sz (a.eval y) cs m us ∧ (pure = true → pureL cs)
theorem src_own {y : Operand} {r k : Nat} {row : Row} {R : Foot} (hy : σ.ev y = .own r k) (hr : σ.row r = some row) (hv : row.ver = k) (hR : ∀ t, t ∈ fo y → t ∈ R.e) (hR' : r ∈ R.r) : Src R σ y row.sz row.cs row.pure := by
  intro τ hag F φ Z a w hS
  have hr' : τ.row r = some row := by rw [hag.2 r hR']; exact hr
  have e1 := own_open hS hr' hv (ev_rel hag hS hy hR)
  obtain ⟨n, xs, hm⟩ := rowMem hS hr'
  refine ⟨n, xs, ⟨?_, hm.own.1, hm.rel, hm.one⟩, (hS.rows r row hr').pur⟩
  rcases hm.own.2 with ⟨h1, h2⟩ | ⟨g, cap, cur, h1, h2⟩
  · left; exact ⟨0, by rw [e1, h1], h2⟩
  · right
    exact ⟨⟨g, 0, none⟩, cap, by rw [e1, h1], hm.own.cells (g := g) (by rw [h1]; rfl)⟩
theorem rel_cells {cx : Cx} {cs : List AV} {f : Nat → Option Value} (h : ∀ j x, cs[j]? = some x → ∃ u, f j = some u ∧ u.oneCell' = true ∧ relV cx x u) : ∃ us : List Value, relL cx cs us ∧ (∀ u, u ∈ us → u.oneCell' = true) ∧ ∀ j u, us[j]? = some u → f j = some u := by
  induction cs generalizing f with
  | nil => exact ⟨[], by simp [relL], by simp, by simp⟩
  | cons x cs ih =>
    obtain ⟨us, h1, h2, h3⟩ := ih (f := fun j => f (j + 1)) (fun j x hx => h (j + 1) x (by simpa using hx))
    obtain ⟨u, hu, ho, hr⟩ := h 0 x (by simp)
    refine ⟨u :: us, ?_, ?_, ?_⟩
    · simp only [relL]; exact ⟨u, us, rfl, hr, h1⟩
    · intro v hv
      rcases List.mem_cons.1 hv with rfl | hv
      · exact ho
      · exact h2 v hv
    · intro j v hj
      cases j with
      | zero => simp at hj; subst hj; exact hu
      | succ j => simp at hj; exact h3 j v hj
theorem src_sl {y : Operand} {ty' sz : Nat} {cs : List AV} {R : Foot} (hy : σ.ev y = .sl ty' sz cs) (hR : ∀ t, t ∈ fo y → t ∈ R.e) : Src R σ y sz cs true := by
  intro τ hag F φ Z a w hS
  have h2 := ev_rel hag hS hy hR
  simp only [relV] at h2
  obtain ⟨hp, ao, n, c, e1, h3, h4, h5, h6, h7⟩ := h2
  rcases h7 with h7 | ⟨b, off, rfl, hb, hc⟩
  · subst h7
    have hn : n = 0 := by
      have h8 : n * sz = 0 := h6.symm
      rcases Nat.mul_eq_zero.1 h8 with h9 | h9 <;> omega
    subst hn
    refine ⟨0, [], ⟨?_, by simp, by simp [relL], by simp⟩, fun _ => hp⟩
    cases ao with
    | none => left; exact ⟨c, e1, rfl⟩
    | some ad => right; exact ⟨ad, c, e1, by simp⟩
  · obtain ⟨us, h8, h9, h10⟩ := rel_cells (cx := cxOf φ Z τ w) (f := fun j => w.cell? ⟨b, off + j, none⟩) (fun j x hx => relC_get hc j x hx)
    refine ⟨n, us, ⟨.inr ⟨⟨b, off, none⟩, c, e1, fun j v hj => by rw [Addr.add_lit]; exact h10 j v hj⟩, by rw [relL_length h8]; exact h6, h8, h9⟩, fun _ => hp⟩
theorem does_append (hT : TabOk P T) {t e : Nat} {x y : Operand} {i j : TyI} {r k : Nat} {row : Row} {cs : List AV} {pu : Bool} {R : Foot} (hd : dstOk nt dst = true) (hx : σ.ev x = .own r k) (hr : σ.row r = some row) (hv : row.ver = k) (hbx : row.box = false) (h0 : r ≠ 0)
    (ht : lkT T t = some i) (hu : i.u = .slice e) (he : lkT T e = some j) (hty : row.ty = e) (hsz : row.sz = j.size) (hzl : j.zero.length = j.size) (hsrc : Src R σ y j.size cs pu) (hR : ∀ t, t ∈ fo x → t ∈ R.e) (hR' : r ∈ R.r) (hb : (row.cs.length + cs.length) * (j.bytes + 1) ≤ 140737488355328) :
    Does P nt ⟨dst, .call ⟨.builtin .append, #[x, y], #[t, t]⟩, ty, pos, aft, gd⟩ R (.own r (k + 1)) [(r, some ⟨row.ty, row.sz, k + 1, row.pure && pu, false, row.cs ++ cs⟩)] σ :=
  does_run hd fun τ hag F φ Z a w hF hS => by
    have hr' : τ.row r = some row := by rw [hag.2 r hR']; exact hr
    have e1 := own_open hS hr' hv (ev_rel hag hS hx hR)
    obtain ⟨n, xs, hm⟩ := rowMem hS hr'
    obtain ⟨m, us, hs1, hpu⟩ := hsrc τ hag F φ Z a w hS
    obtain ⟨inf, d, hk⟩ := hT.known ht
    obtain ⟨inf2, d2, hk2⟩ := hT.known he
    obtain ⟨z, hzz, hzc⟩ := hk2.zero
    have hzs : z.cells.size = j.size := by rw [← Array.length_toList, hzc]; simp [hzl]
    have hrr := hS.rows r row hr'
    have hpos := hrr.sz
    have hown : w.ownsRow 0 e j.size (φ r) n xs := by rw [← hty, ← hsz]; exact hm.own
    have hl1 := hm.len
    have hl2 := relL_length hs1.rel
    have hl3 := hs1.len
    have hn1 : n ≤ row.cs.length := by rw [hl1]; exact Nat.le_mul_of_pos_right _ hpos
    have hm1 : m ≤ cs.length := by rw [← hl2, hl3]; exact Nat.le_mul_of_pos_right _ (by omega)
    have hnm : (n + m) * (j.bytes + 1) ≤ 140737488355328 := Nat.le_trans (Nat.mul_le_mul_right _ (by omega)) hb
    have hnm' : (n + m) * j.bytes + (n + m) ≤ 140737488355328 := by rw [Nat.mul_add, Nat.mul_one] at hnm; exact hnm
    obtain ⟨v', w', hrun, k1, k2, k3⟩ := run_append_sym (P := P) (ty := ty) (hk.slice hu) hk2.info hzz hk2.size hk2.bytes hzs (by omega) hown (by rfl) hs1 (by simp [maxLen]; omega) (by omega)
    have htn := hS.turn (r := r) (row := row) (row' := ⟨row.ty, row.sz, k + 1, row.pure && pu, false, row.cs ++ cs⟩) (t' := v') (w' := w') hr' k2 (by simp; omega) (fun h => by simp at h; omega)
      (fun hcx => by
        refine ⟨hpos, ?_, fun h => by simp at h, ?_, n + m, xs ++ us, ?_, ?_, relL_append (relL_mono hcx _ _ hm.rel) (relL_mono hcx _ _ hs1.rel), ?_⟩
        · intro hp
          simp only [Bool.and_eq_true] at hp
          exact pureL_append (hrr.pur hp.1) (hpu hp.2)
        · intro g hg
          left
          rcases k3 g hg with h | h
          · rcases hrr.blk g h with h' | h'
            · exact h'
            · rw [hbx] at h'; cases h'.1
          · exact Nat.le_trans hS.keep.size h
        · simp only [cxOf]; rw [hty, hsz]; exact k1
        · simp only [List.length_append]; rw [hl1, ← hl2, hl3, hsz, Nat.add_mul]
        · intro u hu
          rcases List.mem_append.1 hu with hu | hu
          · exact hm.one u hu
          · exact hs1.one u hu)
      k3 (fun h => absurd h h0)
    rw [set_eq_upd] at htn
    refine ⟨v', w', _, Z, by simp [execOp, resolve, invoke, builtin, e1, hrun], htn.1, ?_⟩
    simp only [relV, cxOf, St.rowsUpd, overR]
    simp
    exact ⟨_, _, ⟨rfl, rfl⟩, Nat.le_refl _, fun _ => rfl⟩
end
end Go.Sym
end

section
/-
  Regions, in the text's order or in whatever order, and code, on abstract states; nothing of the program stands here.
-/
set_option linter.unusedVariables false
set_option linter.unusedSimpArgs false
namespace Go.Sym
open Go Go.RowKit

structure Upd where
  d : Option Nat
  x : AV
  rs : List (Nat × Option Row)
def St.app (σ : St) (u : Upd) : St := σ.upd u.d u.x u.rs

/-- one operation of a region, guard and all -/
def OStep (P : Program) (nt : Nat) (ops : Array Oper) (o : Oper) (σ : St) (R : Foot) (u : Upd) : Prop :=
  ∀ τ, Agree R τ σ → ∀ F, F.nt = nt → ∀ a w, Sim F τ a w → ∀ (Q : Exit → Act → World → Prop) (K : Act → World → Prop), (∀ a' w', Sim F (τ.app u) a' w' → K a' w') →
    if Region.wanted o (yielded ops a.tmps) then o.wp P a w K Q ∨ (o.asks P a w ∧ LetsOut Q) else K (a.put o.dst undef) w

theorem yielded_of {ops : Array Oper} {g d : Nat} {F : Fr} {φ : Nat → Value} {Z : Nat → Prop} {τ : St} {a : Act} {w : World} (hS : SimAt F φ Z τ a w) (hd : (ops[g]?).bind (·.dst) = some d) {b : Bool} (hv : τ.env d = .bool b) : yielded ops a.tmps g = some b := by
  have h1 := hS.env d
  rw [hv] at h1
  simp only [relV] at h1
  unfold yielded
  rw [hd]
  simp only [Option.bind_some]
  cases h2 : a.tmps[d]? with
  | none =>
    rw [Array.getD_eq_getD_getElem?, h2] at h1
    simp [undef] at h1
  | some u =>
    rw [Array.getD_eq_getD_getElem?, h2] at h1
    simp at h1
    subst h1
    rfl
theorem yielded_undef {ops : Array Oper} {g d : Nat} {F : Fr} {φ : Nat → Value} {Z : Nat → Prop} {τ : St} {a : Act} {w : World} (hS : SimAt F φ Z τ a w) (hd : (ops[g]?).bind (·.dst) = some d) (hv : τ.env d = .v undef) : yielded ops a.tmps g = none := by
  have h1 := hS.env d
  rw [hv] at h1
  simp only [relV] at h1
  unfold yielded
  rw [hd]
  simp only [Option.bind_some]
  cases h2 : a.tmps[d]? with
  | none => rfl
  | some u =>
    rw [Array.getD_eq_getD_getElem?, h2] at h1
    simp at h1
    subst h1
    rfl
section
variable {P : Program} {nt : Nat} {ops : Array Oper} {σ : St} {o : Oper} {R : Foot} {x : AV} {rs : List (Nat × Option Row)}
theorem ostep_plain (hg : o.guard = none) (h : Does P nt o R x rs σ) : OStep P nt ops o σ R ⟨o.dst, x, rs⟩ := by
  intro τ hag F hF a w hS Q K hK
  rw [if_pos (by simp [Region.wanted, hg])]
  exact .inl (h.out τ hag F hF a w hS Q K (fun u w' hs => hK _ _ hs))
theorem ostep_yes {g d : Nat} {b : Bool} (hg : o.guard = some (g, b)) (hd : (ops[g]?).bind (·.dst) = some d) (hv : σ.env d = .bool b) (h : Does P nt o R x rs σ) : OStep P nt ops o σ ⟨d :: R.e, R.r⟩ ⟨o.dst, x, rs⟩ := by
  intro τ hag F hF a w hS Q K hK
  obtain ⟨φ, Z, hS'⟩ := id hS
  have hy := yielded_of hS' hd (by rw [hag.1 d (by simp)]; exact hv)
  rw [if_pos (by simp [Region.wanted, hg, hy])]
  exact .inl (h.out τ ⟨fun t ht => hag.1 t (by simp [ht]), hag.2⟩ F hF a w hS Q K (fun u w' hs => hK _ _ hs))
theorem sim_put_undef {F : Fr} {τ : St} {a : Act} {w : World} (hS : Sim F τ a w) {d : Option Nat} (hd : dstOk F.nt d = true) : Sim F (τ.app ⟨d, .v undef, []⟩) (a.put d undef) w := by
  obtain ⟨φ, Z, hS⟩ := hS
  cases d with
  | none => exact ⟨φ, Z, hS⟩
  | some d =>
    simp [dstOk] at hd
    exact ⟨φ, Z, hS.put hd (by simp [relV])⟩
theorem ostep_no {g d : Nat} {b : Bool} (hdo : dstOk nt o.dst = true) (hg : o.guard = some (g, b)) (hd : (ops[g]?).bind (·.dst) = some d) (hv : σ.env d = .bool (!b)) : OStep P nt ops o σ ⟨[d], []⟩ ⟨o.dst, .v undef, []⟩ := by
  intro τ hag F hF a w hS Q K hK
  obtain ⟨φ, Z, hS'⟩ := id hS
  have hy := yielded_of hS' hd (by rw [hag.1 d (by simp)]; exact hv)
  rw [if_neg (by cases b <;> simp [Region.wanted, hg, hy])]
  exact hK _ _ (sim_put_undef hS (by rw [hF]; exact hdo))
theorem ostep_un {g d : Nat} {b : Bool} (hdo : dstOk nt o.dst = true) (hg : o.guard = some (g, b)) (hd : (ops[g]?).bind (·.dst) = some d) (hv : σ.env d = .v undef) : OStep P nt ops o σ ⟨[d], []⟩ ⟨o.dst, .v undef, []⟩ := by
  intro τ hag F hF a w hS Q K hK
  obtain ⟨φ, Z, hS'⟩ := id hS
  have hy := yielded_undef hS' hd (by rw [hag.1 d (by simp)]; exact hv)
  rw [if_neg (by cases b <;> simp [Region.wanted, hg, hy])]
  exact hK _ _ (sim_put_undef hS (by rw [hF]; exact hdo))
end

inductive Chain (P : Program) (nt : Nat) (ops : Array Oper) : List Oper → St → List (Foot × Upd) → St → Prop
  | nil (σ : St) : Chain P nt ops [] σ [] σ
  | cons {o : Oper} {os : List Oper} {σ σ' : St} {R : Foot} {u : Upd} {l : List (Foot × Upd)} (h : OStep P nt ops o σ R u) (k : Chain P nt ops os (σ.app u) l σ') : Chain P nt ops (o :: os) σ ((R, u) :: l) σ'

/-- in the text's order -/
theorem Chain.list {P : Program} {nt : Nat} {ops : Array Oper} {os : List Oper} {σ σ' : St} {l : List (Foot × Upd)} (h : Chain P nt ops os σ l σ') : ∀ F, F.nt = nt → ∀ a w, Sim F σ a w → ∀ Q : Exit → Act → World → Prop, (∀ a' w', Sim F σ' a' w' → Q .normal a' w') → wpList P ops Q os a w := by
  induction h with
  | nil σ => intro F hF a w hS Q hQ; exact hQ a w hS
  | cons h k ih =>
    intro F hF a w hS Q hQ
    have := h _ ⟨fun _ _ => rfl, fun _ _ => rfl⟩ F hF a w hS Q (wpList P ops Q _) (fun a' w' hs => ih F hF a' w' hs Q hQ)
    exact this

/-! ### any order -/
def part : List (Foot × Upd) → (Nat → Bool) → Nat → St → St
  | [], _, _, τ => τ
  | (_, u) :: l, D, k, τ => part l D (k + 1) (if D k then τ.app u else τ)
def valE (t : Nat) : List (Foot × Upd) → (Nat → Bool) → Nat → AV → AV
  | [], _, _, x => x
  | (_, u) :: l, D, k, x => valE t l D (k + 1) (if D k then (if u.d = some t then u.x else x) else x)
def valR (t : Nat) : List (Foot × Upd) → (Nat → Bool) → Nat → Option Row → Option Row
  | [], _, _, x => x
  | (_, u) :: l, D, k, x => valR t l D (k + 1) (if D k then overR (fun _ => x) u.rs t else x)
theorem app_env (τ : St) (u : Upd) (t : Nat) : (τ.app u).env t = if u.d = some t then u.x else τ.env t := by
  obtain ⟨d, x, rs⟩ := u
  cases d with
  | none => simp [St.app, St.upd, St.rowsUpd]
  | some d =>
    simp only [St.app, St.upd, St.put, St.rowsUpd, Option.some.injEq]
    by_cases e : t = d
    · subst e; simp
    · rw [if_neg e, if_neg (Ne.symm e)]
theorem overR_const (f : Nat → Option Row) (rs : List (Nat × Option Row)) (t : Nat) : overR f rs t = overR (fun _ => f t) rs t := by
  induction rs with
  | nil => rfl
  | cons a rs ih => obtain ⟨d, x⟩ := a; simp only [overR, ih]
theorem app_row (τ : St) (u : Upd) (t : Nat) : (τ.app u).row t = overR (fun _ => τ.row t) u.rs t := by
  obtain ⟨d, x, rs⟩ := u
  cases d <;> simp only [St.app, St.upd, St.put, St.rowsUpd] <;> exact overR_const _ _ _
theorem part_env (t : Nat) : ∀ (l : List (Foot × Upd)) (D : Nat → Bool) (k : Nat) (τ : St), (part l D k τ).env t = valE t l D k (τ.env t)
  | [], D, k, τ => rfl
  | (R, u) :: l, D, k, τ => by
    simp only [part, valE, part_env t l]
    congr 1
    cases D k <;> simp [app_env]
theorem part_row (t : Nat) : ∀ (l : List (Foot × Upd)) (D : Nat → Bool) (k : Nat) (τ : St), (part l D k τ).row t = valR t l D k (τ.row t)
  | [], D, k, τ => rfl
  | (R, u) :: l, D, k, τ => by
    simp only [part, valR, part_row t l]
    congr 1
    cases D k <;> simp [app_row]
theorem valE_congr (t : Nat) : ∀ (l : List (Foot × Upd)) (D D' : Nat → Bool) (k : Nat) (x : AV), (∀ j R u, l[j]? = some (R, u) → u.d = some t → D (k + j) = D' (k + j)) → valE t l D k x = valE t l D' k x
  | [], D, D', k, x, _ => rfl
  | (R, u) :: l, D, D', k, x, h => by
    simp only [valE]
    have h0 := h 0 R u (by simp)
    have e : (if D k then (if u.d = some t then u.x else x) else x) = (if D' k then (if u.d = some t then u.x else x) else x) := by
      by_cases hd : u.d = some t
      · rw [show D k = D' k from h0 hd]
      · simp [hd]
    rw [e]
    exact valE_congr t l D D' (k + 1) _ (fun j R' u' hj hd => by have := h (j + 1) R' u' (by simpa using hj) hd; rw [show k + 1 + j = k + (j + 1) by omega]; exact this)
theorem overR_out {f : Nat → Option Row} {rs : List (Nat × Option Row)} {t : Nat} (h : t ∉ rs.map (·.1)) : overR f rs t = f t := by
  induction rs with
  | nil => rfl
  | cons a rs ih =>
    obtain ⟨d, x⟩ := a
    simp only [List.map_cons, List.mem_cons, not_or] at h
    simp only [overR]
    have : Nat.beq d t = false := by
      cases hb : Nat.beq d t
      · rfl
      · exact absurd (Nat.eq_of_beq_eq_true hb).symm h.1
    rw [this]
    exact ih h.2
theorem valR_congr (t : Nat) : ∀ (l : List (Foot × Upd)) (D D' : Nat → Bool) (k : Nat) (x : Option Row), (∀ j R u, l[j]? = some (R, u) → t ∈ u.rs.map (·.1) → D (k + j) = D' (k + j)) → valR t l D k x = valR t l D' k x
  | [], D, D', k, x, _ => rfl
  | (R, u) :: l, D, D', k, x, h => by
    simp only [valR]
    have h0 := h 0 R u (by simp)
    have e : (if D k then overR (fun _ => x) u.rs t else x) = (if D' k then overR (fun _ => x) u.rs t else x) := by
      by_cases hd : t ∈ u.rs.map (·.1)
      · rw [show D k = D' k from h0 hd]
      · rw [overR_out hd]; simp
    rw [e]
    exact valR_congr t l D D' (k + 1) _ (fun j R' u' hj hd => by have := h (j + 1) R' u' (by simpa using hj) hd; rw [show k + 1 + j = k + (j + 1) by omega]; exact this)
theorem St.ext' {σ τ : St} (h1 : ∀ t, σ.env t = τ.env t) (h2 : ∀ t, σ.row t = τ.row t) : σ = τ := by
  cases σ; cases τ
  simp only [St.mk.injEq]
  exact ⟨funext h1, funext h2⟩
/-- one more behind all that it does not meet -/
theorem valE_add (t : Nat) : ∀ (l : List (Foot × Upd)) (D : Nat → Bool) (k i : Nat) (x : AV) (R : Foot) (u : Upd), l[i]? = some (R, u) → D (k + i) = false → (∀ j R' u', l[j]? = some (R', u') → i < j → D (k + j) = true → ¬ (u'.d = some t ∧ u.d = some t)) →
    valE t l (fun j => if j = k + i then true else D j) k x = if u.d = some t then u.x else valE t l D k x
  | [], D, k, i, x, R, u, h, _, _ => by simp at h
  | (R0, u0) :: l, D, k, i, x, R, u, h, hD, hj => by
    cases i with
    | zero =>
      simp at h
      obtain ⟨rfl, rfl⟩ := h
      simp only [valE, Nat.add_zero, if_true]
      simp only [Nat.add_zero] at hD
      rw [hD]
      simp only [Bool.false_eq_true, if_false]
      have key : ∀ y, valE t l (fun j => if j = k then true else D j) (k + 1) y = valE t l D (k + 1) y := fun y => valE_congr t l _ _ _ _ (fun j _ _ _ _ => by rw [if_neg (by omega)])
      rw [key]
      by_cases hu : u0.d = some t
      · rw [if_pos hu, if_pos hu]
        have : ∀ (m : List (Foot × Upd)) (q : Nat) (y : AV), (∀ j R' u', m[j]? = some (R', u') → D (q + j) = true → u'.d ≠ some t) → valE t m D q y = y := by
          intro m
          induction m with
          | nil => intro q y _; rfl
          | cons a m ih =>
            obtain ⟨R1, u1⟩ := a
            intro q y hm
            simp only [valE]
            rw [ih (q + 1) _ (fun j R' u' h1 h2 => hm (j + 1) R' u' (by simpa using h1) (by rw [show q + (j + 1) = q + 1 + j by omega]; exact h2))]
            have := hm 0 R1 u1 (by simp)
            cases hq : D q with
            | false => simp
            | true => simp [this hq]
        exact this l (k + 1) u0.x (fun j R' u' h1 h2 h3 => hj (j + 1) R' u' (by simpa using h1) (by omega) (by rw [show k + (j + 1) = k + 1 + j by omega]; exact h2) ⟨h3, hu⟩)
      · rw [if_neg hu, if_neg hu]
    | succ i =>
      simp at h
      simp only [valE]
      have e1 : (if k = k + (i + 1) then true else D k) = D k := if_neg (by omega)
      simp only [e1]
      have := valE_add t l D (k + 1) i (if D k then (if u0.d = some t then u0.x else x) else x) R u h (by rw [show k + 1 + i = k + (i + 1) by omega]; exact hD)
        (fun j R' u' h1 h2 h3 => hj (j + 1) R' u' (by simpa using h1) (by omega) (by rw [show k + (j + 1) = k + 1 + j by omega]; exact h3))
      rw [← this]
      congr 1
      funext j
      rw [show k + 1 + i = k + (i + 1) by omega]
theorem overR_const_eq {rs : List (Nat × Option Row)} {t : Nat} (h : t ∈ rs.map (·.1)) (x y : Option Row) : overR (fun _ => x) rs t = overR (fun _ => y) rs t := by
  induction rs with
  | nil => simp at h
  | cons a rs ih =>
    obtain ⟨d, z⟩ := a
    simp only [overR]
    cases hb : Nat.beq d t
    · simp only [List.map_cons, List.mem_cons] at h
      rcases h with h | h
      · have h' : t = d := h
        subst h'
        simp at hb
      · exact ih h
    · rfl
theorem valR_add (t : Nat) : ∀ (l : List (Foot × Upd)) (D : Nat → Bool) (k i : Nat) (x : Option Row) (R : Foot) (u : Upd), l[i]? = some (R, u) → D (k + i) = false → (∀ j R' u', l[j]? = some (R', u') → i < j → D (k + j) = true → ¬ (t ∈ u'.rs.map (·.1) ∧ t ∈ u.rs.map (·.1))) →
    valR t l (fun j => if j = k + i then true else D j) k x = overR (fun _ => valR t l D k x) u.rs t
  | [], D, k, i, x, R, u, h, _, _ => by simp at h
  | (R0, u0) :: l, D, k, i, x, R, u, h, hD, hj => by
    cases i with
    | zero =>
      simp at h
      obtain ⟨rfl, rfl⟩ := h
      simp only [valR, Nat.add_zero, if_true]
      simp only [Nat.add_zero] at hD
      rw [hD]
      simp only [Bool.false_eq_true, if_false]
      have key : ∀ y, valR t l (fun j => if j = k then true else D j) (k + 1) y = valR t l D (k + 1) y := fun y => valR_congr t l _ _ _ _ (fun j _ _ _ _ => by rw [if_neg (by omega)])
      rw [key]
      by_cases hu : t ∈ u0.rs.map (·.1)
      · have : ∀ (m : List (Foot × Upd)) (q : Nat) (y : Option Row), (∀ j R' u', m[j]? = some (R', u') → D (q + j) = true → t ∉ u'.rs.map (·.1)) → valR t m D q y = y := by
          intro m
          induction m with
          | nil => intro q y _; rfl
          | cons a m ih =>
            obtain ⟨R1, u1⟩ := a
            intro q y hm
            simp only [valR]
            rw [ih (q + 1) _ (fun j R' u' h1 h2 => hm (j + 1) R' u' (by simpa using h1) (by rw [show q + (j + 1) = q + 1 + j by omega]; exact h2))]
            have := hm 0 R1 u1 (by simp)
            cases hq : D q with
            | false => simp
            | true => simp only [if_true]; exact overR_out (this hq)
        have h2 := this l (k + 1) (overR (fun _ => x) u0.rs t) (fun j R' u' h1 h2 h3 => hj (j + 1) R' u' (by simpa using h1) (by omega) (by rw [show k + (j + 1) = k + 1 + j by omega]; exact h2) ⟨h3, hu⟩)
        rw [h2]
        exact overR_const_eq hu _ _
      · rw [overR_out hu, overR_out hu]
    | succ i =>
      simp at h
      simp only [valR]
      have e1 : (if k = k + (i + 1) then true else D k) = D k := if_neg (by omega)
      simp only [e1]
      have := valR_add t l D (k + 1) i (if D k then overR (fun _ => x) u0.rs t else x) R u h (by rw [show k + 1 + i = k + (i + 1) by omega]; exact hD)
        (fun j R' u' h1 h2 h3 => hj (j + 1) R' u' (by simpa using h1) (by omega) (by rw [show k + (j + 1) = k + 1 + j by omega]; exact h3))
      rw [← this]
      congr 1
      funext j
      rw [show k + 1 + i = k + (i + 1) by omega]

/-! what waits for what -/
structure Fp where
  re : List Nat
  rr : List Nat
  we : List Nat
  wr : List Nat
def fpOf (x : Foot × Upd) : Fp := ⟨x.1.e, x.1.r, x.2.d.toList, x.2.rs.map (·.1)⟩
def meets (xs ys : List Nat) : Bool := xs.any fun x => ys.any fun y => Nat.beq x y
theorem meets_of {xs ys : List Nat} {t : Nat} (h1 : t ∈ xs) (h2 : t ∈ ys) : meets xs ys = true :=
  List.any_eq_true.2 ⟨t, h1, List.any_eq_true.2 ⟨t, h2, by simp⟩⟩
def conf (f g : Fp) : Bool := meets f.we (g.re ++ g.we) || (meets f.re g.we || (meets f.wr (g.rr ++ g.wr) || meets f.rr g.wr))
def maskStep (acc : List Nat) (s : Nat) (e : Edge) : Nat := if Region.binds .any e then s ||| (2 ^ e.on ||| acc.getD e.on 0) else s
def maskOf (o : Oper) (acc : List Nat) : Nat := o.after.toList.foldl (maskStep acc) 0
def masks : List Oper → List Nat → List Nat
  | [], acc => acc
  | o :: os, acc => masks os (acc ++ [maskOf o acc])
def edgesBack : List Oper → Nat → Bool
  | [], _ => true
  | o :: os, i => (o.after.toList.all fun e => !Region.binds .any e || decide (e.on < i)) && edgesBack os (i + 1)
def chkRow (f : Fp) (m : Nat) : List Fp → Nat → Bool
  | [], _ => true
  | g :: gs, i => (!conf g f || Nat.testBit m i) && chkRow f m gs (i + 1)
def chkRows (ms : List Nat) : List Fp → List Fp → Nat → Bool
  | _, [], _ => true
  | done, f :: rest, j => chkRow f (ms.getD j 0) done 0 && chkRows ms (done ++ [f]) rest (j + 1)
def chk (os : List Oper) (fs : List Fp) : Bool := edgesBack os 0 && chkRows (masks os []) [] fs 0

inductive Anc (os : List Oper) : Nat → Nat → Prop
  | one {i : Nat} {o : Oper} {e : Edge} (h : os[i]? = some o) (he : e ∈ o.after.toList) (hb : Region.binds .any e = true) : Anc os i e.on
  | more {i j : Nat} {o : Oper} {e : Edge} (h : os[i]? = some o) (he : e ∈ o.after.toList) (hb : Region.binds .any e = true) (k : Anc os e.on j) : Anc os i j
theorem maskFold (acc : List Nat) : ∀ (es : List Edge) (s j : Nat), Nat.testBit (es.foldl (maskStep acc) s) j = true → Nat.testBit s j = true ∨ ∃ e, e ∈ es ∧ Region.binds .any e = true ∧ (e.on = j ∨ Nat.testBit (acc.getD e.on 0) j = true)
  | [], s, j, h => .inl h
  | e :: es, s, j, h => by
    rcases maskFold acc es _ j h with h1 | ⟨e', h1, h2, h3⟩
    · unfold maskStep at h1
      by_cases hb : Region.binds .any e = true
      · rw [if_pos hb, Nat.testBit_or, Nat.testBit_or, Bool.or_eq_true, Bool.or_eq_true] at h1
        rcases h1 with h1 | h1 | h1
        · exact .inl h1
        · right
          refine ⟨e, by simp, hb, .inl ?_⟩
          rw [Nat.testBit_two_pow] at h1
          simpa using h1
        · exact .inr ⟨e, by simp, hb, .inr h1⟩
      · rw [if_neg hb] at h1; exact .inl h1
    · exact .inr ⟨e', by simp [h1], h2, h3⟩
theorem masks_anc (os : List Oper) : ∀ (rest : List Oper) (pre : List Oper) (acc : List Nat), os = pre ++ rest → acc.length = pre.length → (∀ i j, Nat.testBit (acc.getD i 0) j = true → Anc os i j) → ∀ i j, Nat.testBit ((masks rest acc).getD i 0) j = true → Anc os i j
  | [], pre, acc, _, _, h, i, j, hb => h i j hb
  | o :: rest, pre, acc, he, hl, h, i, j, hb => by
    refine masks_anc os rest (pre ++ [o]) (acc ++ [maskOf o acc]) (by simp [he]) (by simp [hl]) (fun i j hb => ?_) i j hb
    rw [List.getD_eq_getElem?_getD] at hb
    by_cases hi : i < acc.length
    · rw [List.getElem?_append_left hi, ← List.getD_eq_getElem?_getD] at hb
      exact h i j hb
    · by_cases hi2 : i = acc.length
      · subst hi2
        rw [List.getElem?_append_right (Nat.le_refl _)] at hb
        simp at hb
        rcases maskFold acc o.after.toList 0 j hb with h1 | ⟨e, h1, h2, h3⟩
        · simp at h1
        · have ho : os[acc.length]? = some o := by rw [he, hl, List.getElem?_append_right (Nat.le_refl _)]; simp
          rcases h3 with h3 | h3
          · subst h3; exact .one ho h1 h2
          · exact .more ho h1 h2 (h _ _ h3)
      · rw [List.getElem?_eq_none (by simp; omega)] at hb
        simp at hb
theorem chkRow_get {f : Fp} {m : Nat} : ∀ {gs : List Fp} {k : Nat}, chkRow f m gs k = true → ∀ i g, gs[i]? = some g → conf g f = true → Nat.testBit m (k + i) = true
  | [], k, _, i, g, h, _ => by simp at h
  | g0 :: gs, k, hc, i, g, h, hf => by
    simp only [chkRow, Bool.and_eq_true] at hc
    cases i with
    | zero =>
      simp at h; subst h
      have := hc.1
      rw [hf] at this
      simpa using this
    | succ i =>
      simp at h
      have := chkRow_get hc.2 i g h hf
      rw [show k + (i + 1) = k + 1 + i by omega]; exact this
theorem chkRows_get {ms : List Nat} : ∀ {rest done : List Fp} {j : Nat}, done.length = j → chkRows ms done rest j = true → ∀ q f i g, rest[q]? = some f → (done ++ rest)[i]? = some g → i < j + q → conf g f = true → Nat.testBit (ms.getD (j + q) 0) i = true
  | [], done, j, _, _, q, f, i, g, h, _, _, _ => by simp at h
  | f0 :: rest, done, j, hl, hc, q, f, i, g, h, hg, hi, hf => by
    simp only [chkRows, Bool.and_eq_true] at hc
    cases q with
    | zero =>
      simp at h; subst h
      simp only [Nat.add_zero] at hi ⊢
      rw [List.getElem?_append_left (by omega)] at hg
      have := chkRow_get hc.1 i g hg hf
      simpa using this
    | succ q =>
      simp at h
      have := chkRows_get (rest := rest) (done := done ++ [f0]) (j := j + 1) (by simp [hl]) hc.2 q f i g h (by simpa using hg) (by omega) hf
      rw [show j + (q + 1) = j + 1 + q by omega]; exact this
theorem chk_anc {os : List Oper} {fs : List Fp} (h : chk os fs = true) {i j : Nat} {f g : Fp} (hj : fs[j]? = some f) (hi : fs[i]? = some g) (hij : i < j) (hc : conf g f = true) : Anc os j i := by
  simp only [chk, Bool.and_eq_true] at h
  have := chkRows_get (done := []) (j := 0) rfl h.2 j f i g hj (by simpa using hi) (by omega) hc
  simp only [Nat.zero_add] at this
  exact masks_anc os os [] [] rfl rfl (fun i j hb => by simp at hb) j i this
theorem edgesBack_get : ∀ {os : List Oper} {k : Nat}, edgesBack os k = true → ∀ i o, os[i]? = some o → ∀ e, e ∈ o.after.toList → Region.binds .any e = true → e.on < k + i
  | [], k, _, i, o, h, _, _, _ => by simp at h
  | o0 :: os, k, hc, i, o, h, e, he, hb => by
    simp only [edgesBack, Bool.and_eq_true] at hc
    cases i with
    | zero =>
      simp at h; subst h
      have := List.all_eq_true.1 hc.1 e he
      rw [hb] at this
      simpa using this
    | succ i =>
      simp at h
      have := edgesBack_get hc.2 i o h e he hb
      omega

end Go.Sym
end

section
/-
  Regions and code on abstract states; nothing of the program stands here.
-/
set_option linter.unusedVariables false
set_option linter.unusedSimpArgs false
namespace Go.Sym
open Go Go.RowKit

theorem part_none : ∀ (l : List (Foot × Upd)) (D : Nat → Bool) (k : Nat) (τ : St), (∀ j, k ≤ j → D j = false) → part l D k τ = τ
  | [], _, _, _, _ => rfl
  | (R, u) :: l, D, k, τ, h => by
    simp only [part, h k (Nat.le_refl _)]
    exact part_none l D (k + 1) τ (fun j hj => h j (by omega))
theorem chain_steps {P : Program} {nt : Nat} {ops : Array Oper} {os : List Oper} {σ σ' : St} {l : List (Foot × Upd)} (h : Chain P nt ops os σ l σ') : ∀ k,
    l.length = os.length ∧ σ' = part l (fun _ => true) k σ ∧ ∀ i o R u, os[i]? = some o → l[i]? = some (R, u) → OStep P nt ops o (part l (fun j => decide (j < k + i)) k σ) R u := by
  induction h with
  | nil σ => intro k; exact ⟨rfl, rfl, fun i o R u h => by simp at h⟩
  | @cons o os σ σ' R u l h hk ih =>
    intro k
    obtain ⟨h1, h2, h3⟩ := ih (k + 1)
    refine ⟨by simp [h1], by simp only [part, if_true]; exact h2, fun i o' R' u' ho hl => ?_⟩
    cases i with
    | zero =>
      simp at ho hl
      obtain ⟨rfl, rfl⟩ := hl
      subst ho
      rw [part_none _ _ _ _ (fun j hj => by simp; omega)]
      exact h
    | succ i =>
      simp at ho hl
      have := h3 i o' R' u' ho hl
      simp only [part]
      rw [if_pos (by simp)]
      rw [show k + (i + 1) = k + 1 + i by omega]
      exact this
theorem part_congr {l : List (Foot × Upd)} {D D' : Nat → Bool} {σ : St} (h : ∀ j, j < l.length → D j = D' j) : part l D 0 σ = part l D' 0 σ := by
  apply St.ext'
  · intro t
    rw [part_env, part_env]
    exact valE_congr t l D D' 0 _ (fun j R u hj _ => by rw [Nat.zero_add]; exact h j (List.getElem?_eq_some_iff.1 hj).1)
  · intro t
    rw [part_row, part_row]
    exact valR_congr t l D D' 0 _ (fun j R u hj _ => by rw [Nat.zero_add]; exact h j (List.getElem?_eq_some_iff.1 hj).1)
theorem anc_in {os : List Oper} {D : Nat → Bool} (hcl : ∀ j o, D j = true → os[j]? = some o → ∀ e, e ∈ o.after.toList → Region.binds .any e = true → D e.on = true) {i j : Nat} (h : Anc os i j) :
    (∀ o, os[i]? = some o → ∀ e, e ∈ o.after.toList → Region.binds .any e = true → D e.on = true) → D j = true := by
  induction h with
  | one h he hb => intro hp; exact hp _ h _ he hb
  | @more i j o e h he hb k ih => intro hp; exact ih (fun o' ho' e' he' hb' => hcl e.on o' (hp _ h _ he hb) ho' e' he' hb')
theorem conf_we {f g : Fp} {t : Nat} (h1 : t ∈ f.we) (h2 : t ∈ g.re ∨ t ∈ g.we) : conf f g = true := by
  simp only [conf, Bool.or_eq_true]; left; exact meets_of h1 (by simpa using h2)
theorem conf_re {f g : Fp} {t : Nat} (h1 : t ∈ f.re) (h2 : t ∈ g.we) : conf f g = true := by
  simp only [conf, Bool.or_eq_true]; right; left; exact meets_of h1 h2
theorem conf_wr {f g : Fp} {t : Nat} (h1 : t ∈ f.wr) (h2 : t ∈ g.rr ∨ t ∈ g.wr) : conf f g = true := by
  simp only [conf, Bool.or_eq_true]; right; right; left; exact meets_of h1 (by simpa using h2)
theorem conf_rr {f g : Fp} {t : Nat} (h1 : t ∈ f.rr) (h2 : t ∈ g.wr) : conf f g = true := by
  simp only [conf, Bool.or_eq_true]; right; right; right; exact meets_of h1 h2

theorem countP_lt {p q : Nat → Bool} {a : Nat} : ∀ {l : List Nat}, (∀ x, x ∈ l → p x = true → q x = true) → a ∈ l → p a = false → q a = true → l.countP p < l.countP q
  | x :: l, h, ha, hp, hq => by
    have hle : l.countP p ≤ l.countP q := List.countP_mono_left fun y hy => h y (by simp [hy])
    rcases List.mem_cons.1 ha with rfl | ha
    · rw [List.countP_cons, List.countP_cons, hp, hq]; simp; omega
    · have := countP_lt (l := l) (fun y hy => h y (by simp [hy])) ha hp hq
      have h0 := h x (by simp)
      rw [List.countP_cons, List.countP_cons]
      cases hpx : p x
      · simp; omega
      · rw [h0 hpx]; simp; omega
/-- in whatever order -/
theorem Chain.any {P : Program} {nt : Nat} {ops : Array Oper} {σ σ' : St} {l : List (Foot × Upd)} (h : Chain P nt ops ops.toList σ l σ') (hc : chk ops.toList (l.map fpOf) = true) {F : Fr} (hF : F.nt = nt) {Q : Exit → Act → World → Prop}
    (hQ : ∀ a' w', Sim F σ' a' w' → Q .normal a' w') : ∀ (fuel : Nat) (listed : Array Bool) (a : Act) (w : World), listed.size = ops.size →
      (∀ j o, listed.getD j false = true → ops.toList[j]? = some o → ∀ e, e ∈ o.after.toList → Region.binds .any e = true → listed.getD e.on false = true) →
      (List.range ops.size).countP (fun j => !listed.getD j false) ≤ fuel → Sim F (part l (fun j => listed.getD j false) 0 σ) a w → wpAny P .any ops Q fuel listed a w := by
  obtain ⟨hlen, hσ', hst⟩ := chain_steps h 0
  have hback : edgesBack ops.toList 0 = true := by simp only [chk, Bool.and_eq_true] at hc; exact hc.1
  have hall : ∀ (listed : Array Bool), listed.size = ops.size → Region.ready .any ops listed = [] → ∀ j, j < ops.size → listed.getD j false = true := by
    intro listed hs hr j
    induction j using Nat.strongRecOn with
    | _ j ih =>
      intro hj
      cases hd : listed.getD j false
      · exfalso
        have hm : j ∈ Region.ready .any ops listed := by
          refine mem_ready.2 ⟨?_, ops[j], by simp [hj], fun e he hb => ?_⟩
          · rw [Array.getD_eq_getD_getElem?] at hd ⊢
            rw [Array.getElem?_eq_getElem (by omega)] at hd ⊢
            simpa using hd
          · have := edgesBack_get hback j ops[j] (by simp [hj]) e (by simpa using he) hb
            exact ih e.on (by omega) (by omega)
        rw [hr] at hm
        cases hm
      · rfl
  have hfin : ∀ (listed : Array Bool) a w, listed.size = ops.size → Region.ready .any ops listed = [] → Sim F (part l (fun j => listed.getD j false) 0 σ) a w → Q .normal a w := by
    intro listed a w hs hr hS
    have e : part l (fun j => listed.getD j false) 0 σ = σ' := by
      rw [hσ']
      exact part_congr fun j hj => hall listed hs hr j (by rw [hlen] at hj; simpa using hj)
    rw [e] at hS
    exact hQ a w hS
  intro fuel
  induction fuel with
  | zero =>
    intro listed a w hs hcl hn hS
    have hr : Region.ready .any ops listed = [] := by
      cases hrr : Region.ready .any ops listed with
      | nil => rfl
      | cons i is =>
        exfalso
        have hm : i ∈ Region.ready .any ops listed := by rw [hrr]; simp
        obtain ⟨h1, o, ho, _⟩ := mem_ready.1 hm
        have hi : i < ops.size := (Array.getElem?_eq_some_iff.1 ho).1
        have h0 := List.countP_eq_zero.1 (Nat.le_zero.1 hn) i (List.mem_range.2 hi)
        simp at h0
        rw [Array.getElem?_eq_getElem (by omega)] at h0
        simp at h0
        rw [Array.getD_eq_getD_getElem?, Array.getElem?_eq_getElem (by omega)] at h1
        simp [h0] at h1
    exact ⟨hr, hfin listed a w hs hr hS⟩
  | succ fuel ih =>
    intro listed a w hs hcl hn hS
    refine ⟨fun hr => hfin listed a w hs hr hS, fun i hi => ?_⟩
    obtain ⟨h1, o, ho, hpre⟩ := mem_ready.1 hi
    have hil : i < ops.size := (Array.getElem?_eq_some_iff.1 ho).1
    have ho' : ops.toList[i]? = some o := by simpa using ho
    have hDi : listed.getD i false = false := by
      rw [Array.getD_eq_getD_getElem?, Array.getElem?_eq_getElem (by omega)] at h1 ⊢
      simpa using h1
    obtain ⟨R, u, hl⟩ : ∃ R u, l[i]? = some (R, u) := by
      have : i < l.length := by rw [hlen]; simpa using hil
      exact ⟨l[i].1, l[i].2, by simp [this]⟩
    have hop := hst i o R u ho' hl
    simp only [Nat.zero_add] at hop
    have hpre' : ∀ o, ops.toList[i]? = some o → ∀ e, e ∈ o.after.toList → Region.binds .any e = true → listed.getD e.on false = true := fun o2 ho2 e he hb => by
      rw [ho'] at ho2
      cases ho2
      exact hpre e (by simpa using he) hb
    have hfp : ∀ j R' u', l[j]? = some (R', u') → (l.map fpOf)[j]? = some (fpOf (R', u')) := fun j R' u' hj => by rw [List.getElem?_map, hj]; rfl
    -- those before, that meet it, have come up
    have hbef : ∀ j R' u', l[j]? = some (R', u') → j < i → conf (fpOf (R', u')) (fpOf (R, u)) = true → listed.getD j false = true := fun j R' u' hj hlt hcf =>
      anc_in hcl (chk_anc hc (hfp i R u hl) (hfp j R' u' hj) hlt hcf) hpre'
    -- those behind, that meet it, have not
    have haft : ∀ j R' u', l[j]? = some (R', u') → i < j → conf (fpOf (R, u)) (fpOf (R', u')) = true → listed.getD j false = false := fun j R' u' hj hlt hcf => by
      cases hd : listed.getD j false
      · rfl
      · have := anc_in hcl (chk_anc hc (hfp j R' u' hj) (hfp i R u hl) hlt hcf) (fun o2 ho2 e he hb => hcl j o2 hd ho2 e he hb)
        rw [this] at hDi
        cases hDi
    have hagree : Agree R (part l (fun j => listed.getD j false) 0 σ) (part l (fun j => decide (j < i)) 0 σ) := by
      refine ⟨fun t ht => ?_, fun t ht => ?_⟩
      · rw [part_env, part_env]
        refine valE_congr t l _ _ 0 _ (fun j R' u' hj hd => ?_)
        rw [Nat.zero_add]
        by_cases hlt : j < i
        · rw [decide_eq_true hlt]
          exact hbef j R' u' hj hlt (conf_we (t := t) (by simp [fpOf, hd]) (.inl ht))
        · rw [decide_eq_false hlt]
          by_cases e : j = i
          · rw [e]; exact hDi
          · exact haft j R' u' hj (by omega) (conf_re (t := t) ht (by simp [fpOf, hd]))
      · rw [part_row, part_row]
        refine valR_congr t l _ _ 0 _ (fun j R' u' hj hd => ?_)
        rw [Nat.zero_add]
        by_cases hlt : j < i
        · rw [decide_eq_true hlt]
          exact hbef j R' u' hj hlt (conf_wr (t := t) hd (.inl ht))
        · rw [decide_eq_false hlt]
          by_cases e : j = i
          · rw [e]; exact hDi
          · exact haft j R' u' hj (by omega) (conf_rr (t := t) ht hd)
    have hset : ∀ j, (listed.setIfInBounds i true).getD j false = if j = i then true else listed.getD j false := fun j => by
      rw [Array.getD_eq_getD_getElem?, Array.getElem?_setIfInBounds, Array.getD_eq_getD_getElem?]
      by_cases e : i = j
      · subst e; rw [if_pos rfl, if_pos (by omega), if_pos rfl]; rfl
      · rw [if_neg e, if_neg (Ne.symm e)]
    have hadd : (part l (fun j => listed.getD j false) 0 σ).app u = part l (fun j => (listed.setIfInBounds i true).getD j false) 0 σ := by
      have e : (fun j => (listed.setIfInBounds i true).getD j false) = fun j => if j = 0 + i then true else listed.getD j false := by funext j; rw [hset, Nat.zero_add]
      rw [e]
      apply St.ext'
      · intro t
        rw [app_env, part_env, part_env]
        rw [valE_add t l (fun j => listed.getD j false) 0 i (σ.env t) R u hl (by rw [Nat.zero_add]; exact hDi) (fun j R' u' hj hlt hd ⟨h2, h3⟩ => by
          rw [Nat.zero_add] at hd
          have := haft j R' u' hj hlt (conf_we (t := t) (by simp [fpOf, h3]) (.inr (by simp [fpOf, h2])))
          rw [this] at hd; cases hd)]
      · intro t
        rw [app_row, part_row, part_row]
        rw [valR_add t l (fun j => listed.getD j false) 0 i (σ.row t) R u hl (by rw [Nat.zero_add]; exact hDi) (fun j R' u' hj hlt hd ⟨h2, h3⟩ => by
          rw [Nat.zero_add] at hd
          have := haft j R' u' hj hlt (conf_wr (t := t) h3 (.inr h2))
          rw [this] at hd; cases hd)]
    have hk := hop _ hagree F hF a w hS Q (wpAny P .any ops Q fuel (listed.setIfInBounds i true)) (fun a' w' hS' => by
      refine ih _ a' w' (by simpa using hs) ?_ ?_ (by rw [← hadd]; exact hS')
      · intro j o2 hj ho2 e he hb
        rw [hset] at hj ⊢
        by_cases e1 : e.on = i
        · rw [if_pos e1]
        · rw [if_neg e1]
          by_cases e2 : j = i
          · subst e2; exact hpre' o2 ho2 e he hb
          · rw [if_neg e2] at hj; exact hcl j o2 hj ho2 e he hb
      · have hlt : (List.range ops.size).countP (fun j => !(listed.setIfInBounds i true).getD j false) < (List.range ops.size).countP (fun j => !listed.getD j false) := by
          refine countP_lt (a := i) (fun j hj => ?_) (List.mem_range.2 hil) ?_ ?_
          · rw [hset]
            by_cases e2 : j = i
            · rw [if_pos e2]; simp
            · rw [if_neg e2]; exact id
          · rw [hset, if_pos rfl]; simp
          · rw [hDi]; rfl
        omega)
    unfold wpOp
    rw [ho]
    exact hk

/-! ### the run of a region, and code -/
def Ends (P : Program) (nt : Nat) (c : Code) (σ : St) (e : Exit) (σ' : St) : Prop :=
  ∀ F, F.nt = nt → ∀ a w, Sim F σ a w → c.wp P (fun e1 a1 w1 => e1 = e ∧ Sim F σ' a1 w1) a w
/-- code c, from σ on, comes to an end that meets Φ -/
structure AX (P : Program) (nt : Nat) (c : Code) (σ : St) (Φ : Exit → St → Prop) : Prop where
  out : ∃ e σ', Φ e σ' ∧ Ends P nt c σ e σ'
def Weak (σ σ' : St) : Prop := ∀ F a w, Sim F σ a w → Sim F σ' a w

def pushE (d : Option Nat) (x : AV) (E : List (Nat × AV)) : List (Nat × AV) :=
  match d with
  | some d => (d, x) :: E
  | none => E
/-- the run of a region's operations, in the text's order -/
def Runs (P : Program) (nt : Nat) (ops : Array Oper) : List Oper → List Fp → List (Nat × AV) → List (Nat × Option Row) → (List Fp → List (Nat × AV) → List (Nat × Option Row) → Prop) → Prop
  | [], fs, E, H, K => K fs E H
  | o :: os, fs, E, H, K => ∃ R x rs, OStep P nt ops o (mkSt E H) R ⟨o.dst, x, rs⟩ ∧ Runs P nt ops os (fs ++ [⟨R.e, R.r, o.dst.toList, rs.map (·.1)⟩]) (pushE o.dst x E) (rs ++ H) K
theorem runs_chain {P : Program} {nt : Nat} {ops : Array Oper} : ∀ {os : List Oper} {fs : List Fp} {E : List (Nat × AV)} {H : List (Nat × Option Row)} {K}, Runs P nt ops os fs E H K →
    ∃ l E' H', Chain P nt ops os (mkSt E H) l (mkSt E' H') ∧ K (fs ++ l.map fpOf) E' H'
  | [], fs, E, H, K, h => ⟨[], E, H, .nil _, by simpa [Runs] using h⟩
  | o :: os, fs, E, H, K, h => by
    obtain ⟨R, x, rs, h1, h2⟩ := h
    obtain ⟨l, E', H', h3, h4⟩ := runs_chain h2
    refine ⟨(R, ⟨o.dst, x, rs⟩) :: l, E', H', .cons h1 ?_, by simpa [fpOf] using h4⟩
    have : (mkSt E H).app ⟨o.dst, x, rs⟩ = mkSt (pushE o.dst x E) (rs ++ H) := by
      unfold St.app
      rw [upd_mk]
      cases o.dst <;> rfl
    rw [this]
    exact h3
section
variable {P : Program} {nt : Nat} {ops : Array Oper} {o : Oper} {os : List Oper} {fs : List Fp} {E : List (Nat × AV)} {H : List (Nat × Option Row)} {K : List Fp → List (Nat × AV) → List (Nat × Option Row) → Prop} {R : Foot} {x : AV} {rs : List (Nat × Option Row)}
theorem runs_do (hg : o.guard = none) (h : Does P nt o R x rs (mkSt E H)) (k : Runs P nt ops os (fs ++ [⟨R.e, R.r, o.dst.toList, rs.map (·.1)⟩]) (pushE o.dst x E) (rs ++ H) K) : Runs P nt ops (o :: os) fs E H K :=
  ⟨R, x, rs, ostep_plain hg h, k⟩
theorem runs_yes {g d : Nat} {b : Bool} (hg : o.guard = some (g, b)) (hd : (ops[g]?).bind (·.dst) = some d) (hv : lkE E d = .bool b) (h : Does P nt o R x rs (mkSt E H)) (k : Runs P nt ops os (fs ++ [⟨d :: R.e, R.r, o.dst.toList, rs.map (·.1)⟩]) (pushE o.dst x E) (rs ++ H) K) : Runs P nt ops (o :: os) fs E H K :=
  ⟨_, x, rs, ostep_yes hg hd hv h, k⟩
theorem runs_no {g d : Nat} {b c : Bool} (hg : o.guard = some (g, b)) (hd : (ops[g]?).bind (·.dst) = some d) (hv : lkE E d = .bool c) (hbc : c = !b) (hdo : dstOk nt o.dst = true) (k : Runs P nt ops os (fs ++ [⟨[d], [], o.dst.toList, []⟩]) (pushE o.dst (.v undef) E) H K) : Runs P nt ops (o :: os) fs E H K :=
  ⟨_, .v undef, [], ostep_no hdo hg hd (by rw [← hbc]; exact hv), k⟩
theorem runs_un {g d : Nat} {b : Bool} (hg : o.guard = some (g, b)) (hd : (ops[g]?).bind (·.dst) = some d) (hv : lkE E d = .v undef) (hdo : dstOk nt o.dst = true) (k : Runs P nt ops os (fs ++ [⟨[d], [], o.dst.toList, []⟩]) (pushE o.dst (.v undef) E) H K) : Runs P nt ops (o :: os) fs E H K :=
  ⟨_, .v undef, [], ostep_un hdo hg hd hv, k⟩
end

section
variable {P : Program} {nt : Nat} {Φ : Exit → St → Prop} {σ : St}
theorem ax_text {id : Nat} {os : List Oper} {E : List (Nat × AV)} {H : List (Nat × Option Row)} (h : Runs P nt os.toArray os [] E H (fun _ E' H' => Φ .normal (mkSt E' H'))) : AX P nt (.region id os.toArray false) (mkSt E H) Φ := by
  obtain ⟨l, E', H', h1, h2⟩ := runs_chain h
  exact ⟨.normal, mkSt E' H', h2, fun F hF a w hS => wp_region_list (by simpa using h1.list F hF a w hS _ (fun a' w' hs => ⟨rfl, hs⟩))⟩
theorem ax_any {id : Nat} {os : List Oper} {E : List (Nat × AV)} {H : List (Nat × Option Row)} (hm : P.follows .mixedOrders = true) (h : Runs P nt os.toArray os [] E H (fun fs E' H' => chk os fs = true ∧ Φ .normal (mkSt E' H'))) : AX P nt (.region id os.toArray true) (mkSt E H) Φ := by
  obtain ⟨l, E', H', h1, h2, h3⟩ := runs_chain h
  refine ⟨.normal, mkSt E' H', h3, fun F hF a w hS => wp_region_any hm ?_⟩
  have hS' : Sim F (mkSt E H) a { w with drawn := w.drawn + 1 } := by
    obtain ⟨φ, Z, hS⟩ := hS
    exact ⟨φ, Z, hS.grow' ⟨rfl, rfl, rfl, Nat.le_refl _, fun _ _ => rfl⟩⟩
  refine Chain.any (ops := os.toArray) (by simpa using h1) (by simpa using h2) hF (fun a' w' hs => ⟨rfl, hs⟩) _ _ a _ (by simp) ?_ ?_ ?_
  · intro j o hj
    rw [Array.getD_eq_getD_getElem?, Array.getElem?_replicate] at hj
    split at hj <;> simp at hj
  · exact Nat.le_trans List.countP_le_length (by simp)
  · rw [part_none _ _ _ _ (fun j _ => by rw [Array.getD_eq_getD_getElem?, Array.getElem?_replicate]; split <;> rfl)]
    exact hS'
theorem ax_skip (h : Φ .normal σ) : AX P nt .skip σ Φ := ⟨_, _, h, fun F hF a w hS => wp_skip ⟨rfl, hS⟩⟩
theorem ax_ret (h : Φ .ret σ) : AX P nt .ret σ Φ := ⟨_, _, h, fun F hF a w hS => wp_ret ⟨rfl, hS⟩⟩
theorem ax_exit {id : Nat} (h : Φ (.exit id) σ) : AX P nt (.exit id) σ Φ := ⟨_, _, h, fun F hF a w hS => wp_exit ⟨rfl, hS⟩⟩
def thenD (K : St → Prop) (Φ : Exit → St → Prop) : Exit → St → Prop
  | .normal, σ => K σ
  | e, σ => Φ e σ
structure thenS (K : St → Prop) (Φ : Exit → St → Prop) (e : Exit) (σ : St) : Prop where
  out : thenD K Φ e σ
theorem ax_seq {x y : Code} (h : AX P nt x σ (thenS (fun σ1 => AX P nt y σ1 Φ) Φ)) : AX P nt (.seq x y) σ Φ := by
  obtain ⟨e, σ1, ⟨h1⟩, h2⟩ := h
  cases e with
  | normal =>
    obtain ⟨e2, σ2, h3, h4⟩ := h1
    refine ⟨e2, σ2, h3, fun F hF a w hS => wp_seq (Code.wp_mono (fun e a w hh => ?_) (h2 F hF a w hS))⟩
    obtain ⟨rfl, hs⟩ := hh
    exact h4 F hF a w hs
  | exit id => exact ⟨_, σ1, h1, fun F hF a w hS => wp_seq (Code.wp_mono (fun e a w hh => by obtain ⟨rfl, hs⟩ := hh; exact ⟨rfl, hs⟩) (h2 F hF a w hS))⟩
  | goto id => exact ⟨_, σ1, h1, fun F hF a w hS => wp_seq (Code.wp_mono (fun e a w hh => by obtain ⟨rfl, hs⟩ := hh; exact ⟨rfl, hs⟩) (h2 F hF a w hS))⟩
  | ret => exact ⟨_, σ1, h1, fun F hF a w hS => wp_seq (Code.wp_mono (fun e a w hh => by obtain ⟨rfl, hs⟩ := hh; exact ⟨rfl, hs⟩) (h2 F hF a w hS))⟩
  | panic c => exact ⟨_, σ1, h1, fun F hF a w hS => wp_seq (Code.wp_mono (fun e a w hh => by obtain ⟨rfl, hs⟩ := hh; exact ⟨rfl, hs⟩) (h2 F hF a w hS))⟩
  | outgrown => exact ⟨_, σ1, h1, fun F hF a w hS => wp_seq (Code.wp_mono (fun e a w hh => by obtain ⟨rfl, hs⟩ := hh; exact ⟨rfl, hs⟩) (h2 F hF a w hS))⟩
theorem ax_cond {c : Operand} {x y : Code} {b : Bool} (hc : σ.ev c = .bool b) (h1 : b = true → AX P nt x σ Φ) (h2 : b = false → AX P nt y σ Φ) : AX P nt (.cond c x y) σ Φ := by
  have key : AX P nt (if b then x else y) σ Φ := by cases b <;> simp_all
  obtain ⟨e, σ1, h3, h4⟩ := key
  refine ⟨e, σ1, h3, fun F hF a w hS => ?_⟩
  obtain ⟨φ, Z, hS'⟩ := id hS
  have hv := hS'.ev c
  rw [hc] at hv
  simp only [relV] at hv
  exact wp_cond hv (h4 F hF a w hS)
theorem ax_true {c : Operand} {x y : Code} (hc : σ.ev c = .bool true) (h : AX P nt x σ Φ) : AX P nt (.cond c x y) σ Φ := ax_cond hc (fun _ => h) (fun h => by cases h)
theorem ax_false {c : Operand} {x y : Code} (hc : σ.ev c = .bool false) (h : AX P nt y σ Φ) : AX P nt (.cond c x y) σ Φ := ax_cond hc (fun h => by cases h) (fun _ => h)
def outD (id : Nat) (Φ : Exit → St → Prop) : Exit → St → Prop
  | .exit id', σ => if id' = id then Φ .normal σ else Φ (.exit id') σ
  | e, σ => Φ e σ
structure outOf (id : Nat) (Φ : Exit → St → Prop) (e : Exit) (σ : St) : Prop where
  out : outD id Φ e σ
theorem ax_block {id : Nat} {c : Code} (h : AX P nt c σ (outOf id Φ)) : AX P nt (.block id c) σ Φ := by
  obtain ⟨e, σ1, ⟨h1⟩, h2⟩ := h
  cases e with
  | exit id' =>
    by_cases hi : id' = id
    · simp only [outD, hi, if_true] at h1
      exact ⟨_, σ1, h1, fun F hF a w hS => wp_block (Code.wp_mono (fun e a w hh => by obtain ⟨rfl, hs⟩ := hh; simp only [Exit.inBlock, hi, if_true]; exact ⟨trivial, hs⟩) (h2 F hF a w hS))⟩
    · simp only [outD, hi, if_false] at h1
      exact ⟨_, σ1, h1, fun F hF a w hS => wp_block (Code.wp_mono (fun e a w hh => by obtain ⟨rfl, hs⟩ := hh; simp only [Exit.inBlock, hi, if_false]; exact ⟨trivial, hs⟩) (h2 F hF a w hS))⟩
  | normal => exact ⟨_, σ1, h1, fun F hF a w hS => wp_block (Code.wp_mono (fun e a w hh => by obtain ⟨rfl, hs⟩ := hh; exact ⟨rfl, hs⟩) (h2 F hF a w hS))⟩
  | goto id => exact ⟨_, σ1, h1, fun F hF a w hS => wp_block (Code.wp_mono (fun e a w hh => by obtain ⟨rfl, hs⟩ := hh; exact ⟨rfl, hs⟩) (h2 F hF a w hS))⟩
  | ret => exact ⟨_, σ1, h1, fun F hF a w hS => wp_block (Code.wp_mono (fun e a w hh => by obtain ⟨rfl, hs⟩ := hh; exact ⟨rfl, hs⟩) (h2 F hF a w hS))⟩
  | panic c => exact ⟨_, σ1, h1, fun F hF a w hS => wp_block (Code.wp_mono (fun e a w hh => by obtain ⟨rfl, hs⟩ := hh; exact ⟨rfl, hs⟩) (h2 F hF a w hS))⟩
  | outgrown => exact ⟨_, σ1, h1, fun F hF a w hS => wp_block (Code.wp_mono (fun e a w hh => by obtain ⟨rfl, hs⟩ := hh; exact ⟨rfl, hs⟩) (h2 F hF a w hS))⟩
/-- how a round ends -/
def roundD {ι : Type} (I : ι → St) (Pre : ι → Prop) (μ : ι → Nat) (i : ι) (Φ : Exit → St → Prop) : Exit → St → Prop
  | .normal, σ => ∃ i', Pre i' ∧ μ i' < μ i ∧ Weak σ (I i')
  | e, σ => Φ e σ
structure roundS {ι : Type} (I : ι → St) (Pre : ι → Prop) (μ : ι → Nat) (i : ι) (Φ : Exit → St → Prop) (e : Exit) (σ : St) : Prop where
  out : roundD I Pre μ i Φ e σ
theorem ax_loop {ι : Type} {c : Code} (I : ι → St) (Pre : ι → Prop) (μ : ι → Nat) (i0 : ι) (h0 : Pre i0) (hs : Weak σ (I i0)) (hr : ∀ i, Pre i → AX P nt c (I i) (roundS I Pre μ i Φ)) : AX P nt (.loop c) σ Φ := by
  have key : ∀ m i, μ i = m → Pre i → ∃ n e σ', Φ e σ' ∧ ∀ F, F.nt = nt → ∀ a w, Sim F (I i) a w → Code.rounds P c (fun e1 a1 w1 => e1 = e ∧ Sim F σ' a1 w1) n a w := by
    intro m
    induction m using Nat.strongRecOn with
    | _ m ih =>
      intro i hi hp
      obtain ⟨e, σ1, ⟨h1⟩, h2⟩ := hr i hp
      cases e with
      | normal =>
        obtain ⟨i', h3, h4, h5⟩ := h1
        obtain ⟨n, e2, σ2, h6, h7⟩ := ih (μ i') (by omega) i' rfl h3
        refine ⟨n + 1, e2, σ2, h6, fun F hF a w hS => ?_⟩
        rw [rounds_succ]
        refine Code.wp_mono (fun e a w hh => ?_) (h2 F hF a w hS)
        obtain ⟨rfl, hs⟩ := hh
        exact h7 F hF a w (h5 F a w hs)
      | exit id => exact ⟨1, _, σ1, h1, fun F hF a w hS => by rw [rounds_succ]; exact Code.wp_mono (fun e a w hh => by obtain ⟨rfl, hs⟩ := hh; exact ⟨rfl, hs⟩) (h2 F hF a w hS)⟩
      | goto id => exact ⟨1, _, σ1, h1, fun F hF a w hS => by rw [rounds_succ]; exact Code.wp_mono (fun e a w hh => by obtain ⟨rfl, hs⟩ := hh; exact ⟨rfl, hs⟩) (h2 F hF a w hS)⟩
      | ret => exact ⟨1, _, σ1, h1, fun F hF a w hS => by rw [rounds_succ]; exact Code.wp_mono (fun e a w hh => by obtain ⟨rfl, hs⟩ := hh; exact ⟨rfl, hs⟩) (h2 F hF a w hS)⟩
      | panic ch => exact ⟨1, _, σ1, h1, fun F hF a w hS => by rw [rounds_succ]; exact Code.wp_mono (fun e a w hh => by obtain ⟨rfl, hs⟩ := hh; exact ⟨rfl, hs⟩) (h2 F hF a w hS)⟩
      | outgrown => exact ⟨1, _, σ1, h1, fun F hF a w hS => by rw [rounds_succ]; exact Code.wp_mono (fun e a w hh => by obtain ⟨rfl, hs⟩ := hh; exact ⟨rfl, hs⟩) (h2 F hF a w hS)⟩
  obtain ⟨n, e, σ', h1, h2⟩ := key _ i0 rfl h0
  exact ⟨e, σ', h1, fun F hF a w hS => wp_loop_rounds n (h2 F hF a w (hs F a w hS))⟩
end
end Go.Sym
end

section
/-
  Functions on abstract states: what a call takes and gives; nothing of the program stands here.
-/
set_option linter.unusedVariables false
set_option linter.unusedSimpArgs false
namespace Go.Sym
open Go Go.RowKit

def cx0 (w : World) (Z : Nat → Prop) : Cx := ⟨w, Z, fun _ => none⟩
mutual
/-- a value that a call gives back: its slices own rows of their own, in the blocks bs -/
def relO (w : World) (lo : Nat) (Zr : Nat → Prop) : AV → Value → List Nat → Prop
  | .v x, u, bs => u = x ∧ bs = []
  | .agg xs, u, bs => ∃ vs : List Value, u = .agg vs.toArray ∧ relOL w lo Zr xs vs bs
  | .tup xs, u, bs => ∃ vs : List Value, u = .tuple vs.toArray ∧ relOL w lo Zr xs vs bs
  | .sl ty sz cs, u, bs => bs = u.ownBlock.toList ∧ 0 < sz ∧ pureL cs ∧ ∃ n xs, w.ownsRow lo ty sz u n xs ∧ cs.length = n * sz ∧ relL (cx0 w Zr) cs xs ∧ ∀ u, u ∈ xs → u.oneCell' = true
  | .any, _, _ => False
  | .ip _ _, _, _ => False
  | .own _ _, _, _ => False
  | .sub _ _ _ _, _, _ => False
  | .pre _ _ _, _, _ => False
  | .ptr _ _ _, _, _ => False
  | .both _ _, _, _ => False
  | .tab _ _, _, _ => False
def relOL (w : World) (lo : Nat) (Zr : Nat → Prop) : List AV → List Value → List Nat → Prop
  | [], us, bs => us = [] ∧ bs = []
  | x :: xs, us, bs => ∃ u vs b1 b2, us = u :: vs ∧ bs = b1 ++ b2 ∧ relO w lo Zr x u b1 ∧ relOL w lo Zr xs vs b2
end
mutual
def ado : Nat → AV → AV × List (Nat × Option Row) × Nat
  | n, .sl ty sz cs => (.own n 0, [(n, some ⟨ty, sz, 0, true, false, cs⟩)], n + 1)
  | n, .agg xs => (.agg (adoL n xs).1, (adoL n xs).2.1, (adoL n xs).2.2)
  | n, .tup xs => (.tup (adoL n xs).1, (adoL n xs).2.1, (adoL n xs).2.2)
  | n, .v x => (.v x, [], n)
  | n, .any => (.any, [], n)
  | n, .ip cs k => (.any, [], n)
  | n, .own r k => (.any, [], n)
  | n, .sub r k o m => (.any, [], n)
  | n, .pre r k m => (.any, [], n)
  | n, .ptr r k o => (.any, [], n)
  | n, .both x y => (.any, [], n)
  | n, .tab g cs => (.any, [], n)
def adoL : Nat → List AV → List AV × List (Nat × Option Row) × Nat
  | n, [] => ([], [], n)
  | n, x :: xs => ((ado n x).1 :: (adoL (ado n x).2.2 xs).1, (adoL (ado n x).2.2 xs).2.1 ++ (ado n x).2.1, (adoL (ado n x).2.2 xs).2.2)
end
theorem rowsUpd_append (σ : St) (b a : List (Nat × Option Row)) : σ.rowsUpd (b ++ a) = (σ.rowsUpd a).rowsUpd b := by
  simp only [St.rowsUpd]
  congr 1
  funext t
  induction b with
  | nil => rfl
  | cons y b ih => obtain ⟨d, x⟩ := y; simp only [List.cons_append, overR, ih]
theorem CxLe.trans {a b c : Cx} (h : CxLe a b) (k : CxLe b c) : CxLe a c :=
  ⟨fun q hq => ⟨(k.z q (h.z q hq).1).1, ((k.z q (h.z q hq).1).2).trans (h.z q hq).2⟩, fun r t j e => by
    obtain ⟨u1, j1, e1, e2, e3⟩ := h.t r t j e
    obtain ⟨u2, j2, e4, e5, e6⟩ := k.t r u1 j1 e1
    exact ⟨u2, j2, e4, by omega, fun e' => by rw [e6 (by omega), e3 (by omega)]⟩⟩
theorem CxLe.refl (a : Cx) : CxLe a a := ⟨fun _ h => ⟨h, rfl⟩, fun r t j e => ⟨t, j, e, Nat.le_refl _, fun _ => rfl⟩⟩

structure Adopted (F : Fr) (φ : Nat → Value) (Z : Nat → Prop) (σ : St) (a : Act) (w : World) (n : Nat) (rs : List (Nat × Option Row)) (n' : Nat) (bs : List Nat) (φ' : Nat → Value) : Prop where
  sim : SimAt F φ' Z (σ.rowsUpd rs) a w
  le : CxLe (cxOf φ Z σ w) (cxOf φ' Z (σ.rowsUpd rs) w)
  mono : n ≤ n'
  rows : ∀ s, ((σ.rowsUpd rs).row s).isSome → ((σ.row s).isSome ∧ φ' s = φ s) ∨ (n ≤ s ∧ s < n' ∧ ∀ b, (φ' s).ownBlock = some b → b ∈ bs)
mutual
theorem ado_le : ∀ (x : AV) (n : Nat), n ≤ (ado n x).2.2
  | .sl _ _ _, n => by simp [ado]
  | .agg xs, n => by simp only [ado]; exact adoL_le xs n
  | .tup xs, n => by simp only [ado]; exact adoL_le xs n
  | .v _, n => by simp [ado]
  | .any, n => by simp [ado]
  | .ip _ _, n => by simp [ado]
  | .own _ _, n => by simp [ado]
  | .sub _ _ _ _, n => by simp [ado]
  | .pre _ _ _, n => by simp [ado]
  | .ptr _ _ _, n => by simp [ado]
  | .both _ _, n => by simp [ado]
  | .tab _ _, n => by simp [ado]
theorem adoL_le : ∀ (xs : List AV) (n : Nat), n ≤ (adoL n xs).2.2
  | [], n => by simp [adoL]
  | x :: xs, n => by simp only [adoL]; exact Nat.le_trans (ado_le x n) (adoL_le xs _)
end
def Apart (F : Fr) (φ : Nat → Value) (Z : Nat → Prop) (σ : St) (bs : List Nat) : Prop := ∀ b, b ∈ bs → F.w0.heap.size ≤ b ∧ ¬ Z b ∧ ∀ s, (σ.row s).isSome → (φ s).ownBlock ≠ some b
mutual
theorem ado_sim {F : Fr} {lo : Nat} {Zr Z : Nat → Prop} (hZ : ∀ b, Zr b → Z b) : ∀ (x : AV) (n : Nat) (φ : Nat → Value) (σ : St) (a : Act) (w : World) (v : Value) (bs : List Nat), SimAt F φ Z σ a w → relO w lo Zr x v bs → 0 < n → (∀ m, n ≤ m → m < (ado n x).2.2 → σ.row m = none) → bs.Nodup → Apart F φ Z σ bs →
    ∃ φ', Adopted F φ Z σ a w n (ado n x).2.1 (ado n x).2.2 bs φ' ∧ relV (cxOf φ' Z (σ.rowsUpd (ado n x).2.1) w) (ado n x).1 v
  | .v x, n, φ, σ, a, w, v, bs, hS, hx, h0, hf, hn, ha => by
    simp only [relO] at hx
    refine ⟨φ, ⟨hS, CxLe.refl _, Nat.le_refl _, fun s hs => .inl ⟨hs, rfl⟩⟩, by simp only [ado, relV]; exact hx.1⟩
  | .sl ty sz cs, n, φ, σ, a, w, v, bs, hS, hx, h0, hf, hn, ha => by
    simp only [relO] at hx
    obtain ⟨hbs, hsz, hp, m, xs, h1, h2, h3, h4⟩ := hx
    have hr : σ.row n = none := hf n (Nat.le_refl _) (by simp [ado])
    have hmem : ∀ g, v.ownBlock = some g → g ∈ bs := fun g hg => by rw [hbs, hg]; simp
    have hrow : RowRel F (cxOf φ Z σ w) v ⟨ty, sz, 0, true, false, cs⟩ := by
      refine ⟨hsz, fun _ => hp, fun h => by simp at h, fun g hg => .inl (ha g (hmem g hg)).1, m, xs, ?_, h2, relL_pure (cx := cx0 w Zr) (cx' := cxOf φ Z σ w) ⟨fun b hb => ⟨hZ b hb, rfl⟩⟩ cs xs hp h3, h4⟩
      refine ⟨h1.1, ?_⟩
      rcases h1.2 with h | ⟨g, cap, cur, e1, e2, e3⟩
      · exact .inl h
      · exact .inr ⟨g, cap, cur, e1, Nat.zero_le _, e3⟩
    obtain ⟨h5, h6⟩ := hS.adopt hr (by omega) hrow (fun g hg => ⟨(ha g (hmem g hg)).2.1, (ha g (hmem g hg)).2.2⟩)
    rw [set_eq_upd] at h5 h6
    refine ⟨_, ⟨h5, h6, by simp [ado], fun s hs => ?_⟩, ?_⟩
    · by_cases e : s = n
      · subst e
        right
        refine ⟨Nat.le_refl _, by simp [ado], fun b hb => ?_⟩
        simp at hb
        exact hmem b hb
      · left
        have : ((σ.set n (some ⟨ty, sz, 0, true, false, cs⟩)).row s).isSome := by rw [set_eq_upd]; exact hs
        simp only [St.set, if_neg e] at this
        exact ⟨this, by simp [e]⟩
    · simp only [ado, relV, cxOf, St.rowsUpd, overR]
      simp
      exact ⟨_, _, ⟨rfl, rfl⟩, fun _ => rfl⟩
  | .agg xs, n, φ, σ, a, w, v, bs, hS, hx, h0, hf, hn, ha => by
    simp only [relO] at hx
    obtain ⟨vs, rfl, hx⟩ := hx
    simp only [ado] at hf ⊢
    obtain ⟨φ', h1, h2⟩ := adoL_sim hZ xs n φ σ a w vs bs hS hx h0 hf hn ha
    exact ⟨φ', h1, by simp only [relV]; exact ⟨vs, rfl, h2⟩⟩
  | .tup xs, n, φ, σ, a, w, v, bs, hS, hx, h0, hf, hn, ha => by
    simp only [relO] at hx
    obtain ⟨vs, rfl, hx⟩ := hx
    simp only [ado] at hf ⊢
    obtain ⟨φ', h1, h2⟩ := adoL_sim hZ xs n φ σ a w vs bs hS hx h0 hf hn ha
    exact ⟨φ', h1, by simp only [relV]; exact ⟨vs, rfl, h2⟩⟩
  | .any, n, φ, σ, a, w, v, bs, hS, hx, h0, hf, hn, ha => by simp [relO] at hx
  | .ip _ _, n, φ, σ, a, w, v, bs, hS, hx, h0, hf, hn, ha => by simp [relO] at hx
  | .own _ _, n, φ, σ, a, w, v, bs, hS, hx, h0, hf, hn, ha => by simp [relO] at hx
  | .sub _ _ _ _, n, φ, σ, a, w, v, bs, hS, hx, h0, hf, hn, ha => by simp [relO] at hx
  | .pre _ _ _, n, φ, σ, a, w, v, bs, hS, hx, h0, hf, hn, ha => by simp [relO] at hx
  | .ptr _ _ _, n, φ, σ, a, w, v, bs, hS, hx, h0, hf, hn, ha => by simp [relO] at hx
  | .both _ _, n, φ, σ, a, w, v, bs, hS, hx, h0, hf, hn, ha => by simp [relO] at hx
  | .tab _ _, n, φ, σ, a, w, v, bs, hS, hx, h0, hf, hn, ha => by simp [relO] at hx
theorem adoL_sim {F : Fr} {lo : Nat} {Zr Z : Nat → Prop} (hZ : ∀ b, Zr b → Z b) : ∀ (xs : List AV) (n : Nat) (φ : Nat → Value) (σ : St) (a : Act) (w : World) (vs : List Value) (bs : List Nat), SimAt F φ Z σ a w → relOL w lo Zr xs vs bs → 0 < n → (∀ m, n ≤ m → m < (adoL n xs).2.2 → σ.row m = none) → bs.Nodup → Apart F φ Z σ bs →
    ∃ φ', Adopted F φ Z σ a w n (adoL n xs).2.1 (adoL n xs).2.2 bs φ' ∧ relL (cxOf φ' Z (σ.rowsUpd (adoL n xs).2.1) w) (adoL n xs).1 vs
  | [], n, φ, σ, a, w, vs, bs, hS, hx, h0, hf, hn, ha => by
    simp only [relOL] at hx
    exact ⟨φ, ⟨hS, CxLe.refl _, Nat.le_refl _, fun s hs => .inl ⟨hs, rfl⟩⟩, by simp only [adoL, relL]; exact hx.1⟩
  | x :: xs, n, φ, σ, a, w, vs, bs, hS, hx, h0, hf, hn, ha => by
    simp only [relOL] at hx
    obtain ⟨u, us, b1, b2, rfl, rfl, h1, h2⟩ := hx
    simp only [adoL] at hf ⊢
    obtain ⟨hn1, hn2, hn3⟩ := List.nodup_append.1 hn
    have hle := ado_le x n
    have hle2 := adoL_le xs (ado n x).2.2
    obtain ⟨φ1, k1, k2⟩ := ado_sim hZ x n φ σ a w u b1 hS h1 h0 (fun m a b => hf m a (by omega)) hn1 (fun b hb => ha b (by simp [hb]))
    have ha2 : Apart F φ1 Z (σ.rowsUpd (ado n x).2.1) b2 := fun b hb => by
      obtain ⟨e1, e2, e3⟩ := ha b (by simp [hb])
      refine ⟨e1, e2, fun s hs hg => ?_⟩
      rcases k1.rows s hs with ⟨e4, e5⟩ | ⟨e4, e5, e6⟩
      · rw [e5] at hg; exact e3 s e4 hg
      · exact hn3 b (e6 b hg) b hb rfl
    have hf2 : ∀ m, (ado n x).2.2 ≤ m → m < (adoL (ado n x).2.2 xs).2.2 → (σ.rowsUpd (ado n x).2.1).row m = none := fun m e1 e2 => by
      cases hm : (σ.rowsUpd (ado n x).2.1).row m with
      | none => rfl
      | some row =>
        exfalso
        rcases k1.rows m (by simp [hm]) with ⟨e4, _⟩ | ⟨_, e5, _⟩
        · rw [hf m (by omega) e2] at e4; cases e4
        · omega
    obtain ⟨φ2, k3, k4⟩ := adoL_sim hZ xs (ado n x).2.2 φ1 (σ.rowsUpd (ado n x).2.1) a w us b2 k1.sim h2 (by omega) hf2 hn2 ha2
    refine ⟨φ2, ⟨by rw [rowsUpd_append]; exact k3.sim, by rw [rowsUpd_append]; exact k1.le.trans k3.le, by omega, fun s hs => ?_⟩, ?_⟩
    · rw [rowsUpd_append] at hs
      rcases k3.rows s hs with ⟨e4, e5⟩ | ⟨e4, e5, e6⟩
      · rcases k1.rows s e4 with ⟨e7, e8⟩ | ⟨e7, e8, e9⟩
        · exact .inl ⟨e7, e5.trans e8⟩
        · exact .inr ⟨e7, by omega, fun b hb => by rw [e5] at hb; simp [e9 b hb]⟩
      · exact .inr ⟨by omega, e5, fun b hb => by simp [e6 b hb]⟩
    · rw [rowsUpd_append]
      simp only [relL]
      exact ⟨u, us, rfl, relV_mono k3.le _ _ k2, k4⟩
end

structure FnPost (w w' : World) (res : AV) (v : Value) (bs : List Nat) : Prop where
  below : Below w.heap.size w w'
  nodup : bs.Nodup
  ge : ∀ b, b ∈ bs → w.heap.size ≤ b
  rel : relO w' w.heap.size (fun b => w.heap.size ≤ b ∧ b < w'.heap.size ∧ b ∉ bs) res v bs
def Enters (P : Program) (f : Nat) : Prop := ∃ fn, P.funcs[f]? = some fn ∧ (fn.name == "runtime.NumGoroutine") = false ∧ fn.body.isNone = false
/-- f, of these arguments, gives this, and leaves what was there -/
def FnS (P : Program) (f : Nat) (args : List AV) (res : AV) : Prop :=
  Enters P f ∧ ∀ w vs, pureL args → relL (cx0 w (fun b => b < w.heap.size)) args vs → Calls P f vs.toArray w fun e w' => ∃ v bs, e = .returned v ∧ FnPost w w' res v bs
theorem run_callFunc {P : Program} {f : Nat} (h : Enters P f) (args : Array Value) (w : World) : (callFunc f args).run P w = .ok (.enter f args) w := by
  obtain ⟨fn, h1, h2, h3⟩ := h
  have h2' : ¬ (fn.name = "runtime.NumGoroutine") := by simpa using h2
  have h3' : ¬ (fn.body = none) := fun e => by rw [e] at h3; simp at h3
  simp [callFunc, h1, h2', h3']

/-! arguments -/
inductive Frz1 (σ : St) : AV → AV → List Nat → Prop
  | v (c : Value) : Frz1 σ (.v c) (.v c) []
  | nil {ty sz : Nat} (h : 0 < sz) : Frz1 σ (.v (.slice none 0 0)) (.sl ty sz []) []
  | sl {ty ty' sz : Nat} {cs cs' : List AV} (h : cs' = cs) : Frz1 σ (.sl ty sz cs) (.sl ty' sz cs') []
  | both {x : Value} {ty sz : Nat} {cs : List AV} : Frz1 σ (.both x (.sl ty sz cs)) (.both x (.sl ty sz cs)) []
  | own {r k ty sz : Nat} {row : Row} {cs : List AV} (hr : σ.row r = some row) (hv : row.ver = k) (hp : row.pure = true) (hs : sz = row.sz) (hc : cs = row.cs) : Frz1 σ (.own r k) (.sl ty sz cs) [r]
  | pre {r k n ty sz : Nat} {row : Row} {cs : List AV} (hr : σ.row r = some row) (hv : row.ver = k) (hp : row.pure = true) (hs : sz = row.sz) (hc : cs = row.cs.take (n * row.sz)) : Frz1 σ (.pre r k n) (.sl ty sz cs) [r]
inductive FrzL1 (σ : St) : List AV → List AV → List Nat → Prop
  | nil : FrzL1 σ [] [] []
  | cons {x y : AV} {xs ys : List AV} {u us : List Nat} (h : Frz1 σ x y u) (k : FrzL1 σ xs ys us) : FrzL1 σ (x :: xs) (y :: ys) (u ++ us)
inductive Frz (σ : St) : AV → AV → List Nat → Prop
  | one {x y : AV} {u : List Nat} (h : Frz1 σ x y u) : Frz σ x y u
  | agg {xs ys : List AV} {u : List Nat} (h : FrzL1 σ xs ys u) : Frz σ (.agg xs) (.agg ys) u
inductive FrzA (σ : St) : List Operand → List AV → List Nat → List Nat → Prop
  | nil : FrzA σ [] [] [] []
  | cons {x : Operand} {y : AV} {xs : List Operand} {ys : List AV} {u us es : List Nat} (h : Frz σ (σ.ev x) y u) (k : FrzA σ xs ys us es) : FrzA σ (x :: xs) (y :: ys) (u ++ us) (fo x ++ es)
theorem frz1_rel {F : Fr} {φ : Nat → Value} {Z : Nat → Prop} {σ τ : St} {a : Act} {w : World} (hS : SimAt F φ Z τ a w) {Z1 : Nat → Prop} {x y : AV} {u : List Nat} (h : Frz1 σ x y u) (hu : ∀ r, r ∈ u → τ.row r = σ.row r) (hz1 : ∀ b, Z b → Z1 b) (hr1 : ∀ r, r ∈ u → ∀ row, τ.row r = some row → ∀ g, (φ r).ownBlock = some g → g < w.heap.size → Z1 g) {v : Value} (hx : relV (cxOf φ Z τ w) x v) :
    relV (cx0 w Z1) y v ∧ pureV y := by
  have hz : CxZ (cxOf φ Z τ w) (cx0 w Z1) := ⟨fun b hb => ⟨hz1 b hb, rfl⟩⟩
  cases h with
  | v c => exact ⟨by simpa [relV] using hx, by simp [pureV]⟩
  | nil h =>
    simp only [relV] at hx ⊢
    subst hx
    exact ⟨⟨by simp [pureL], none, 0, 0, rfl, Nat.le_refl _, by simp, h, by simp, .inl (by first | trivial | rfl)⟩, by simp [pureV, pureL]⟩
  | @sl ty ty' sz cs cs' h =>
    subst h
    have hp : pureV (.sl ty sz cs') := by simp only [relV] at hx; simpa [pureV] using hx.1
    have := relV_pure hz _ _ hp hx
    exact ⟨by simpa only [relV] using this, by simpa [pureV] using hp⟩
  | @both x ty sz cs =>
    have hp : pureV (.both x (.sl ty sz cs)) := by simp only [relV] at hx; simpa [pureV] using hx.2.1
    exact ⟨relV_pure hz _ _ hp hx, hp⟩
  | @own r k ty sz row cs hr hv hp hs hc =>
    subst hs hc
    have hr' : τ.row r = some row := by rw [hu r (by simp)]; exact hr
    have e1 := own_open hS hr' hv hx
    obtain ⟨n, xs, hm⟩ := rowMem hS hr'
    have hrr := hS.rows r row hr'
    have hpl := hrr.pur hp
    refine ⟨?_, by simpa [pureV] using hpl⟩
    simp only [relV]
    refine ⟨hpl, ?_⟩
    rcases hm.own.2 with ⟨h1, h2⟩ | ⟨g, cap, cur, h1, _, hg, h2, h3, h4, h5⟩
    · have hc0 : row.cs = [] := List.eq_nil_of_length_eq_zero (by rw [hm.len, h2]; simp)
      exact ⟨none, 0, 0, by rw [e1, h1], Nat.le_refl _, by simp, hrr.sz, by rw [hc0]; simp, .inl hc0⟩
    · refine ⟨some ⟨g, 0, none⟩, n, cap, by rw [e1, h1], h2, h3, hrr.sz, hm.len, .inr ⟨g, 0, rfl, hr1 r (by simp) row hr' g (by rw [h1]; rfl) (Array.getElem?_eq_some_iff.1 hg).1, relC_of fun i x hx => ?_⟩⟩
      obtain ⟨v, hv1, hv2⟩ := relL_get (relL_pure hz _ _ hpl hm.rel) i x hx
      refine ⟨v, ?_, hm.one v (List.mem_of_getElem? hv1), hv2⟩
      have := hm.own.cells (g := g) (by rw [h1]; rfl) i v hv1
      rw [Addr.add_lit] at this
      exact this
  | @pre r k n ty sz row cs hr hv hp hs hc =>
    subst hs hc
    have hr' : τ.row r = some row := by rw [hu r (by simp)]; exact hr
    obtain ⟨m, xs, hm⟩ := rowMem hS hr'
    have hrr := hS.rows r row hr'
    have hpl := hrr.pur hp
    have hpl' : pureL (row.cs.take (n * row.sz)) := pureL_of fun x hx => pureL_mem hpl x (List.mem_of_mem_take hx)
    refine ⟨?_, by simpa [pureV] using hpl'⟩
    simp only [relV]
    refine ⟨hpl', ?_⟩
    rcases pre_open hS hr' hv hx with ⟨h1, h2, h3⟩ | ⟨g, m', c, h1, h2, h3⟩
    · subst h3
      exact ⟨none, 0, 0, by rw [h2, h1], Nat.le_refl _, by simp, hrr.sz, by simp, .inl (by simp)⟩
    · rcases hm.own.2 with ⟨h4, h5⟩ | ⟨g', cap, cur, h4, _, hg, h5, h6, h7, h8⟩
      · rw [h4] at h1; cases h1
      · rw [h4] at h1
        obtain ⟨rfl, rfl, rfl⟩ : g' = g ∧ m = m' ∧ cap = c := by simpa using h1
        have hml := hm.len
        have hle : n * row.sz ≤ m * row.sz := Nat.mul_le_mul_right _ h3
        refine ⟨some ⟨g', 0, none⟩, n, cap, h2, by omega, h6, hrr.sz, by rw [List.length_take]; omega, .inr ⟨g', 0, rfl, hr1 r (by simp) row hr' g' (by rw [h4]; rfl) (Array.getElem?_eq_some_iff.1 hg).1, relC_of fun i x hx => ?_⟩⟩
        rw [List.getElem?_take] at hx
        split at hx
        · obtain ⟨v, hv1, hv2⟩ := relL_get (relL_pure hz _ _ hpl hm.rel) i x hx
          refine ⟨v, ?_, hm.one v (List.mem_of_getElem? hv1), hv2⟩
          have := hm.own.cells (g := g') (by rw [h4]; rfl) i v hv1
          rw [Addr.add_lit] at this
          exact this
        · cases hx
theorem frzL1_rel {F : Fr} {φ : Nat → Value} {Z : Nat → Prop} {σ τ : St} {a : Act} {w : World} (hS : SimAt F φ Z τ a w) {Z1 : Nat → Prop} (hz1 : ∀ b, Z b → Z1 b) {xs ys : List AV} {u : List Nat} (h : FrzL1 σ xs ys u) : (∀ r, r ∈ u → τ.row r = σ.row r) → (∀ r, r ∈ u → ∀ row, τ.row r = some row → ∀ g, (φ r).ownBlock = some g → g < w.heap.size → Z1 g) → ∀ {vs : List Value}, relL (cxOf φ Z τ w) xs vs →
    relL (cx0 w Z1) ys vs ∧ pureL ys := by
  induction h with
  | nil => intro _ _ vs hx; simpa [relL, pureL] using hx
  | cons h k ih =>
    intro hu hr1 vs hx
    simp only [relL] at hx
    obtain ⟨v, vs, rfl, h1, h2⟩ := hx
    obtain ⟨h3, h4⟩ := frz1_rel hS h (fun r hr => hu r (by simp [hr])) hz1 (fun r hr => hr1 r (by simp [hr])) h1
    obtain ⟨h5, h6⟩ := ih (fun r hr => hu r (by simp [hr])) (fun r hr => hr1 r (by simp [hr])) h2
    simp only [relL, pureL]
    exact ⟨⟨v, vs, rfl, h3, h5⟩, h4, h6⟩
theorem frz_rel {F : Fr} {φ : Nat → Value} {Z : Nat → Prop} {σ τ : St} {a : Act} {w : World} (hS : SimAt F φ Z τ a w) {Z1 : Nat → Prop} {x y : AV} {u : List Nat} (h : Frz σ x y u) (hu : ∀ r, r ∈ u → τ.row r = σ.row r) (hz1 : ∀ b, Z b → Z1 b) (hr1 : ∀ r, r ∈ u → ∀ row, τ.row r = some row → ∀ g, (φ r).ownBlock = some g → g < w.heap.size → Z1 g) {v : Value} (hx : relV (cxOf φ Z τ w) x v) :
    relV (cx0 w Z1) y v ∧ pureV y := by
  cases h with
  | one h => exact frz1_rel hS h hu hz1 hr1 hx
  | agg h =>
    simp only [relV] at hx ⊢
    obtain ⟨vs, rfl, hx⟩ := hx
    obtain ⟨h1, h2⟩ := frzL1_rel hS hz1 h hu hr1 hx
    exact ⟨⟨vs, rfl, h1⟩, by simpa [pureV] using h2⟩
theorem frzA_rel {F : Fr} {φ : Nat → Value} {Z : Nat → Prop} {σ τ : St} {a : Act} {w : World} (hS : SimAt F φ Z τ a w) {Z1 : Nat → Prop} (hz1 : ∀ b, Z b → Z1 b) {xs : List Operand} {ys : List AV} {u es : List Nat} (h : FrzA σ xs ys u es) : (∀ r, r ∈ u → τ.row r = σ.row r) → (∀ r, r ∈ u → ∀ row, τ.row r = some row → ∀ g, (φ r).ownBlock = some g → g < w.heap.size → Z1 g) → (∀ t, t ∈ es → τ.env t = σ.env t) →
    relL (cx0 w Z1) ys (xs.map a.eval) ∧ pureL ys := by
  induction h with
  | nil => intro _ _ _; simp [relL, pureL]
  | @cons x y xs ys u us es h k ih =>
    intro hu hr1 he
    have hev : τ.ev x = σ.ev x := by
      cases x with
      | tmp t => exact he t (by simp [fo])
      | _ => rfl
    have h1 := hS.ev x
    rw [hev] at h1
    obtain ⟨h3, h4⟩ := frz_rel hS h (fun r hr => hu r (by simp [hr])) hz1 (fun r hr => hr1 r (by simp [hr])) h1
    obtain ⟨h5, h6⟩ := ih (fun r hr => hu r (by simp [hr])) (fun r hr => hr1 r (by simp [hr])) (fun t ht => he t (by simp [ht]))
    simp only [List.map_cons, relL, pureL]
    exact ⟨⟨_, _, rfl, h3, h5⟩, h4, h6⟩

/-! the call -/
theorem does_call {P : Program} {nt : Nat} {σ : St} {dst : Option Nat} {ty : Nat} {pos : String} {aft : Array Edge} {gd : Option (Nat × Bool)} {f : Nat} {args : List Operand} {at' : Array TypeId} {ts : List AV} {res : AV} {u es : List Nat} (n : Nat) (hd : dstOk nt dst = true)
    (hfn : FnS P f ts res) (hfz : FrzA σ args ts u es) (h0 : 0 < n) {ids : List Nat} (hids : ∀ m, n ≤ m → m < (ado n res).2.2 → m ∈ ids) (hfr : ∀ m, m ∈ ids → σ.row m = none) :
    Does P nt ⟨dst, .call ⟨.value (.func f), args.toArray, at'⟩, ty, pos, aft, gd⟩ ⟨es, u ++ ids⟩ (ado n res).1 (ado n res).2.1 σ := by
  refine ⟨?_⟩
  intro τ hag F hF a w hS Q K hK
  obtain ⟨φ, Z, hS⟩ := hS
  obtain ⟨h1, h2⟩ := frzA_rel (Z1 := fun b => b < w.heap.size) hS hS.zlt hfz (fun r hr => hag.2 r (by simp [hr])) (fun _ _ _ _ _ _ h => h) (fun t ht => hag.1 t ht)
  have hc := hfn.2 w (args.map a.eval) h2 h1
  unfold Oper.wp
  have hrun : (execOp a.eval ⟨dst, .call ⟨.value (.func f), args.toArray, at'⟩, ty, pos, aft, gd⟩).run P w = .ok (.enter f (args.map a.eval).toArray) w := by
    simp [execOp, resolve, Act.eval, Deferred.ofValue, invoke, run_callFunc hfn.1]
  rw [hrun, Oper.upon_enter]
  refine hc.mono ?_
  rintro e w' ⟨v, bs, rfl, hp⟩
  show K (a.put dst v) w'
  refine hK v w' ?_
  have hlt : ∀ b, b ∈ bs → b < w'.heap.size → True := fun _ _ _ => trivial
  let Z' : Nat → Prop := fun b => Z b ∨ (w.heap.size ≤ b ∧ b < w'.heap.size ∧ b ∉ bs)
  have hS' : SimAt F φ Z' τ a w' := hS.grow hp.below (fun b h => .inl h) (fun b h => by
    rcases h with h | h
    · exact .inl h
    · exact .inr ⟨h.1, h.2.1⟩)
  obtain ⟨φ', k1, k2⟩ := ado_sim (Z := Z') (fun b h => .inr h) res n φ τ a w' v bs hS' hp.rel h0 (fun m e1 e2 => by
      rw [hag.2 m (by simp [hids m e1 e2])]; exact hfr m (hids m e1 e2)) hp.nodup (fun b hb => by
    have hge := hp.ge b hb
    refine ⟨Nat.le_trans hS.keep.size hge, ?_, fun s hs hg => ?_⟩
    · rintro (h | h)
      · have := hS.zlt b h; omega
      · exact h.2.2 hb
    · obtain ⟨row, hrow⟩ := Option.isSome_iff_exists.1 hs
      have := (hS.rows s row hrow).lt hg
      simp [cxOf] at this; omega)
  refine ⟨φ', Z', ?_⟩
  cases dst with
  | none => exact k1.sim
  | some d =>
    simp [dstOk] at hd
    exact k1.sim.put (by omega) k2

/-! what a function gives back -/
inductive ResV (T : List (Nat × TyI)) (σ : St) : ResultVar → AV → Prop
  | tmp {t : Nat} {x : AV} (h : σ.env t = x) : ResV T σ (.tmp t) x
  | cell {a t r k : Nat} {row : Row} {i : TyI} {x : AV} (ha : σ.env a = .ptr r k 0) (hr : σ.row r = some row) (hv : row.ver = k) (ht : lkT T t = some i) (hg : i.agg = false) (hl : 0 < row.cs.length) (hx : x = rd row.cs 0) : ResV T σ (.cell a t) x
  | agg {a t r k : Nat} {row : Row} {i : TyI} {xs : List AV} (ha : σ.env a = .ptr r k 0) (hr : σ.row r = some row) (hv : row.ver = k) (ht : lkT T t = some i) (hg : i.agg = true) (hl : 0 + i.size ≤ row.cs.length) (hx : xs = rds row.cs 0 i.size) : ResV T σ (.cell a t) (.agg xs)
inductive ResL (T : List (Nat × TyI)) (σ : St) : List ResultVar → List AV → Prop
  | nil : ResL T σ [] []
  | cons {r : ResultVar} {x : AV} {rs : List ResultVar} {xs : List AV} (h : ResV T σ r x) (k : ResL T σ rs xs) : ResL T σ (r :: rs) (x :: xs)
def getRes (tmps : Array Value) : ResultVar → Sem Value
  | .tmp t => pure (tmps.getD t undef)
  | .cell a t => do loadVar t (← asAddr (tmps.getD a undef))
theorem resV_run {P : Program} {T : List (Nat × TyI)} (hT : TabOk P T) {F : Fr} {φ : Nat → Value} {Z : Nat → Prop} {σ : St} {a : Act} {w : World} (hS : SimAt F φ Z σ a w) {r : ResultVar} {x : AV} (h : ResV T σ r x) : ∃ v, (getRes a.tmps r).run P w = .ok v w ∧ relV (cxOf φ Z σ w) x v := by
  cases h with
  | tmp h => exact ⟨_, rfl, by rw [← h]; exact hS.env _⟩
  | @cell a' t r k row i x ha hr hv ht hg hl hx =>
    have h1 := hS.env a'
    rw [ha] at h1
    obtain ⟨g, m, c, e1, e2⟩ := ptr_open hS hr hv h1
    obtain ⟨n, xs, hm⟩ := rowMem hS hr
    obtain ⟨u, hu, hrel⟩ := hm.cell e1 hl
    obtain ⟨inf, d, hk⟩ := hT.known ht
    have hu' : w.cell? ⟨g, 0, none⟩ = some u := hu
    exact ⟨u, by simp only [getRes, e2, asAddr, Sem.run_bind, Sem.run_pure, Result.andThen_ok]; simp [loadVar, hk.run_agg w, hg, hu'], by rw [hx]; exact hrel⟩
  | @agg a' t r k row i xs' ha hr hv ht hg hl hx =>
    have h1 := hS.env a'
    rw [ha] at h1
    obtain ⟨g, m, c, e1, e2⟩ := ptr_open hS hr hv h1
    obtain ⟨n, xs, hm⟩ := rowMem hS hr
    obtain ⟨us, h3, h4, h5⟩ := cells_list (cx := cxOf φ Z σ w) (cs := row.cs) (f := fun j => w.cell? ⟨g, j, none⟩) i.size 0 (fun j a b => hm.cell e1 (by omega))
    have h6 := run_load_many hT ht hg h3 h4
    refine ⟨.agg us.toArray, ?_, by rw [hx]; simp only [relV]; exact ⟨us, rfl, h5⟩⟩
    simp only [Instr.loadAt, Instr.sureAddr, Sem.run_bind, Sem.run_pure, Result.andThen_ok] at h6
    simp only [getRes, e2, asAddr, Sem.run_bind, Sem.run_pure, Result.andThen_ok, h6]
theorem resL_run {P : Program} {T : List (Nat × TyI)} (hT : TabOk P T) {F : Fr} {φ : Nat → Value} {Z : Nat → Prop} {σ : St} {a : Act} {w : World} (hS : SimAt F φ Z σ a w) {rs : List ResultVar} {xs : List AV} (h : ResL T σ rs xs) : ∃ vs, (rs.mapM (getRes a.tmps)).run P w = .ok vs w ∧ relL (cxOf φ Z σ w) xs vs := by
  induction h with
  | nil => exact ⟨[], by simp, by simp [relL]⟩
  | cons h k ih =>
    obtain ⟨v, h1, h2⟩ := resV_run hT hS h
    obtain ⟨vs, h3, h4⟩ := ih
    exact ⟨v :: vs, by simp [List.mapM_cons, h1, h3], by simp only [relL]; exact ⟨v, vs, rfl, h2, h4⟩⟩
def packRes : List Value → Value
  | [v] => v
  | vs => .tuple vs.toArray
theorem results_run {P : Program} {fn : Func} {rs : List ResultVar} (hrs : fn.results = rs.toArray) {tmps : Array Value} {w : World} {vs : List Value} (h : (rs.mapM (getRes tmps)).run P w = .ok vs w) :
    (results fn tmps).run P w = .ok (packRes vs) w := by
  have e : results fn tmps = (do let vs ← fn.results.mapM (getRes tmps); pure (if h : vs.size = 1 then vs[0] else .tuple vs)) := by
    unfold results
    congr 1
  rw [e, hrs, Array.mapM_eq_mapM_toList]
  simp only [Sem.run_bind, Sem.run_map, h, Result.andThen_ok, Sem.run_pure]
  congr 1
  match vs with
  | [] => rfl
  | [v] => rfl
  | u :: v :: vs => simp [packRes]

def scalL (cs : List AV) : Prop := ∀ x, x ∈ cs → ∃ c, x = AV.v c
theorem scal_rel {cx cx' : Cx} : ∀ {cs : List AV} {xs : List Value}, scalL cs → relL cx cs xs → relL cx' cs xs
  | [], xs, _, h => by simpa [relL] using h
  | x :: cs, xs, hs, h => by
    simp only [relL] at h ⊢
    obtain ⟨u, us, rfl, h1, h2⟩ := h
    obtain ⟨c, rfl⟩ := hs x (by simp)
    exact ⟨u, us, rfl, by simpa [relV] using h1, scal_rel (fun y hy => hs y (by simp [hy])) h2⟩
inductive Exp1 (σ : St) : AV → AV → List Nat → Prop
  | v {c c' : Value} (h : c' = c) : Exp1 σ (.v c) (.v c') []
  | nil {ty sz : Nat} {cs : List AV} (h : 0 < sz) (hc : cs = []) : Exp1 σ (.v (.slice none 0 0)) (.sl ty sz cs) []
  | own {r k ty sz : Nat} {row : Row} {cs : List AV} (hr : σ.row r = some row) (hv : row.ver = k) (hp : row.pure = true) (hb : row.box = false) (ht : ty = row.ty) (hs : sz = row.sz) (hc : cs = row.cs) (hsc : scalL cs) : Exp1 σ (.own r k) (.sl ty sz cs) [r]
inductive ExpL1 (σ : St) : List AV → List AV → List Nat → Prop
  | nil : ExpL1 σ [] [] []
  | cons {x y : AV} {xs ys : List AV} {u us : List Nat} (h : Exp1 σ x y u) (k : ExpL1 σ xs ys us) : ExpL1 σ (x :: xs) (y :: ys) (u ++ us)
inductive Exp (σ : St) : AV → AV → List Nat → Prop
  | one {x y : AV} {u : List Nat} (h : Exp1 σ x y u) : Exp σ x y u
  | agg {xs ys : List AV} {u : List Nat} (h : ExpL1 σ xs ys u) : Exp σ (.agg xs) (.agg ys) u
inductive ExpL (σ : St) : List AV → List AV → List Nat → Prop
  | nil : ExpL σ [] [] []
  | cons {x y : AV} {xs ys : List AV} {u us : List Nat} (h : Exp σ x y u) (k : ExpL σ xs ys us) : ExpL σ (x :: xs) (y :: ys) (u ++ us)
inductive ExpR (σ : St) : List AV → AV → List Nat → Prop
  | one {x y : AV} {u : List Nat} (h : Exp σ x y u) : ExpR σ [x] y u
  | two {x x' : AV} {xs ys : List AV} {u : List Nat} (h : ExpL σ (x :: x' :: xs) ys u) : ExpR σ (x :: x' :: xs) (.tup ys) u
  | none : ExpR σ [] (.tup []) []
def blksOf (φ : Nat → Value) (u : List Nat) : List Nat := u.flatMap fun r => (φ r).ownBlock.toList
theorem exp1_rel {F : Fr} {φ : Nat → Value} {Z : Nat → Prop} {σ : St} {a : Act} {w : World} (hS : SimAt F φ Z σ a w) {x y : AV} {u : List Nat} (h : Exp1 σ x y u) {v : Value} (hx : relV (cxOf φ Z σ w) x v) (Zr : Nat → Prop) :
    relO w F.w0.heap.size Zr y v (blksOf φ u) ∧ ∀ r, r ∈ u → ∃ row, σ.row r = some row ∧ row.box = false := by
  cases h with
  | v h => subst h; exact ⟨by simpa [relO, blksOf, relV] using hx, by simp⟩
  | nil h hc =>
    simp only [relV] at hx
    subst hx hc
    refine ⟨?_, by simp⟩
    simp only [relO]
    exact ⟨by simp [blksOf, Value.ownBlock], h, by simp [pureL], 0, [], World.ownsRow_nil w _ _ _, by simp, by simp [relL], by simp⟩
  | @own r k ty sz row cs hr hv hp hb ht hs hc hsc =>
    subst ht hs hc
    have e1 := own_open hS hr hv hx
    obtain ⟨n, xs, hm⟩ := rowMem hS hr
    have hrr := hS.rows r row hr
    refine ⟨?_, fun r' h => by simp at h; subst h; exact ⟨row, hr, hb⟩⟩
    simp only [relO]
    refine ⟨by simp [blksOf, e1], hrr.sz, hrr.pur hp, n, xs, ?_, hm.len, scal_rel hsc hm.rel, hm.one⟩
    rw [e1]
    refine ⟨hm.own.1, ?_⟩
    rcases hm.own.2 with h | ⟨g, cap, cur, h1, _, h2⟩
    · exact .inl h
    · refine .inr ⟨g, cap, cur, h1, ?_, h2⟩
      rcases hrr.blk g (by rw [h1]; rfl) with h | h
      · exact h
      · rw [hb] at h; cases h.1
theorem blksOf_append (φ : Nat → Value) (u v : List Nat) : blksOf φ (u ++ v) = blksOf φ u ++ blksOf φ v := by simp [blksOf]
theorem expL1_rel {F : Fr} {φ : Nat → Value} {Z : Nat → Prop} {σ : St} {a : Act} {w : World} (hS : SimAt F φ Z σ a w) {xs ys : List AV} {u : List Nat} (h : ExpL1 σ xs ys u) (Zr : Nat → Prop) : ∀ {vs : List Value}, relL (cxOf φ Z σ w) xs vs →
    relOL w F.w0.heap.size Zr ys vs (blksOf φ u) ∧ ∀ r, r ∈ u → ∃ row, σ.row r = some row ∧ row.box = false := by
  induction h with
  | nil => intro vs hx; simp only [relL] at hx; subst hx; exact ⟨by simp [relOL, blksOf], by simp⟩
  | cons h k ih =>
    intro vs hx
    simp only [relL] at hx
    obtain ⟨v, vs, rfl, h1, h2⟩ := hx
    obtain ⟨h3, h4⟩ := exp1_rel hS h h1 Zr
    obtain ⟨h5, h6⟩ := ih h2
    refine ⟨?_, fun r hr => by
      rcases List.mem_append.1 hr with hr | hr
      · exact h4 r hr
      · exact h6 r hr⟩
    rw [blksOf_append]
    simp only [relOL]
    exact ⟨v, vs, _, _, rfl, rfl, h3, h5⟩
theorem exp_rel {F : Fr} {φ : Nat → Value} {Z : Nat → Prop} {σ : St} {a : Act} {w : World} (hS : SimAt F φ Z σ a w) {x y : AV} {u : List Nat} (h : Exp σ x y u) {v : Value} (hx : relV (cxOf φ Z σ w) x v) (Zr : Nat → Prop) :
    relO w F.w0.heap.size Zr y v (blksOf φ u) ∧ ∀ r, r ∈ u → ∃ row, σ.row r = some row ∧ row.box = false := by
  cases h with
  | one h => exact exp1_rel hS h hx Zr
  | agg h =>
    simp only [relV] at hx
    obtain ⟨vs, rfl, hx⟩ := hx
    obtain ⟨h1, h2⟩ := expL1_rel hS h Zr hx
    exact ⟨by simp only [relO]; exact ⟨vs, rfl, h1⟩, h2⟩
theorem expL_rel {F : Fr} {φ : Nat → Value} {Z : Nat → Prop} {σ : St} {a : Act} {w : World} (hS : SimAt F φ Z σ a w) {xs ys : List AV} {u : List Nat} (h : ExpL σ xs ys u) (Zr : Nat → Prop) : ∀ {vs : List Value}, relL (cxOf φ Z σ w) xs vs →
    relOL w F.w0.heap.size Zr ys vs (blksOf φ u) ∧ ∀ r, r ∈ u → ∃ row, σ.row r = some row ∧ row.box = false := by
  induction h with
  | nil => intro vs hx; simp only [relL] at hx; subst hx; exact ⟨by simp [relOL, blksOf], by simp⟩
  | cons h k ih =>
    intro vs hx
    simp only [relL] at hx
    obtain ⟨v, vs, rfl, h1, h2⟩ := hx
    obtain ⟨h3, h4⟩ := exp_rel hS h h1 Zr
    obtain ⟨h5, h6⟩ := ih h2
    refine ⟨?_, fun r hr => by
      rcases List.mem_append.1 hr with hr | hr
      · exact h4 r hr
      · exact h6 r hr⟩
    rw [blksOf_append]
    simp only [relOL]
    exact ⟨v, vs, _, _, rfl, rfl, h3, h5⟩
theorem expR_rel {F : Fr} {φ : Nat → Value} {Z : Nat → Prop} {σ : St} {a : Act} {w : World} (hS : SimAt F φ Z σ a w) {xs : List AV} {y : AV} {u : List Nat} (h : ExpR σ xs y u) (Zr : Nat → Prop) {vs : List Value} (hx : relL (cxOf φ Z σ w) xs vs) :
    relO w F.w0.heap.size Zr y (packRes vs) (blksOf φ u) ∧ ∀ r, r ∈ u → ∃ row, σ.row r = some row ∧ row.box = false := by
  cases h with
  | one h =>
    simp only [relL] at hx
    obtain ⟨v, vs, rfl, h1, rfl⟩ := hx
    exact exp_rel hS h h1 Zr
  | two h =>
    obtain ⟨h1, h2⟩ := expL_rel hS h Zr hx
    simp only [relL] at hx
    obtain ⟨v, vs, rfl, _, v', vs', rfl, _, _⟩ := hx
    exact ⟨by simp only [relO]; exact ⟨_, rfl, h1⟩, h2⟩
  | none =>
    simp only [relL] at hx
    subst hx
    exact ⟨by simp only [relO, relOL, blksOf]; exact ⟨[], rfl, rfl, rfl⟩, by simp⟩
theorem blks_nodup {F : Fr} {φ : Nat → Value} {Z : Nat → Prop} {σ : St} {a : Act} {w : World} (hS : SimAt F φ Z σ a w) : ∀ {u : List Nat}, u.Nodup → (∀ r, r ∈ u → ∃ row, σ.row r = some row ∧ row.box = false) → (blksOf φ u).Nodup ∧ ∀ b, b ∈ blksOf φ u → F.w0.heap.size ≤ b
  | [], _, _ => by simp [blksOf]
  | r :: u, hn, hr => by
    obtain ⟨h1, h2⟩ := List.nodup_cons.1 hn
    obtain ⟨h3, h4⟩ := blks_nodup hS h2 (fun r' h => hr r' (by simp [h]))
    obtain ⟨row, e1, e2⟩ := hr r (by simp)
    have e : blksOf φ (r :: u) = (φ r).ownBlock.toList ++ blksOf φ u := by simp [blksOf]
    rw [e]
    cases hb : (φ r).ownBlock with
    | none => simpa using ⟨h3, h4⟩
    | some g =>
      refine ⟨?_, fun b hb' => ?_⟩
      · simp only [Option.toList_some, List.singleton_append, List.nodup_cons]
        refine ⟨fun hm => ?_, h3⟩
        simp only [blksOf, List.mem_flatMap, Option.mem_toList] at hm
        obtain ⟨s, hs1, hs2⟩ := hm
        obtain ⟨row', e3, _⟩ := hr s (by simp [hs1])
        exact hS.disj r s (fun e => h1 (by rw [e]; exact hs1)) (by simp [e1]) (by simp [e3]) g hb hs2
      · rcases List.mem_append.1 hb' with h | h
        · simp at h
          subst h
          rcases (hS.rows r row e1).blk b hb with h | h
          · exact h
          · rw [e2] at h; cases h.1
        · exact h4 b h

def entE : Nat → List AV → List (Nat × AV)
  | _, [] => []
  | k, x :: xs => (k, x) :: entE (k + 1) xs
theorem entE_get : ∀ (xs : List AV) (k t : Nat), lkE (entE k xs) t = if k ≤ t ∧ t < k + xs.length then xs.getD (t - k) .any else .any
  | [], k, t => by simp [entE, lkE]
  | x :: xs, k, t => by
    simp only [entE, lkE]
    by_cases e : k = t
    · subst e; simp
    · have : Nat.beq k t = false := by
        cases hb : Nat.beq k t
        · rfl
        · exact absurd (Nat.eq_of_beq_eq_true hb) e
      rw [this]
      simp only [cond_false]
      rw [entE_get xs (k + 1) t]
      by_cases h : k + 1 ≤ t ∧ t < k + 1 + xs.length
      · rw [if_pos h, if_pos (by simp; omega)]
        rw [show t - k = (t - (k + 1)) + 1 by omega, List.getD_cons_succ]
      · rw [if_neg h, if_neg (by simp; omega)]
/-- at its end: the results are these -/
def ResOk (T : List (Nat × TyI)) (rs : List ResultVar) (res : AV) (e : Exit) (σ : St) : Prop := (e = .ret ∨ e = .normal) ∧ ∃ xs u, ResL T σ rs xs ∧ ExpR σ xs res u ∧ u.Nodup
theorem fn_of_ax {P : Program} {T : List (Nat × TyI)} (hT : TabOk P T) {f nt : Nat} {fn : Func} {c : Code} {rs : List ResultVar} {ts : List AV} {res : AV} (hf : P.funcs[f]? = some fn) (hb : fn.body = some c) (hnm : (fn.name == "runtime.NumGoroutine") = false) (hnt : fn.ntmps = nt) (hrs : fn.results = rs.toArray)
    (hlen : ts.length ≤ nt) (h : AX P nt c (mkSt (entE 0 ts) []) (ResOk T rs res)) : FnS P f ts res := by
  refine ⟨⟨fn, hf, hnm, by rw [hb]; rfl⟩, fun w vs hp hx => ?_⟩
  obtain ⟨e, σ', ⟨he, xs, u, h1, h2, h3⟩, hend⟩ := h
  have hl := relL_length hx
  refine calls_of_wp hf hb ?_
  let F : Fr := ⟨w, fun _ => False, none, nt, fun _ => True⟩
  have hS : Sim F (mkSt (entE 0 ts) []) { tmps := vs.toArray ++ Array.replicate (fn.ntmps - vs.toArray.size) undef, defers := [] } w := by
    refine ⟨fun _ => .slice none 0 0, fun b => b < w.heap.size, rfl, ?_, ?_, ?_, ?_, fun b h => h, ?_, fun b h _ => trivial, ⟨rfl, rfl, rfl, Nat.le_refl _, fun _ _ _ => rfl⟩, ?_⟩
    · simp [F]; omega
    · intro i
      simp only [mkSt]
      rw [entE_get]
      by_cases hi : i < ts.length
      · rw [if_pos (by omega)]
        obtain ⟨v, hv1, hv2⟩ := relL_get hx i (ts[i]) (by simp [hi])
        rw [Array.getD_eq_getD_getElem?, Array.getElem?_append_left (by simp; omega)]
        simp [List.getD, hi, hv1]
        exact relV_pure ⟨fun b hb => ⟨hb, rfl⟩⟩ _ _ (pureL_get hp i _ (by simp [hi])) hv2
      · rw [if_neg (by omega)]; simp [relV]
    · intro r row hr; simp [mkSt, lkR] at hr
    · intro r s _ hr; simp [mkSt, lkR] at hr
    · intro b _ r hr; simp [mkSt, lkR] at hr
    · intro t ht; simp [F] at ht
  refine Code.wp_mono (fun e1 a1 w1 hh => ?_) (hend F rfl _ w hS)
  obtain ⟨rfl, φ, Z, hS1⟩ := hh
  obtain ⟨vs1, h4, h5⟩ := resL_run hT hS1 h1
  have h6 := results_run hrs h4
  obtain ⟨h7, h8⟩ := expR_rel hS1 h2 (fun b => w.heap.size ≤ b ∧ b < w1.heap.size ∧ b ∉ blksOf φ u) h5
  obtain ⟨h9, h10⟩ := blks_nodup hS1 h3 h8
  have hk := hS1.keep
  have hpost : FnPost w w1 res (packRes vs1) (blksOf φ u) :=
    ⟨⟨hk.os, hk.tape, hk.output, hk.size, fun k hk' => hk.block k hk' (fun h => h)⟩, h9, h10, h7⟩
  rcases he with rfl | rfl
  · exact ⟨hS1.dfr, _, h6, _, _, rfl, hpost⟩
  · exact ⟨hS1.dfr, _, h6, _, _, rfl, hpost⟩

end Go.Sym
end
