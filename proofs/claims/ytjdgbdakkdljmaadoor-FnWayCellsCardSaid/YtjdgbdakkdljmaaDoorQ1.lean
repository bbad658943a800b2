/-
  Abstract values, abstract states, and what they say of a frame and a world; nothing of the program stands here.
-/
import Derived.WalkKit
import Derived.Below
import Derived.Orders
import Derived.OwnWalk
import Derived.Deep.Draws
import Derived.Lib.Hide
set_option linter.unusedVariables false
namespace Go.Sym
open Go Go.RowKit

/-- what is known of a value: nothing | it is x | a struct | a tuple | a slice of memory that nobody writes | a pointer into such memory | the slice that owns row r | a part of it | its first n elements | a pointer into row r -/
inductive AV where
  | any
  | v (x : Value)
  | agg (xs : List AV)
  | tup (xs : List AV)
  | sl (ty sz : Nat) (cs : List AV)
  | ip (cs : List AV) (off : Nat)
  | own (r k : Nat)
  | sub (r k off n : Nat)
  | pre (r k n : Nat)
  | ptr (r k off : Nat)
  | both (x : Value) (y : AV)

abbrev AV.int (z : Int) : AV := .v (.int .i64 z)
abbrev AV.bool (b : Bool) : AV := .v (.bool b)
abbrev AV.str (s : ByteArray) : AV := .v (.string s)

structure Cx where
  w : World
  Z : Nat → Prop
  tip : Nat → Option (Value × Nat)

mutual
/-- no row is mentioned -/
def pureV : AV → Prop
  | .any => True
  | .v _ => True
  | .agg xs => pureL xs
  | .tup xs => pureL xs
  | .sl _ _ cs => pureL cs
  | .ip _ _ => False
  | .own _ _ => False
  | .sub _ _ _ _ => False
  | .pre _ _ _ => False
  | .ptr _ _ _ => False
  | .both _ y => pureV y
def pureL : List AV → Prop
  | [] => True
  | x :: xs => pureV x ∧ pureL xs
end

mutual
def relV (cx : Cx) : AV → Value → Prop
  | .any, _ => True
  | .v x, u => u = x
  | .agg xs, u => ∃ vs : List Value, u = .agg vs.toArray ∧ relL cx xs vs
  | .tup xs, u => ∃ vs : List Value, u = .tuple vs.toArray ∧ relL cx xs vs
  | .sl _ sz cs, u => pureL cs ∧ ∃ ao n c, u = .slice ao n c ∧ n ≤ c ∧ c ≤ maxLen ∧ 0 < sz ∧ cs.length = n * sz ∧ (cs = [] ∨ ∃ b off, ao = some ⟨b, off, none⟩ ∧ cx.Z b ∧ relC cx b off cs)
  | .ip cs k, u => pureL cs ∧ ∃ b off, u = .pointer (some ⟨b, off + k, none⟩) ∧ cx.Z b ∧ relC cx b off cs
  | .own r k, u => ∃ t j, cx.tip r = some (t, j) ∧ k ≤ j ∧ (j = k → u = t)
  | .sub r k off n, u => ∃ t j, cx.tip r = some (t, j) ∧ k ≤ j ∧ (j = k → ∃ ao c, u = .slice ao n c ∧ n ≤ c ∧ c ≤ maxLen ∧ (n = 0 ∨ ∃ g m c', t = .slice (some ⟨g, 0, none⟩) m c' ∧ ao = some ⟨g, off, none⟩))
  | .pre r k n, u => ∃ t j, cx.tip r = some (t, j) ∧ k ≤ j ∧ (j = k → (t = .slice none 0 0 ∧ u = t ∧ n = 0) ∨ ∃ g m c, t = .slice (some ⟨g, 0, none⟩) m c ∧ u = .slice (some ⟨g, 0, none⟩) n c ∧ n ≤ m)
  | .ptr r k off, u => ∃ t j, cx.tip r = some (t, j) ∧ k ≤ j ∧ (j = k → ∃ g m c, t = .slice (some ⟨g, 0, none⟩) m c ∧ u = .pointer (some ⟨g, off, none⟩))
  | .both x y, u => u = x ∧ relV cx y u
def relL (cx : Cx) : List AV → List Value → Prop
  | [], vs => vs = []
  | x :: xs, vs => ∃ u us, vs = u :: us ∧ relV cx x u ∧ relL cx xs us
def relC (cx : Cx) (b off : Nat) : List AV → Prop
  | [] => True
  | x :: xs => (∃ u, cx.w.cell? ⟨b, off, none⟩ = some u ∧ u.oneCell' = true ∧ relV cx x u) ∧ relC cx b (off + 1) xs
end

theorem relL_length {cx : Cx} : ∀ {xs : List AV} {vs : List Value}, relL cx xs vs → vs.length = xs.length
  | [], vs, h => by simp [relL] at h; simp [h]
  | x :: xs, vs, h => by
    simp only [relL] at h
    obtain ⟨u, us, rfl, _, h⟩ := h
    simp [relL_length h]
theorem relL_get {cx : Cx} : ∀ {xs : List AV} {vs : List Value}, relL cx xs vs → ∀ (i : Nat) x, xs[i]? = some x → ∃ u, vs[i]? = some u ∧ relV cx x u
  | [], vs, h, i, x, hx => by simp at hx
  | y :: xs, vs, h, i, x, hx => by
    simp only [relL] at h
    obtain ⟨u, us, rfl, h1, h⟩ := h
    cases i with
    | zero => simp at hx; subst hx; exact ⟨u, by simp, h1⟩
    | succ i => simp at hx; simpa using relL_get h i x hx
theorem relL_of {cx : Cx} : ∀ {xs : List AV} {vs : List Value}, vs.length = xs.length → (∀ (i : Nat) x u, xs[i]? = some x → vs[i]? = some u → relV cx x u) → relL cx xs vs
  | [], vs, h, _ => by simp at h; simp [relL, h]
  | x :: xs, [], h, _ => by simp at h
  | x :: xs, u :: us, h, k => by
    simp only [relL]
    exact ⟨u, us, rfl, k 0 x u (by simp) (by simp), relL_of (by simpa using h) (fun i x u hx hu => k (i + 1) x u (by simpa using hx) (by simpa using hu))⟩
theorem relC_get {cx : Cx} {b : Nat} : ∀ {cs : List AV} {off : Nat}, relC cx b off cs → ∀ (i : Nat) x, cs[i]? = some x → ∃ u, cx.w.cell? ⟨b, off + i, none⟩ = some u ∧ u.oneCell' = true ∧ relV cx x u
  | [], off, h, i, x, hx => by simp at hx
  | y :: xs, off, h, i, x, hx => by
    simp only [relC] at h
    cases i with
    | zero => simp at hx; subst hx; simpa using h.1
    | succ i =>
      simp at hx
      obtain ⟨u, h1, h2⟩ := relC_get h.2 i x hx
      exact ⟨u, by rw [← h1]; congr 2; omega, h2⟩
theorem relC_of {cx : Cx} {b : Nat} : ∀ {cs : List AV} {off : Nat}, (∀ (i : Nat) x, cs[i]? = some x → ∃ u, cx.w.cell? ⟨b, off + i, none⟩ = some u ∧ u.oneCell' = true ∧ relV cx x u) → relC cx b off cs
  | [], off, h => by simp [relC]
  | x :: xs, off, h => by
    simp only [relC]
    refine ⟨by simpa using h 0 x (by simp), relC_of fun i x hx => ?_⟩
    obtain ⟨u, h1, h2⟩ := h (i + 1) x (by simpa using hx)
    exact ⟨u, by rw [← h1]; congr 2; omega, h2⟩
theorem pureL_get : ∀ {xs : List AV}, pureL xs → ∀ (i : Nat) x, xs[i]? = some x → pureV x
  | [], _, i, x, hx => by simp at hx
  | y :: xs, h, i, x, hx => by
    simp only [pureL] at h
    cases i with
    | zero => simp at hx; subst hx; exact h.1
    | succ i => simp at hx; exact pureL_get h.2 i x hx
theorem pureL_of : ∀ {xs : List AV}, (∀ x, x ∈ xs → pureV x) → pureL xs
  | [], _ => by simp [pureL]
  | y :: xs, h => by simp only [pureL]; exact ⟨h y (by simp), pureL_of fun x hx => h x (by simp [hx])⟩
theorem pureL_mem : ∀ {xs : List AV}, pureL xs → ∀ x, x ∈ xs → pureV x
  | y :: xs, h, x, hx => by
    simp only [pureL] at h
    rcases List.mem_cons.1 hx with rfl | hx
    · exact h.1
    · exact pureL_mem h.2 x hx

/-- what is known stays known: no memory of the zone has turned, rows keep their slices or have a new version -/
structure CxLe (cx cx' : Cx) : Prop where
  z : ∀ b, cx.Z b → cx'.Z b ∧ cx'.w.heap[b]? = cx.w.heap[b]?
  t : ∀ r t j, cx.tip r = some (t, j) → ∃ t' j', cx'.tip r = some (t', j') ∧ j ≤ j' ∧ (j' = j → t' = t)

mutual
theorem relV_mono {cx cx' : Cx} (h : CxLe cx cx') : ∀ (x : AV) (u : Value), relV cx x u → relV cx' x u
  | .any, u, _ => by simp [relV]
  | .v x, u, hx => by simpa [relV] using hx
  | .agg xs, u, hx => by
    simp only [relV] at hx ⊢
    obtain ⟨vs, rfl, hx⟩ := hx
    exact ⟨vs, rfl, relL_mono h xs vs hx⟩
  | .tup xs, u, hx => by
    simp only [relV] at hx ⊢
    obtain ⟨vs, rfl, hx⟩ := hx
    exact ⟨vs, rfl, relL_mono h xs vs hx⟩
  | .sl ty sz cs, u, hx => by
    simp only [relV] at hx ⊢
    obtain ⟨h0, ao, n, c, rfl, h1, h2, h3, h4, hx⟩ := hx
    refine ⟨h0, ao, n, c, rfl, h1, h2, h3, h4, ?_⟩
    rcases hx with hx | ⟨b, off, rfl, hb, hx⟩
    · exact .inl hx
    · exact .inr ⟨b, off, rfl, (h.z b hb).1, relC_mono h b off cs hb hx⟩
  | .ip cs k, u, hx => by
    simp only [relV] at hx ⊢
    obtain ⟨h0, b, off, rfl, hb, hx⟩ := hx
    exact ⟨h0, b, off, rfl, (h.z b hb).1, relC_mono h b off cs hb hx⟩
  | .own r k, u, hx => by
    simp only [relV] at hx ⊢
    obtain ⟨t, j, h1, h2, h3⟩ := hx
    obtain ⟨t', j', h4, h5, h6⟩ := h.t r t j h1
    exact ⟨t', j', h4, by omega, fun e => by rw [h6 (by omega)]; exact h3 (by omega)⟩
  | .sub r k off n, u, hx => by
    simp only [relV] at hx ⊢
    obtain ⟨t, j, h1, h2, h3⟩ := hx
    obtain ⟨t', j', h4, h5, h6⟩ := h.t r t j h1
    exact ⟨t', j', h4, by omega, fun e => by rw [h6 (by omega)]; exact h3 (by omega)⟩
  | .pre r k n, u, hx => by
    simp only [relV] at hx ⊢
    obtain ⟨t, j, h1, h2, h3⟩ := hx
    obtain ⟨t', j', h4, h5, h6⟩ := h.t r t j h1
    exact ⟨t', j', h4, by omega, fun e => by rw [h6 (by omega)]; exact h3 (by omega)⟩
  | .ptr r k off, u, hx => by
    simp only [relV] at hx ⊢
    obtain ⟨t, j, h1, h2, h3⟩ := hx
    obtain ⟨t', j', h4, h5, h6⟩ := h.t r t j h1
    exact ⟨t', j', h4, by omega, fun e => by rw [h6 (by omega)]; exact h3 (by omega)⟩
  | .both x y, u, hx => by
    simp only [relV] at hx ⊢
    exact ⟨hx.1, relV_mono h y u hx.2⟩
theorem relL_mono {cx cx' : Cx} (h : CxLe cx cx') : ∀ (xs : List AV) (us : List Value), relL cx xs us → relL cx' xs us
  | [], us, hx => by simpa [relL] using hx
  | x :: xs, us, hx => by
    simp only [relL] at hx ⊢
    obtain ⟨u, us, rfl, h1, h2⟩ := hx
    exact ⟨u, us, rfl, relV_mono h x u h1, relL_mono h xs us h2⟩
theorem relC_mono {cx cx' : Cx} (h : CxLe cx cx') (b off : Nat) : ∀ (xs : List AV), cx.Z b → relC cx b off xs → relC cx' b off xs
  | [], _, hx => by simp [relC]
  | x :: xs, hb, hx => by
    simp only [relC] at hx ⊢
    obtain ⟨⟨u, h1, h1', h2⟩, h3⟩ := hx
    exact ⟨⟨u, by rw [← h1]; exact World.cell?_of_block (h.z b hb).2, h1', relV_mono h x u h2⟩, relC_mono h b (off + 1) xs hb h3⟩
end

/-- what mentions no row hangs on the zone's memory alone -/
structure CxZ (cx cx' : Cx) : Prop where
  z : ∀ b, cx.Z b → cx'.Z b ∧ cx'.w.heap[b]? = cx.w.heap[b]?
mutual
theorem relV_pure {cx cx' : Cx} (h : CxZ cx cx') : ∀ (x : AV) (u : Value), pureV x → relV cx x u → relV cx' x u
  | .any, u, _, _ => by simp [relV]
  | .v x, u, _, hx => by simpa [relV] using hx
  | .agg xs, u, hp, hx => by
    simp only [relV, pureV] at hx hp ⊢
    obtain ⟨vs, rfl, hx⟩ := hx
    exact ⟨vs, rfl, relL_pure h xs vs hp hx⟩
  | .tup xs, u, hp, hx => by
    simp only [relV, pureV] at hx hp ⊢
    obtain ⟨vs, rfl, hx⟩ := hx
    exact ⟨vs, rfl, relL_pure h xs vs hp hx⟩
  | .sl ty sz cs, u, hp, hx => by
    simp only [relV, pureV] at hx hp ⊢
    obtain ⟨h0, ao, n, c, rfl, h1, h2, h3, h4, hx⟩ := hx
    refine ⟨h0, ao, n, c, rfl, h1, h2, h3, h4, ?_⟩
    rcases hx with hx | ⟨b, off, rfl, hb, hx⟩
    · exact .inl hx
    · exact .inr ⟨b, off, rfl, (h.z b hb).1, relC_pure h b off cs hp hb hx⟩
  | .ip cs k, u, hp, hx => by simp [pureV] at hp
  | .own r k, u, hp, hx => by simp [pureV] at hp
  | .sub r k off n, u, hp, hx => by simp [pureV] at hp
  | .pre r k n, u, hp, hx => by simp [pureV] at hp
  | .ptr r k off, u, hp, hx => by simp [pureV] at hp
  | .both x y, u, hp, hx => by
    simp only [relV, pureV] at hx hp ⊢
    exact ⟨hx.1, relV_pure h y u hp hx.2⟩
theorem relL_pure {cx cx' : Cx} (h : CxZ cx cx') : ∀ (xs : List AV) (us : List Value), pureL xs → relL cx xs us → relL cx' xs us
  | [], us, _, hx => by simpa [relL] using hx
  | x :: xs, us, hp, hx => by
    simp only [relL, pureL] at hx hp ⊢
    obtain ⟨u, us, rfl, h1, h2⟩ := hx
    exact ⟨u, us, rfl, relV_pure h x u hp.1 h1, relL_pure h xs us hp.2 h2⟩
theorem relC_pure {cx cx' : Cx} (h : CxZ cx cx') (b off : Nat) : ∀ (xs : List AV), pureL xs → cx.Z b → relC cx b off xs → relC cx' b off xs
  | [], _, _, hx => by simp [relC]
  | x :: xs, hp, hb, hx => by
    simp only [relC, pureL] at hx hp ⊢
    obtain ⟨⟨u, h1, h1', h2⟩, h3⟩ := hx
    exact ⟨⟨u, by rw [← h1]; exact World.cell?_of_block (h.z b hb).2, h1', relV_pure h x u hp.1 h2⟩, relC_pure h b (off + 1) xs hp.2 hb h3⟩
end

structure Row where
  ty : Nat
  sz : Nat
  ver : Nat
  pure : Bool
  box : Bool
  cs : List AV

structure St where
  env : Nat → AV
  row : Nat → Option Row

/-- what a call began with: its world, the blocks that it may write, the receiver's row, the number of its slots -/
structure Fr where
  w0 : World
  M : Nat → Prop
  recv : Option Value
  nt : Nat
  B : Nat → Prop

def cxOf (φ : Nat → Value) (Z : Nat → Prop) (σ : St) (w : World) : Cx := ⟨w, Z, fun r => (σ.row r).map fun row => (φ r, row.ver)⟩

structure RowRel (F : Fr) (cx : Cx) (t : Value) (row : Row) : Prop where
  sz : 0 < row.sz
  pur : row.pure = true → pureL row.cs
  box : row.box = true → t.ownBlock ≠ none
  blk : ∀ g, t.ownBlock = some g → F.w0.heap.size ≤ g ∨ (row.box = true ∧ F.M g)
  own : ∃ n xs, cx.w.ownsRow 0 row.ty row.sz t n xs ∧ row.cs.length = n * row.sz ∧ relL cx row.cs xs ∧ ∀ u, u ∈ xs → u.oneCell' = true

structure KeptBut (M : Nat → Prop) (w w' : World) : Prop where
  os : w'.os = w.os
  tape : w'.tape = w.tape
  output : w'.output = w.output
  size : w.heap.size ≤ w'.heap.size
  block : ∀ k, k < w.heap.size → ¬ M k → w'.heap[k]? = w.heap[k]?

structure SimAt (F : Fr) (φ : Nat → Value) (Z : Nat → Prop) (σ : St) (a : Act) (w : World) : Prop where
  dfr : a.defers = []
  nt : a.tmps.size = F.nt
  env : ∀ i, relV (cxOf φ Z σ w) (σ.env i) (a.tmps.getD i undef)
  rows : ∀ r row, σ.row r = some row → RowRel F (cxOf φ Z σ w) (φ r) row
  disj : ∀ r s, r ≠ s → (σ.row r).isSome → (σ.row s).isSome → ∀ g, (φ r).ownBlock = some g → (φ s).ownBlock ≠ some g
  zlt : ∀ b, Z b → b < w.heap.size
  zrow : ∀ b, Z b → ∀ r, (σ.row r).isSome → (φ r).ownBlock ≠ some b
  base : ∀ b, Z b → b < F.w0.heap.size → F.B b
  keep : KeptBut F.M F.w0 w
  recv : ∀ t, F.recv = some t → (σ.row 0).isSome → φ 0 = t
def Sim (F : Fr) (σ : St) (a : Act) (w : World) : Prop := ∃ φ Z, SimAt F φ Z σ a w

theorem RowRel.lt {F : Fr} {cx : Cx} {t : Value} {row : Row} (h : RowRel F cx t row) {g : Nat} (hg : t.ownBlock = some g) : g < cx.w.heap.size := by
  obtain ⟨n, xs, ho, _⟩ := h.own
  exact (ho.lt g hg).2
theorem ownsRow_of_block {w w' : World} {base : Nat} {e : TypeId} {size : Nat} {v : Value} {n : Nat} {xs : List Value} (h : w.ownsRow base e size v n xs) (hb : ∀ g, v.ownBlock = some g → w'.heap[g]? = w.heap[g]?) : w'.ownsRow base e size v n xs := by
  refine ⟨h.1, ?_⟩
  rcases h.2 with h2 | ⟨g, cap, cur, rfl, hg, hh, r⟩
  · exact .inl h2
  · exact .inr ⟨g, cap, cur, rfl, hg, by rw [hb g rfl]; exact hh, r⟩
theorem RowRel.mono {F : Fr} {cx cx' : Cx} {t : Value} {row : Row} (h : RowRel F cx t row) (hc : CxLe cx cx') (hb : ∀ g, t.ownBlock = some g → cx'.w.heap[g]? = cx.w.heap[g]?) : RowRel F cx' t row := by
  refine ⟨h.sz, h.pur, h.box, h.blk, ?_⟩
  obtain ⟨n, xs, ho, hl, hr, h1⟩ := h.own
  exact ⟨n, xs, ownsRow_of_block ho hb, hl, relL_mono hc _ _ hr, h1⟩

theorem keptBut_below {M : Nat → Prop} {w w1 w2 : World} (h : KeptBut M w w1) (k : Below w1.heap.size w1 w2) : KeptBut M w w2 :=
  ⟨k.os.trans h.os, k.tape.trans h.tape, k.output.trans h.output, Nat.le_trans h.size k.size, fun b hb hm => (k.block b (Nat.lt_of_lt_of_le hb h.size)).trans (h.block b hb hm)⟩

def St.put (σ : St) (d : Nat) (x : AV) : St := { σ with env := fun i => if i = d then x else σ.env i }
def St.set (σ : St) (r : Nat) (o : Option Row) : St := { σ with row := fun i => if i = r then o else σ.row i }

theorem SimAt.put {F : Fr} {φ : Nat → Value} {Z : Nat → Prop} {σ : St} {a : Act} {w : World} (h : SimAt F φ Z σ a w) {d : Nat} {x : AV} {u : Value} (hd : d < F.nt) (hx : relV (cxOf φ Z σ w) x u) :
    SimAt F φ Z (σ.put d x) (a.put (some d) u) w := by
  refine ⟨h.dfr, by simpa [Act.put] using h.nt, ?_, h.rows, h.disj, h.zlt, h.zrow, h.base, h.keep, h.recv⟩
  intro i
  have hs := h.nt
  simp only [St.put, Act.put]
  by_cases e : i = d
  · subst e
    rw [if_pos rfl]
    simp only [Array.getD_eq_getD_getElem?, Array.getElem?_setIfInBounds]
    rw [if_pos trivial, if_pos (by omega)]
    exact hx
  · rw [if_neg e]
    simp only [Array.getD_eq_getD_getElem?, Array.getElem?_setIfInBounds]
    rw [if_neg (by omega)]
    have := h.env i
    simp only [Array.getD_eq_getD_getElem?] at this
    exact this

/-- new memory, and more of the zone -/
theorem SimAt.grow {F : Fr} {φ : Nat → Value} {Z Z' : Nat → Prop} {σ : St} {a : Act} {w w' : World} (h : SimAt F φ Z σ a w) (hb : Below w.heap.size w w')
    (hz : ∀ b, Z b → Z' b) (hz' : ∀ b, Z' b → Z b ∨ (w.heap.size ≤ b ∧ b < w'.heap.size)) : SimAt F φ Z' σ a w' := by
  have hc : CxLe (cxOf φ Z σ w) (cxOf φ Z' σ w') := ⟨fun b hb' => ⟨hz b hb', hb.block b (h.zlt b hb')⟩, fun r t j e => ⟨t, j, e, Nat.le_refl _, fun _ => rfl⟩⟩
  refine ⟨h.dfr, h.nt, fun i => relV_mono hc _ _ (h.env i), ?_, h.disj, ?_, ?_, fun b h1 h2 => (hz' b h1).elim (fun h3 => h.base b h3 h2) (fun h3 => absurd (Nat.lt_of_lt_of_le h2 h.keep.size) (by omega)), keptBut_below h.keep hb, h.recv⟩
  · intro r row hr
    exact (h.rows r row hr).mono hc (fun g hg => hb.block g ((h.rows r row hr).lt hg))
  · intro b hb'
    rcases hz' b hb' with h1 | h1
    · exact Nat.lt_of_lt_of_le (h.zlt b h1) hb.size
    · exact h1.2
  · intro b hb' r hr e
    obtain ⟨row, hrow⟩ := Option.isSome_iff_exists.1 hr
    have := (h.rows r row hrow).lt e
    rcases hz' b hb' with h1 | h1
    · exact h.zrow b h1 r hr e
    · simp [cxOf] at this; omega
theorem SimAt.grow' {F : Fr} {φ : Nat → Value} {Z : Nat → Prop} {σ : St} {a : Act} {w w' : World} (h : SimAt F φ Z σ a w) (hb : Below w.heap.size w w') : SimAt F φ Z σ a w' :=
  h.grow hb (fun _ h => h) (fun _ h => .inl h)

/-- a row is taken in -/
theorem SimAt.adopt {F : Fr} {φ : Nat → Value} {Z : Nat → Prop} {σ : St} {a : Act} {w : World} (h : SimAt F φ Z σ a w) {r : Nat} {row : Row} {t : Value} (hr : σ.row r = none) (h0 : r ≠ 0)
    (ht : RowRel F (cxOf φ Z σ w) t row) (hz : ∀ g, t.ownBlock = some g → ¬ Z g ∧ ∀ s, (σ.row s).isSome → (φ s).ownBlock ≠ some g) :
    SimAt F (fun i => if i = r then t else φ i) Z (σ.set r (some row)) a w ∧ CxLe (cxOf φ Z σ w) (cxOf (fun i => if i = r then t else φ i) Z (σ.set r (some row)) w) := by
  have hc : CxLe (cxOf φ Z σ w) (cxOf (fun i => if i = r then t else φ i) Z (σ.set r (some row)) w) := by
    refine ⟨fun b hb => ⟨hb, rfl⟩, fun s u j e => ?_⟩
    have hsr : s ≠ r := by rintro rfl; simp [cxOf, hr] at e
    refine ⟨u, j, ?_, Nat.le_refl _, fun _ => rfl⟩
    simp only [cxOf, St.set, if_neg hsr] at e ⊢
    exact e
  refine ⟨⟨h.dfr, h.nt, fun i => relV_mono hc _ _ (h.env i), ?_, ?_, h.zlt, ?_, h.base, h.keep, ?_⟩, hc⟩
  · intro s rw' hs
    simp only [St.set] at hs
    by_cases e : s = r
    · subst e
      rw [if_pos rfl] at hs ⊢
      cases hs
      exact ht.mono hc (fun _ _ => rfl)
    · rw [if_neg e] at hs ⊢
      exact (h.rows s rw' hs).mono hc (fun _ _ => rfl)
  · intro s s' hne h1 h2 g hg
    simp only [St.set] at h1 h2
    by_cases e : s = r
    · subst e
      rw [if_pos rfl] at hg
      rw [if_neg (Ne.symm hne)] at h2 ⊢
      exact (hz g hg).2 s' h2
    · rw [if_neg e] at h1 hg
      by_cases e' : s' = r
      · subst e'
        rw [if_pos rfl]
        intro hg'
        exact (hz g hg').2 s h1 hg
      · rw [if_neg e'] at h2 ⊢
        exact h.disj s s' hne h1 h2 g hg
  · intro b hb s hs
    simp only [St.set] at hs
    by_cases e : s = r
    · subst e
      rw [if_pos rfl]
      intro hg
      exact (hz b hg).1 hb
    · rw [if_neg e] at hs ⊢
      exact h.zrow b hb s hs
  · intro t' ht' hs
    have : (0 : Nat) ≠ r := fun e => h0 e.symm
    simp only [St.set, if_neg this] at hs ⊢
    exact h.recv t' ht' hs

/-- one row turns -/
theorem SimAt.turn {F : Fr} {φ : Nat → Value} {Z : Nat → Prop} {σ : St} {a : Act} {w w' : World} (h : SimAt F φ Z σ a w) {r : Nat} {row row' : Row} {t' : Value} (hr : σ.row r = some row)
    (hg : w.grownBy w' (φ r).ownBlock) (hv : row.ver ≤ row'.ver) (hv' : row'.ver = row.ver → t' = φ r)
    (hrow : CxLe (cxOf φ Z σ w) (cxOf (fun i => if i = r then t' else φ i) Z (σ.set r (some row')) w') → RowRel F (cxOf (fun i => if i = r then t' else φ i) Z (σ.set r (some row')) w') t' row')
    (hb : ∀ g, t'.ownBlock = some g → (φ r).ownBlock = some g ∨ w.heap.size ≤ g) (h0 : r = 0 → t' = φ r) :
    SimAt F (fun i => if i = r then t' else φ i) Z (σ.set r (some row')) a w' ∧ CxLe (cxOf φ Z σ w) (cxOf (fun i => if i = r then t' else φ i) Z (σ.set r (some row')) w') := by
  have hrs : (σ.row r).isSome := by simp [hr]
  have hc : CxLe (cxOf φ Z σ w) (cxOf (fun i => if i = r then t' else φ i) Z (σ.set r (some row')) w') := by
    refine ⟨fun b hb => ⟨hb, hg.block b (h.zlt b hb) (fun e => h.zrow b hb r hrs e.symm)⟩, fun s u j e => ?_⟩
    by_cases hsr : s = r
    · subst hsr
      simp only [cxOf, hr, Option.map_some, Option.some.injEq, Prod.mk.injEq] at e
      obtain ⟨rfl, rfl⟩ := e
      exact ⟨t', row'.ver, by simp [cxOf, St.set], hv, hv'⟩
    · refine ⟨u, j, ?_, Nat.le_refl _, fun _ => rfl⟩
      simp only [cxOf, St.set, if_neg hsr] at e ⊢
      exact e
  have hlt : ∀ s row, σ.row s = some row → ∀ g, (φ s).ownBlock = some g → g < w.heap.size := fun s row hs g hg => (h.rows s row hs).lt hg
  refine ⟨⟨h.dfr, h.nt, fun i => relV_mono hc _ _ (h.env i), ?_, ?_, ?_, ?_, h.base, ?_, ?_⟩, hc⟩
  · intro s rw' hs
    simp only [St.set] at hs
    by_cases e : s = r
    · subst e
      rw [if_pos rfl] at hs ⊢
      cases hs
      exact hrow hc
    · rw [if_neg e] at hs ⊢
      refine (h.rows s rw' hs).mono hc (fun g hg' => hg.block g (hlt s rw' hs g hg') (fun e' => ?_))
      exact h.disj s r e (by simp [hs]) hrs g hg' e'.symm
  · intro s s' hne h1 h2 g hg'
    simp only [St.set] at h1 h2
    by_cases e : s = r
    · subst e
      rw [if_pos rfl] at hg'
      rw [if_neg (Ne.symm hne)] at h2 ⊢
      intro hs'
      obtain ⟨rw2, hrw2⟩ := Option.isSome_iff_exists.1 h2
      rcases hb g hg' with h3 | h3
      · exact h.disj s s' hne hrs h2 g h3 hs'
      · have := hlt s' rw2 hrw2 g hs'; omega
    · rw [if_neg e] at h1 hg'
      by_cases e' : s' = r
      · subst e'
        rw [if_pos rfl]
        intro hg2
        obtain ⟨rw2, hrw2⟩ := Option.isSome_iff_exists.1 h1
        rcases hb g hg2 with h3 | h3
        · exact h.disj s s' hne h1 hrs g hg' h3
        · have := hlt s rw2 hrw2 g hg'; omega
      · rw [if_neg e'] at h2 ⊢
        exact h.disj s s' hne h1 h2 g hg'
  · intro b hb'; exact Nat.lt_of_lt_of_le (h.zlt b hb') hg.size
  · intro b hb' s hs
    simp only [St.set] at hs
    by_cases e : s = r
    · subst e
      rw [if_pos rfl]
      intro hg2
      rcases hb b hg2 with h3 | h3
      · exact h.zrow b hb' s hrs h3
      · have := h.zlt b hb'; omega
    · rw [if_neg e] at hs ⊢
      exact h.zrow b hb' s hs
  · have hk := h.keep
    refine ⟨hg.os.trans hk.os, hg.tape.trans hk.tape, hg.output.trans hk.output, Nat.le_trans hk.size hg.size, fun b hb' hm => ?_⟩
    refine (hg.block b (Nat.lt_of_lt_of_le hb' hk.size) (fun e => ?_)).trans (hk.block b hb' hm)
    rcases (h.rows r row hr).blk b e.symm with h3 | h3
    · omega
    · exact hm h3.2
  · intro u hu hs
    by_cases e : r = 0
    · have ht := h0 e
      subst e
      simp only [if_pos]
      rw [ht]
      exact h.recv u hu (by simp [hr])
    · have e' : (0 : Nat) ≠ r := fun x => e x.symm
      simp only [St.set, if_neg e'] at hs ⊢
      exact h.recv u hu hs

/-- less is known: slots and rows are forgotten -/
theorem SimAt.forget {F : Fr} {φ : Nat → Value} {Z : Nat → Prop} {σ σ' : St} {a : Act} {w : World} (h : SimAt F φ Z σ a w) (hr : ∀ r, σ'.row r = none ∨ σ'.row r = σ.row r)
    (he : ∀ i, ∀ u, relV (cxOf φ Z σ w) (σ.env i) u → relV (cxOf φ Z σ' w) (σ'.env i) u) (hc : ∀ r row, σ'.row r = some row → ∀ us, relL (cxOf φ Z σ w) row.cs us → relL (cxOf φ Z σ' w) row.cs us) : SimAt F φ Z σ' a w := by
  have hs : ∀ r, (σ'.row r).isSome → (σ.row r).isSome := fun r h1 => by
    rcases hr r with h2 | h2
    · rw [h2] at h1; cases h1
    · rw [← h2]; exact h1
  refine ⟨h.dfr, h.nt, fun i => he i _ (h.env i), ?_, fun r s hne h1 h2 => h.disj r s hne (hs r h1) (hs s h2), h.zlt, fun b hb r h1 => h.zrow b hb r (hs r h1), h.base, h.keep, fun t ht h1 => h.recv t ht (hs 0 h1)⟩
  intro r row hrow
  have hrow' : σ.row r = some row := by
    rcases hr r with h2 | h2
    · rw [h2] at hrow; cases hrow
    · rw [← h2]; exact hrow
  have hrr := h.rows r row hrow'
  refine ⟨hrr.sz, hrr.pur, hrr.box, hrr.blk, ?_⟩
  obtain ⟨n, xs, h1, h2, h3, h4⟩ := hrr.own
  exact ⟨n, xs, h1, h2, hc r row hrow xs h3, h4⟩

end Go.Sym
