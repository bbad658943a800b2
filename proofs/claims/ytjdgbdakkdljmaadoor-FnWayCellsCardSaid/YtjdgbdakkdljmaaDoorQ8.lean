/-
  Functions on abstract states: what a call takes and gives; nothing of the program stands here.
-/
import Derived.Test.YtjdgbdakkdljmaaDoorQ7
set_option linter.unusedVariables false
set_option linter.unusedSimpArgs false
namespace Go.Sym
open Go Go.RowKit

def cx0 (w : World) (Z : Nat → Prop) : Cx := ⟨w, Z, fun _ => none⟩
mutual
/-- a value that a call gives back: its slices own rows of their own, in the blocks bs -/
def relO (w : World) (lo : Nat) (Zr : Nat → Prop) : AV → Value → List Nat → Prop
  | .v x, u, bs => u = x ∧ bs = []
  | .agg xs, u, bs => ∃ vs : List Value, u = .agg vs.toArray ∧ relOL w lo Zr xs vs bs
  | .tup xs, u, bs => ∃ vs : List Value, u = .tuple vs.toArray ∧ relOL w lo Zr xs vs bs
  | .sl ty sz cs, u, bs => bs = u.ownBlock.toList ∧ 0 < sz ∧ pureL cs ∧ ∃ n xs, w.ownsRow lo ty sz u n xs ∧ cs.length = n * sz ∧ relL (cx0 w Zr) cs xs ∧ ∀ u, u ∈ xs → u.oneCell' = true
  | .any, _, _ => False
  | .ip _ _, _, _ => False
  | .own _ _, _, _ => False
  | .sub _ _ _ _, _, _ => False
  | .pre _ _ _, _, _ => False
  | .ptr _ _ _, _, _ => False
  | .both _ _, _, _ => False
def relOL (w : World) (lo : Nat) (Zr : Nat → Prop) : List AV → List Value → List Nat → Prop
  | [], us, bs => us = [] ∧ bs = []
  | x :: xs, us, bs => ∃ u vs b1 b2, us = u :: vs ∧ bs = b1 ++ b2 ∧ relO w lo Zr x u b1 ∧ relOL w lo Zr xs vs b2
end
mutual
def ado : Nat → AV → AV × List (Nat × Option Row) × Nat
  | n, .sl ty sz cs => (.own n 0, [(n, some ⟨ty, sz, 0, true, false, cs⟩)], n + 1)
  | n, .agg xs => (.agg (adoL n xs).1, (adoL n xs).2.1, (adoL n xs).2.2)
  | n, .tup xs => (.tup (adoL n xs).1, (adoL n xs).2.1, (adoL n xs).2.2)
  | n, .v x => (.v x, [], n)
  | n, .any => (.any, [], n)
  | n, .ip cs k => (.any, [], n)
  | n, .own r k => (.any, [], n)
  | n, .sub r k o m => (.any, [], n)
  | n, .pre r k m => (.any, [], n)
  | n, .ptr r k o => (.any, [], n)
  | n, .both x y => (.any, [], n)
def adoL : Nat → List AV → List AV × List (Nat × Option Row) × Nat
  | n, [] => ([], [], n)
  | n, x :: xs => ((ado n x).1 :: (adoL (ado n x).2.2 xs).1, (adoL (ado n x).2.2 xs).2.1 ++ (ado n x).2.1, (adoL (ado n x).2.2 xs).2.2)
end
theorem rowsUpd_append (σ : St) (b a : List (Nat × Option Row)) : σ.rowsUpd (b ++ a) = (σ.rowsUpd a).rowsUpd b := by
  simp only [St.rowsUpd]
  congr 1
  funext t
  induction b with
  | nil => rfl
  | cons y b ih => obtain ⟨d, x⟩ := y; simp only [List.cons_append, overR, ih]
theorem CxLe.trans {a b c : Cx} (h : CxLe a b) (k : CxLe b c) : CxLe a c :=
  ⟨fun q hq => ⟨(k.z q (h.z q hq).1).1, ((k.z q (h.z q hq).1).2).trans (h.z q hq).2⟩, fun r t j e => by
    obtain ⟨u1, j1, e1, e2, e3⟩ := h.t r t j e
    obtain ⟨u2, j2, e4, e5, e6⟩ := k.t r u1 j1 e1
    exact ⟨u2, j2, e4, by omega, fun e' => by rw [e6 (by omega), e3 (by omega)]⟩⟩
theorem CxLe.refl (a : Cx) : CxLe a a := ⟨fun _ h => ⟨h, rfl⟩, fun r t j e => ⟨t, j, e, Nat.le_refl _, fun _ => rfl⟩⟩

structure Adopted (F : Fr) (φ : Nat → Value) (Z : Nat → Prop) (σ : St) (a : Act) (w : World) (n : Nat) (rs : List (Nat × Option Row)) (n' : Nat) (bs : List Nat) (φ' : Nat → Value) : Prop where
  sim : SimAt F φ' Z (σ.rowsUpd rs) a w
  le : CxLe (cxOf φ Z σ w) (cxOf φ' Z (σ.rowsUpd rs) w)
  mono : n ≤ n'
  rows : ∀ s, ((σ.rowsUpd rs).row s).isSome → ((σ.row s).isSome ∧ φ' s = φ s) ∨ (n ≤ s ∧ s < n' ∧ ∀ b, (φ' s).ownBlock = some b → b ∈ bs)
mutual
theorem ado_le : ∀ (x : AV) (n : Nat), n ≤ (ado n x).2.2
  | .sl _ _ _, n => by simp [ado]
  | .agg xs, n => by simp only [ado]; exact adoL_le xs n
  | .tup xs, n => by simp only [ado]; exact adoL_le xs n
  | .v _, n => by simp [ado]
  | .any, n => by simp [ado]
  | .ip _ _, n => by simp [ado]
  | .own _ _, n => by simp [ado]
  | .sub _ _ _ _, n => by simp [ado]
  | .pre _ _ _, n => by simp [ado]
  | .ptr _ _ _, n => by simp [ado]
  | .both _ _, n => by simp [ado]
theorem adoL_le : ∀ (xs : List AV) (n : Nat), n ≤ (adoL n xs).2.2
  | [], n => by simp [adoL]
  | x :: xs, n => by simp only [adoL]; exact Nat.le_trans (ado_le x n) (adoL_le xs _)
end
def Apart (F : Fr) (φ : Nat → Value) (Z : Nat → Prop) (σ : St) (bs : List Nat) : Prop := ∀ b, b ∈ bs → F.w0.heap.size ≤ b ∧ ¬ Z b ∧ ∀ s, (σ.row s).isSome → (φ s).ownBlock ≠ some b
mutual
theorem ado_sim {F : Fr} {lo : Nat} {Zr Z : Nat → Prop} (hZ : ∀ b, Zr b → Z b) : ∀ (x : AV) (n : Nat) (φ : Nat → Value) (σ : St) (a : Act) (w : World) (v : Value) (bs : List Nat), SimAt F φ Z σ a w → relO w lo Zr x v bs → 0 < n → (∀ m, n ≤ m → m < (ado n x).2.2 → σ.row m = none) → bs.Nodup → Apart F φ Z σ bs →
    ∃ φ', Adopted F φ Z σ a w n (ado n x).2.1 (ado n x).2.2 bs φ' ∧ relV (cxOf φ' Z (σ.rowsUpd (ado n x).2.1) w) (ado n x).1 v
  | .v x, n, φ, σ, a, w, v, bs, hS, hx, h0, hf, hn, ha => by
    simp only [relO] at hx
    refine ⟨φ, ⟨hS, CxLe.refl _, Nat.le_refl _, fun s hs => .inl ⟨hs, rfl⟩⟩, by simp only [ado, relV]; exact hx.1⟩
  | .sl ty sz cs, n, φ, σ, a, w, v, bs, hS, hx, h0, hf, hn, ha => by
    simp only [relO] at hx
    obtain ⟨hbs, hsz, hp, m, xs, h1, h2, h3, h4⟩ := hx
    have hr : σ.row n = none := hf n (Nat.le_refl _) (by simp [ado])
    have hmem : ∀ g, v.ownBlock = some g → g ∈ bs := fun g hg => by rw [hbs, hg]; simp
    have hrow : RowRel F (cxOf φ Z σ w) v ⟨ty, sz, 0, true, false, cs⟩ := by
      refine ⟨hsz, fun _ => hp, fun h => by simp at h, fun g hg => .inl (ha g (hmem g hg)).1, m, xs, ?_, h2, relL_pure (cx := cx0 w Zr) (cx' := cxOf φ Z σ w) ⟨fun b hb => ⟨hZ b hb, rfl⟩⟩ cs xs hp h3, h4⟩
      refine ⟨h1.1, ?_⟩
      rcases h1.2 with h | ⟨g, cap, cur, e1, e2, e3⟩
      · exact .inl h
      · exact .inr ⟨g, cap, cur, e1, Nat.zero_le _, e3⟩
    obtain ⟨h5, h6⟩ := hS.adopt hr (by omega) hrow (fun g hg => ⟨(ha g (hmem g hg)).2.1, (ha g (hmem g hg)).2.2⟩)
    rw [set_eq_upd] at h5 h6
    refine ⟨_, ⟨h5, h6, by simp [ado], fun s hs => ?_⟩, ?_⟩
    · by_cases e : s = n
      · subst e
        right
        refine ⟨Nat.le_refl _, by simp [ado], fun b hb => ?_⟩
        simp at hb
        exact hmem b hb
      · left
        have : ((σ.set n (some ⟨ty, sz, 0, true, false, cs⟩)).row s).isSome := by rw [set_eq_upd]; exact hs
        simp only [St.set, if_neg e] at this
        exact ⟨this, by simp [e]⟩
    · simp only [ado, relV, cxOf, St.rowsUpd, overR]
      simp
      exact ⟨_, _, ⟨rfl, rfl⟩, fun _ => rfl⟩
  | .agg xs, n, φ, σ, a, w, v, bs, hS, hx, h0, hf, hn, ha => by
    simp only [relO] at hx
    obtain ⟨vs, rfl, hx⟩ := hx
    simp only [ado] at hf ⊢
    obtain ⟨φ', h1, h2⟩ := adoL_sim hZ xs n φ σ a w vs bs hS hx h0 hf hn ha
    exact ⟨φ', h1, by simp only [relV]; exact ⟨vs, rfl, h2⟩⟩
  | .tup xs, n, φ, σ, a, w, v, bs, hS, hx, h0, hf, hn, ha => by
    simp only [relO] at hx
    obtain ⟨vs, rfl, hx⟩ := hx
    simp only [ado] at hf ⊢
    obtain ⟨φ', h1, h2⟩ := adoL_sim hZ xs n φ σ a w vs bs hS hx h0 hf hn ha
    exact ⟨φ', h1, by simp only [relV]; exact ⟨vs, rfl, h2⟩⟩
  | .any, n, φ, σ, a, w, v, bs, hS, hx, h0, hf, hn, ha => by simp [relO] at hx
  | .ip _ _, n, φ, σ, a, w, v, bs, hS, hx, h0, hf, hn, ha => by simp [relO] at hx
  | .own _ _, n, φ, σ, a, w, v, bs, hS, hx, h0, hf, hn, ha => by simp [relO] at hx
  | .sub _ _ _ _, n, φ, σ, a, w, v, bs, hS, hx, h0, hf, hn, ha => by simp [relO] at hx
  | .pre _ _ _, n, φ, σ, a, w, v, bs, hS, hx, h0, hf, hn, ha => by simp [relO] at hx
  | .ptr _ _ _, n, φ, σ, a, w, v, bs, hS, hx, h0, hf, hn, ha => by simp [relO] at hx
  | .both _ _, n, φ, σ, a, w, v, bs, hS, hx, h0, hf, hn, ha => by simp [relO] at hx
theorem adoL_sim {F : Fr} {lo : Nat} {Zr Z : Nat → Prop} (hZ : ∀ b, Zr b → Z b) : ∀ (xs : List AV) (n : Nat) (φ : Nat → Value) (σ : St) (a : Act) (w : World) (vs : List Value) (bs : List Nat), SimAt F φ Z σ a w → relOL w lo Zr xs vs bs → 0 < n → (∀ m, n ≤ m → m < (adoL n xs).2.2 → σ.row m = none) → bs.Nodup → Apart F φ Z σ bs →
    ∃ φ', Adopted F φ Z σ a w n (adoL n xs).2.1 (adoL n xs).2.2 bs φ' ∧ relL (cxOf φ' Z (σ.rowsUpd (adoL n xs).2.1) w) (adoL n xs).1 vs
  | [], n, φ, σ, a, w, vs, bs, hS, hx, h0, hf, hn, ha => by
    simp only [relOL] at hx
    exact ⟨φ, ⟨hS, CxLe.refl _, Nat.le_refl _, fun s hs => .inl ⟨hs, rfl⟩⟩, by simp only [adoL, relL]; exact hx.1⟩
  | x :: xs, n, φ, σ, a, w, vs, bs, hS, hx, h0, hf, hn, ha => by
    simp only [relOL] at hx
    obtain ⟨u, us, b1, b2, rfl, rfl, h1, h2⟩ := hx
    simp only [adoL] at hf ⊢
    obtain ⟨hn1, hn2, hn3⟩ := List.nodup_append.1 hn
    have hle := ado_le x n
    have hle2 := adoL_le xs (ado n x).2.2
    obtain ⟨φ1, k1, k2⟩ := ado_sim hZ x n φ σ a w u b1 hS h1 h0 (fun m a b => hf m a (by omega)) hn1 (fun b hb => ha b (by simp [hb]))
    have ha2 : Apart F φ1 Z (σ.rowsUpd (ado n x).2.1) b2 := fun b hb => by
      obtain ⟨e1, e2, e3⟩ := ha b (by simp [hb])
      refine ⟨e1, e2, fun s hs hg => ?_⟩
      rcases k1.rows s hs with ⟨e4, e5⟩ | ⟨e4, e5, e6⟩
      · rw [e5] at hg; exact e3 s e4 hg
      · exact hn3 b (e6 b hg) b hb rfl
    have hf2 : ∀ m, (ado n x).2.2 ≤ m → m < (adoL (ado n x).2.2 xs).2.2 → (σ.rowsUpd (ado n x).2.1).row m = none := fun m e1 e2 => by
      cases hm : (σ.rowsUpd (ado n x).2.1).row m with
      | none => rfl
      | some row =>
        exfalso
        rcases k1.rows m (by simp [hm]) with ⟨e4, _⟩ | ⟨_, e5, _⟩
        · rw [hf m (by omega) e2] at e4; cases e4
        · omega
    obtain ⟨φ2, k3, k4⟩ := adoL_sim hZ xs (ado n x).2.2 φ1 (σ.rowsUpd (ado n x).2.1) a w us b2 k1.sim h2 (by omega) hf2 hn2 ha2
    refine ⟨φ2, ⟨by rw [rowsUpd_append]; exact k3.sim, by rw [rowsUpd_append]; exact k1.le.trans k3.le, by omega, fun s hs => ?_⟩, ?_⟩
    · rw [rowsUpd_append] at hs
      rcases k3.rows s hs with ⟨e4, e5⟩ | ⟨e4, e5, e6⟩
      · rcases k1.rows s e4 with ⟨e7, e8⟩ | ⟨e7, e8, e9⟩
        · exact .inl ⟨e7, e5.trans e8⟩
        · exact .inr ⟨e7, by omega, fun b hb => by rw [e5] at hb; simp [e9 b hb]⟩
      · exact .inr ⟨by omega, e5, fun b hb => by simp [e6 b hb]⟩
    · rw [rowsUpd_append]
      simp only [relL]
      exact ⟨u, us, rfl, relV_mono k3.le _ _ k2, k4⟩
end

structure FnPost (w w' : World) (res : AV) (v : Value) (bs : List Nat) : Prop where
  below : Below w.heap.size w w'
  nodup : bs.Nodup
  ge : ∀ b, b ∈ bs → w.heap.size ≤ b
  rel : relO w' w.heap.size (fun b => w.heap.size ≤ b ∧ b < w'.heap.size ∧ b ∉ bs) res v bs
def Enters (P : Program) (f : Nat) : Prop := ∃ fn, P.funcs[f]? = some fn ∧ (fn.name == "runtime.NumGoroutine") = false ∧ fn.body.isNone = false
/-- f, of these arguments, gives this, and leaves what was there -/
def FnS (P : Program) (f : Nat) (args : List AV) (res : AV) : Prop :=
  Enters P f ∧ ∀ w vs, pureL args → relL (cx0 w (fun b => b < w.heap.size)) args vs → Calls P f vs.toArray w fun e w' => ∃ v bs, e = .returned v ∧ FnPost w w' res v bs
theorem run_callFunc {P : Program} {f : Nat} (h : Enters P f) (args : Array Value) (w : World) : (callFunc f args).run P w = .ok (.enter f args) w := by
  obtain ⟨fn, h1, h2, h3⟩ := h
  have h2' : ¬ (fn.name = "runtime.NumGoroutine") := by simpa using h2
  have h3' : ¬ (fn.body = none) := fun e => by rw [e] at h3; simp at h3
  simp [callFunc, h1, h2', h3']

/-! arguments -/
inductive Frz1 (σ : St) : AV → AV → List Nat → Prop
  | v (c : Value) : Frz1 σ (.v c) (.v c) []
  | nil {ty sz : Nat} (h : 0 < sz) : Frz1 σ (.v (.slice none 0 0)) (.sl ty sz []) []
  | sl {ty ty' sz : Nat} {cs cs' : List AV} (h : cs' = cs) : Frz1 σ (.sl ty sz cs) (.sl ty' sz cs') []
  | both {x : Value} {ty sz : Nat} {cs : List AV} : Frz1 σ (.both x (.sl ty sz cs)) (.both x (.sl ty sz cs)) []
  | own {r k ty sz : Nat} {row : Row} {cs : List AV} (hr : σ.row r = some row) (hv : row.ver = k) (hp : row.pure = true) (hs : sz = row.sz) (hc : cs = row.cs) : Frz1 σ (.own r k) (.sl ty sz cs) [r]
  | pre {r k n ty sz : Nat} {row : Row} {cs : List AV} (hr : σ.row r = some row) (hv : row.ver = k) (hp : row.pure = true) (hs : sz = row.sz) (hc : cs = row.cs.take (n * row.sz)) : Frz1 σ (.pre r k n) (.sl ty sz cs) [r]
inductive FrzL1 (σ : St) : List AV → List AV → List Nat → Prop
  | nil : FrzL1 σ [] [] []
  | cons {x y : AV} {xs ys : List AV} {u us : List Nat} (h : Frz1 σ x y u) (k : FrzL1 σ xs ys us) : FrzL1 σ (x :: xs) (y :: ys) (u ++ us)
inductive Frz (σ : St) : AV → AV → List Nat → Prop
  | one {x y : AV} {u : List Nat} (h : Frz1 σ x y u) : Frz σ x y u
  | agg {xs ys : List AV} {u : List Nat} (h : FrzL1 σ xs ys u) : Frz σ (.agg xs) (.agg ys) u
inductive FrzA (σ : St) : List Operand → List AV → List Nat → List Nat → Prop
  | nil : FrzA σ [] [] [] []
  | cons {x : Operand} {y : AV} {xs : List Operand} {ys : List AV} {u us es : List Nat} (h : Frz σ (σ.ev x) y u) (k : FrzA σ xs ys us es) : FrzA σ (x :: xs) (y :: ys) (u ++ us) (fo x ++ es)
theorem frz1_rel {F : Fr} {φ : Nat → Value} {Z : Nat → Prop} {σ τ : St} {a : Act} {w : World} (hS : SimAt F φ Z τ a w) {Z1 : Nat → Prop} {x y : AV} {u : List Nat} (h : Frz1 σ x y u) (hu : ∀ r, r ∈ u → τ.row r = σ.row r) (hz1 : ∀ b, Z b → Z1 b) (hr1 : ∀ r, r ∈ u → ∀ row, τ.row r = some row → ∀ g, (φ r).ownBlock = some g → g < w.heap.size → Z1 g) {v : Value} (hx : relV (cxOf φ Z τ w) x v) :
    relV (cx0 w Z1) y v ∧ pureV y := by
  have hz : CxZ (cxOf φ Z τ w) (cx0 w Z1) := ⟨fun b hb => ⟨hz1 b hb, rfl⟩⟩
  cases h with
  | v c => exact ⟨by simpa [relV] using hx, by simp [pureV]⟩
  | nil h =>
    simp only [relV] at hx ⊢
    subst hx
    exact ⟨⟨by simp [pureL], none, 0, 0, rfl, Nat.le_refl _, by simp, h, by simp, .inl (by first | trivial | rfl)⟩, by simp [pureV, pureL]⟩
  | @sl ty ty' sz cs cs' h =>
    subst h
    have hp : pureV (.sl ty sz cs') := by simp only [relV] at hx; simpa [pureV] using hx.1
    have := relV_pure hz _ _ hp hx
    exact ⟨by simpa only [relV] using this, by simpa [pureV] using hp⟩
  | @both x ty sz cs =>
    have hp : pureV (.both x (.sl ty sz cs)) := by simp only [relV] at hx; simpa [pureV] using hx.2.1
    exact ⟨relV_pure hz _ _ hp hx, hp⟩
  | @own r k ty sz row cs hr hv hp hs hc =>
    subst hs hc
    have hr' : τ.row r = some row := by rw [hu r (by simp)]; exact hr
    have e1 := own_open hS hr' hv hx
    obtain ⟨n, xs, hm⟩ := rowMem hS hr'
    have hrr := hS.rows r row hr'
    have hpl := hrr.pur hp
    refine ⟨?_, by simpa [pureV] using hpl⟩
    simp only [relV]
    refine ⟨hpl, ?_⟩
    rcases hm.own.2 with ⟨h1, h2⟩ | ⟨g, cap, cur, h1, _, hg, h2, h3, h4, h5⟩
    · have hc0 : row.cs = [] := List.eq_nil_of_length_eq_zero (by rw [hm.len, h2]; simp)
      exact ⟨none, 0, 0, by rw [e1, h1], Nat.le_refl _, by simp, hrr.sz, by rw [hc0]; simp, .inl hc0⟩
    · refine ⟨some ⟨g, 0, none⟩, n, cap, by rw [e1, h1], h2, h3, hrr.sz, hm.len, .inr ⟨g, 0, rfl, hr1 r (by simp) row hr' g (by rw [h1]; rfl) (Array.getElem?_eq_some_iff.1 hg).1, relC_of fun i x hx => ?_⟩⟩
      obtain ⟨v, hv1, hv2⟩ := relL_get (relL_pure hz _ _ hpl hm.rel) i x hx
      refine ⟨v, ?_, hm.one v (List.mem_of_getElem? hv1), hv2⟩
      have := hm.own.cells (g := g) (by rw [h1]; rfl) i v hv1
      rw [Addr.add_lit] at this
      exact this
  | @pre r k n ty sz row cs hr hv hp hs hc =>
    subst hs hc
    have hr' : τ.row r = some row := by rw [hu r (by simp)]; exact hr
    obtain ⟨m, xs, hm⟩ := rowMem hS hr'
    have hrr := hS.rows r row hr'
    have hpl := hrr.pur hp
    have hpl' : pureL (row.cs.take (n * row.sz)) := pureL_of fun x hx => pureL_mem hpl x (List.mem_of_mem_take hx)
    refine ⟨?_, by simpa [pureV] using hpl'⟩
    simp only [relV]
    refine ⟨hpl', ?_⟩
    rcases pre_open hS hr' hv hx with ⟨h1, h2, h3⟩ | ⟨g, m', c, h1, h2, h3⟩
    · subst h3
      exact ⟨none, 0, 0, by rw [h2, h1], Nat.le_refl _, by simp, hrr.sz, by simp, .inl (by simp)⟩
    · rcases hm.own.2 with ⟨h4, h5⟩ | ⟨g', cap, cur, h4, _, hg, h5, h6, h7, h8⟩
      · rw [h4] at h1; cases h1
      · rw [h4] at h1
        obtain ⟨rfl, rfl, rfl⟩ : g' = g ∧ m = m' ∧ cap = c := by simpa using h1
        have hml := hm.len
        have hle : n * row.sz ≤ m * row.sz := Nat.mul_le_mul_right _ h3
        refine ⟨some ⟨g', 0, none⟩, n, cap, h2, by omega, h6, hrr.sz, by rw [List.length_take]; omega, .inr ⟨g', 0, rfl, hr1 r (by simp) row hr' g' (by rw [h4]; rfl) (Array.getElem?_eq_some_iff.1 hg).1, relC_of fun i x hx => ?_⟩⟩
        rw [List.getElem?_take] at hx
        split at hx
        · obtain ⟨v, hv1, hv2⟩ := relL_get (relL_pure hz _ _ hpl hm.rel) i x hx
          refine ⟨v, ?_, hm.one v (List.mem_of_getElem? hv1), hv2⟩
          have := hm.own.cells (g := g') (by rw [h4]; rfl) i v hv1
          rw [Addr.add_lit] at this
          exact this
        · cases hx
theorem frzL1_rel {F : Fr} {φ : Nat → Value} {Z : Nat → Prop} {σ τ : St} {a : Act} {w : World} (hS : SimAt F φ Z τ a w) {Z1 : Nat → Prop} (hz1 : ∀ b, Z b → Z1 b) {xs ys : List AV} {u : List Nat} (h : FrzL1 σ xs ys u) : (∀ r, r ∈ u → τ.row r = σ.row r) → (∀ r, r ∈ u → ∀ row, τ.row r = some row → ∀ g, (φ r).ownBlock = some g → g < w.heap.size → Z1 g) → ∀ {vs : List Value}, relL (cxOf φ Z τ w) xs vs →
    relL (cx0 w Z1) ys vs ∧ pureL ys := by
  induction h with
  | nil => intro _ _ vs hx; simpa [relL, pureL] using hx
  | cons h k ih =>
    intro hu hr1 vs hx
    simp only [relL] at hx
    obtain ⟨v, vs, rfl, h1, h2⟩ := hx
    obtain ⟨h3, h4⟩ := frz1_rel hS h (fun r hr => hu r (by simp [hr])) hz1 (fun r hr => hr1 r (by simp [hr])) h1
    obtain ⟨h5, h6⟩ := ih (fun r hr => hu r (by simp [hr])) (fun r hr => hr1 r (by simp [hr])) h2
    simp only [relL, pureL]
    exact ⟨⟨v, vs, rfl, h3, h5⟩, h4, h6⟩
theorem frz_rel {F : Fr} {φ : Nat → Value} {Z : Nat → Prop} {σ τ : St} {a : Act} {w : World} (hS : SimAt F φ Z τ a w) {Z1 : Nat → Prop} {x y : AV} {u : List Nat} (h : Frz σ x y u) (hu : ∀ r, r ∈ u → τ.row r = σ.row r) (hz1 : ∀ b, Z b → Z1 b) (hr1 : ∀ r, r ∈ u → ∀ row, τ.row r = some row → ∀ g, (φ r).ownBlock = some g → g < w.heap.size → Z1 g) {v : Value} (hx : relV (cxOf φ Z τ w) x v) :
    relV (cx0 w Z1) y v ∧ pureV y := by
  cases h with
  | one h => exact frz1_rel hS h hu hz1 hr1 hx
  | agg h =>
    simp only [relV] at hx ⊢
    obtain ⟨vs, rfl, hx⟩ := hx
    obtain ⟨h1, h2⟩ := frzL1_rel hS hz1 h hu hr1 hx
    exact ⟨⟨vs, rfl, h1⟩, by simpa [pureV] using h2⟩
theorem frzA_rel {F : Fr} {φ : Nat → Value} {Z : Nat → Prop} {σ τ : St} {a : Act} {w : World} (hS : SimAt F φ Z τ a w) {Z1 : Nat → Prop} (hz1 : ∀ b, Z b → Z1 b) {xs : List Operand} {ys : List AV} {u es : List Nat} (h : FrzA σ xs ys u es) : (∀ r, r ∈ u → τ.row r = σ.row r) → (∀ r, r ∈ u → ∀ row, τ.row r = some row → ∀ g, (φ r).ownBlock = some g → g < w.heap.size → Z1 g) → (∀ t, t ∈ es → τ.env t = σ.env t) →
    relL (cx0 w Z1) ys (xs.map a.eval) ∧ pureL ys := by
  induction h with
  | nil => intro _ _ _; simp [relL, pureL]
  | @cons x y xs ys u us es h k ih =>
    intro hu hr1 he
    have hev : τ.ev x = σ.ev x := by
      cases x with
      | tmp t => exact he t (by simp [fo])
      | _ => rfl
    have h1 := hS.ev x
    rw [hev] at h1
    obtain ⟨h3, h4⟩ := frz_rel hS h (fun r hr => hu r (by simp [hr])) hz1 (fun r hr => hr1 r (by simp [hr])) h1
    obtain ⟨h5, h6⟩ := ih (fun r hr => hu r (by simp [hr])) (fun r hr => hr1 r (by simp [hr])) (fun t ht => he t (by simp [ht]))
    simp only [List.map_cons, relL, pureL]
    exact ⟨⟨_, _, rfl, h3, h5⟩, h4, h6⟩

/-! the call -/
theorem does_call {P : Program} {nt : Nat} {σ : St} {dst : Option Nat} {ty : Nat} {pos : String} {aft : Array Edge} {gd : Option (Nat × Bool)} {f : Nat} {args : List Operand} {at' : Array TypeId} {ts : List AV} {res : AV} {u es : List Nat} (n : Nat) (hd : dstOk nt dst = true)
    (hfn : FnS P f ts res) (hfz : FrzA σ args ts u es) (h0 : 0 < n) {ids : List Nat} (hids : ∀ m, n ≤ m → m < (ado n res).2.2 → m ∈ ids) (hfr : ∀ m, m ∈ ids → σ.row m = none) :
    Does P nt ⟨dst, .call ⟨.value (.func f), args.toArray, at'⟩, ty, pos, aft, gd⟩ ⟨es, u ++ ids⟩ (ado n res).1 (ado n res).2.1 σ := by
  refine ⟨?_⟩
  intro τ hag F hF a w hS Q K hK
  obtain ⟨φ, Z, hS⟩ := hS
  obtain ⟨h1, h2⟩ := frzA_rel (Z1 := fun b => b < w.heap.size) hS hS.zlt hfz (fun r hr => hag.2 r (by simp [hr])) (fun _ _ _ _ _ _ h => h) (fun t ht => hag.1 t ht)
  have hc := hfn.2 w (args.map a.eval) h2 h1
  unfold Oper.wp
  have hrun : (execOp a.eval ⟨dst, .call ⟨.value (.func f), args.toArray, at'⟩, ty, pos, aft, gd⟩).run P w = .ok (.enter f (args.map a.eval).toArray) w := by
    simp [execOp, resolve, Act.eval, Deferred.ofValue, invoke, run_callFunc hfn.1]
  rw [hrun, Oper.upon_enter]
  refine hc.mono ?_
  rintro e w' ⟨v, bs, rfl, hp⟩
  show K (a.put dst v) w'
  refine hK v w' ?_
  have hlt : ∀ b, b ∈ bs → b < w'.heap.size → True := fun _ _ _ => trivial
  let Z' : Nat → Prop := fun b => Z b ∨ (w.heap.size ≤ b ∧ b < w'.heap.size ∧ b ∉ bs)
  have hS' : SimAt F φ Z' τ a w' := hS.grow hp.below (fun b h => .inl h) (fun b h => by
    rcases h with h | h
    · exact .inl h
    · exact .inr ⟨h.1, h.2.1⟩)
  obtain ⟨φ', k1, k2⟩ := ado_sim (Z := Z') (fun b h => .inr h) res n φ τ a w' v bs hS' hp.rel h0 (fun m e1 e2 => by
      rw [hag.2 m (by simp [hids m e1 e2])]; exact hfr m (hids m e1 e2)) hp.nodup (fun b hb => by
    have hge := hp.ge b hb
    refine ⟨Nat.le_trans hS.keep.size hge, ?_, fun s hs hg => ?_⟩
    · rintro (h | h)
      · have := hS.zlt b h; omega
      · exact h.2.2 hb
    · obtain ⟨row, hrow⟩ := Option.isSome_iff_exists.1 hs
      have := (hS.rows s row hrow).lt hg
      simp [cxOf] at this; omega)
  refine ⟨φ', Z', ?_⟩
  cases dst with
  | none => exact k1.sim
  | some d =>
    simp [dstOk] at hd
    exact k1.sim.put (by omega) k2

/-! what a function gives back -/
inductive ResV (T : List (Nat × TyI)) (σ : St) : ResultVar → AV → Prop
  | tmp {t : Nat} {x : AV} (h : σ.env t = x) : ResV T σ (.tmp t) x
  | cell {a t r k : Nat} {row : Row} {i : TyI} {x : AV} (ha : σ.env a = .ptr r k 0) (hr : σ.row r = some row) (hv : row.ver = k) (ht : lkT T t = some i) (hg : i.agg = false) (hl : 0 < row.cs.length) (hx : x = rd row.cs 0) : ResV T σ (.cell a t) x
  | agg {a t r k : Nat} {row : Row} {i : TyI} {xs : List AV} (ha : σ.env a = .ptr r k 0) (hr : σ.row r = some row) (hv : row.ver = k) (ht : lkT T t = some i) (hg : i.agg = true) (hl : 0 + i.size ≤ row.cs.length) (hx : xs = rds row.cs 0 i.size) : ResV T σ (.cell a t) (.agg xs)
inductive ResL (T : List (Nat × TyI)) (σ : St) : List ResultVar → List AV → Prop
  | nil : ResL T σ [] []
  | cons {r : ResultVar} {x : AV} {rs : List ResultVar} {xs : List AV} (h : ResV T σ r x) (k : ResL T σ rs xs) : ResL T σ (r :: rs) (x :: xs)
def getRes (tmps : Array Value) : ResultVar → Sem Value
  | .tmp t => pure (tmps.getD t undef)
  | .cell a t => do loadVar t (← asAddr (tmps.getD a undef))
theorem resV_run {P : Program} {T : List (Nat × TyI)} (hT : TabOk P T) {F : Fr} {φ : Nat → Value} {Z : Nat → Prop} {σ : St} {a : Act} {w : World} (hS : SimAt F φ Z σ a w) {r : ResultVar} {x : AV} (h : ResV T σ r x) : ∃ v, (getRes a.tmps r).run P w = .ok v w ∧ relV (cxOf φ Z σ w) x v := by
  cases h with
  | tmp h => exact ⟨_, rfl, by rw [← h]; exact hS.env _⟩
  | @cell a' t r k row i x ha hr hv ht hg hl hx =>
    have h1 := hS.env a'
    rw [ha] at h1
    obtain ⟨g, m, c, e1, e2⟩ := ptr_open hS hr hv h1
    obtain ⟨n, xs, hm⟩ := rowMem hS hr
    obtain ⟨u, hu, hrel⟩ := hm.cell e1 hl
    obtain ⟨inf, d, hk⟩ := hT.known ht
    have hu' : w.cell? ⟨g, 0, none⟩ = some u := hu
    exact ⟨u, by simp only [getRes, e2, asAddr, Sem.run_bind, Sem.run_pure, Result.andThen_ok]; simp [loadVar, hk.run_agg w, hg, hu'], by rw [hx]; exact hrel⟩
  | @agg a' t r k row i xs' ha hr hv ht hg hl hx =>
    have h1 := hS.env a'
    rw [ha] at h1
    obtain ⟨g, m, c, e1, e2⟩ := ptr_open hS hr hv h1
    obtain ⟨n, xs, hm⟩ := rowMem hS hr
    obtain ⟨us, h3, h4, h5⟩ := cells_list (cx := cxOf φ Z σ w) (cs := row.cs) (f := fun j => w.cell? ⟨g, j, none⟩) i.size 0 (fun j a b => hm.cell e1 (by omega))
    have h6 := run_load_many hT ht hg h3 h4
    refine ⟨.agg us.toArray, ?_, by rw [hx]; simp only [relV]; exact ⟨us, rfl, h5⟩⟩
    simp only [Instr.loadAt, Instr.sureAddr, Sem.run_bind, Sem.run_pure, Result.andThen_ok] at h6
    simp only [getRes, e2, asAddr, Sem.run_bind, Sem.run_pure, Result.andThen_ok, h6]
theorem resL_run {P : Program} {T : List (Nat × TyI)} (hT : TabOk P T) {F : Fr} {φ : Nat → Value} {Z : Nat → Prop} {σ : St} {a : Act} {w : World} (hS : SimAt F φ Z σ a w) {rs : List ResultVar} {xs : List AV} (h : ResL T σ rs xs) : ∃ vs, (rs.mapM (getRes a.tmps)).run P w = .ok vs w ∧ relL (cxOf φ Z σ w) xs vs := by
  induction h with
  | nil => exact ⟨[], by simp, by simp [relL]⟩
  | cons h k ih =>
    obtain ⟨v, h1, h2⟩ := resV_run hT hS h
    obtain ⟨vs, h3, h4⟩ := ih
    exact ⟨v :: vs, by simp [List.mapM_cons, h1, h3], by simp only [relL]; exact ⟨v, vs, rfl, h2, h4⟩⟩
def packRes : List Value → Value
  | [v] => v
  | vs => .tuple vs.toArray
theorem results_run {P : Program} {fn : Func} {rs : List ResultVar} (hrs : fn.results = rs.toArray) {tmps : Array Value} {w : World} {vs : List Value} (h : (rs.mapM (getRes tmps)).run P w = .ok vs w) :
    (results fn tmps).run P w = .ok (packRes vs) w := by
  have e : results fn tmps = (do let vs ← fn.results.mapM (getRes tmps); pure (if h : vs.size = 1 then vs[0] else .tuple vs)) := by
    unfold results
    congr 1
  rw [e, hrs, Array.mapM_eq_mapM_toList]
  simp only [Sem.run_bind, Sem.run_map, h, Result.andThen_ok, Sem.run_pure]
  congr 1
  match vs with
  | [] => rfl
  | [v] => rfl
  | u :: v :: vs => simp [packRes]

def scalL (cs : List AV) : Prop := ∀ x, x ∈ cs → ∃ c, x = AV.v c
theorem scal_rel {cx cx' : Cx} : ∀ {cs : List AV} {xs : List Value}, scalL cs → relL cx cs xs → relL cx' cs xs
  | [], xs, _, h => by simpa [relL] using h
  | x :: cs, xs, hs, h => by
    simp only [relL] at h ⊢
    obtain ⟨u, us, rfl, h1, h2⟩ := h
    obtain ⟨c, rfl⟩ := hs x (by simp)
    exact ⟨u, us, rfl, by simpa [relV] using h1, scal_rel (fun y hy => hs y (by simp [hy])) h2⟩
inductive Exp1 (σ : St) : AV → AV → List Nat → Prop
  | v {c c' : Value} (h : c' = c) : Exp1 σ (.v c) (.v c') []
  | nil {ty sz : Nat} {cs : List AV} (h : 0 < sz) (hc : cs = []) : Exp1 σ (.v (.slice none 0 0)) (.sl ty sz cs) []
  | own {r k ty sz : Nat} {row : Row} {cs : List AV} (hr : σ.row r = some row) (hv : row.ver = k) (hp : row.pure = true) (hb : row.box = false) (ht : ty = row.ty) (hs : sz = row.sz) (hc : cs = row.cs) (hsc : scalL cs) : Exp1 σ (.own r k) (.sl ty sz cs) [r]
inductive ExpL1 (σ : St) : List AV → List AV → List Nat → Prop
  | nil : ExpL1 σ [] [] []
  | cons {x y : AV} {xs ys : List AV} {u us : List Nat} (h : Exp1 σ x y u) (k : ExpL1 σ xs ys us) : ExpL1 σ (x :: xs) (y :: ys) (u ++ us)
inductive Exp (σ : St) : AV → AV → List Nat → Prop
  | one {x y : AV} {u : List Nat} (h : Exp1 σ x y u) : Exp σ x y u
  | agg {xs ys : List AV} {u : List Nat} (h : ExpL1 σ xs ys u) : Exp σ (.agg xs) (.agg ys) u
inductive ExpL (σ : St) : List AV → List AV → List Nat → Prop
  | nil : ExpL σ [] [] []
  | cons {x y : AV} {xs ys : List AV} {u us : List Nat} (h : Exp σ x y u) (k : ExpL σ xs ys us) : ExpL σ (x :: xs) (y :: ys) (u ++ us)
inductive ExpR (σ : St) : List AV → AV → List Nat → Prop
  | one {x y : AV} {u : List Nat} (h : Exp σ x y u) : ExpR σ [x] y u
  | two {x x' : AV} {xs ys : List AV} {u : List Nat} (h : ExpL σ (x :: x' :: xs) ys u) : ExpR σ (x :: x' :: xs) (.tup ys) u
  | none : ExpR σ [] (.tup []) []
def blksOf (φ : Nat → Value) (u : List Nat) : List Nat := u.flatMap fun r => (φ r).ownBlock.toList
theorem exp1_rel {F : Fr} {φ : Nat → Value} {Z : Nat → Prop} {σ : St} {a : Act} {w : World} (hS : SimAt F φ Z σ a w) {x y : AV} {u : List Nat} (h : Exp1 σ x y u) {v : Value} (hx : relV (cxOf φ Z σ w) x v) (Zr : Nat → Prop) :
    relO w F.w0.heap.size Zr y v (blksOf φ u) ∧ ∀ r, r ∈ u → ∃ row, σ.row r = some row ∧ row.box = false := by
  cases h with
  | v h => subst h; exact ⟨by simpa [relO, blksOf, relV] using hx, by simp⟩
  | nil h hc =>
    simp only [relV] at hx
    subst hx hc
    refine ⟨?_, by simp⟩
    simp only [relO]
    exact ⟨by simp [blksOf, Value.ownBlock], h, by simp [pureL], 0, [], World.ownsRow_nil w _ _ _, by simp, by simp [relL], by simp⟩
  | @own r k ty sz row cs hr hv hp hb ht hs hc hsc =>
    subst ht hs hc
    have e1 := own_open hS hr hv hx
    obtain ⟨n, xs, hm⟩ := rowMem hS hr
    have hrr := hS.rows r row hr
    refine ⟨?_, fun r' h => by simp at h; subst h; exact ⟨row, hr, hb⟩⟩
    simp only [relO]
    refine ⟨by simp [blksOf, e1], hrr.sz, hrr.pur hp, n, xs, ?_, hm.len, scal_rel hsc hm.rel, hm.one⟩
    rw [e1]
    refine ⟨hm.own.1, ?_⟩
    rcases hm.own.2 with h | ⟨g, cap, cur, h1, _, h2⟩
    · exact .inl h
    · refine .inr ⟨g, cap, cur, h1, ?_, h2⟩
      rcases hrr.blk g (by rw [h1]; rfl) with h | h
      · exact h
      · rw [hb] at h; cases h.1
theorem blksOf_append (φ : Nat → Value) (u v : List Nat) : blksOf φ (u ++ v) = blksOf φ u ++ blksOf φ v := by simp [blksOf]
theorem expL1_rel {F : Fr} {φ : Nat → Value} {Z : Nat → Prop} {σ : St} {a : Act} {w : World} (hS : SimAt F φ Z σ a w) {xs ys : List AV} {u : List Nat} (h : ExpL1 σ xs ys u) (Zr : Nat → Prop) : ∀ {vs : List Value}, relL (cxOf φ Z σ w) xs vs →
    relOL w F.w0.heap.size Zr ys vs (blksOf φ u) ∧ ∀ r, r ∈ u → ∃ row, σ.row r = some row ∧ row.box = false := by
  induction h with
  | nil => intro vs hx; simp only [relL] at hx; subst hx; exact ⟨by simp [relOL, blksOf], by simp⟩
  | cons h k ih =>
    intro vs hx
    simp only [relL] at hx
    obtain ⟨v, vs, rfl, h1, h2⟩ := hx
    obtain ⟨h3, h4⟩ := exp1_rel hS h h1 Zr
    obtain ⟨h5, h6⟩ := ih h2
    refine ⟨?_, fun r hr => by
      rcases List.mem_append.1 hr with hr | hr
      · exact h4 r hr
      · exact h6 r hr⟩
    rw [blksOf_append]
    simp only [relOL]
    exact ⟨v, vs, _, _, rfl, rfl, h3, h5⟩
theorem exp_rel {F : Fr} {φ : Nat → Value} {Z : Nat → Prop} {σ : St} {a : Act} {w : World} (hS : SimAt F φ Z σ a w) {x y : AV} {u : List Nat} (h : Exp σ x y u) {v : Value} (hx : relV (cxOf φ Z σ w) x v) (Zr : Nat → Prop) :
    relO w F.w0.heap.size Zr y v (blksOf φ u) ∧ ∀ r, r ∈ u → ∃ row, σ.row r = some row ∧ row.box = false := by
  cases h with
  | one h => exact exp1_rel hS h hx Zr
  | agg h =>
    simp only [relV] at hx
    obtain ⟨vs, rfl, hx⟩ := hx
    obtain ⟨h1, h2⟩ := expL1_rel hS h Zr hx
    exact ⟨by simp only [relO]; exact ⟨vs, rfl, h1⟩, h2⟩
theorem expL_rel {F : Fr} {φ : Nat → Value} {Z : Nat → Prop} {σ : St} {a : Act} {w : World} (hS : SimAt F φ Z σ a w) {xs ys : List AV} {u : List Nat} (h : ExpL σ xs ys u) (Zr : Nat → Prop) : ∀ {vs : List Value}, relL (cxOf φ Z σ w) xs vs →
    relOL w F.w0.heap.size Zr ys vs (blksOf φ u) ∧ ∀ r, r ∈ u → ∃ row, σ.row r = some row ∧ row.box = false := by
  induction h with
  | nil => intro vs hx; simp only [relL] at hx; subst hx; exact ⟨by simp [relOL, blksOf], by simp⟩
  | cons h k ih =>
    intro vs hx
    simp only [relL] at hx
    obtain ⟨v, vs, rfl, h1, h2⟩ := hx
    obtain ⟨h3, h4⟩ := exp_rel hS h h1 Zr
    obtain ⟨h5, h6⟩ := ih h2
    refine ⟨?_, fun r hr => by
      rcases List.mem_append.1 hr with hr | hr
      · exact h4 r hr
      · exact h6 r hr⟩
    rw [blksOf_append]
    simp only [relOL]
    exact ⟨v, vs, _, _, rfl, rfl, h3, h5⟩
theorem expR_rel {F : Fr} {φ : Nat → Value} {Z : Nat → Prop} {σ : St} {a : Act} {w : World} (hS : SimAt F φ Z σ a w) {xs : List AV} {y : AV} {u : List Nat} (h : ExpR σ xs y u) (Zr : Nat → Prop) {vs : List Value} (hx : relL (cxOf φ Z σ w) xs vs) :
    relO w F.w0.heap.size Zr y (packRes vs) (blksOf φ u) ∧ ∀ r, r ∈ u → ∃ row, σ.row r = some row ∧ row.box = false := by
  cases h with
  | one h =>
    simp only [relL] at hx
    obtain ⟨v, vs, rfl, h1, rfl⟩ := hx
    exact exp_rel hS h h1 Zr
  | two h =>
    obtain ⟨h1, h2⟩ := expL_rel hS h Zr hx
    simp only [relL] at hx
    obtain ⟨v, vs, rfl, _, v', vs', rfl, _, _⟩ := hx
    exact ⟨by simp only [relO]; exact ⟨_, rfl, h1⟩, h2⟩
  | none =>
    simp only [relL] at hx
    subst hx
    exact ⟨by simp only [relO, relOL, blksOf]; exact ⟨[], rfl, rfl, rfl⟩, by simp⟩
theorem blks_nodup {F : Fr} {φ : Nat → Value} {Z : Nat → Prop} {σ : St} {a : Act} {w : World} (hS : SimAt F φ Z σ a w) : ∀ {u : List Nat}, u.Nodup → (∀ r, r ∈ u → ∃ row, σ.row r = some row ∧ row.box = false) → (blksOf φ u).Nodup ∧ ∀ b, b ∈ blksOf φ u → F.w0.heap.size ≤ b
  | [], _, _ => by simp [blksOf]
  | r :: u, hn, hr => by
    obtain ⟨h1, h2⟩ := List.nodup_cons.1 hn
    obtain ⟨h3, h4⟩ := blks_nodup hS h2 (fun r' h => hr r' (by simp [h]))
    obtain ⟨row, e1, e2⟩ := hr r (by simp)
    have e : blksOf φ (r :: u) = (φ r).ownBlock.toList ++ blksOf φ u := by simp [blksOf]
    rw [e]
    cases hb : (φ r).ownBlock with
    | none => simpa using ⟨h3, h4⟩
    | some g =>
      refine ⟨?_, fun b hb' => ?_⟩
      · simp only [Option.toList_some, List.singleton_append, List.nodup_cons]
        refine ⟨fun hm => ?_, h3⟩
        simp only [blksOf, List.mem_flatMap, Option.mem_toList] at hm
        obtain ⟨s, hs1, hs2⟩ := hm
        obtain ⟨row', e3, _⟩ := hr s (by simp [hs1])
        exact hS.disj r s (fun e => h1 (by rw [e]; exact hs1)) (by simp [e1]) (by simp [e3]) g hb hs2
      · rcases List.mem_append.1 hb' with h | h
        · simp at h
          subst h
          rcases (hS.rows r row e1).blk b hb with h | h
          · exact h
          · rw [e2] at h; cases h.1
        · exact h4 b h

def entE : Nat → List AV → List (Nat × AV)
  | _, [] => []
  | k, x :: xs => (k, x) :: entE (k + 1) xs
theorem entE_get : ∀ (xs : List AV) (k t : Nat), lkE (entE k xs) t = if k ≤ t ∧ t < k + xs.length then xs.getD (t - k) .any else .any
  | [], k, t => by simp [entE, lkE]
  | x :: xs, k, t => by
    simp only [entE, lkE]
    by_cases e : k = t
    · subst e; simp
    · have : Nat.beq k t = false := by
        cases hb : Nat.beq k t
        · rfl
        · exact absurd (Nat.eq_of_beq_eq_true hb) e
      rw [this]
      simp only [cond_false]
      rw [entE_get xs (k + 1) t]
      by_cases h : k + 1 ≤ t ∧ t < k + 1 + xs.length
      · rw [if_pos h, if_pos (by simp; omega)]
        rw [show t - k = (t - (k + 1)) + 1 by omega, List.getD_cons_succ]
      · rw [if_neg h, if_neg (by simp; omega)]
/-- at its end: the results are these -/
def ResOk (T : List (Nat × TyI)) (rs : List ResultVar) (res : AV) (e : Exit) (σ : St) : Prop := (e = .ret ∨ e = .normal) ∧ ∃ xs u, ResL T σ rs xs ∧ ExpR σ xs res u ∧ u.Nodup
theorem fn_of_ax {P : Program} {T : List (Nat × TyI)} (hT : TabOk P T) {f nt : Nat} {fn : Func} {c : Code} {rs : List ResultVar} {ts : List AV} {res : AV} (hf : P.funcs[f]? = some fn) (hb : fn.body = some c) (hnm : (fn.name == "runtime.NumGoroutine") = false) (hnt : fn.ntmps = nt) (hrs : fn.results = rs.toArray)
    (hlen : ts.length ≤ nt) (h : AX P nt c (mkSt (entE 0 ts) []) (ResOk T rs res)) : FnS P f ts res := by
  refine ⟨⟨fn, hf, hnm, by rw [hb]; rfl⟩, fun w vs hp hx => ?_⟩
  obtain ⟨e, σ', ⟨he, xs, u, h1, h2, h3⟩, hend⟩ := h
  have hl := relL_length hx
  refine calls_of_wp hf hb ?_
  let F : Fr := ⟨w, fun _ => False, none, nt, fun _ => True⟩
  have hS : Sim F (mkSt (entE 0 ts) []) { tmps := vs.toArray ++ Array.replicate (fn.ntmps - vs.toArray.size) undef, defers := [] } w := by
    refine ⟨fun _ => .slice none 0 0, fun b => b < w.heap.size, rfl, ?_, ?_, ?_, ?_, fun b h => h, ?_, fun b h _ => trivial, ⟨rfl, rfl, rfl, Nat.le_refl _, fun _ _ _ => rfl⟩, ?_⟩
    · simp [F]; omega
    · intro i
      simp only [mkSt]
      rw [entE_get]
      by_cases hi : i < ts.length
      · rw [if_pos (by omega)]
        obtain ⟨v, hv1, hv2⟩ := relL_get hx i (ts[i]) (by simp [hi])
        rw [Array.getD_eq_getD_getElem?, Array.getElem?_append_left (by simp; omega)]
        simp [List.getD, hi, hv1]
        exact relV_pure ⟨fun b hb => ⟨hb, rfl⟩⟩ _ _ (pureL_get hp i _ (by simp [hi])) hv2
      · rw [if_neg (by omega)]; simp [relV]
    · intro r row hr; simp [mkSt, lkR] at hr
    · intro r s _ hr; simp [mkSt, lkR] at hr
    · intro b _ r hr; simp [mkSt, lkR] at hr
    · intro t ht; simp [F] at ht
  refine Code.wp_mono (fun e1 a1 w1 hh => ?_) (hend F rfl _ w hS)
  obtain ⟨rfl, φ, Z, hS1⟩ := hh
  obtain ⟨vs1, h4, h5⟩ := resL_run hT hS1 h1
  have h6 := results_run hrs h4
  obtain ⟨h7, h8⟩ := expR_rel hS1 h2 (fun b => w.heap.size ≤ b ∧ b < w1.heap.size ∧ b ∉ blksOf φ u) h5
  obtain ⟨h9, h10⟩ := blks_nodup hS1 h3 h8
  have hk := hS1.keep
  have hpost : FnPost w w1 res (packRes vs1) (blksOf φ u) :=
    ⟨⟨hk.os, hk.tape, hk.output, hk.size, fun k hk' => hk.block k hk' (fun h => h)⟩, h9, h10, h7⟩
  rcases he with rfl | rfl
  · exact ⟨hS1.dfr, _, h6, _, _, rfl, hpost⟩
  · exact ⟨hS1.dfr, _, h6, _, _, rfl, hpost⟩

end Go.Sym
