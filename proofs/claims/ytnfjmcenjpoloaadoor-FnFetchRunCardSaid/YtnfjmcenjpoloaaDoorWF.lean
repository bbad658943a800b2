/-
  A part of an owned row; the least of two.
-/
import Derived.Test.YtnfjmcenjpoloaaDoorP6
set_option linter.unusedVariables false
set_option linter.unusedSimpArgs false
set_option maxRecDepth 100000
namespace Go.Sym
open Go Go.RowKit
section
variable {P : Program} {T : List (Nat × TyI)} {nt : Nat} {dst : Option Nat} {ty : Nat} {pos : String} {aft : Array Edge} {gd : Option (Nat × Bool)} {E : List (Nat × AV)} {H : Hp} {σ : St}
theorem does_upto_own (hT : TabOk P T) {t e r k o : Nat} {x y : Operand} {i j : TyI} {row : Row} {z : Int} (hd : dstOk nt dst = true) (hx : σ.ev x = .own r k) (hr : σ.row r = some row) (hv : row.ver = k) (hy : σ.ev y = .int z) (ht : lkT T t = some i) (hu : i.u = .slice e) (he : lkT T e = some j) (hs : j.size = row.sz) (ho : z.toNat = o) (hz : 0 ≤ z ∧ o * row.sz ≤ row.cs.length) :
    Does P nt ⟨dst, .slice t x none (some y) none, ty, pos, aft, gd⟩ ⟨fo x ++ fo y, [r]⟩ (.pre r k o) [] σ :=
  does_pure hd fun τ hag F φ Z a w hF hS => by
    have e2 := ev_v hag hS hy (by simp +contextual)
    have hr' : τ.row r = some row := by rw [hag.2 r (by simp)]; exact hr
    have e1 := own_open hS hr' hv (ev_rel hag hS hx (by simp +contextual))
    obtain ⟨n, xs, hm⟩ := rowMem hS hr'
    have h5 := (hS.rows r row hr').sz
    have h6 := hm.len
    obtain ⟨inf, d, hk⟩ := hT.known ht
    obtain ⟨inf2, d2, hk2⟩ := hT.known he
    obtain ⟨m, rfl⟩ := Int.eq_ofNat_of_zero_le hz.1
    have hm0 : m = o := by simpa using ho
    subst hm0
    have hkn : m ≤ n := by
      have h8 : m * row.sz ≤ n * row.sz := by omega
      exact Nat.le_of_mul_le_mul_right h8 h5
    rcases hm.own.2 with ⟨h1, h2⟩ | ⟨g, cap, cur, h1, _, _, h3, _⟩
    · have : m = 0 := by omega
      subst this
      refine ⟨.slice none 0 0, ?_, ?_⟩
      · simp [execOp, e1, h1, e2, Instr.sliceAt, Instr.slice, Instr.sliceBounds, Instr.sliceBound, asIntOf, run_underlying (hk.slice hu), run_sizeOf_known hk2.info]
      · simp only [relV]
        exact ⟨_, _, rowTip hS hr', by omega, fun _ => .inl ⟨h1, h1.symm, trivial⟩⟩
    · have hkn' : (m : Int) ≤ (cap : Int) := by omega
      refine ⟨.slice (some ⟨g, 0, none⟩) m cap, ?_, ?_⟩
      · by_cases hc0 : cap = 0
        · have : m = 0 := by omega
          subst this hc0
          simp [execOp, e1, h1, e2, Instr.sliceAt, Instr.slice, Instr.sliceBounds, Instr.sliceBound, asIntOf, run_underlying (hk.slice hu), run_sizeOf_known hk2.info]
        · simp [execOp, e1, h1, e2, Instr.sliceAt, Instr.slice, Instr.sliceBounds, Instr.sliceBound, asIntOf, run_underlying (hk.slice hu), run_sizeOf_known hk2.info, hkn', hc0, Addr.add]
          try (intro hh; omega)
      · simp only [relV]
        exact ⟨_, _, rowTip hS hr', by omega, fun _ => .inr ⟨g, n, cap, h1, rfl, hkn⟩⟩
end
end Go.Sym
