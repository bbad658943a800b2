/-
  Slides compared.
-/
import Derived.Test.YtnfjmcenjpoloaaDoorW4
import Derived.Laws.StructEq
import Derived.ChangeKeysEq
set_option linter.unusedVariables false
set_option linter.unusedSimpArgs false
set_option maxRecDepth 100000
namespace Go.Proofs.YtnfjmcenjpoloaaDoor
open Go Go.RowKit Go.Park Go.Sym
/-! slides compared -/
section
variable {nt : Nat} {E : List (Nat × AV)} {H : Hp} {dst : Option Nat} {ty : Nat} {pos : String} {aft : Array Edge} {gd : Option (Nat × Bool)}
theorem does_eqlb {P : Program} {T : List (Nat × TyI)} (hT : TabOk P T) {t t' : Nat} {i : TyI} {x y : Operand} {a b : Bool} (hd : dstOk nt dst = true) (ht : lkT T t = some i) (hu : i.u = .bool) (hx : (mkS E H).ev x = .bool a) (hy : (mkS E H).ev y = .bool b) :
    Does P nt ⟨dst, .binOp .eql t x y t', ty, pos, aft, gd⟩ ⟨fo x ++ fo y, []⟩ (.bool (a == b)) [] (mkS E H) :=
  does_pure hd fun τ hag F φ Z a' w hF hS => by
    obtain ⟨inf, d, hk⟩ := hT.known ht
    exact ⟨.bool (a == b), by simp [execOp, eqGuard, binOp, run_equal_bool _ _ _ _ (hk.bool hu), ev_v hag hS hx (by simp +contextual), ev_v hag hS hy (by simp +contextual)], by simp [relV]⟩
end
end Go.Proofs.YtnfjmcenjpoloaaDoor
