/-
  The table that is laid, as the search asks for it.
-/
import Derived.Test.YtnfjmcenjpoloaaDoorRC
import Derived.Test.YtnfjmcenjpoloaaDoorRow
import Derived.Test.YtnfjmcenjpoloaaDoorTie
import Derived.LaidHandle
import Derived.LaidMore
import Derived.JoinedOf
import Derived.Stop.Joined
import Derived.SevenTiedAt
import Derived.ChangeVars
import Derived.OpenShut
import Derived.Lay
set_option linter.unusedVariables false
set_option linter.unusedSimpArgs false
set_option maxRecDepth 100000
namespace Go.Proofs.YtnfjmcenjpoloaaDoor
open Go Go.RowKit Go.Park Go.Sym Go.Graph
open Go.ChangeShapes Go.WideShapes Go.ChangeAt

theorem pure_u8s : ∀ l : List Nat, pureL (l.map fun (z : Nat) => AV.v (.int .u8 (z : Int)))
  | [] => trivial
  | _ :: l => ⟨trivial, pure_u8s l⟩
theorem tab_of_laid {W : World} {x : String × DataW Unit} {r : List (String × DataW Unit)} (h : laidMet Tryd.prog (x :: ("math/bits.deBruijn64tab", Rows.laid_math_bits_deBruijn64tab) :: r) W) : TabW 3 bruijn W := by
  obtain ⟨ps, ⟨_, _, _, _, _, _, _, _, _, _, ⟨g, t, cs, fuel, p, q, hg, ht, hv, hd, _, _⟩, _⟩, _, _⟩ := h
  obtain rfl := Option.some.inj ((show Tryd.prog.globalNamed "math/bits.deBruijn64tab" = some 3 by kernel_rfl).symm.trans hg)
  obtain rfl := Option.some.inj ((show (Tryd.prog.globals[3]?).map (·.type) = some 156 by kernel_rfl).symm.trans ht)
  obtain ⟨xs, m, _, ex, _, hl, hel⟩ := DataW.trod_array Tryd.underlying156 hd
  have c5 : Tryd.prog.cellsOf 5 = 1 := by kernel_rfl
  have hlen : Lib.deBruijn64tab.length = 64 := by kernel_rfl
  have each : ∀ r, r < 64 → W.cell? ⟨3, r, none⟩ = some (.int .u8 ((Lib.deBruijn64tab.getD r 0 : Nat) : Int)) := by
    intro r hr
    have hE := hel r hr
    rw [c5, Nat.mul_one, List.getElem?_eq_getElem (by omega)] at hE
    obtain ⟨z, e1, e2, _⟩ := DataW.trod_int Tryd.underlying5 hE
    have e3 : (xs.map (·.1)) = Lib.deBruijn64tab.map fun (n : Nat) => .lit (.int .u8 (n : Int)) := (DataW.agg.inj (Prod.mk.inj ex).1).symm
    have e4 : (xs.map (·.1))[r]? = (Lib.deBruijn64tab.map fun (n : Nat) => (DataW.lit (.int .u8 (n : Int)) : DataW Unit))[r]? := by rw [e3]
    rw [List.getElem?_map, List.getElem?_map, List.getElem?_eq_getElem (by omega : r < xs.length), List.getElem?_eq_getElem (by omega : r < Lib.deBruijn64tab.length), e2] at e4
    have hz : z = ((Lib.deBruijn64tab.getD r 0 : Nat) : Int) := by
      simp only [Option.map_some, Option.some.injEq, DataW.lit.injEq, Lit.int.injEq, true_and] at e4
      rw [e4, List.getD, List.getElem?_eq_getElem (by omega : r < Lib.deBruijn64tab.length)]; rfl
    rw [World.var?_cell hg hv r, ← hz]
    have : cs.toList[r]? = some (.int .u8 z) := by
      have h0 : ((cs.toList.drop r).take 1)[0]? = some (.int .u8 z) := by rw [e1]; rfl
      simpa using h0
    simpa using this
  refine ⟨pure_u8s _, cell_lt (each 0 (by omega)), relC_of fun i x hx => ?_⟩
  unfold bruijn at hx
  rw [List.getElem?_map] at hx
  obtain ⟨z, hz, rfl⟩ := Option.map_eq_some_iff.1 hx
  have hi : i < 64 := by have := (List.getElem?_eq_some_iff.1 hz).1; omega
  refine ⟨_, by rw [Nat.zero_add]; exact each i hi, rfl, ?_⟩
  simp only [relV]
  rw [List.getD_eq_getElem?_getD, hz]; rfl
end Go.Proofs.YtnfjmcenjpoloaaDoor
