/-
  How a law's arguments are opened: what comes in as data is read as halls, slides and numbers.
-/
import Derived.Test.YtnfjmcenjpoloaaDoorRows
import Derived.Test.YtnfjmcenjpoloaaDoorA
import Derived.ProofKit
import Derived.OpenShut
import Derived.ChangeOld
import Derived.Lib.SmallJoins
set_option linter.unusedVariables false
set_option maxRecDepth 100000
namespace Go.Proofs.YtnfjmcenjpoloaaDoor
open Go Go.RowKit Go.Park
open Go.ChangeShapes Go.WideShapes Go.ChangeAt

theorem Tryd.own : ownKnob Tryd.prog.godebug = none := by kernel_rfl
theorem Tryd.laidOut : laidOutB Tryd.prog = true := by kernel_rfl
theorem Tryd.cellsInt : Tryd.prog.cellsOf 3 = 1 := by kernel_rfl

/-- a hall among the law's arguments -/
def RawHall (w : World) (v : Value) (h : PHall) : Prop :=
  ∃ ao c, v = .agg #[.int .i64 h.wide, .int .i64 h.deep, .slice ao h.cells.length c] ∧ h.cells.length ≤ c ∧ c ≤ maxLen ∧ CellsAt w ao h.cells.length (gi h.cells)
def RawInts (w : World) (v : Value) (l : List Int) : Prop := ∃ ao c, v = .slice ao l.length c ∧ l.length ≤ c ∧ c ≤ maxLen ∧ CellsAt w ao l.length (gi l)

theorem cells_of_add {w : World} {a : Addr} {n : Nat} {f : Nat → Int} (h : ∀ i, i < n → w.cell? (a.add i) = some (.int .i64 (f i))) : CellsAt w (some a) n f := by
  obtain ⟨b, off, spot⟩ := a
  intro j hj
  have hc := h j hj
  have h0 := World.cell?_spot (h 0 (by omega))
  simp [Addr.add] at h0
  subst h0
  refine ⟨b, off, rfl, ?_⟩
  rw [← hc]
  by_cases e : j = 0 <;> simp [Addr.add, e]

section
variable {H : Type} {enc : TypeId × Value → H} {W : World} {base : Nat} {spare : Nat → Bool} {held : Bool}

theorem open_raw_ints {fuel : Nat} {v : Value} {x : DataW H × List MemPlace} (hsp : ∀ b, spare b = true)
    (hf : DataW.trod enc Tryd.prog W base spare held fuel 23 [v] = some x) : ∃ l, RawInts W v l := by
  rcases open_ints Tryd.underlying23 Tryd.underlying3 Tryd.cellsInt hf with ⟨hcs, _⟩ | ⟨a, l, c, zs, hcs, _, hl, hm, hz, _, hcell, hwz⟩
  · simp at hcs
    subst hcs
    exact ⟨[], none, 0, rfl, by simp, by simp, fun j hj => by simp at hj⟩
  · simp at hcs
    subst hcs
    rw [hsp] at hz
    simp at hz
    have hlen : (zs.take l).length = l := by simp; omega
    refine ⟨zs.take l, some a, c, by rw [hlen], by rw [hlen]; exact hl, hm, ?_⟩
    rw [hlen]
    refine cells_of_add fun i hi => ?_
    rw [hcell i (by omega)]
    simp [gi, List.getD, hi]

theorem open_raw_hall {v : Value} {d : DataW H} {p : List MemPlace} (hsp : ∀ b, spare b = true) (hv : Value.okWide Tryd.prog W .any base 59 v)
    (h : DataW.Trod enc Tryd.prog W 0 spare held 59 v d p) : ∃ h, RawHall W v h := by
  obtain ⟨c0, c1, c2, y0, y1, y2, m, rfl, rfl, rfl, hy0, hy1, hy2⟩ := Go.Joins.open_agg3 Tryd.underlying59 (by kernel_rfl) (by kernel_rfl) hv h
  obtain ⟨a, e0, rfl, wa⟩ := DataW.trod_int Tryd.underlying3 hy0
  obtain ⟨b, e1, rfl, wb⟩ := DataW.trod_int Tryd.underlying3 hy1
  simp at e0 e1
  subst e0 e1
  obtain ⟨l, ao, c, rfl, h1, h2, h3⟩ := open_raw_ints hsp hy2
  exact ⟨⟨a, b, l⟩, ao, c, rfl, h1, h2, h3⟩

theorem lt_of_trod {t : TypeId} {v : Value} {d : DataW H} {p : List MemPlace} (k0 : DataW.Trod enc Tryd.prog W 0 spare held t v d p) : ∀ x ∈ p, x.block < W.heap.size := by
  obtain ⟨m, hm⟩ := k0
  exact DataW.trod_lt m _ _ _ hm
end

end Go.Proofs.YtnfjmcenjpoloaaDoor
