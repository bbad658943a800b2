/-
  CellPlace and HallEmpty.
-/
import Derived.Test.YtjkogihfdnjdhaaD
import Derived.Deep.DeepMust
set_option linter.unusedVariables false
set_option maxRecDepth 100000
namespace Go.Proofs.Ytjkogihfdnjdhaa
open Go Go.RowKit Go.Park

def placeF (h : PHall) (c : Int) : Int × Int := if validB h = true ∧ hasCellB h c = true then (c % h.wide, c / h.wide) else (-1, -1)
def pairV (p : Int × Int) : Value := .tuple #[.int .i64 p.1, .int .i64 p.2]
theorem hasCell_iff {h : PHall} {c : Int} : hasCellB h c = true ↔ 0 ≤ c ∧ c < h.cells.length := by unfold hasCellB; rw [inR_true]; omega
theorem hasCell_no {h : PHall} {c : Int} : hasCellB h c = false ↔ ¬ (0 ≤ c ∧ c < h.cells.length) := by
  rw [← hasCell_iff]; simp
theorem hasCell_calls {h : PHall} {c : Int} {b : Bool} (hb : hasCellB h c = b) : ∀ (w' : World) (v : Value), HallAt w' v h → Calls Try.prog 43 #[v, .int .i64 c] w' (Gives (.bool b) w') := fun w' v hh => by rw [← hb]; exact hasCell_any w' _ h c hh



/-! HallEmpty -/
def hallEmptyF (x y : Int) : PHall := if inR x 2 4 = true ∧ inR y 2 3 = true then ⟨x, y, List.replicate (x * y).toNat 0⟩ else ⟨0, 0, []⟩
/-- a call returns a hall of its own -/
def GivesHall (h : PHall) (w : World) (e : Ending) (w' : World) : Prop :=
  ∃ cv, e = .returned (.agg #[.int .i64 h.wide, .int .i64 h.deep, cv]) ∧ OwnInts w.heap.size w' cv h.cells ∧ Below w.heap.size w w'
theorem ownInts_nil (lo : Nat) (w : World) : OwnInts lo w (.slice none 0 0) [] := ⟨by simp [lim], World.ownsRow_nil _ _ _ _⟩
theorem ownInts_zero {lo n : Nat} {w : World} {v : Value} (hn : n ≤ 12) (h : w.ownsRow lo 3 1 v n (madeCells (Value.int .i64 0).cells (n * 1)).toList) : OwnInts lo w v (List.replicate n 0) := by
  refine ⟨by simp [lim]; omega, ?_⟩
  have e : (madeCells (Value.int .i64 0).cells (n * 1)).toList = (List.replicate n (0 : Int)).map (Value.int .i64) := by
    rw [show (Value.int .i64 0).cells = #[Value.int .i64 0] from rfl, toList_madeCells_one, List.map_replicate, Nat.mul_one]
  rw [e] at h
  simpa using h





end Go.Proofs.Ytjkogihfdnjdhaa
