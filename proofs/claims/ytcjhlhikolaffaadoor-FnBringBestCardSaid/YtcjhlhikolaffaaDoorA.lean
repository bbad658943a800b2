/-
  What the laws' own helpers do: copies of slices and halls, their sizes, their comparison, the marks.
-/
import Derived.Test.YtcjhlhikolaffaaDoorProg
import Derived.Test.YtcjhlhikolaffaaDoorBase
set_option linter.unusedVariables false
namespace Go.Proofs.YtcjhlhikolaffaaDoor
open Go Go.RowKit Go.Park

/-- a slice of ints of the call's own, in a block from lo on -/
def OwnInts (lo : Nat) (w : World) (v : Value) (l : List Int) : Prop := l.length ≤ lim ∧ w.ownsRow lo 3 1 v l.length (l.map (Value.int .i64))
theorem OwnInts.at {lo : Nat} {w : World} {v : Value} {l : List Int} (h : OwnInts lo w v l) : IntsAt w v l := intsAt_of_own h.1 h.2
theorem OwnInts.keep {lo : Nat} {w w' : World} {v : Value} {l : List Int} (h : OwnInts lo w v l) (hb : Below w.heap.size w w') : OwnInts lo w' v l := ⟨h.1, own_keep h.2 hb⟩
theorem OwnInts.base {lo lo' : Nat} {w : World} {v : Value} {l : List Int} (h : OwnInts lo w v l) (hl : lo' ≤ lo) : OwnInts lo' w v l := ⟨h.1, own_base h.2 hl⟩
theorem OwnInts.blk {lo : Nat} {w : World} {v : Value} {l : List Int} (h : OwnInts lo w v l) : Blk v lo w.heap.size := blk_of_own h.2
theorem OwnInts.keepG {lo lo1 hi1 lo2 hi2 : Nat} {w w' : World} {u v : Value} {l : List Int} (h : OwnInts lo w v l) (hg : w.grownBy w' u.ownBlock) (hu : Blk u lo1 hi1) (hv : Blk v lo2 hi2) (hd : hi1 ≤ lo2 ∨ hi2 ≤ lo1) : OwnInts lo w' v l :=
  ⟨h.1, own_keepG h.2 hg hu hv hd⟩
theorem OwnInts.slice {lo : Nat} {w : World} {v : Value} {l : List Int} (h : OwnInts lo w v l) : ∃ ao c, v = .slice ao l.length c := by
  obtain ⟨ao, c, e, _⟩ := h.at
  exact ⟨ao, c, e⟩
/-- a hall of the call's own: the value of its cells is cv -/
def OwnHall (lo : Nat) (w : World) (v cv : Value) (h : PHall) : Prop := v = .agg #[.int .i64 h.wide, .int .i64 h.deep, cv] ∧ OwnInts lo w cv h.cells
theorem OwnHall.at {lo : Nat} {w : World} {v cv : Value} {h : PHall} (hh : OwnHall lo w v cv h) : HallAt w v h := ⟨cv, hh.1, hh.2.at⟩

/-! the copy of a slice of ints -/
theorem Tryd.infoInt : (Tryd.prog.info? 3).map (fun i => (i.zero, i.size, i.bytes)) = some (some (.int .i64 0), 1, 8) := by kernel_rfl






end Go.Proofs.YtcjhlhikolaffaaDoor
