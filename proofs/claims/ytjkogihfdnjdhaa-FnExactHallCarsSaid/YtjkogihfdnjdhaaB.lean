/-
  SlidesBack.
-/
import Derived.Test.YtjkogihfdnjdhaaS2
set_option linter.unusedVariables false
namespace Go.Proofs.Ytjkogihfdnjdhaa
open Go Go.RowKit Go.Park

def backF (l : List (Int × Int)) : List (Int × Int) := (l.map fun s => (s.2, s.1)).reverse
theorem backF_length (l : List (Int × Int)) : (backF l).length = l.length := by simp [backF]
/-- what is gathered when k slides are left -/
def backTo (l : List (Int × Int)) (k : Nat) : List (Int × Int) := backF (l.drop k)
theorem backTo_all (l : List (Int × Int)) : backTo l l.length = [] := by simp [backTo, backF]
theorem backTo_zero (l : List (Int × Int)) : backTo l 0 = backF l := by simp [backTo]
theorem backTo_step {l : List (Int × Int)} {k : Nat} (h : k < l.length) : backTo l k = backTo l (k+1) ++ [((gs l k).2, (gs l k).1)] := by
  unfold backTo backF
  rw [List.drop_eq_getElem_cons h, gs_get h, List.map_cons, List.reverse_cons]
theorem backTo_length {l : List (Int × Int)} {k : Nat} : (backTo l k).length = l.length - k := by simp [backTo, backF]

/-- a call returns slides of its own -/
def GivesSlides (l : List (Int × Int)) (w : World) (e : Ending) (w' : World) : Prop :=
  ∃ v, e = .returned v ∧ OwnSlides w.heap.size w' v l ∧ Below w.heap.size w w'

theorem own_append {lo : Nat} {w' : World} {v' : Value} {l : List (Int × Int)} {a b : Int} (hl : l.length + 1 ≤ lim)
    (h : w'.ownsRow lo 55 2 v' (l.length + 1) (flat l ++ [.int .i64 a, .int .i64 b])) : OwnSlides lo w' v' (l ++ [(a, b)]) := by
  refine ⟨by simpa using hl, ?_⟩
  rw [flat_append, List.length_append]
  exact h
theorem own_empty_row (w : World) : OwnSlides w.heap.size (w.alloc (.cells #[] 55)) (.slice (some ⟨w.heap.size, 0, none⟩) 0 0) [] :=
  ⟨by simp [lim], World.ownsRow_made w #[] 0 (Nat.le_refl _) (by simp) (by simp)⟩



end Go.Proofs.Ytjkogihfdnjdhaa
