/-
  The marks that the laws write into results, and how they are held.
-/
import Derived.Test.YtmkdafgcggpahaaDoorA
set_option linter.unusedVariables false
namespace Go.Proofs.YtmkdafgcggpahaaDoor
open Go Go.RowKit Go.Park

def marks (k : Int) (n : Nat) : List Int := (List.range n).map (fun (i : Nat) => k + (i : Int))
theorem marks_length (k : Int) (n : Nat) : (marks k n).length = n := by simp [marks]
theorem gi_marks {k : Int} {n j : Nat} (h : j < n) : gi (marks k n) j = k + j := by simp [gi, marks, List.getD, h]

/-- the marks in an owned row, up to the i-th -/
def Mark (w wr : World) (b g n c : Nat) (k : Int) (i : Nat) : Prop :=
  w.grownBy wr (some g) ∧ ∃ xs : List Value, wr.ownsRow b 3 1 (.slice (some ⟨g, 0, none⟩) n c) n xs ∧ ∀ j, j < i → xs[j]? = some (.int .i64 (k + (j : Int)))
theorem mark_start {w : World} {b g n c : Nat} {k : Int} {xs : List Value} (h : w.ownsRow b 3 1 (.slice (some ⟨g, 0, none⟩) n c) n xs) : Mark w w b g n c k 0 :=
  ⟨grown_refl _ _, xs, h, fun j hj => by omega⟩
theorem mark_cell {w wr : World} {b g n c : Nat} {k : Int} {i : Nat} (h : Mark w wr b g n c k i) {j : Nat} (hj : j < n) : ∃ u, wr.cell? ⟨g, j, none⟩ = some u := by
  obtain ⟨_, xs, ho, _⟩ := h
  rw [ho.cellAt j (by omega)]
  have := ho.1
  exact ⟨xs[j]'(by omega), by simp [show j < xs.length by omega]⟩
theorem mark_free {w wr : World} {b g n c : Nat} {k : Int} {i : Nat} (h : Mark w wr b g n c k i) (j : Nat) : wr.frozen? ⟨g, j, none⟩ = false := by
  obtain ⟨_, xs, ho, _⟩ := h
  exact ho.frozenAt j
theorem mark_step {w wr : World} {b g n c : Nat} {k : Int} {i : Nat} (h : Mark w wr b g n c k i) (hi : i < n) : Mark w (wr.setCell ⟨g, i, none⟩ (.int .i64 (k + (i : Int)))) b g n c k (i+1) := by
  obtain ⟨hg, xs, ho, hx⟩ := h
  refine ⟨grown_set hg _ _, _, (ho.stored i _).1, ?_⟩
  intro j hj
  have := ho.1
  rw [List.getElem?_set]
  by_cases e : i = j
  · subst e; simp; omega
  · rw [if_neg e]; exact hx j (by omega)
theorem mark_all {w wr : World} {b g n c : Nat} {k : Int} (h : Mark w wr b g n c k n) : wr.ownsRow b 3 1 (.slice (some ⟨g, 0, none⟩) n c) n ((marks k n).map (Value.int .i64)) := by
  obtain ⟨_, xs, ho, hx⟩ := h
  have e : xs = (marks k n).map (Value.int .i64) := by
    apply List.ext_getElem?
    intro i
    rw [List.getElem?_map]
    by_cases hi : i < n
    · rw [hx i hi, gi_of_lt (by rw [marks_length]; exact hi), gi_marks hi]; rfl
    · have := ho.1
      rw [List.getElem?_eq_none (by omega), List.getElem?_eq_none (by rw [marks_length]; omega)]; rfl
  rw [← e]; exact ho








end Go.Proofs.YtmkdafgcggpahaaDoor
