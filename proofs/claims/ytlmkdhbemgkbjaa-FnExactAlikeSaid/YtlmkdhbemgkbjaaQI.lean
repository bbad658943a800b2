/-
  The contracts of further functions, as facts on abstract values.
-/
import Derived.Test.YtlmkdhbemgkbjaaP6
import Derived.Test.YtlmkdhbemgkbjaaP4
import Derived.Test.YtlmkdhbemgkbjaaP
set_option linter.unusedVariables false
set_option linter.unusedSimpArgs false
namespace Go.Proofs.Ytlmkdhbemgkbjaa
open Go Go.RowKit Go.Park Go.Sym

theorem post_pair {w w' : World} {e : Ending} {a b : Value} (h : Gives (.tuple #[a, b]) w e w') : ∃ v bs, e = .returned v ∧ FnPost w w' (.tup [.v a, .v b]) v bs :=
  ⟨_, [], h.1, ⟨h.2, by simp, by simp, by
    simp only [relO, relOL]
    exact ⟨[a, b], rfl, a, [b], [], [], rfl, rfl, ⟨rfl, rfl⟩, b, [], [], [], rfl, rfl, ⟨rfl, rfl⟩, rfl, rfl⟩⟩⟩
theorem parityOf_fn (h : PHall) (hl : h.cells.length ≤ lim) : FnS Try.prog 27 [hallV h] (.int (parityF h)) := by
  refine ⟨⟨_, Try.func27, by kernel_rfl, rfl⟩, fun w vs hp hx => ?_⟩
  simp only [relL] at hx
  obtain ⟨v, _, rfl, h1, rfl⟩ := hx
  exact (parityOf_any w v h (hall_of_rel h1 hl)).mono fun e w' hg => post_v hg
theorem specParityOf_fn (h : PHall) (hl : h.cells.length ≤ lim) : FnS Try.prog 21 [hallV h] (.int (parityF h)) := by
  refine ⟨⟨_, Try.func21, by kernel_rfl, rfl⟩, fun w vs hp hx => ?_⟩
  simp only [relL] at hx
  obtain ⟨v, _, rfl, h1, rfl⟩ := hx
  exact (specParityOf_any w v h (hall_of_rel h1 hl)).mono fun e w' hg => post_v hg
end Go.Proofs.Ytlmkdhbemgkbjaa
