/-
  How slides and slices of slides among a law's arguments are opened.
-/
import Derived.Test.YtlmkdhbemgkbjaaDoorRow
import Derived.Test.YtlmkdhbemgkbjaaDoorP2
import Derived.Deep.SlicePairs
set_option linter.unusedVariables false
set_option maxRecDepth 100000
namespace Go.Proofs.YtlmkdhbemgkbjaaDoor
open Go Go.RowKit Go.Park
open Go.ChangeShapes Go.WideShapes Go.ChangeAt
section
variable {H : Type} {enc : TypeId × Value → H} {W : World} {base : Nat} {spare : Nat → Bool} {held : Bool}

theorem scells_of_add {w : World} {a : Addr} {n : Nat} {f : Nat → Int × Int} (h : ∀ i, i < n → w.cell? (a.add (i * 2)) = some (.int .i64 (f i).1) ∧ w.cell? (a.add (i * 2 + 1)) = some (.int .i64 (f i).2)) : SCellsAt w (some a) n f := by
  obtain ⟨b, off, spot⟩ := a
  intro j hj
  have h0 := World.cell?_spot (h 0 (by omega)).1
  simp [Addr.add] at h0
  subst h0
  obtain ⟨h1, h2⟩ := h j hj
  refine ⟨b, off, rfl, ?_, ?_⟩
  · rw [← h1]
    cases j with
    | zero => simp [Addr.add]
    | succ j => unfold Addr.add; rw [if_neg (by omega)]
  · rw [← h2]; simp [Addr.add, Nat.add_assoc]

theorem okWide_of_slice {t e : TypeId} (ht : Tryd.prog.underlying t = some (.slice e)) {v : Value} (hv : Value.okWide Tryd.prog W .any base t v) : v.cells.toList = [v] := by
  obtain ⟨a, l, c, rfl⟩ := okWide_slice ht hv
  rfl



theorem open_raw_ints_arg {v : Value} {d : DataW H} {p : List MemPlace} (hsp : ∀ b, spare b = true) (hv : Value.okWide Tryd.prog W .any base 22 v)
    (h : DataW.Trod enc Tryd.prog W 0 spare held 22 v d p) : ∃ l, RawInts W v l := by
  obtain ⟨fuel, hf⟩ := h
  rw [okWide_of_slice Tryd.underlying22 hv] at hf
  exact open_raw_ints hsp hf
end
end Go.Proofs.YtlmkdhbemgkbjaaDoor
