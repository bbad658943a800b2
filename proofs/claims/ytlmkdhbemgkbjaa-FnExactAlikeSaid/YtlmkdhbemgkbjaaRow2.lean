/-
  How slides and slices of slides among a law's arguments are opened.
-/
import Derived.Test.YtlmkdhbemgkbjaaRow
import Derived.Test.YtlmkdhbemgkbjaaP2
import Derived.Deep.SlicePairs
set_option linter.unusedVariables false
set_option maxRecDepth 100000
namespace Go.Proofs.Ytlmkdhbemgkbjaa
open Go Go.RowKit Go.Park
open Go.ChangeShapes Go.WideShapes Go.ChangeAt
section
variable {H : Type} {enc : TypeId × Value → H} {W : World} {base : Nat} {spare : Nat → Bool} {held : Bool}

theorem scells_of_add {w : World} {a : Addr} {n : Nat} {f : Nat → Int × Int} (h : ∀ i, i < n → w.cell? (a.add (i * 2)) = some (.int .i64 (f i).1) ∧ w.cell? (a.add (i * 2 + 1)) = some (.int .i64 (f i).2)) : SCellsAt w (some a) n f := by
  obtain ⟨b, off, spot⟩ := a
  intro j hj
  have h0 := World.cell?_spot (h 0 (by omega)).1
  simp [Addr.add] at h0
  subst h0
  obtain ⟨h1, h2⟩ := h j hj
  refine ⟨b, off, rfl, ?_, ?_⟩
  · rw [← h1]
    cases j with
    | zero => simp [Addr.add]
    | succ j => unfold Addr.add; rw [if_neg (by omega)]
  · rw [← h2]; simp [Addr.add, Nat.add_assoc]

theorem okWide_of_slice {t e : TypeId} (ht : Try.prog.underlying t = some (.slice e)) {v : Value} (hv : Value.okWide Try.prog W .any base t v) : v.cells.toList = [v] := by
  obtain ⟨a, l, c, rfl⟩ := okWide_slice ht hv
  rfl

theorem open_raw_slides_arg {v : Value} {d : DataW H} {p : List MemPlace} (hsp : ∀ b, spare b = true) (hv : Value.okWide Try.prog W .any base 30 v)
    (h : DataW.Trod enc Try.prog W 0 spare held 30 v d p) : ∃ l, RawSlides W v l := by
  obtain ⟨fuel, hf⟩ := h
  rw [okWide_of_slice Try.underlying30 hv] at hf
  rcases Go.Deep.open_slice_pairs Try.underlying30 Try.underlying52 (by kernel_rfl) rfl rfl (by kernel_rfl) (by kernel_rfl) hf with ⟨hcs, _⟩ | ⟨a, l, c, m, n, V0, V1, D0, D1, P0, P1, hcs, _, hl, hm, hz, _, hcell⟩
  · simp at hcs
    subst hcs
    exact ⟨[], none, 0, rfl, by simp, by simp, fun j hj => by simp at hj⟩
  · simp at hcs
    subst hcs
    rw [hsp] at hz
    simp at hz
    have each : ∀ i, i < m → ∃ x y : Int, V0 i = .int .i64 x ∧ V1 i = .int .i64 y := by
      intro i hi
      obtain ⟨_, _, t0, t1⟩ := hcell i hi
      obtain ⟨x, e0, _, _⟩ := DataW.trod_int Try.underlying3 t0
      obtain ⟨y, e1, _, _⟩ := DataW.trod_int Try.underlying3 t1
      simp at e0 e1
      exact ⟨x, y, e0, e1⟩
    let f : Nat → Int × Int := fun i => (intOf (V0 i), intOf (V1 i))
    have hlen : ((List.range l).map f).length = l := by simp
    refine ⟨(List.range l).map f, some a, c, by rw [hlen], by rw [hlen]; exact hl, hm, ?_⟩
    rw [hlen]
    refine scells_of_add fun i hi => ?_
    obtain ⟨x, y, e0, e1⟩ := each i (by omega)
    obtain ⟨g0, g1, _, _⟩ := hcell i (by omega)
    have e : gs ((List.range l).map f) i = (x, y) := by simp [gs, List.getD, hi, f, e0, e1, intOf]
    rw [e, g0, g1, e0, e1]
    exact ⟨rfl, rfl⟩

theorem open_raw_slide {v : Value} {d : DataW H} {p : List MemPlace} (hv : Value.okWide Try.prog W .any base 52 v)
    (h : DataW.Trod enc Try.prog W 0 spare held 52 v d p) : ∃ a b, v = .agg #[.int .i64 a, .int .i64 b] := by
  obtain ⟨c0, c1, y0, y1, m, rfl, rfl, rfl, hy0, hy1⟩ := Go.Joins.open_agg2 Try.underlying52 (by kernel_rfl) (by kernel_rfl) hv h
  obtain ⟨a, e0, rfl, wa⟩ := DataW.trod_int Try.underlying3 hy0
  obtain ⟨b, e1, rfl, wb⟩ := DataW.trod_int Try.underlying3 hy1
  simp at e0 e1
  exact ⟨a, b, by rw [e0, e1]⟩

theorem open_raw_ints_arg {v : Value} {d : DataW H} {p : List MemPlace} (hsp : ∀ b, spare b = true) (hv : Value.okWide Try.prog W .any base 22 v)
    (h : DataW.Trod enc Try.prog W 0 spare held 22 v d p) : ∃ l, RawInts W v l := by
  obtain ⟨fuel, hf⟩ := h
  rw [okWide_of_slice Try.underlying22 hv] at hf
  exact open_raw_ints hsp hf
end
end Go.Proofs.Ytlmkdhbemgkbjaa
