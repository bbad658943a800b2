/-
  How a drawn law's codes are opened, and what is laid.
-/
import Derived.Test.YtnfjmcenjpoloaaDoorRow
import Derived.Test.YtnfjmcenjpoloaaDoorP8
import Derived.Test.YtnfjmcenjpoloaaDoorTie
import Derived.LaidHandle
import Derived.LaidMore
import Derived.JoinedOf
import Derived.Stop.Joined
import Derived.SevenTiedAt
import Derived.ChangeVars
set_option linter.unusedVariables false
set_option maxRecDepth 100000
namespace Go.Proofs.YtnfjmcenjpoloaaDoor
open Go Go.RowKit Go.Park Go.Sym
open Go.ChangeShapes Go.WideShapes Go.ChangeAt

def RawBytes (w : World) (v : Value) (l : List Int) : Prop := ∃ ao c, v = .slice ao l.length c ∧ l.length ≤ c ∧ c ≤ maxLen ∧ (∀ j, j < l.length → ∃ b off, ao = some ⟨b, off, none⟩ ∧ w.cell? ⟨b, off + j, none⟩ = some (.int .u8 (gi l j))) ∧ OkB l
theorem cells_of_add8 {w : World} {a : Addr} {n : Nat} {f : Nat → Int} (h : ∀ i, i < n → w.cell? (a.add i) = some (.int .u8 (f i))) : ∀ j, j < n → ∃ b off, some a = some ⟨b, off, none⟩ ∧ w.cell? ⟨b, off + j, none⟩ = some (.int .u8 (f j)) := by
  obtain ⟨b, off, spot⟩ := a
  intro j hj
  have hc := h j hj
  have h0 := World.cell?_spot (h 0 (by omega))
  simp [Addr.add] at h0
  subst h0
  refine ⟨b, off, rfl, ?_⟩
  rw [← hc]
  by_cases e : j = 0 <;> simp [Addr.add, e]
theorem rel_of_rawBytes {w : World} {v : Value} {l : List Int} (h : RawBytes w v l) : relV (cx0 w (fun b => b < w.heap.size)) (codeV v l) v := by
  obtain ⟨ao, c, rfl, h1, h2, h3, _⟩ := h
  simp only [relV]
  refine ⟨trivial, pure_byts l, ao, l.length, c, rfl, h1, h2, by omega, by rw [byts_length, Nat.mul_one], ?_⟩
  by_cases h0 : l = []
  · left; rw [h0]; rfl
  · right
    have hp : 0 < l.length := List.length_pos_iff.2 h0
    obtain ⟨b, off, rfl, hc⟩ := h3 0 hp
    refine ⟨b, off, rfl, cell_lt hc, relC_of fun i x hx => ?_⟩
    have hi : i < l.length := by
      have := (List.getElem?_eq_some_iff.1 hx).1
      rwa [byts_length] at this
    obtain ⟨b', off', e, hc'⟩ := h3 i hi
    cases e
    have := rd_get (cs := byts l) (j := i) (by rw [byts_length]; exact hi)
    rw [hx, rd_byts hi] at this
    cases this
    exact ⟨_, hc', rfl, by simp [relV]⟩
theorem Tryd.cellsByte : Tryd.prog.cellsOf 5 = 1 := by kernel_rfl
section
variable {H : Type} {enc : TypeId × Value → H} {W : World} {base : Nat} {spare : Nat → Bool} {held : Bool}
theorem open_raw_bytes {fuel : Nat} {v : Value} {x : DataW H × List MemPlace} (hsp : ∀ b, spare b = true)
    (hf : DataW.trod enc Tryd.prog W base spare held fuel 22 [v] = some x) : ∃ l, RawBytes W v l := by
  rcases open_ints Tryd.underlying22 Tryd.underlying5 Tryd.cellsByte hf with ⟨hcs, _⟩ | ⟨a, l, c, zs, hcs, _, hl, hm, hz, _, hcell, hwz⟩
  · simp at hcs
    subst hcs
    exact ⟨[], none, 0, rfl, by simp, by simp, fun j hj => by simp at hj, fun j hj => by simp at hj⟩
  · simp at hcs
    subst hcs
    rw [hsp] at hz
    simp at hz
    have hlen : (zs.take l).length = l := by simp; omega
    refine ⟨zs.take l, some a, c, by rw [hlen], by rw [hlen]; exact hl, hm, ?_, fun j hj => ?_⟩
    · rw [hlen]
      refine cells_of_add8 fun i hi => ?_
      rw [hcell i (by omega)]
      simp [gi, List.getD, hi]
    · rw [hlen] at hj
      have hm2 : gi (zs.take l) j ∈ zs := by
        simp only [gi, List.getD_eq_getElem?_getD]
        rw [List.getElem?_take, if_pos hj, List.getElem?_eq_getElem (by omega)]
        exact List.getElem_mem (by omega)
      have := hwz _ hm2
      simpa [Lit.wf, IntKind.min, IntKind.max, IntKind.signed, IntKind.bits] using this
theorem open_raw_bytes_arg {v : Value} {d : DataW H} {p : List MemPlace} (hsp : ∀ b, spare b = true) (hv : Value.okWide Tryd.prog W .any base 22 v)
    (h : DataW.Trod enc Tryd.prog W 0 spare held 22 v d p) : ∃ l, RawBytes W v l := by
  obtain ⟨fuel, hf⟩ := h
  obtain ⟨a, l, c, rfl⟩ := okWide_slice Tryd.underlying22 hv
  exact open_raw_bytes hsp hf
end
abbrev laidL : List (String × DataW Unit) := [("math/bits.deBruijn32tab", Rows.laid_math_bits_deBruijn32tab), ("math/bits.deBruijn64tab", Rows.laid_math_bits_deBruijn64tab), ("internal/strconv.uint64pow10", Rows.laid_internal_strconv_uint64pow10)]
theorem door_met (os : Os) (args : Array Value) : laidMetH Tryd.prog laidL ((World.doorLaid Tryd.prog 400 os).forCall (fun _ _ => 0) ⟨#[], args, []⟩).memory :=
  laidMetH_of_parts (laidMet_of_run' 8 (by kernel_rfl) (by kernel_rfl)) (by kernel_rfl)
end Go.Proofs.YtnfjmcenjpoloaaDoor
