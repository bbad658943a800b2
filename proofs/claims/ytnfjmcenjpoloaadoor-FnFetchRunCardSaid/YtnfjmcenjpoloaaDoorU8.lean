/-
  Runs of stores (and of fetches).
-/
import Derived.Test.YtnfjmcenjpoloaaDoorU7
set_option linter.unusedVariables false
set_option linter.unusedSimpArgs false
set_option maxRecDepth 100000
namespace Go.Proofs.YtnfjmcenjpoloaaDoor
open Go Go.RowKit Go.Park Go.Sym

section
variable (f : PHall → Int → PHall × Int)
def stG (h : PHall) (l : List Int) : Nat → PHall
  | 0 => h
  | k+1 => (f (stG h l k) (gi l k)).1
def sumG (h : PHall) (l : List Int) : Nat → Int
  | 0 => 0
  | k+1 => sumG h l k + (f (stG f h l k) (gi l k)).2
def runG : PHall → List Int → PHall × Nat × Int
  | h, [] => (h, 0, 0)
  | h, x :: l => if (f h x).2 < 0 then (h, 0, 0) else ((runG (f h x).1 l).1, (runG (f h x).1 l).2.1 + 1, (f h x).2 + (runG (f h x).1 l).2.2)
end
section
variable {f : PHall → Int → PHall × Int}
def fineG (f : PHall → Int → PHall × Int) (h : PHall) (l : List Int) (k : Nat) : Prop := ∀ j, j < k → ¬ (f (stG f h l j) (gi l j)).2 < 0
theorem gi_cons (x : Int) (l : List Int) (k : Nat) : gi (x :: l) (k+1) = gi l k := by simp [gi]
theorem gi_zero (x : Int) (l : List Int) : gi (x :: l) 0 = x := by simp [gi]
theorem stG_cons (h : PHall) (x : Int) (l : List Int) : ∀ k, stG f h (x :: l) (k+1) = stG f (f h x).1 l k
  | 0 => by simp [stG, gi_zero]
  | k+1 => by
    show (f (stG f h (x :: l) (k+1)) _).1 = (f (stG f (f h x).1 l k) _).1
    rw [stG_cons h x l k, gi_cons]
theorem sumG_cons (h : PHall) (x : Int) (l : List Int) : ∀ k, sumG f h (x :: l) (k+1) = (f h x).2 + sumG f (f h x).1 l k
  | 0 => by simp [sumG, stG, gi_zero]
  | k+1 => by
    show sumG f h (x :: l) (k+1) + (f (stG f h (x :: l) (k+1)) _).2 = (f h x).2 + (sumG f (f h x).1 l k + (f (stG f (f h x).1 l k) _).2)
    rw [sumG_cons h x l k, stG_cons, gi_cons]
    omega
theorem runG_end : ∀ {l : List Int} {h : PHall}, fineG f h l l.length → runG f h l = (stG f h l l.length, l.length, sumG f h l l.length)
  | [], h, _ => rfl
  | x :: l, h, hd => by
    have h0 : ¬ (f h x).2 < 0 := by have := hd 0 (by simp); simpa [stG, gi_zero] using this
    have h1 : fineG f (f h x).1 l l.length := fun j hj => by
      have := hd (j+1) (by simp; omega)
      rw [stG_cons, gi_cons] at this
      exact this
    simp only [runG, if_neg h0, runG_end h1, List.length_cons, stG_cons, sumG_cons]
theorem runG_stop : ∀ {l : List Int} {h : PHall} {k : Nat}, fineG f h l k → k < l.length → (f (stG f h l k) (gi l k)).2 < 0 → runG f h l = (stG f h l k, k, sumG f h l k)
  | [], h, k, _, hk, _ => by simp at hk
  | x :: l, h, 0, _, _, hf => by
    have h0 : (f h x).2 < 0 := by simpa [stG, gi_zero] using hf
    simp only [runG, if_pos h0]
    rfl
  | x :: l, h, k+1, hd, hk, hf => by
    have h0 : ¬ (f h x).2 < 0 := by have := hd 0 (by omega); simpa [stG, gi_zero] using this
    have h1 : fineG f (f h x).1 l k := fun j hj => by
      have := hd (j+1) (by omega)
      rw [stG_cons, gi_cons] at this
      exact this
    rw [stG_cons, gi_cons] at hf
    simp only [runG, if_neg h0, runG_stop h1 (by simpa using hk) hf, stG_cons, sumG_cons]
theorem stG_ok (hf : ∀ h x, validB h = true → validB (f h x).1 = true ∧ (f h x).1.cells.length = h.cells.length) {h : PHall} {l : List Int} (hv : validB h = true) : ∀ k, validB (stG f h l k) = true ∧ (stG f h l k).cells.length = h.cells.length
  | 0 => ⟨hv, rfl⟩
  | k+1 => by
    obtain ⟨h1, h2⟩ := stG_ok hf (l := l) hv k
    obtain ⟨e1, e2⟩ := hf _ (gi l k) h1
    exact ⟨e1, e2.trans h2⟩
theorem runG_ok (hf : ∀ h x, validB h = true → validB (f h x).1 = true ∧ (f h x).1.cells.length = h.cells.length) : ∀ {l : List Int} {h : PHall}, validB h = true → validB (runG f h l).1 = true ∧ (runG f h l).1.cells.length = h.cells.length
  | [], h, hv => ⟨hv, rfl⟩
  | x :: l, h, hv => by
    simp only [runG]
    split
    · exact ⟨hv, rfl⟩
    · obtain ⟨e1, e2⟩ := hf h x hv
      obtain ⟨h1, h2⟩ := runG_ok hf (l := l) e1
      exact ⟨h1, h2.trans e2⟩
end
end Go.Proofs.YtnfjmcenjpoloaaDoor
