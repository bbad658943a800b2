/-
  hasCell, CellAt, CellPlace, HallFind, slices.Index: what the program and the reference return.
-/
import Derived.Test.YtenblaghbolabaaW
set_option linter.unusedVariables false
namespace Go.Proofs.Ytenblaghbolabaa
open Go Go.RowKit Go.Park

/-- a cell of a hall, as the program asks -/
def hasCellB (h : PHall) (c : Int) : Bool := inR c 0 ((h.cells.length : Int) - 1)

set_option maxHeartbeats 400000 in
theorem hasCell_any (w : World) (v : Value) (h : PHall) (c : Int) (hv : HallAt w v h) :
    Calls Try.prog 57 #[v, .int .i64 c] w (Gives (.bool (hasCellB h c)) w) := by
  obtain ⟨cv, rfl, ao, cp, rfl, hn, _, hx⟩ := hv
  rw [lim_eq] at hn
  obtain ⟨n, hnn⟩ : ∃ n, n = h.cells.length := ⟨_, rfl⟩
  have H0 : Hid (hasCellB h c = inR c 0 ((n : Int) - 1)) := Lib.hid (by rw [hnn]; rfl)
  rw [← hnn] at hn hx ⊢
  clear hnn hx
  by_cases h1 : 0 ≤ c
  · by_cases h2 : c < n
    · have H := Lib.hid (show hasCellB h c = true by rw [H0.out, inR_true]; omega)
      go_enter Try.func57, Try.ntmps57
      go_wp2
      go_ret
      exact gives_mk (by rw [H.out]; rfl) (below_new _ _)
    · have H := Lib.hid (show hasCellB h c = false by rw [H0.out, inR_false]; omega)
      go_enter Try.func57, Try.ntmps57
      go_wp2
      go_ret
      exact gives_mk (by rw [H.out]; rfl) (below_new _ _)
  · have H := Lib.hid (show hasCellB h c = false by rw [H0.out, inR_false]; omega)
    go_enter Try.func57, Try.ntmps57
    go_wp2
    go_ret
    exact gives_mk (by rw [H.out]; rfl) (below_new _ _)

/-- the first place of a number in a list, up to n -/
def idxTo (l : List Int) (x : Int) : Nat → Int
  | 0 => -1
  | k+1 => if idxTo l x k = -1 then (if gi l k = x then (k : Int) else -1) else idxTo l x k
theorem idxTo_no {l : List Int} {x : Int} {k : Nat} (h : idxTo l x k = -1) (e : ¬ gi l k = x) : idxTo l x (k+1) = -1 := by simp [idxTo, h, e]
theorem idxTo_hit {l : List Int} {x : Int} {k : Nat} (h : idxTo l x k = -1) (e : gi l k = x) : ∀ n, k < n → idxTo l x n = k := by
  intro n hn
  induction n with
  | zero => omega
  | succ n ih =>
    by_cases hkn : k = n
    · subst hkn; simp [idxTo, h, e]
    · have := ih (by omega)
      simp only [idxTo]
      rw [this, if_neg (by omega)]


def hallFindF (h : PHall) (x : Int) : Int := if validB h = true ∧ 1 ≤ x then idxTo h.cells x h.cells.length else -1


end Go.Proofs.Ytenblaghbolabaa
