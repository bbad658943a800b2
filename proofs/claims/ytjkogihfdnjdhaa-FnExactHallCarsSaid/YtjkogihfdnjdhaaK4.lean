/-
  slices.Reverse and HallTurn.
-/
import Derived.Test.YtjkogihfdnjdhaaK2
set_option linter.unusedVariables false
namespace Go.Proofs.Ytjkogihfdnjdhaa
open Go Go.RowKit Go.Park

def tab (n : Nat) (f : Nat → Int) : List Int := (List.range n).map f
theorem tab_length (n : Nat) (f : Nat → Int) : (tab n f).length = n := by simp [tab]
theorem gi_tab {n : Nat} {f : Nat → Int} {j : Nat} (h : j < n) : gi (tab n f) j = f j := by simp [gi, tab, List.getD, h]
theorem gi_set {l : List Int} {i j : Nat} {x : Int} (hj : j < l.length) : gi (l.set i x) j = if i = j then x else gi l j := by
  simp only [gi, List.getD, List.getElem?_set]
  by_cases e : i = j
  · subst e; simp [hj]
  · simp [e]
theorem tab_set {n i : Nat} {f : Nat → Int} {x : Int} : (tab n f).set i x = tab n (fun j => if i = j then x else f j) := by
  refine ext_gi (by simp [tab_length]) (fun j hj => ?_)
  simp only [List.length_set, tab_length] at hj
  rw [gi_set (by rw [tab_length]; exact hj), gi_tab hj, gi_tab hj]
theorem tab_congr {n : Nat} {f g : Nat → Int} (h : ∀ j, j < n → f j = g j) : tab n f = tab n g := by
  refine ext_gi (by simp [tab_length]) (fun j hj => ?_)
  rw [tab_length] at hj
  rw [gi_tab hj, gi_tab hj, h j hj]
theorem tab_gi (l : List Int) : tab l.length (gi l) = l := ext_gi (tab_length _ _) (fun j hj => by rw [tab_length] at hj; rw [gi_tab hj])
theorem tab_rev (l : List Int) : tab l.length (fun j => gi l (l.length - 1 - j)) = l.reverse := by
  refine ext_gi (by simp [tab_length]) (fun j hj => ?_)
  rw [tab_length] at hj
  rw [gi_tab hj, gi_get (by omega), gi_get (by simpa using hj), List.getElem_reverse]

/-- k places at both ends exchanged -/
def revTo (l : List Int) (n k : Nat) : List Int := tab n (fun j => if j < k ∨ n - k ≤ j then gi l (n - 1 - j) else gi l j)
theorem revTo_zero (l : List Int) {n : Nat} (hn : n = l.length) : revTo l n 0 = l := by
  subst hn
  unfold revTo
  rw [tab_congr (g := gi l) (fun j hj => by rw [if_neg (by omega)]), tab_gi]
theorem revTo_all (l : List Int) {n k : Nat} (hn : n = l.length) (hk : n ≤ 2 * k + 1) : revTo l n k = l.reverse := by
  subst hn
  unfold revTo
  rw [← tab_rev]
  refine tab_congr (fun j hj => ?_)
  by_cases h : j < k ∨ l.length - k ≤ j
  · rw [if_pos h]
  · rw [if_neg h]; congr 1; omega
theorem revTo_step (l : List Int) {n k : Nat} (hk : k < n - 1 - k) : ((revTo l n k).set k (gi l (n - 1 - k))).set (n - 1 - k) (gi l k) = revTo l n (k + 1) := by
  unfold revTo
  rw [tab_set, tab_set]
  refine tab_congr (fun j hj => ?_)
  by_cases h1 : n - 1 - k = j
  · rw [if_pos h1, if_pos (by omega)]; congr 1; omega
  · rw [if_neg h1]
    by_cases h2 : k = j
    · rw [if_pos h2, if_pos (by omega)]; congr 1; omega
    · rw [if_neg h2]
      by_cases h3 : j < k ∨ n - k ≤ j
      · rw [if_pos h3, if_pos (by omega)]
      · rw [if_neg h3, if_neg (by omega)]
theorem gi_revTo_mid (l : List Int) {n k j : Nat} (h1 : k ≤ j) (h2 : j < n - k) : gi (revTo l n k) j = gi l j := by
  unfold revTo
  rw [gi_tab (by omega), if_neg (by omega)]
theorem grown_trans {w w1 w2 : World} {r : Option Nat} (h : w.grownBy w1 r) (k : w1.grownBy w2 r) : w.grownBy w2 r :=
  ⟨k.os.trans h.os, k.tape.trans h.tape, k.output.trans h.output, Nat.le_trans h.size k.size, fun i hi hr => (k.block i (Nat.lt_of_lt_of_le hi h.size) hr).trans (h.block i hi hr)⟩
theorem grown_drew {w w1 : World} {r : Option Nat} (h : w.grownBy w1 r) : w.grownBy w1.drew r := grown_trans h ⟨rfl, rfl, rfl, Nat.le_refl _, fun _ _ _ => rfl⟩


def hallTurnF (h : PHall) : PHall := if validB h = true then ⟨h.wide, h.deep, h.cells.reverse⟩ else zeroHall


/-- k numbers turned over -/
def turnTo (l : List Int) (n k : Nat) : List Int := tab n (fun j => if n - k ≤ j then gi l (n - 1 - j) else 0)
theorem turnTo_zero (l : List Int) (n : Nat) : turnTo l n 0 = List.replicate n 0 := by
  refine ext_gi (by simp [turnTo, tab_length]) (fun j hj => ?_)
  rw [turnTo, tab_length] at hj
  unfold turnTo
  rw [gi_tab hj, if_neg (by omega)]
  simp [gi, List.getD, hj]
theorem turnTo_all (l : List Int) {n : Nat} (hn : n = l.length) : turnTo l n n = l.reverse := by
  subst hn
  rw [← tab_rev]
  exact tab_congr (fun j hj => by rw [if_pos (by omega)])
theorem turnTo_step (l : List Int) {n k : Nat} (hk : k < n) : (turnTo l n k).set (n - 1 - k) (gi l k) = turnTo l n (k + 1) := by
  unfold turnTo
  rw [tab_set]
  refine tab_congr (fun j hj => ?_)
  by_cases h1 : n - 1 - k = j
  · rw [if_pos h1, if_pos (by omega)]; congr 1; omega
  · rw [if_neg h1]
    by_cases h2 : n - k ≤ j
    · rw [if_pos h2, if_pos (by omega)]
    · rw [if_neg h2, if_neg (by omega)]


end Go.Proofs.Ytjkogihfdnjdhaa
