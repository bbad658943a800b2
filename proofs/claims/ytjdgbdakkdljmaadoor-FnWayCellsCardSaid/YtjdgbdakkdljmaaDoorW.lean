/-
  The program's HallValid.
-/
import Derived.Test.YtjdgbdakkdljmaaDoorV
set_option linter.unusedVariables false
namespace Go.Proofs.YtjdgbdakkdljmaaDoor
open Go Go.RowKit Go.Park

/-- the marks 'there' at the head of round k -/
def There (l : List Int) (k : Nat) (wr : World) (g : Nat) : Prop :=
  ∃ cur, wr.heap[g]? = some (.cells cur 73 (0, 0)) ∧ cur.size = 100 ∧ ∀ j : Nat, j < 100 → cur[j]? = some (.bool (decide (0 < j) && hasTo l (j : Int) k))
theorem there_cell {l : List Int} {k : Nat} {wr : World} {g : Nat} (h : There l k wr g) {x : Int} (h0 : 0 ≤ x) (h1 : x ≤ 99) : wr.cell? ⟨g, x.toNat, none⟩ = some (.bool (decide (0 < x) && hasTo l x k)) := by
  obtain ⟨cur, hg, hs, hf⟩ := h
  obtain ⟨n, rfl⟩ := Int.eq_ofNat_of_zero_le h0
  rw [cell_of_row wr g _ cur _ _ hg]
  have := hf n (by omega)
  simpa using this
theorem there_free {l : List Int} {k : Nat} {wr : World} {g : Nat} (h : There l k wr g) (j : Nat) : wr.frozen? ⟨g, j, none⟩ = false := by
  obtain ⟨cur, hg, hs, hf⟩ := h
  simp [World.frozen?, hg]
theorem there_step {l : List Int} {k : Nat} {wr : World} {g : Nat} (h : There l k wr g) (h0 : 0 ≤ gi l k) (h1 : gi l k ≤ 99) :
    There l (k+1) (wr.setCell ⟨g, (gi l k).toNat, none⟩ (.bool (decide (0 < gi l k)))) g := by
  obtain ⟨cur, hg, hs, hf⟩ := h
  refine ⟨cur.setIfInBounds (gi l k).toNat (.bool (decide (0 < gi l k))), ?_, by simp [hs], ?_⟩
  · simp only [World.setCell, Array.getElem?_modify, hg]; simp
  · intro j hj
    obtain ⟨n, hn⟩ := Int.eq_ofNat_of_zero_le h0
    rw [Array.getElem?_setIfInBounds, hn]
    simp only [hasTo, hn, Int.toNat_natCast]
    by_cases e : n = j
    · subst e
      simp [hs, show n < 100 by omega]
    · rw [if_neg e, hf j hj]
      have : ¬ ((n : Int) = (j : Int)) := by omega
      simp [this]

def falses : Array Value := Array.replicate 100 (.bool false)
theorem zero_there (w : World) : (zeroValue 73).run Tryd.prog w = .ok (.agg falses) w := by kernel_rfl
theorem there_start (l : List Int) (W : World) : There l 0 (W.alloc (.cells falses 73)) W.heap.size :=
  ⟨falses, heap_alloc_new W _, by simp [falses], fun j hj => by simp [falses, hasTo, hj]⟩

set_option maxHeartbeats 400000 in
theorem hallValid_any (w : World) (v : Value) (h : PHall) (hv : HallAt w v h) :
    Calls Tryd.prog 21 #[v] w (Gives (.bool (validB h)) w) := by
  obtain ⟨cv, rfl, ao, c, rfl, hn, ⟨hc1, hc2⟩, hx⟩ := hv
  obtain ⟨x, y, l⟩ := h
  simp only at hn hx hc1 ⊢
  unfold maxLen at hc2
  by_cases h1 : 2 ≤ x
  rotate_left
  · have H := Lib.hid (show validB ⟨x, y, l⟩ = false by simp [validB, sizeB, inR, h1])
    clear hx
    go_enter Tryd.func21, Tryd.ntmps21
    go_wp2
    go_ret
    exact gives_mk (by rw [H.out]; rfl) ((Below.refl _ _).alloc (Nat.le_refl _) _)
  by_cases h2 : x ≤ 4
  rotate_left
  · have H := Lib.hid (show validB ⟨x, y, l⟩ = false by simp [validB, sizeB, inR, h2])
    clear hx
    go_enter Tryd.func21, Tryd.ntmps21
    go_wp2
    go_ret
    exact gives_mk (by rw [H.out]; rfl) ((Below.refl _ _).alloc (Nat.le_refl _) _)
  by_cases h3 : 2 ≤ y
  rotate_left
  · have H := Lib.hid (show validB ⟨x, y, l⟩ = false by simp [validB, sizeB, inR, h3])
    clear hx
    go_enter Tryd.func21, Tryd.ntmps21
    go_wp2
    go_ret
    exact gives_mk (by rw [H.out]; rfl) ((Below.refl _ _).alloc (Nat.le_refl _) _)
  by_cases h4 : y ≤ 3
  rotate_left
  · have H := Lib.hid (show validB ⟨x, y, l⟩ = false by simp [validB, sizeB, inR, h4])
    clear hx
    go_enter Tryd.func21, Tryd.ntmps21
    go_wp2
    go_ret
    exact gives_mk (by rw [H.out]; rfl) ((Below.refl _ _).alloc (Nat.le_refl _) _)
  obtain ⟨n, hnn⟩ : ∃ n, n = l.length := ⟨_, rfl⟩
  rw [← hnn] at hn hx hc1 ⊢
  rw [lim_eq] at hn
  have HN := Lib.hid hnn
  clear hnn
  have hm := mul_small ⟨h1, h2⟩ ⟨h3, h4⟩
  have hwd : IntKind.i64.wrap (x * y) = x * y := IntWalk.i64_in _ (by omega)
  by_cases h5 : (n : Int) = x * y
  rotate_left
  · have H := Lib.hid (show validB ⟨x, y, l⟩ = false by rw [HN.out] at h5; simp [validB, sizeB, h5])
    have h5' : ((n : Int) != x * y) = true := by simpa using h5
    clear hx h5
    go_enter Tryd.func21, Tryd.ntmps21
    go_wp2
    go_ret
    exact gives_mk (by rw [H.out]; rfl) ((Below.refl _ _).alloc (Nat.le_refl _) _)
  have H := Lib.hid (show validB ⟨x, y, l⟩ = okTo l n by rw [HN.out] at h5 ⊢; simp [validB, sizeB, inR, h1, h2, h3, h4, h5])
  have h5' : ((n : Int) != x * y) = false := by simpa using h5
  have hn12 : n ≤ 12 := by omega
  clear h5
  go_enter Tryd.func21, Tryd.ntmps21
  have hzt := zero_there
  have hd1 : decide (x < 2) = false := by simpa using h1
  have hd2 : decide (4 < x) = false := by simpa using h2
  have hd3 : decide (y < 2) = false := by simpa using h3
  have hd4 : decide (3 < y) = false := by simpa using h4
  go_wp2
  go_loopw [38] (fun i wr => ∃ k : Nat, k ≤ n ∧ i = .int .i64 k ∧ Hid (okTo l k = true) ∧ Hid (There l k wr (w.heap.size + 1)) ∧ Below w.heap.size w wr) (fun i _ => n - (intOf i).toNat)
  case atStart =>
    refine ⟨0, Nat.zero_le _, rfl, rfl, ?_, (Below.refl _ _).alloc (Nat.le_refl _) _ |>.alloc (by simp) _⟩
    have := there_start l (w.alloc (.cells #[.int .i64 x, .int .i64 y, .slice ao n c] 25))
    exact Lib.hid (by simpa using this)
  case round =>
    obtain ⟨k, hk, rfl, ha, hth, hbel⟩ := hrel
    clear hzt
    by_cases hlt : k < n
    · obtain ⟨b, o, rfl, hc⟩ := (hx.keep hbel) k hlt
      have HB := Lib.hid hbel
      clear hx hbel hwd
      by_cases h6 : 0 ≤ gi l k
      rotate_left
      · have Hf := Lib.hid (okTo_no hlt (show okAt l k = false by simp [okAt, inR, h6]))
        clear ha
        go_wp2
        go_ret
        exact gives_mk (by rw [H.out, Hf.out]; rfl) HB.out
      by_cases h7 : gi l k ≤ 99
      rotate_left
      · have Hf := Lib.hid (okTo_no hlt (show okAt l k = false by simp [okAt, inR, h7]))
        clear ha
        go_wp2
        go_ret
        exact gives_mk (by rw [H.out, Hf.out]; rfl) HB.out
      have hcell := there_cell hth.out h6 h7
      have hfr := there_free hth.out (gi l k).toNat
      cases h8 : (decide (0 < gi l k) && hasTo l (gi l k) k)
      · rw [h8] at hcell
        have Hf := Lib.hid (okTo_yes ha.out (show okAt l k = true by simp only [okAt, h8]; simp [inR, h6, h7]))
        have Ht := Lib.hid (there_step hth.out h6 h7)
        have Hb := Lib.hid (HB.out.setCell (p := ⟨w.heap.size + 1, (gi l k).toNat, none⟩) (by simp) (.bool (decide (0 < gi l k))))
        clear h8 ha hth
        go_wp2
        go_roundw
        case rel => exact ⟨k+1, by omega, by go_num, Hf, Ht, Hb.out⟩
        case measure => simp [intOf]; omega
      · rw [h8] at hcell
        have Hf := Lib.hid (okTo_no hlt (show okAt l k = false by simp only [okAt, h8]; simp))
        clear h8 ha hth
        go_wp2
        go_ret
        exact gives_mk (by rw [H.out, Hf.out]; rfl) HB.out
    · obtain rfl : k = n := by omega
      have HB := Lib.hid hbel
      clear hx hbel hwd
      go_wp2
      go_ret
      exact gives_mk (by rw [H.out, ha.out]; rfl) HB.out

end Go.Proofs.YtjdgbdakkdljmaaDoor
