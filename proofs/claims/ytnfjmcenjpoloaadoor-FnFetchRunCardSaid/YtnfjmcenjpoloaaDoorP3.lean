/-
  The texts V W C D E F G N in one.
-/
import Derived.Test.YtnfjmcenjpoloaaDoorA
import Derived.Deep.DeepMust
import Derived.WalkLawsBesides
section
/-
  HallValid: the program's and the reference's answer is validB.
-/
set_option linter.unusedVariables false
namespace Go.Proofs.YtnfjmcenjpoloaaDoor
open Go Go.RowKit Go.Park

theorem l1In_any (w : World) (a b c : Int) :
    Calls Tryd.prog 63 #[.int .i64 a, .int .i64 b, .int .i64 c] w (Tells (.bool (inR a b c)) w) := by
  by_cases h1 : b ≤ a
  · by_cases h2 : a ≤ c
    · have H := Lib.hid (show inR a b c = true by simp [inR, h1, h2])
      go_enter Tryd.func63, Tryd.ntmps63
      go_wp2
      go_ret
      exact tells_mk (by rw [H.out]; rfl) (drew0 _)
    · have H := Lib.hid (show inR a b c = false by simp [inR, h2])
      go_enter Tryd.func63, Tryd.ntmps63
      go_wp2
      go_ret
      exact tells_mk (by rw [H.out]; rfl) (drew0 _)
  · have H := Lib.hid (show inR a b c = false by simp [inR, h1])
    go_enter Tryd.func63, Tryd.ntmps63
    go_wp2
    go_ret
    exact tells_mk (by rw [H.out]; rfl) (drew0 _)

theorem l1In_calls {a b c : Int} {r : Bool} (h : inR a b c = r) : ∀ w' : World, Calls Tryd.prog 63 #[.int .i64 a, .int .i64 b, .int .i64 c] w' (Tells (.bool r) w') := fun w' => by rw [← h]; exact l1In_any w' _ _ _

set_option maxHeartbeats 400000 in
theorem l1Has_any (w : World) (ao : Option Addr) (n c : Nat) (l : List Int) (x : Int) (hn : n ≤ 17592186044416) (hx : CellsAt w ao n (gi l)) :
    Calls Tryd.prog 64 #[.slice ao n c, .int .i64 x] w (Tells (.bool (hasTo l x n)) w) := by
  go_enter Tryd.func64, Tryd.ntmps64
  go_wp2
  go_loopw [5] (fun i wr => ∃ k : Nat, k ≤ n ∧ i = .int .i64 k ∧ Hid (hasTo l x k = false) ∧ ∃ q, wr = w.drewN q) (fun i _ => n - (intOf i).toNat)
  case atStart => exact ⟨0, Nat.zero_le _, rfl, rfl, 0, rfl⟩
  case round =>
    obtain ⟨k, hk, rfl, ha, q, rfl⟩ := hrel
    by_cases hlt : k < n
    · obtain ⟨b, o, rfl, h1⟩ := hx k hlt
      by_cases he : gi l k = x
      · have Hf := Lib.hid (hasTo_yes hlt he)
        have hb : (gi l k == x) = true := by simpa using he
        clear hx he
        go_wp2
        go_ret
        exact tells_mk (by rw [Hf.out]; rfl) (drewN1 _ _)
      · have Hf := Lib.hid (hasTo_no ha.out he)
        have hb : (gi l k == x) = false := by simpa using he
        clear hx he ha
        go_wp2
        go_roundw
        case rel => exact ⟨k+1, by omega, by go_num, Hf, _, rfl⟩
        case measure => simp [intOf]; omega
    · obtain rfl : k = n := by omega
      clear hx
      go_wp2
      go_ret
      exact tells_mk (by rw [ha.out]; rfl) (drewN1 _ _)

theorem mul_small {x y : Int} (h1 : 2 ≤ x ∧ x ≤ 4) (h2 : 2 ≤ y ∧ y ≤ 3) : 0 ≤ x * y ∧ x * y ≤ 12 := by
  obtain ⟨a, b⟩ := h1
  obtain ⟨c, d⟩ := h2
  have e1 : 0 ≤ x * y := Int.mul_nonneg (by omega) (by omega)
  have e2 : x * y ≤ 4 * 3 := Int.mul_le_mul b d (by omega) (by omega)
  omega

set_option maxHeartbeats 400000 in
theorem specHallValid_any (w : World) (v : Value) (h : PHall) (hv : HallAt w v h) :
    Calls Tryd.prog 16 #[v] w (Gives (.bool (validB h)) w) := by
  obtain ⟨cv, rfl, ao, c, rfl, hn, ⟨hc1, hc2⟩, hx⟩ := hv
  obtain ⟨x, y, l⟩ := h
  simp only at hn hx hc1 ⊢
  unfold maxLen at hc2
  cases h1 : inR x 2 4
  · have H := Lib.hid (show validB ⟨x, y, l⟩ = false by simp [validB, sizeB, h1])
    clear hx
    go_enter Tryd.func16, Tryd.ntmps16
    go_wp2_with (go_at_call 63; refine (l1In_any _ _ _ _).mono ?_; rintro e w' ⟨rfl, q, rfl⟩)
    go_ret
    exact gives_mk (by rw [H.out]; rfl) (below_drewN ((Below.refl _ _).alloc (Nat.le_refl _) _) _)
  cases h2 : inR y 2 3
  · have H := Lib.hid (show validB ⟨x, y, l⟩ = false by simp [validB, sizeB, h2])
    clear hx
    go_enter Tryd.func16, Tryd.ntmps16
    go_wp2_with (go_at_call 63; refine (l1In_any _ _ _ _).mono ?_; rintro e w' ⟨rfl, q, rfl⟩)
    go_ret
    exact gives_mk (by rw [H.out]; rfl) (below_drewN ((Below.refl _ _).alloc (Nat.le_refl _) _) _)
  obtain ⟨n, hnn⟩ : ∃ n, n = l.length := ⟨_, rfl⟩
  rw [← hnn] at hn hx hc1 ⊢
  rw [lim_eq] at hn
  have HN := Lib.hid hnn
  clear hnn
  have hm := mul_small (inR_true.1 h1) (inR_true.1 h2)
  have hb1 := inR_true.1 h1
  have hb2 := inR_true.1 h2
  have hwd : IntKind.i64.wrap (x * y) = x * y := IntWalk.i64_in _ (by omega)
  by_cases h3 : (n : Int) = x * y
  · have H := Lib.hid (show validB ⟨x, y, l⟩ = okTo l n by rw [HN.out] at h3 ⊢; simp [validB, sizeB, h1, h2, h3])
    have h3' : ((n : Int) != x * y) = false := by simpa using h3
    obtain ⟨W, hW⟩ : ∃ W, W = w.alloc (.cells #[.int .i64 x, .int .i64 y, .slice ao n c] 25) := ⟨_, rfl⟩
    have hx' : CellsAt W ao n (gi l) := by rw [hW]; exact hx.keep ((Below.refl _ _).alloc (Nat.le_refl _) _)
    have hbW : Below w.heap.size w W := by rw [hW]; exact (Below.refl _ _).alloc (Nat.le_refl _) _
    have hW2 : W.cell? ⟨w.heap.size, 2, none⟩ = some (.slice ao n c) := by rw [hW]; simp
    have HW := Lib.hid hW
    clear hx h3 hW
    go_enter Tryd.func16, Tryd.ntmps16
    go_wp2_with (go_at_call 63; refine (l1In_any _ _ _ _).mono ?_; rintro e w' ⟨rfl, q, rfl⟩)
    rw [← HW.out]
    go_loopw [3] (fun i wr => ∃ k : Nat, k ≤ n ∧ i = .int .i64 k ∧ Hid (okTo l k = true) ∧ ∃ q, wr = W.drewN q) (fun i _ => n - (intOf i).toNat)
    case atStart => exact ⟨0, Nat.zero_le _, rfl, rfl, _, rfl⟩
    case round =>
      obtain ⟨k, hk, rfl, ha, q, rfl⟩ := hrel
      by_cases hlt : k < n
      · obtain ⟨b, o, rfl, hc⟩ := hx' k hlt
        have hkc : k ≤ c := by omega
        have hxk : CellsAt W (some ⟨b, o, none⟩) k (gi l) := fun j hj => hx' j (by omega)
        have HX := Lib.hid hxk
        clear hx' hxk
        cases h4 : inR (gi l k) 0 99
        · have Hf := Lib.hid (okTo_no hlt (show okAt l k = false by simp [okAt, h4]))
          have Hin : Hid (∀ w' : World, Calls Tryd.prog 63 #[.int .i64 (gi l k), .int .i64 0, .int .i64 99] w' (Tells (.bool false) w')) := fun w' => by rw [← h4]; exact l1In_any w' _ _ _
          clear h4 ha
          go_wp2
          go_quiet ((go_at_call 63; exact quiet_add (Hin.out _)))
          go_wp2
          go_ret
          exact gives_mk (by rw [H.out, Hf.out]; rfl) (hbW.trans (below_drewN (below_drewN (Below.refl _ _) _) _))
        · have Hin : Hid (∀ w' : World, Calls Tryd.prog 63 #[.int .i64 (gi l k), .int .i64 0, .int .i64 99] w' (Tells (.bool true) w')) := fun w' => by rw [← h4]; exact l1In_any w' _ _ _
          have H4 := Lib.hid h4
          clear h4
          by_cases h5 : 0 < gi l k
          · cases h6 : hasTo l (gi l k) k
            · have Hf := Lib.hid (okTo_yes ha.out (show okAt l k = true by simp [okAt, H4.out, h6]))
              have Hha : Hid (∀ q : Nat, Calls Tryd.prog 64 #[.slice (some ⟨b, o, none⟩) k c, .int .i64 (gi l k)] (W.drewN q) (Tells (.bool false) (W.drewN q))) := fun q => by rw [← h6]; exact l1Has_any _ _ _ _ _ _ (by omega) (cells_drewN HX.out q)
              clear h6 ha
              go_wp2
              go_quiet ((first | (go_at_call 63; exact quiet_add (Hin.out _)) | (go_at_call 64; exact quiet_add (Hha.out _))))
              go_wp2
              go_roundw
              case rel => exact ⟨k+1, by omega, by go_num, Hf, _, rfl⟩
              case measure => simp [intOf]; omega
            · have Hf := Lib.hid (okTo_no hlt (show okAt l k = false by simp [okAt, h5, h6]))
              have Hha : Hid (∀ q : Nat, Calls Tryd.prog 64 #[.slice (some ⟨b, o, none⟩) k c, .int .i64 (gi l k)] (W.drewN q) (Tells (.bool true) (W.drewN q))) := fun q => by rw [← h6]; exact l1Has_any _ _ _ _ _ _ (by omega) (cells_drewN HX.out q)
              clear h6 ha
              go_wp2
              go_quiet ((first | (go_at_call 63; exact quiet_add (Hin.out _)) | (go_at_call 64; exact quiet_add (Hha.out _))))
              go_wp2
              go_ret
              exact gives_mk (by rw [H.out, Hf.out]; rfl) (hbW.trans (below_drewN (below_drewN (Below.refl _ _) _) _))
          · have Hf := Lib.hid (okTo_yes ha.out (show okAt l k = true by simp [okAt, H4.out, h5]))
            have h5' : decide (0 < gi l k) = false := by simpa using h5
            clear ha
            go_wp2
            go_quiet ((first | (go_at_call 63; exact quiet_add (Hin.out _))))
            go_wp2
            go_roundw
            case rel => exact ⟨k+1, by omega, by go_num, Hf, _, rfl⟩
            case measure => simp [intOf]; omega
      · obtain rfl : k = n := by omega
        clear hx'
        go_wp2
        go_ret
        exact gives_mk (by rw [H.out, ha.out]; rfl) (hbW.trans (below_drewN (Below.refl _ _) _))
  · have H := Lib.hid (show validB ⟨x, y, l⟩ = false by rw [HN.out] at h3; simp [validB, sizeB, h3])
    have h3' : ((n : Int) != x * y) = true := by simpa using h3
    clear hx h3
    go_enter Tryd.func16, Tryd.ntmps16
    go_wp2_with (go_at_call 63; refine (l1In_any _ _ _ _).mono ?_; rintro e w' ⟨rfl, q, rfl⟩)
    go_ret
    exact gives_mk (by rw [H.out]; rfl) (below_drewN ((Below.refl _ _).alloc (Nat.le_refl _) _) _)

end Go.Proofs.YtnfjmcenjpoloaaDoor
end

section
/-
  The program's HallValid.
-/
set_option linter.unusedVariables false
namespace Go.Proofs.YtnfjmcenjpoloaaDoor
open Go Go.RowKit Go.Park

/-- the marks 'there' at the head of round k -/
def There (l : List Int) (k : Nat) (wr : World) (g : Nat) : Prop :=
  ∃ cur, wr.heap[g]? = some (.cells cur 74 (0, 0)) ∧ cur.size = 100 ∧ ∀ j : Nat, j < 100 → cur[j]? = some (.bool (decide (0 < j) && hasTo l (j : Int) k))
theorem there_cell {l : List Int} {k : Nat} {wr : World} {g : Nat} (h : There l k wr g) {x : Int} (h0 : 0 ≤ x) (h1 : x ≤ 99) : wr.cell? ⟨g, x.toNat, none⟩ = some (.bool (decide (0 < x) && hasTo l x k)) := by
  obtain ⟨cur, hg, hs, hf⟩ := h
  obtain ⟨n, rfl⟩ := Int.eq_ofNat_of_zero_le h0
  rw [cell_of_row wr g _ cur _ _ hg]
  have := hf n (by omega)
  simpa using this
theorem there_free {l : List Int} {k : Nat} {wr : World} {g : Nat} (h : There l k wr g) (j : Nat) : wr.frozen? ⟨g, j, none⟩ = false := by
  obtain ⟨cur, hg, hs, hf⟩ := h
  simp [World.frozen?, hg]
theorem there_step {l : List Int} {k : Nat} {wr : World} {g : Nat} (h : There l k wr g) (h0 : 0 ≤ gi l k) (h1 : gi l k ≤ 99) :
    There l (k+1) (wr.setCell ⟨g, (gi l k).toNat, none⟩ (.bool (decide (0 < gi l k)))) g := by
  obtain ⟨cur, hg, hs, hf⟩ := h
  refine ⟨cur.setIfInBounds (gi l k).toNat (.bool (decide (0 < gi l k))), ?_, by simp [hs], ?_⟩
  · simp only [World.setCell, Array.getElem?_modify, hg]; simp
  · intro j hj
    obtain ⟨n, hn⟩ := Int.eq_ofNat_of_zero_le h0
    rw [Array.getElem?_setIfInBounds, hn]
    simp only [hasTo, hn, Int.toNat_natCast]
    by_cases e : n = j
    · subst e
      simp [hs, show n < 100 by omega]
    · rw [if_neg e, hf j hj]
      have : ¬ ((n : Int) = (j : Int)) := by omega
      simp [this]

def falses : Array Value := Array.replicate 100 (.bool false)
theorem zero_there (w : World) : (zeroValue 74).run Tryd.prog w = .ok (.agg falses) w := by kernel_rfl
theorem there_start (l : List Int) (W : World) : There l 0 (W.alloc (.cells falses 74)) W.heap.size :=
  ⟨falses, heap_alloc_new W _, by simp [falses], fun j hj => by simp [falses, hasTo, hj]⟩

set_option maxHeartbeats 400000 in
theorem hallValid_any (w : World) (v : Value) (h : PHall) (hv : HallAt w v h) :
    Calls Tryd.prog 17 #[v] w (Gives (.bool (validB h)) w) := by
  obtain ⟨cv, rfl, ao, c, rfl, hn, ⟨hc1, hc2⟩, hx⟩ := hv
  obtain ⟨x, y, l⟩ := h
  simp only at hn hx hc1 ⊢
  unfold maxLen at hc2
  by_cases h1 : 2 ≤ x
  rotate_left
  · have H := Lib.hid (show validB ⟨x, y, l⟩ = false by simp [validB, sizeB, inR, h1])
    clear hx
    go_enter Tryd.func17, Tryd.ntmps17
    go_wp2
    go_ret
    exact gives_mk (by rw [H.out]; rfl) ((Below.refl _ _).alloc (Nat.le_refl _) _)
  by_cases h2 : x ≤ 4
  rotate_left
  · have H := Lib.hid (show validB ⟨x, y, l⟩ = false by simp [validB, sizeB, inR, h2])
    clear hx
    go_enter Tryd.func17, Tryd.ntmps17
    go_wp2
    go_ret
    exact gives_mk (by rw [H.out]; rfl) ((Below.refl _ _).alloc (Nat.le_refl _) _)
  by_cases h3 : 2 ≤ y
  rotate_left
  · have H := Lib.hid (show validB ⟨x, y, l⟩ = false by simp [validB, sizeB, inR, h3])
    clear hx
    go_enter Tryd.func17, Tryd.ntmps17
    go_wp2
    go_ret
    exact gives_mk (by rw [H.out]; rfl) ((Below.refl _ _).alloc (Nat.le_refl _) _)
  by_cases h4 : y ≤ 3
  rotate_left
  · have H := Lib.hid (show validB ⟨x, y, l⟩ = false by simp [validB, sizeB, inR, h4])
    clear hx
    go_enter Tryd.func17, Tryd.ntmps17
    go_wp2
    go_ret
    exact gives_mk (by rw [H.out]; rfl) ((Below.refl _ _).alloc (Nat.le_refl _) _)
  obtain ⟨n, hnn⟩ : ∃ n, n = l.length := ⟨_, rfl⟩
  rw [← hnn] at hn hx hc1 ⊢
  rw [lim_eq] at hn
  have HN := Lib.hid hnn
  clear hnn
  have hm := mul_small ⟨h1, h2⟩ ⟨h3, h4⟩
  have hwd : IntKind.i64.wrap (x * y) = x * y := IntWalk.i64_in _ (by omega)
  by_cases h5 : (n : Int) = x * y
  rotate_left
  · have H := Lib.hid (show validB ⟨x, y, l⟩ = false by rw [HN.out] at h5; simp [validB, sizeB, h5])
    have h5' : ((n : Int) != x * y) = true := by simpa using h5
    clear hx h5
    go_enter Tryd.func17, Tryd.ntmps17
    go_wp2
    go_ret
    exact gives_mk (by rw [H.out]; rfl) ((Below.refl _ _).alloc (Nat.le_refl _) _)
  have H := Lib.hid (show validB ⟨x, y, l⟩ = okTo l n by rw [HN.out] at h5 ⊢; simp [validB, sizeB, inR, h1, h2, h3, h4, h5])
  have h5' : ((n : Int) != x * y) = false := by simpa using h5
  have hn12 : n ≤ 12 := by omega
  clear h5
  go_enter Tryd.func17, Tryd.ntmps17
  have hzt := zero_there
  have hd1 : decide (x < 2) = false := by simpa using h1
  have hd2 : decide (4 < x) = false := by simpa using h2
  have hd3 : decide (y < 2) = false := by simpa using h3
  have hd4 : decide (3 < y) = false := by simpa using h4
  go_wp2
  go_loopw [38] (fun i wr => ∃ k : Nat, k ≤ n ∧ i = .int .i64 k ∧ Hid (okTo l k = true) ∧ Hid (There l k wr (w.heap.size + 1)) ∧ Below w.heap.size w wr) (fun i _ => n - (intOf i).toNat)
  case atStart =>
    refine ⟨0, Nat.zero_le _, rfl, rfl, ?_, (Below.refl _ _).alloc (Nat.le_refl _) _ |>.alloc (by simp) _⟩
    have := there_start l (w.alloc (.cells #[.int .i64 x, .int .i64 y, .slice ao n c] 25))
    exact Lib.hid (by simpa using this)
  case round =>
    obtain ⟨k, hk, rfl, ha, hth, hbel⟩ := hrel
    clear hzt
    by_cases hlt : k < n
    · obtain ⟨b, o, rfl, hc⟩ := (hx.keep hbel) k hlt
      have HB := Lib.hid hbel
      clear hx hbel hwd
      by_cases h6 : 0 ≤ gi l k
      rotate_left
      · have Hf := Lib.hid (okTo_no hlt (show okAt l k = false by simp [okAt, inR, h6]))
        clear ha
        go_wp2
        go_ret
        exact gives_mk (by rw [H.out, Hf.out]; rfl) HB.out
      by_cases h7 : gi l k ≤ 99
      rotate_left
      · have Hf := Lib.hid (okTo_no hlt (show okAt l k = false by simp [okAt, inR, h7]))
        clear ha
        go_wp2
        go_ret
        exact gives_mk (by rw [H.out, Hf.out]; rfl) HB.out
      have hcell := there_cell hth.out h6 h7
      have hfr := there_free hth.out (gi l k).toNat
      cases h8 : (decide (0 < gi l k) && hasTo l (gi l k) k)
      · rw [h8] at hcell
        have Hf := Lib.hid (okTo_yes ha.out (show okAt l k = true by simp only [okAt, h8]; simp [inR, h6, h7]))
        have Ht := Lib.hid (there_step hth.out h6 h7)
        have Hb := Lib.hid (HB.out.setCell (p := ⟨w.heap.size + 1, (gi l k).toNat, none⟩) (by simp) (.bool (decide (0 < gi l k))))
        clear h8 ha hth
        go_wp2
        go_roundw
        case rel => exact ⟨k+1, by omega, by go_num, Hf, Ht, Hb.out⟩
        case measure => simp [intOf]; omega
      · rw [h8] at hcell
        have Hf := Lib.hid (okTo_no hlt (show okAt l k = false by simp only [okAt, h8]; simp))
        clear h8 ha hth
        go_wp2
        go_ret
        exact gives_mk (by rw [H.out, Hf.out]; rfl) HB.out
    · obtain rfl : k = n := by omega
      have HB := Lib.hid hbel
      clear hx hbel hwd
      go_wp2
      go_ret
      exact gives_mk (by rw [H.out, ha.out]; rfl) HB.out

end Go.Proofs.YtnfjmcenjpoloaaDoor
end

section
/-
  hasCell, CellAt, CellPlace, HallFind, slices.Index: what the program and the reference return.
-/
set_option linter.unusedVariables false
namespace Go.Proofs.YtnfjmcenjpoloaaDoor
open Go Go.RowKit Go.Park

/-- a cell of a hall, as the program asks -/
def hasCellB (h : PHall) (c : Int) : Bool := inR c 0 ((h.cells.length : Int) - 1)

set_option maxHeartbeats 400000 in
theorem hasCell_any (w : World) (v : Value) (h : PHall) (c : Int) (hv : HallAt w v h) :
    Calls Tryd.prog 80 #[v, .int .i64 c] w (Gives (.bool (hasCellB h c)) w) := by
  obtain ⟨cv, rfl, ao, cp, rfl, hn, _, hx⟩ := hv
  rw [lim_eq] at hn
  obtain ⟨n, hnn⟩ : ∃ n, n = h.cells.length := ⟨_, rfl⟩
  have H0 : Hid (hasCellB h c = inR c 0 ((n : Int) - 1)) := Lib.hid (by rw [hnn]; rfl)
  rw [← hnn] at hn hx ⊢
  clear hnn hx
  by_cases h1 : 0 ≤ c
  · by_cases h2 : c < n
    · have H := Lib.hid (show hasCellB h c = true by rw [H0.out, inR_true]; omega)
      go_enter Tryd.func80, Tryd.ntmps80
      go_wp2
      go_ret
      exact gives_mk (by rw [H.out]; rfl) (below_new _ _)
    · have H := Lib.hid (show hasCellB h c = false by rw [H0.out, inR_false]; omega)
      go_enter Tryd.func80, Tryd.ntmps80
      go_wp2
      go_ret
      exact gives_mk (by rw [H.out]; rfl) (below_new _ _)
  · have H := Lib.hid (show hasCellB h c = false by rw [H0.out, inR_false]; omega)
    go_enter Tryd.func80, Tryd.ntmps80
    go_wp2
    go_ret
    exact gives_mk (by rw [H.out]; rfl) (below_new _ _)

/-- the first place of a number in a list, up to n -/
def idxTo (l : List Int) (x : Int) : Nat → Int
  | 0 => -1
  | k+1 => if idxTo l x k = -1 then (if gi l k = x then (k : Int) else -1) else idxTo l x k
theorem idxTo_no {l : List Int} {x : Int} {k : Nat} (h : idxTo l x k = -1) (e : ¬ gi l k = x) : idxTo l x (k+1) = -1 := by simp [idxTo, h, e]
theorem idxTo_hit {l : List Int} {x : Int} {k : Nat} (h : idxTo l x k = -1) (e : gi l k = x) : ∀ n, k < n → idxTo l x n = k := by
  intro n hn
  induction n with
  | zero => omega
  | succ n ih =>
    by_cases hkn : k = n
    · subst hkn; simp [idxTo, h, e]
    · have := ih (by omega)
      simp only [idxTo]
      rw [this, if_neg (by omega)]

set_option maxHeartbeats 400000 in
theorem index_any (w : World) (v : Value) (l : List Int) (x : Int) (hv : IntsAt w v l) :
    Calls Tryd.prog 73 #[v, .int .i64 x] w (Tells (.int .i64 (idxTo l x l.length)) w) := by
  obtain ⟨ao, c, rfl, hn, _, hx⟩ := hv
  rw [lim_eq] at hn
  obtain ⟨n, hnn⟩ : ∃ n, n = l.length := ⟨_, rfl⟩
  rw [← hnn] at hn hx ⊢
  clear hnn
  go_enter Tryd.func73, Tryd.ntmps73
  go_wp2
  go_loopw [8] (fun i wr => ∃ k : Nat, k ≤ n ∧ i = .int .i64 k ∧ Hid (idxTo l x k = -1) ∧ ∃ q, wr = w.drewN q) (fun i _ => n - (intOf i).toNat)
  case atStart => exact ⟨0, Nat.zero_le _, rfl, rfl, 0, rfl⟩
  case round =>
    obtain ⟨k, hk, rfl, ha, q, rfl⟩ := hrel
    by_cases hlt : k < n
    · obtain ⟨b, o, rfl, h1⟩ := hx k hlt
      clear hx
      by_cases he : gi l k = x
      · have Hf := Lib.hid (idxTo_hit ha.out he n hlt)
        have hb : (x == gi l k) = true := by simpa using he.symm
        clear he ha
        go_wp2
        go_ret
        exact tells_mk (by rw [Hf.out]; rfl) (drewN1 _ _)
      · have Hf := Lib.hid (idxTo_no ha.out he)
        have hb : (x == gi l k) = false := by simpa using fun e : x = gi l k => he e.symm
        clear he ha
        go_wp2
        go_roundw
        case rel => exact ⟨k+1, by omega, by go_num, Hf, _, rfl⟩
        case measure => simp [intOf]; omega
    · obtain rfl : k = n := by omega
      clear hx
      go_wp2
      go_ret
      exact tells_mk (by rw [ha.out]; rfl) (drewN1 _ _)

def hallFindF (h : PHall) (x : Int) : Int := if validB h = true ∧ 1 ≤ x then idxTo h.cells x h.cells.length else -1

set_option maxHeartbeats 400000 in
theorem hallFind_any (w : World) (v : Value) (h : PHall) (x : Int) (hv : HallAt w v h) :
    Calls Tryd.prog 24 #[v, .int .i64 x] w (Gives (.int .i64 (hallFindF h x)) w) := by
  have HV := Lib.hid hv
  obtain ⟨cv, rfl, hc⟩ := hv
  have HC := Lib.hid hc
  clear hc
  cases hval : validB h
  · have H := Lib.hid (show hallFindF h x = -1 by simp [hallFindF, hval])
    have HW : Hid (∀ w' : World, HallAt w' _ h → Calls Tryd.prog 17 #[.agg #[.int .i64 h.wide, .int .i64 h.deep, cv]] w' (Gives (.bool false) w')) := fun w' hh => by rw [← hval]; exact hallValid_any w' _ h hh
    clear hval
    go_enter Tryd.func24, Tryd.ntmps24
    go_wp2_with fail
    refine (HW.out _ (HV.out.keep (below_new _ _))).mono ?_
    rintro e w1 ⟨rfl, hb⟩
    have b1 := (box3_new w _ _ _ _).keep hb
    have b1_0 := b1.c0
    have b1_1 := b1.c1
    have b1_2 := b1.c2
    have b1_l := b1.lt
    have HB := Lib.hid (below_alloc hb)
    clear hb
    go_wp2
    go_ret
    exact gives_mk (by rw [H.out]; rfl) HB.out
  · have HW : Hid (∀ w' : World, HallAt w' _ h → Calls Tryd.prog 17 #[.agg #[.int .i64 h.wide, .int .i64 h.deep, cv]] w' (Gives (.bool true) w')) := fun w' hh => by rw [← hval]; exact hallValid_any w' _ h hh
    by_cases hx : 1 ≤ x
    · have H := Lib.hid (show hallFindF h x = idxTo h.cells x h.cells.length by simp [hallFindF, hval, hx])
      clear hval
      go_enter Tryd.func24, Tryd.ntmps24
      go_wp2_with fail
      refine (HW.out _ (HV.out.keep (below_new _ _))).mono ?_
      rintro e w1 ⟨rfl, hb⟩
      have b1 := (box3_new w _ _ _ _).keep hb
      have b1_0 := b1.c0
      have b1_1 := b1.c1
      have b1_2 := b1.c2
      have b1_l := b1.lt
      have HB := Lib.hid (below_alloc hb)
      clear hb
      go_wp2_with fail
      refine (index_any _ _ h.cells _ (HC.out.keep HB.out)).mono ?_
      rintro e w2 ⟨rfl, q, rfl⟩
      go_wp2
      go_ret
      exact gives_mk (by rw [H.out]; rfl) (below_drewN HB.out _)
    · have H := Lib.hid (show hallFindF h x = -1 by simp [hallFindF, hx])
      clear hval
      go_enter Tryd.func24, Tryd.ntmps24
      go_wp2_with fail
      refine (HW.out _ (HV.out.keep (below_new _ _))).mono ?_
      rintro e w1 ⟨rfl, hb⟩
      have b1 := (box3_new w _ _ _ _).keep hb
      have b1_0 := b1.c0
      have b1_1 := b1.c1
      have b1_2 := b1.c2
      have b1_l := b1.lt
      have HB := Lib.hid (below_alloc hb)
      clear hb
      go_wp2
      go_ret
      exact gives_mk (by rw [H.out]; rfl) HB.out

end Go.Proofs.YtnfjmcenjpoloaaDoor
end

section
/-
  spec.HallFind, CellAt, CellPlace.
-/
set_option linter.unusedVariables false
namespace Go.Proofs.YtnfjmcenjpoloaaDoor
open Go Go.RowKit Go.Park

/-- what a hall's validity comes to, as contracts of both functions -/
theorem valid_calls {h : PHall} {b : Bool} (hb : validB h = b) : ∀ (w' : World) (v : Value), HallAt w' v h → Calls Tryd.prog 17 #[v] w' (Gives (.bool b) w') := fun w' v hh => by rw [← hb]; exact hallValid_any w' _ h hh
theorem specValid_calls {h : PHall} {b : Bool} (hb : validB h = b) : ∀ (w' : World) (v : Value), HallAt w' v h → Calls Tryd.prog 16 #[v] w' (Gives (.bool b) w') := fun w' v hh => by rw [← hb]; exact specHallValid_any w' _ h hh
theorem valid_size {h : PHall} (hb : validB h = true) : (2 ≤ h.wide ∧ h.wide ≤ 4) ∧ (2 ≤ h.deep ∧ h.deep ≤ 3) ∧ (h.cells.length : Int) = h.wide * h.deep := by
  simp only [validB, Bool.and_eq_true] at hb
  exact sizeB_true.1 hb.1
theorem valid_len {h : PHall} (hb : validB h = true) : 4 ≤ h.cells.length ∧ h.cells.length ≤ 12 := by
  obtain ⟨⟨a, b⟩, ⟨c, d⟩, e⟩ := valid_size hb
  have h1 : h.wide * h.deep ≤ 4 * 3 := Int.mul_le_mul b d (by omega) (by omega)
  have h2 : 2 * 2 ≤ h.wide * h.deep := Int.mul_le_mul a c (by omega) (by omega)
  omega
set_option maxHeartbeats 400000 in
theorem specHallFind_any (w : World) (v : Value) (h : PHall) (x : Int) (hv : HallAt w v h) :
    Calls Tryd.prog 55 #[v, .int .i64 x] w (Gives (.int .i64 (hallFindF h x)) w) := by
  have HV := Lib.hid hv
  obtain ⟨cv, rfl, ao, c, rfl, hn, hcm, hx⟩ := hv
  have HX := Lib.hid hx
  clear hx
  cases hval : validB h
  · have H := Lib.hid (show hallFindF h x = -1 by simp [hallFindF, hval])
    have HW := Lib.hid (specValid_calls hval)
    clear hval
    go_enter Tryd.func55, Tryd.ntmps55
    go_wp2_with fail
    refine (HW.out _ _ (HV.out.keep (below_new _ _))).mono ?_
    rintro e w1 ⟨rfl, hb⟩
    have b1 := (box3_new w _ _ _ _).keep hb
    have b1_0 := b1.c0
    have b1_1 := b1.c1
    have b1_2 := b1.c2
    have b1_l := b1.lt
    have HB := Lib.hid (below_alloc hb)
    clear hb
    go_wp2
    go_ret
    exact gives_mk (by rw [H.out]; rfl) HB.out
  have HW := Lib.hid (specValid_calls hval)
  by_cases hx : 1 ≤ x
  rotate_left
  · have H := Lib.hid (show hallFindF h x = -1 by simp [hallFindF, hx])
    clear hval
    go_enter Tryd.func55, Tryd.ntmps55
    go_wp2_with fail
    refine (HW.out _ _ (HV.out.keep (below_new _ _))).mono ?_
    rintro e w1 ⟨rfl, hb⟩
    have b1 := (box3_new w _ _ _ _).keep hb
    have b1_0 := b1.c0
    have b1_1 := b1.c1
    have b1_2 := b1.c2
    have b1_l := b1.lt
    have HB := Lib.hid (below_alloc hb)
    clear hb
    go_wp2
    go_ret
    exact gives_mk (by rw [H.out]; rfl) HB.out
  have H := Lib.hid (show hallFindF h x = idxTo h.cells x h.cells.length by simp [hallFindF, hval, hx])
  have hlen := valid_len hval
  obtain ⟨n, hnn⟩ : ∃ n, n = h.cells.length := ⟨_, rfl⟩
  rw [← hnn] at hlen H HV HX ⊢
  clear hval hn hcm hnn
  go_enter Tryd.func55, Tryd.ntmps55
  go_wp2_with fail
  refine (HW.out _ _ (HV.out.keep (below_new _ _))).mono ?_
  rintro e w1 ⟨rfl, hb⟩
  have b1 := (box3_new w _ _ _ _).keep hb
  have b1_0 := b1.c0
  have b1_1 := b1.c1
  have b1_2 := b1.c2
  have b1_l := b1.lt
  have HB := Lib.hid (below_alloc hb)
  have hx1 := HX.out.keep HB.out
  clear hb
  go_wp2
  go_loopw [5] (fun i wr => ∃ k : Nat, k ≤ n ∧ i = .int .i64 k ∧ Hid (idxTo h.cells x k = -1) ∧ ∃ q, wr = w1.drewN q) (fun i _ => n - (intOf i).toNat)
  case atStart => exact ⟨0, Nat.zero_le _, rfl, rfl, 0, rfl⟩
  case round =>
    obtain ⟨k, hk, rfl, ha, q, rfl⟩ := hrel
    by_cases hlt : k < n
    · obtain ⟨b, o, rfl, h1⟩ := hx1 k hlt
      clear hx1
      by_cases he : gi h.cells k = x
      · have Hf := Lib.hid (idxTo_hit ha.out he n hlt)
        have hb : (gi h.cells k == x) = true := by simpa using he
        clear he ha
        go_wp2
        go_ret
        exact gives_mk (by rw [H.out, Hf.out]; rfl) (below_drewN HB.out _)
      · have Hf := Lib.hid (idxTo_no ha.out he)
        have hb : (gi h.cells k == x) = false := by simpa using he
        clear he ha
        go_wp2
        go_roundw
        case rel => exact ⟨k+1, by omega, by go_num, Hf, _, rfl⟩
        case measure => simp [intOf]; omega
    · obtain rfl : k = n := by omega
      clear hx1
      go_wp2
      go_ret
      exact gives_mk (by rw [H.out, ha.out]; rfl) (below_drewN HB.out _)

end Go.Proofs.YtnfjmcenjpoloaaDoor
end

section
/-
  CellPlace and HallEmpty.
-/
set_option linter.unusedVariables false
set_option maxRecDepth 100000
namespace Go.Proofs.YtnfjmcenjpoloaaDoor
open Go Go.RowKit Go.Park

theorem hasCell_iff {h : PHall} {c : Int} : hasCellB h c = true ↔ 0 ≤ c ∧ c < h.cells.length := by unfold hasCellB; rw [inR_true]; omega
theorem hasCell_calls {h : PHall} {c : Int} {b : Bool} (hb : hasCellB h c = b) : ∀ (w' : World) (v : Value), HallAt w' v h → Calls Tryd.prog 80 #[v, .int .i64 c] w' (Gives (.bool b) w') := fun w' v hh => by rw [← hb]; exact hasCell_any w' _ h c hh



/-! HallEmpty -/
def hallEmptyF (x y : Int) : PHall := if inR x 2 4 = true ∧ inR y 2 3 = true then ⟨x, y, List.replicate (x * y).toNat 0⟩ else ⟨0, 0, []⟩
/-- a call returns a hall of its own -/
def GivesHall (h : PHall) (w : World) (e : Ending) (w' : World) : Prop :=
  ∃ cv, e = .returned (.agg #[.int .i64 h.wide, .int .i64 h.deep, cv]) ∧ OwnInts w.heap.size w' cv h.cells ∧ Below w.heap.size w w'
theorem ownInts_nil (lo : Nat) (w : World) : OwnInts lo w (.slice none 0 0) [] := ⟨by simp [lim], World.ownsRow_nil _ _ _ _⟩
theorem ownInts_zero {lo n : Nat} {w : World} {v : Value} (hn : n ≤ 12) (h : w.ownsRow lo 3 1 v n (madeCells (Value.int .i64 0).cells (n * 1)).toList) : OwnInts lo w v (List.replicate n 0) := by
  refine ⟨by simp [lim]; omega, ?_⟩
  have e : (madeCells (Value.int .i64 0).cells (n * 1)).toList = (List.replicate n (0 : Int)).map (Value.int .i64) := by
    rw [show (Value.int .i64 0).cells = #[Value.int .i64 0] from rfl, toList_madeCells_one, List.map_replicate, Nat.mul_one]
  rw [e] at h
  simpa using h

set_option maxHeartbeats 400000 in
theorem specHallEmpty_any (w : World) (x y : Int) :
    Calls Tryd.prog 99 #[.int .i64 x, .int .i64 y] w (GivesHall (hallEmptyF x y) w) := by
  cases h1 : inR x 2 4
  · have H := Lib.hid (show hallEmptyF x y = ⟨0, 0, []⟩ by simp [hallEmptyF, h1])
    have HI := Lib.hid (l1In_calls h1)
    clear h1
    go_enter Tryd.func99, Tryd.ntmps99
    go_wp2_with fail
    refine (HI.out _).mono ?_
    rintro e w2 ⟨rfl, q, rfl⟩
    go_wp2
    refine bodyPost_ret (v := .agg #[.int .i64 0, .int .i64 0, .slice none 0 0]) (by simp [results, Tryd.results99, go_sem]) rfl ?_
    unfold GivesHall; rw [H.out]
    exact ⟨_, rfl, ownInts_nil _ _, by repeat (first | exact below_new _ _ | refine below_drewN ?_ _ | refine Below.setCell ?_ (by simp) _)⟩
  have HI := Lib.hid (l1In_calls h1)
  cases h2 : inR y 2 3
  · have H := Lib.hid (show hallEmptyF x y = ⟨0, 0, []⟩ by simp [hallEmptyF, h2])
    have HI2 := Lib.hid (l1In_calls h2)
    clear h1 h2
    go_enter Tryd.func99, Tryd.ntmps99
    go_wp2_with fail
    refine (HI.out _).mono ?_
    rintro e w2 ⟨rfl, q, rfl⟩
    go_wp2_with fail
    refine (HI2.out _).mono ?_
    rintro e w2 ⟨rfl, q', rfl⟩
    go_wp2
    refine bodyPost_ret (v := .agg #[.int .i64 0, .int .i64 0, .slice none 0 0]) (by simp [results, Tryd.results99, go_sem]) rfl ?_
    unfold GivesHall; rw [H.out]
    exact ⟨_, rfl, ownInts_nil _ _, by repeat (first | exact below_new _ _ | refine below_drewN ?_ _ | refine Below.setCell ?_ (by simp) _)⟩
  have HI2 := Lib.hid (l1In_calls h2)
  have H := Lib.hid (show hallEmptyF x y = ⟨x, y, List.replicate (x * y).toNat 0⟩ by simp [hallEmptyF, h1, h2])
  have hm := mul_small (inR_true.1 h1) (inR_true.1 h2)
  have e1 : wrap64 (x * y) = x * y := IntWalk.wrap64_in _ (by omega)
  obtain ⟨n, hn⟩ := Int.eq_ofNat_of_zero_le hm.1
  have hn12 : n ≤ 12 := by omega
  have HN := Lib.hid hn
  obtain ⟨i0, hi, hz0, hz1, hz2⟩ := info_parts Tryd.infoInt
  clear h1 h2 hn hm
  go_enter Tryd.func99, Tryd.ntmps99
  go_wp2_with fail
  refine (HI.out _).mono ?_
  rintro e w2 ⟨rfl, q, rfl⟩
  go_wp2_with fail
  refine (HI2.out _).mono ?_
  rintro e w2 ⟨rfl, q', rfl⟩
  go_wp2_with (at_make; go_must (refine wpList_make_full _ rfl _ _ 23 rfl (w.heap.size + 1) 3 i0 (.int .i64 0) 1 Tryd.underlying23 hi hz0 hz1 _ _ _ _ n rfl rfl ?_ ?_ ?_ ?_ ?_ ?_; (rw [e1]; exact HN.out); (rw [e1]; exact HN.out); (rw [hz2]; omega); (unfold maxLen; omega); (simp); intro w1 hown hgr; have hh0 := hgr.block w.heap.size (by simp) (by simp); have hh := blk3_of (w := w1) (g := w.heap.size) (t := 25) (hh0.trans (heap_alloc_new w _)); clear hh0; have c0 := hh.box.c0; have c1 := hh.box.c1; have c2 := hh.box.c2; have f0 := hh.f0; have f1 := hh.f1; have f2 := hh.f2))
  refine bodyPost_ret (v := .agg #[.int .i64 x, .int .i64 y, .slice (some ⟨w.heap.size + 1, 0, none⟩) n n]) (by simp [results, Tryd.results99, go_sem, c0, c1, c2]) rfl ?_
  have HB := below_then (below_drewN (below_new w _) (q + q')) (below_of_grown hgr)
  have e2 : (x * y).toNat = n := by rw [HN.out]; simp
  unfold GivesHall; rw [H.out, e2]
  refine ⟨_, rfl, OwnInts.base (lo := w.heap.size + 1) ?_ (by omega), ?_⟩
  · refine ownInts_zero hn12 ?_
    repeat (first | exact hown | (refine ownsRow_setCell_below ?_ (by simp) _) | (simpa using hown))
  · exact HB.setCell (by simp) _ |>.setCell (by simp) _ |>.setCell (by simp) _




end Go.Proofs.YtnfjmcenjpoloaaDoor
end

section
/-
  How far cells lie apart.
-/
set_option linter.unusedVariables false
namespace Go.Proofs.YtnfjmcenjpoloaaDoor
open Go Go.RowKit Go.Park

def farF (x y : Int) : Int := max (x - y) (y - x)
def apartF (w a b : Int) : Int := farF (a % w) (b % w) + farF (a / w) (b / w)
theorem ret_num {x y : Int} (h : x = y) : Value.int .i64 x = Value.int .i64 y := by rw [h]

set_option maxHeartbeats 400000 in
theorem l1Far_any (w : World) (x y : Int) (h1 : 0 ≤ x ∧ x ≤ 1000) (h2 : 0 ≤ y ∧ y ≤ 1000) :
    Calls Tryd.prog 132 #[.int .i64 x, .int .i64 y] w (Tells (.int .i64 (farF x y)) w) := by
  obtain ⟨h1, h1'⟩ := h1
  obtain ⟨h2, h2'⟩ := h2
  have H : Hid (farF x y = max (x - y) (y - x)) := Lib.hid rfl
  go_enter Tryd.func132, Tryd.ntmps132
  go_wp2
  all_goals
    go_ret
    refine tells_mk ?_ (drew0 _)
    show Value.int IntKind.i64 _ = Value.int IntKind.i64 _
    rw [H.out]
    exact ret_num (by omega)

set_option maxHeartbeats 4000000 in
theorem l1Apart_any (W : World) (w a b : Int) (hw : 2 ≤ w ∧ w ≤ 4) (ha : 0 ≤ a ∧ a < 12) (hb : 0 ≤ b ∧ b < 12) :
    Calls Tryd.prog 113 #[.int .i64 w, .int .i64 a, .int .i64 b] W (Tells (.int .i64 (apartF w a b)) W) := by
  obtain ⟨a1, a2⟩ := ha
  obtain ⟨b1, b2⟩ := hb
  have hw' : w = 2 ∨ w = 3 ∨ w = 4 := by omega
  clear hw
  rcases hw' with rfl | rfl | rfl
  all_goals
    go_enter Tryd.func113, Tryd.ntmps113
    go_wp2
    go_quiet ((go_at_call 132; exact Calls.quiet_of (l1Far_any _ _ _ (by omega) (by omega))))
    go_wp2
    go_ret
    refine tells_mk ?_ (drewN1 _ _)
    show Value.int IntKind.i64 (wrap64 _) = Value.int IntKind.i64 _
    unfold apartF
    exact ret_num (IntWalk.wrap64_in _ (by unfold farF; omega))

set_option maxHeartbeats 4000000 in
theorem apart_any (W : World) (w a b : Int) (hw : 2 ≤ w ∧ w ≤ 4) (ha : 0 ≤ a ∧ a < 12) (hb : 0 ≤ b ∧ b < 12) :
    Calls Tryd.prog 81 #[.int .i64 w, .int .i64 a, .int .i64 b] W (Tells (.int .i64 (apartF w a b)) W) := by
  obtain ⟨a1, a2⟩ := ha
  obtain ⟨b1, b2⟩ := hb
  have hw' : w = 2 ∨ w = 3 ∨ w = 4 := by omega
  clear hw
  rcases hw' with rfl | rfl | rfl
  all_goals
    have H : Hid (∀ z, apartF z a b = farF (a % z) (b % z) + farF (a / z) (b / z)) := Lib.hid (fun _ => rfl)
    go_enter Tryd.func81, Tryd.ntmps81
    go_wp2
    go_quiet (fail)
    go_wp2
    go_quiet (fail)
    go_wp2
    all_goals
      go_ret
      refine tells_mk ?_ (by first | exact drewN1 _ _ | exact drewNN _ _ _)
      show Value.int IntKind.i64 _ = Value.int IntKind.i64 _
      rw [H.out]
      unfold farF
      exact ret_num (by omega)

/-! CellsApart -/
def apartAt (h : PHall) (a b : Int) : Int := if validB h = true ∧ hasCellB h a = true ∧ hasCellB h b = true then apartF h.wide a b else -1
theorem l1In_has {h : PHall} {c : Int} {r : Bool} (hr : hasCellB h c = r) : ∀ w' : World, Calls Tryd.prog 63 #[.int .i64 c, .int .i64 0, .int .i64 ((h.cells.length : Int) - 1)] w' (Tells (.bool r) w') := l1In_calls hr
theorem cell_small {h : PHall} {c : Int} (hv : validB h = true) (hc : hasCellB h c = true) : 0 ≤ c ∧ c < 12 := by
  have h1 := hasCell_iff.1 hc
  have h2 := valid_len hv
  omega

set_option maxHeartbeats 400000 in
theorem specCellsApart_any (w : World) (v : Value) (h : PHall) (a b : Int) (hv : HallAt w v h) :
    Calls Tryd.prog 100 #[v, .int .i64 a, .int .i64 b] w (Gives (.int .i64 (apartAt h a b)) w) := by
  have HV := Lib.hid hv
  obtain ⟨cv, rfl, ao, cp, rfl, hn, _, hc⟩ := hv
  rw [lim_eq] at hn
  clear hc
  cases hval : validB h
  · have H := Lib.hid (show apartAt h a b = -1 by simp [apartAt, hval])
    have HW := Lib.hid (specValid_calls hval)
    clear hval
    go_enter Tryd.func100, Tryd.ntmps100
    go_wp2_with fail
    refine (HW.out _ _ (HV.out.keep (below_new _ _))).mono ?_
    rintro e w1 ⟨rfl, hb⟩
    have b1 := (box3_new w _ _ _ _).keep hb
    have b1_0 := b1.c0
    have b1_1 := b1.c1
    have b1_2 := b1.c2
    have b1_l := b1.lt
    have HB := Lib.hid (below_alloc hb)
    clear hb
    go_wp2
    go_ret
    exact gives_mk (by rw [H.out]; rfl) HB.out
  have HW := Lib.hid (specValid_calls hval)
  cases h1 : hasCellB h a
  · have H := Lib.hid (show apartAt h a b = -1 by simp [apartAt, h1])
    have HI := Lib.hid (l1In_has h1)
    clear hval h1
    go_enter Tryd.func100, Tryd.ntmps100
    go_wp2_with fail
    refine (HW.out _ _ (HV.out.keep (below_new _ _))).mono ?_
    rintro e w1 ⟨rfl, hb⟩
    have b1 := (box3_new w _ _ _ _).keep hb
    have b1_0 := b1.c0
    have b1_1 := b1.c1
    have b1_2 := b1.c2
    have b1_l := b1.lt
    have HB := Lib.hid (below_alloc hb)
    clear hb
    go_wp2_with fail
    refine (HI.out _).mono ?_
    rintro e w2 ⟨rfl, q, rfl⟩
    go_wp2
    go_ret
    exact gives_mk (by rw [H.out]; rfl) (below_drewN HB.out _)
  have HI := Lib.hid (l1In_has h1)
  cases h2 : hasCellB h b
  · have H := Lib.hid (show apartAt h a b = -1 by simp [apartAt, h2])
    have HI2 := Lib.hid (l1In_has h2)
    clear hval h1 h2
    go_enter Tryd.func100, Tryd.ntmps100
    go_wp2_with fail
    refine (HW.out _ _ (HV.out.keep (below_new _ _))).mono ?_
    rintro e w1 ⟨rfl, hb⟩
    have b1 := (box3_new w _ _ _ _).keep hb
    have b1_0 := b1.c0
    have b1_1 := b1.c1
    have b1_2 := b1.c2
    have b1_l := b1.lt
    have HB := Lib.hid (below_alloc hb)
    clear hb
    go_wp2_with fail
    refine (HI.out _).mono ?_
    rintro e w2 ⟨rfl, q, rfl⟩
    go_wp2_with fail
    refine (HI2.out _).mono ?_
    rintro e w2 ⟨rfl, q', rfl⟩
    go_wp2
    go_ret
    exact gives_mk (by rw [H.out]; rfl) (below_drewN HB.out _)
  have HI2 := Lib.hid (l1In_has h2)
  have H := Lib.hid (show apartAt h a b = apartF h.wide a b by simp [apartAt, hval, h1, h2])
  have HA := Lib.hid (fun W : World => l1Apart_any W h.wide a b (valid_size hval).1 (cell_small hval h1) (cell_small hval h2))
  clear hval h1 h2
  go_enter Tryd.func100, Tryd.ntmps100
  go_wp2_with fail
  refine (HW.out _ _ (HV.out.keep (below_new _ _))).mono ?_
  rintro e w1 ⟨rfl, hb⟩
  have b1 := (box3_new w _ _ _ _).keep hb
  have b1_0 := b1.c0
  have b1_1 := b1.c1
  have b1_2 := b1.c2
  have b1_l := b1.lt
  have HB := Lib.hid (below_alloc hb)
  clear hb
  go_wp2_with fail
  refine (HI.out _).mono ?_
  rintro e w2 ⟨rfl, q, rfl⟩
  go_wp2_with fail
  refine (HI2.out _).mono ?_
  rintro e w2 ⟨rfl, q', rfl⟩
  go_wp2_with fail
  refine (HA.out _).mono ?_
  rintro e w2 ⟨rfl, q2, rfl⟩
  go_wp2
  go_ret
  exact gives_mk (by rw [H.out]; rfl) (below_drewN HB.out _)

set_option maxHeartbeats 400000 in
theorem cellsApart_any (w : World) (v : Value) (h : PHall) (a b : Int) (hv : HallAt w v h) :
    Calls Tryd.prog 36 #[v, .int .i64 a, .int .i64 b] w (Gives (.int .i64 (apartAt h a b)) w) := by
  have HV := Lib.hid hv
  obtain ⟨cv, rfl, hc⟩ := hv
  clear hc
  cases hval : validB h
  · have H := Lib.hid (show apartAt h a b = -1 by simp [apartAt, hval])
    have HW := Lib.hid (valid_calls hval)
    clear hval
    go_enter Tryd.func36, Tryd.ntmps36
    go_wp2_with fail
    refine (HW.out _ _ (HV.out.keep (below_new _ _))).mono ?_
    rintro e w1 ⟨rfl, hb⟩
    have b1 := (box3_new w _ _ _ _).keep hb
    have b1_0 := b1.c0
    have b1_1 := b1.c1
    have b1_2 := b1.c2
    have b1_l := b1.lt
    have HB := Lib.hid (below_alloc hb)
    clear hb
    go_wp2
    go_ret
    exact gives_mk (by rw [H.out]; rfl) HB.out
  have HW := Lib.hid (valid_calls hval)
  cases h1 : hasCellB h a
  · have H := Lib.hid (show apartAt h a b = -1 by simp [apartAt, h1])
    have HI := Lib.hid (hasCell_calls h1)
    clear hval h1
    go_enter Tryd.func36, Tryd.ntmps36
    go_wp2_with fail
    refine (HW.out _ _ (HV.out.keep (below_new _ _))).mono ?_
    rintro e w1 ⟨rfl, hb⟩
    have b1 := (box3_new w _ _ _ _).keep hb
    have b1_0 := b1.c0
    have b1_1 := b1.c1
    have b1_2 := b1.c2
    have b1_l := b1.lt
    have HB := Lib.hid (below_alloc hb)
    clear hb
    go_wp2_with fail
    refine (HI.out _ _ (HV.out.keep HB.out)).mono ?_
    rintro e w2 ⟨rfl, hb⟩
    have b2 := b1.keep hb
    have b2_0 := b2.c0
    have b2_1 := b2.c1
    have b2_2 := b2.c2
    have b2_l := b2.lt
    have HB2 := Lib.hid (below_then HB.out hb)
    clear hb
    go_wp2
    go_ret
    exact gives_mk (by rw [H.out]; rfl) HB2.out
  have HI := Lib.hid (hasCell_calls h1)
  cases h2 : hasCellB h b
  · have H := Lib.hid (show apartAt h a b = -1 by simp [apartAt, h2])
    have HI2 := Lib.hid (hasCell_calls h2)
    clear hval h1 h2
    go_enter Tryd.func36, Tryd.ntmps36
    go_wp2_with fail
    refine (HW.out _ _ (HV.out.keep (below_new _ _))).mono ?_
    rintro e w1 ⟨rfl, hb⟩
    have b1 := (box3_new w _ _ _ _).keep hb
    have b1_0 := b1.c0
    have b1_1 := b1.c1
    have b1_2 := b1.c2
    have b1_l := b1.lt
    have HB := Lib.hid (below_alloc hb)
    clear hb
    go_wp2_with fail
    refine (HI.out _ _ (HV.out.keep HB.out)).mono ?_
    rintro e w2 ⟨rfl, hb⟩
    have b2 := b1.keep hb
    have b2_0 := b2.c0
    have b2_1 := b2.c1
    have b2_2 := b2.c2
    have b2_l := b2.lt
    have HB2 := Lib.hid (below_then HB.out hb)
    clear hb
    go_wp2_with fail
    refine (HI2.out _ _ (HV.out.keep HB2.out)).mono ?_
    rintro e w3 ⟨rfl, hb⟩
    have HB3 := Lib.hid (below_then HB2.out hb)
    clear hb
    go_wp2
    go_ret
    exact gives_mk (by rw [H.out]; rfl) HB3.out
  have HI2 := Lib.hid (hasCell_calls h2)
  have H := Lib.hid (show apartAt h a b = apartF h.wide a b by simp [apartAt, hval, h1, h2])
  have HA := Lib.hid (fun W : World => apart_any W h.wide a b (valid_size hval).1 (cell_small hval h1) (cell_small hval h2))
  clear hval h1 h2
  go_enter Tryd.func36, Tryd.ntmps36
  go_wp2_with fail
  refine (HW.out _ _ (HV.out.keep (below_new _ _))).mono ?_
  rintro e w1 ⟨rfl, hb⟩
  have b1 := (box3_new w _ _ _ _).keep hb
  have b1_0 := b1.c0
  have b1_1 := b1.c1
  have b1_2 := b1.c2
  have b1_l := b1.lt
  have HB := Lib.hid (below_alloc hb)
  clear hb
  go_wp2_with fail
  refine (HI.out _ _ (HV.out.keep HB.out)).mono ?_
  rintro e w2 ⟨rfl, hb⟩
  have b2 := b1.keep hb
  have b2_0 := b2.c0
  have b2_1 := b2.c1
  have b2_2 := b2.c2
  have b2_l := b2.lt
  have HB2 := Lib.hid (below_then HB.out hb)
  clear hb
  go_wp2_with fail
  refine (HI2.out _ _ (HV.out.keep HB2.out)).mono ?_
  rintro e w3 ⟨rfl, hb⟩
  have b3 := b2.keep hb
  have b3_0 := b3.c0
  have b3_1 := b3.c1
  have b3_2 := b3.c2
  have b3_l := b3.lt
  have HB3 := Lib.hid (below_then HB2.out hb)
  clear hb
  go_wp2_with fail
  refine (HA.out _).mono ?_
  rintro e w4 ⟨rfl, q2, rfl⟩
  go_wp2
  go_ret
  exact gives_mk (by rw [H.out]; rfl) (below_drewN HB3.out _)

end Go.Proofs.YtnfjmcenjpoloaaDoor
end

section
/-
  HallFree and CellsBeside.
-/
set_option linter.unusedVariables false
namespace Go.Proofs.YtnfjmcenjpoloaaDoor
open Go Go.RowKit Go.Park

/-- of the first numbers those that are picked -/
def selTo (p : Nat → Bool) : Nat → List Int
  | 0 => []
  | k+1 => if p k = true then selTo p k ++ [(k : Int)] else selTo p k
theorem selTo_length (p : Nat → Bool) (k : Nat) : (selTo p k).length ≤ k := by
  induction k with
  | zero => simp [selTo]
  | succ k ih =>
    simp only [selTo]
    split
    · simp; omega
    · omega
theorem selTo_yes {p : Nat → Bool} {k : Nat} (h : p k = true) : selTo p (k+1) = selTo p k ++ [(k : Int)] := by simp [selTo, h]
theorem selTo_no {p : Nat → Bool} {k : Nat} (h : p k = false) : selTo p (k+1) = selTo p k := by simp [selTo, h]
theorem selTo_mem {p : Nat → Bool} {k : Nat} {x : Int} : x ∈ selTo p k ↔ ∃ j : Nat, j < k ∧ p j = true ∧ x = j := by
  induction k with
  | zero => simp [selTo]
  | succ k ih =>
    by_cases h : p k = true
    · rw [selTo_yes h, List.mem_append, ih]
      constructor
      · rintro (⟨j, h1, h2, h3⟩ | h1)
        · exact ⟨j, by omega, h2, h3⟩
        · simp at h1; exact ⟨k, by omega, h, h1⟩
      · rintro ⟨j, h1, h2, h3⟩
        by_cases e : j = k
        · subst e; right; simp [h3]
        · left; exact ⟨j, by omega, h2, h3⟩
    · rw [selTo_no (by simpa using h), ih]
      constructor
      · rintro ⟨j, h1, h2, h3⟩; exact ⟨j, by omega, h2, h3⟩
      · rintro ⟨j, h1, h2, h3⟩
        have : j ≠ k := by rintro rfl; exact h h2
        exact ⟨j, by omega, h2, h3⟩

theorem ownInts_append {lo : Nat} {w' : World} {v' : Value} {l : List Int} {a : Int} (hl : l.length + 1 ≤ lim)
    (h : w'.ownsRow lo 3 1 v' (l.length + 1) (l.map (Value.int .i64) ++ [.int .i64 a])) : OwnInts lo w' v' (l ++ [a]) := by
  refine ⟨by simpa using hl, ?_⟩
  rw [List.map_append, List.length_append]
  exact h
theorem ownInts_empty (w : World) : OwnInts w.heap.size (w.alloc (.cells #[] 3)) (.slice (some ⟨w.heap.size, 0, none⟩) 0 0) [] :=
  ⟨by simp [lim], World.ownsRow_made w #[] 0 (Nat.le_refl _) (by simp) (by simp)⟩
/-- a call returns ints of its own -/
def GivesInts (l : List Int) (w : World) (e : Ending) (w' : World) : Prop :=
  ∃ v, e = .returned v ∧ OwnInts w.heap.size w' v l ∧ Below w.heap.size w w'
theorem below_app {B : Nat} {W wr w1 : World} {v : Value} {o : Obj} (hb : Below B W wr) (hl : B ≤ wr.heap.size) (ho : Blk v B wr.heap.size) (hg : (wr.alloc o).grownBy w1 v.ownBlock) : Below B W w1 :=
  (hb.trans ((Below.refl B wr).alloc hl o)).grown hg (by simp; omega) (fun k hk => (ho k hk).1)

def hallFreeF (h : PHall) : List Int := if validB h = true then selTo (fun j => decide (gi h.cells j = 0)) h.cells.length else []

set_option maxHeartbeats 1000000 in
theorem hallFree_any (w : World) (v : Value) (h : PHall) (hv : HallAt w v h) :
    Calls Tryd.prog 25 #[v] w (GivesInts (hallFreeF h) w) := by
  have HV := Lib.hid hv
  obtain ⟨cv, rfl, ao, c, rfl, hn, hcm, hx⟩ := hv
  have HX := Lib.hid hx
  clear hx
  cases hval : validB h
  · have H := Lib.hid (show hallFreeF h = [] by simp [hallFreeF, hval])
    have HW := Lib.hid (valid_calls hval)
    clear hval
    go_enter Tryd.func25, Tryd.ntmps25
    go_wp2_with fail
    refine (HW.out _ _ (HV.out.keep (below_new _ _))).mono ?_
    rintro e w1 ⟨rfl, hb⟩
    have b1 := (box3_new w _ _ _ _).keep hb
    have b1_0 := b1.c0
    have b1_1 := b1.c1
    have b1_2 := b1.c2
    have b1_l := b1.lt
    have HB := Lib.hid (below_alloc hb)
    clear hb
    go_wp2
    go_ret
    exact ⟨_, rfl, by rw [H.out]; exact ownInts_nil _ _, HB.out⟩
  have HW := Lib.hid (valid_calls hval)
  have H := Lib.hid (show hallFreeF h = selTo (fun j => decide (gi h.cells j = 0)) h.cells.length by simp [hallFreeF, hval])
  have hlen := (valid_len hval).2
  obtain ⟨n, hnn⟩ : ∃ n, n = h.cells.length := ⟨_, rfl⟩
  rw [← hnn] at hlen H HV HX ⊢
  obtain ⟨i0, hi, hz0, hz1, hz2⟩ := info_parts Tryd.infoInt
  clear hval hn hcm hnn
  go_enter Tryd.func25, Tryd.ntmps25
  go_wp2_with fail
  refine (HW.out _ _ (HV.out.keep (below_new _ _))).mono ?_
  rintro e w1 ⟨rfl, hb⟩
  have b1 := (box3_new w _ _ _ _).keep hb
  have b1_0 := b1.c0
  have b1_1 := b1.c1
  have b1_2 := b1.c2
  have b1_l := b1.lt
  have HB := Lib.hid (below_alloc hb)
  have hx1 := HX.out.keep HB.out
  clear hb
  go_wp2
  go_loopw [3, 12] (fun q i wr => ∃ k : Nat, k ≤ n ∧ i = .int .i64 k ∧ Hid (OwnInts w1.heap.size wr q (selTo (fun j => decide (gi h.cells j = 0)) k)) ∧ Below w1.heap.size w1 wr) (fun _ i _ => n - (intOf i).toNat)
  case atStart => exact ⟨0, Nat.zero_le _, rfl, Lib.hid (ownInts_nil _ _), Below.refl _ _⟩
  case round =>
    obtain ⟨k, hk, rfl, ho, hbr⟩ := hrel
    have HR := Lib.hid hbr
    have hsz := hbr.size
    clear hbr
    by_cases hlt : k < n
    · obtain ⟨b, o, rfl, h1⟩ := (hx1.keep HR.out) k hlt
      clear hx1
      have hll := selTo_length (fun j => decide (gi h.cells j = 0)) k
      obtain ⟨L, hL⟩ : ∃ L, L = selTo (fun j => decide (gi h.cells j = 0)) k := ⟨_, rfl⟩
      rw [← hL] at hll ho
      by_cases he : gi h.cells k = 0
      · have hsel := Lib.hid (selTo_yes (p := fun j => decide (gi h.cells j = 0)) (k := k) (by simpa using he))
        rw [← hL] at hsel
        have hbq : (gi h.cells k == 0) = true := by simpa using he
        clear he hL
        go_wp2_with (at_builtin; go_must (refine wpList_append_own _ rfl _ _ 23 rfl w1.heap.size 3 i0 (.int .i64 0) 1 8 Tryd.underlying23 hi hz0 hz1 hz2 rfl (by decide) _ _ _ rfl (ho.out.2.alloc _) ⟨wr.heap.size, 0, none⟩ 1 1 [.int .i64 k] rfl rfl (cell_one_new _ _ _) ?_ ?_ ?_ ?_ ?_; (intro u hu; simp at hu; subst hu; rfl); (unfold maxLen; omega); (omega); (simp; omega); intro v' w2 hown' hgrow _hh; have HO := Lib.hid (ownInts_append (by unfold lim; omega) hown'); have HB2 := Lib.hid (below_app HR.out hsz ho.out.blk hgrow); clear hown' hgrow _hh h1))
        go_roundw
        case rel => exact ⟨k+1, by omega, by go_num, by rw [hsel.out]; exact HO, HB2.out⟩
        case measure => simp [intOf]; omega
      · have hsel := Lib.hid (selTo_no (p := fun j => decide (gi h.cells j = 0)) (k := k) (by simpa using he))
        rw [← hL] at hsel
        have hbq : (gi h.cells k == 0) = false := by simpa using he
        clear he hL
        go_wp2
        go_roundw
        case rel => exact ⟨k+1, by omega, by go_num, by rw [hsel.out]; exact ho, HR.out⟩
        case measure => simp [intOf]; omega
    · obtain rfl : k = n := by omega
      have HF := Lib.hid (below_then HB.out HR.out)
      have hz := HB.out.size
      clear hx1
      go_wp2
      go_ret
      exact ⟨_, rfl, by rw [H.out]; exact ho.out.base hz, HF.out⟩

set_option maxHeartbeats 1000000 in
theorem specHallFree_any (w : World) (v : Value) (h : PHall) (hv : HallAt w v h) :
    Calls Tryd.prog 96 #[v] w (GivesInts (hallFreeF h) w) := by
  have HV := Lib.hid hv
  obtain ⟨cv, rfl, ao, c, rfl, hn, hcm, hx⟩ := hv
  have HX := Lib.hid hx
  clear hx
  obtain ⟨W, hW⟩ : ∃ W, W = w.alloc (.cells #[.int .i64 h.wide, .int .i64 h.deep, .slice ao h.cells.length c] 25) := ⟨_, rfl⟩
  have hWs : W.heap.size = w.heap.size + 1 := by rw [hW]; simp
  have HBW : Hid (Below w.heap.size w W) := Lib.hid (by rw [hW]; exact below_new _ _)
  have HE : Hid (OwnInts (w.heap.size + 1) (W.alloc (.cells #[] 3)) (.slice (some ⟨w.heap.size + 1, 0, none⟩) 0 0) []) := Lib.hid (by rw [← hWs]; exact ownInts_empty W)
  have HBX := Lib.hid (show Box3 W w.heap.size _ _ _ by rw [hW]; exact box3_new _ _ _ _ _)
  have HHV := Lib.hid (HV.out.keep HBW.out)
  cases hval : validB h
  · have H := Lib.hid (show hallFreeF h = [] by simp [hallFreeF, hval])
    have HW := Lib.hid (specValid_calls hval)
    clear hval
    go_enter Tryd.func96, Tryd.ntmps96
    go_wp2_with fail
    have eW := Lib.hid hW
    rw [← hW]
    clear hW
    refine (HW.out _ _ (HHV.out.keep (below_new _ _))).mono ?_
    rintro e w1 ⟨rfl, hb⟩
    have b1 := (HBX.out.keep (below_new _ _)).keep hb
    have b1_0 := b1.c0
    have b1_1 := b1.c1
    have b1_2 := b1.c2
    have b1_l := b1.lt
    have HB := Lib.hid (below_then HBW.out (below_alloc hb))
    have HO := Lib.hid (HE.out.keep hb)
    clear hb
    go_wp2
    go_ret
    exact ⟨_, rfl, by rw [H.out]; exact HO.out.base (by omega), HB.out⟩
  have HW := Lib.hid (specValid_calls hval)
  have H := Lib.hid (show hallFreeF h = selTo (fun j => decide (gi h.cells j = 0)) h.cells.length by simp [hallFreeF, hval])
  have hlen := (valid_len hval).2
  obtain ⟨n, hnn⟩ : ∃ n, n = h.cells.length := ⟨_, rfl⟩
  rw [← hnn] at hlen H HV HX HBX HHV hW ⊢
  obtain ⟨i0, hi, hz0, hz1, hz2⟩ := info_parts Tryd.infoInt
  clear hval hn hcm hnn
  go_enter Tryd.func96, Tryd.ntmps96
  go_wp2_with fail
  rw [← hW]
  clear hW
  refine (HW.out _ _ (HHV.out.keep (below_new _ _))).mono ?_
  rintro e w1 ⟨rfl, hb⟩
  have b1 := (HBX.out.keep (below_new _ _)).keep hb
  have b1_0 := b1.c0
  have b1_1 := b1.c1
  have b1_2 := b1.c2
  have b1_l := b1.lt
  have HB1 := Lib.hid (below_alloc hb)
  have HO := Lib.hid (HE.out.keep hb)
  have hx1 := HX.out.keep (below_then HBW.out HB1.out)
  clear hb
  go_wp2
  go_loopw [3, 4] (fun q i wr => ∃ k : Nat, k ≤ n ∧ i = .int .i64 k ∧ Hid (OwnInts (w.heap.size + 1) wr q (selTo (fun j => decide (gi h.cells j = 0)) k)) ∧ Below (w.heap.size + 1) W wr) (fun _ i _ => n - (intOf i).toNat)
  case atStart => exact ⟨0, Nat.zero_le _, rfl, HO, by rw [← hWs]; exact HB1.out⟩
  case round =>
    obtain ⟨k, hk, rfl, ho, hbr⟩ := hrel
    have HR := Lib.hid hbr
    have hsz : w.heap.size + 1 ≤ wr.heap.size := by have := HR.out.size; omega
    have HRW' := Lib.hid (show Below W.heap.size W wr by rw [hWs]; exact HR.out)
    have HRW := Lib.hid (HBW.out.trans (HR.out.mono (by omega)))
    have b2 := HBX.out.keep HRW'.out
    have b2_0 := b2.c0
    have b2_1 := b2.c1
    have b2_2 := b2.c2
    have b2_l := b2.lt
    clear hbr
    clear b1 b1_0 b1_1 b1_2 b1_l
    by_cases hlt : k < n
    · obtain ⟨b, o, rfl, h1⟩ := (HX.out.keep HRW.out) k hlt
      clear hx1
      have hll := selTo_length (fun j => decide (gi h.cells j = 0)) k
      obtain ⟨L, hL⟩ : ∃ L, L = selTo (fun j => decide (gi h.cells j = 0)) k := ⟨_, rfl⟩
      rw [← hL] at hll ho
      by_cases he : gi h.cells k = 0
      · have hsel := Lib.hid (selTo_yes (p := fun j => decide (gi h.cells j = 0)) (k := k) (by simpa using he))
        rw [← hL] at hsel
        have hbq : (gi h.cells k == 0) = true := by simpa using he
        clear he hL
        go_wp2_with (at_builtin; go_must (refine wpList_append_own _ rfl _ _ 23 rfl (w.heap.size + 1) 3 i0 (.int .i64 0) 1 8 Tryd.underlying23 hi hz0 hz1 hz2 rfl (by decide) _ _ _ rfl (ho.out.2.alloc _) ⟨wr.heap.size, 0, none⟩ 1 1 [.int .i64 k] rfl rfl (cell_one_new _ _ _) ?_ ?_ ?_ ?_ ?_; (intro u hu; simp at hu; subst hu; rfl); (unfold maxLen; omega); (omega); (simp; omega); intro v' w2 hown' hgrow _hh; have HO := Lib.hid (ownInts_append (by unfold lim; omega) hown'); have HB2 := Lib.hid (below_app HR.out hsz ho.out.blk hgrow); clear hown' hgrow _hh))
        go_roundw
        case rel => exact ⟨k+1, by omega, by go_num, by rw [hsel.out]; exact HO, HB2.out⟩
        case measure => simp [intOf]; omega
      · have hsel := Lib.hid (selTo_no (p := fun j => decide (gi h.cells j = 0)) (k := k) (by simpa using he))
        rw [← hL] at hsel
        have hbq : (gi h.cells k == 0) = false := by simpa using he
        clear he hL
        go_wp2
        go_roundw
        case rel => exact ⟨k+1, by omega, by go_num, by rw [hsel.out]; exact ho, HR.out⟩
        case measure => simp [intOf]; omega
    · obtain rfl : k = n := by omega
      clear hx1
      go_wp2
      go_ret
      exact ⟨_, rfl, by rw [H.out]; exact ho.out.base (by omega), HRW.out⟩

theorem selTo_congr {p q : Nat → Bool} {n : Nat} (h : ∀ j, j < n → p j = q j) : selTo p n = selTo q n := by
  induction n with
  | zero => rfl
  | succ n ih =>
    simp only [selTo]
    rw [h n (by omega), ih (fun j hj => h j (by omega))]
theorem selTo_none {p : Nat → Bool} {n : Nat} (h : ∀ j, j < n → p j = false) : selTo p n = [] := by
  induction n with
  | zero => rfl
  | succ n ih =>
    simp only [selTo]
    rw [h n (by omega), ih (fun j hj => h j (by omega))]
    simp
/-- the cells beside a cell -/
def besideF (h : PHall) (c : Int) : List Int := if validB h = true ∧ hasCellB h c = true then selTo (fun j => decide (apartF h.wide c j = 1)) h.cells.length else []
theorem beside_apart (h : PHall) (c : Int) : besideF h c = selTo (fun j => decide (apartAt h c j = 1)) h.cells.length := by
  unfold besideF
  by_cases hv : validB h = true ∧ hasCellB h c = true
  · rw [if_pos hv]
    refine selTo_congr fun j hj => ?_
    have : hasCellB h j = true := hasCell_iff.2 (by omega)
    simp [apartAt, hv.1, hv.2, this]
  · rw [if_neg hv, selTo_none]
    intro j hj
    unfold apartAt
    rw [if_neg (by intro hh; exact hv ⟨hh.1, hh.2.1⟩)]
    simp

set_option maxHeartbeats 1000000 in
theorem cellsBeside_any (w : World) (v : Value) (h : PHall) (x : Int) (hv : HallAt w v h) :
    Calls Tryd.prog 78 #[v, .int .i64 x] w (GivesInts (besideF h x) w) := by
  have HV := Lib.hid hv
  obtain ⟨cv, rfl, ao, c, rfl, hn, hcm, hx⟩ := hv
  clear hx
  cases hval : validB h
  · have H := Lib.hid (show besideF h x = [] by simp [besideF, hval])
    have HW := Lib.hid (valid_calls hval)
    clear hval
    go_enter Tryd.func78, Tryd.ntmps78
    go_wp2_with fail
    refine (HW.out _ _ (HV.out.keep (below_new _ _))).mono ?_
    rintro e w1 ⟨rfl, hb⟩
    have b1 := (box3_new w _ _ _ _).keep hb
    have b1_0 := b1.c0
    have b1_1 := b1.c1
    have b1_2 := b1.c2
    have b1_l := b1.lt
    have HB := Lib.hid (below_alloc hb)
    clear hb
    go_wp2
    go_ret
    exact ⟨_, rfl, by rw [H.out]; exact ownInts_nil _ _, HB.out⟩
  have HW := Lib.hid (valid_calls hval)
  cases h1 : hasCellB h x
  · have H := Lib.hid (show besideF h x = [] by simp [besideF, h1])
    have HI := Lib.hid (hasCell_calls h1)
    clear hval h1
    go_enter Tryd.func78, Tryd.ntmps78
    go_wp2_with fail
    refine (HW.out _ _ (HV.out.keep (below_new _ _))).mono ?_
    rintro e w1 ⟨rfl, hb⟩
    have b1 := (box3_new w _ _ _ _).keep hb
    have b1_0 := b1.c0
    have b1_1 := b1.c1
    have b1_2 := b1.c2
    have b1_l := b1.lt
    have HB := Lib.hid (below_alloc hb)
    clear hb
    go_wp2_with fail
    refine (HI.out _ _ (HV.out.keep HB.out)).mono ?_
    rintro e w2 ⟨rfl, hb⟩
    have HB2 := Lib.hid (below_then HB.out hb)
    clear hb
    go_wp2
    go_ret
    exact ⟨_, rfl, by rw [H.out]; exact ownInts_nil _ _, HB2.out⟩
  have HI := Lib.hid (hasCell_calls h1)
  have H := Lib.hid (show besideF h x = selTo (fun j => decide (apartF h.wide x j = 1)) h.cells.length by simp [besideF, hval, h1])
  have hlen := (valid_len hval).2
  have HA := Lib.hid (fun (W : World) (j : Nat) (hj : j < h.cells.length) => apart_any W h.wide x j (valid_size hval).1 (cell_small hval h1) ⟨by omega, by omega⟩)
  obtain ⟨n, hnn⟩ : ∃ n, n = h.cells.length := ⟨_, rfl⟩
  rw [← hnn] at hlen H HV HA ⊢
  obtain ⟨i0, hi, hz0, hz1, hz2⟩ := info_parts Tryd.infoInt
  clear hval hn hcm hnn h1
  go_enter Tryd.func78, Tryd.ntmps78
  go_wp2_with fail
  refine (HW.out _ _ (HV.out.keep (below_new _ _))).mono ?_
  rintro e w1 ⟨rfl, hb⟩
  have b1 := (box3_new w _ _ _ _).keep hb
  have b1_0 := b1.c0
  have b1_1 := b1.c1
  have b1_2 := b1.c2
  have b1_l := b1.lt
  have HB := Lib.hid (below_alloc hb)
  clear hb
  go_wp2_with fail
  refine (HI.out _ _ (HV.out.keep HB.out)).mono ?_
  rintro e w3 ⟨rfl, hb⟩
  have b3 := b1.keep hb
  have b3_0 := b3.c0
  have b3_1 := b3.c1
  have b3_2 := b3.c2
  have b3_l := b3.lt
  have HB3 := Lib.hid (below_then HB.out hb)
  clear b1 b1_0 b1_1 b1_2 b1_l
  clear hb
  go_wp2
  go_loopw [5, 19] (fun q i wr => ∃ k : Nat, k ≤ n ∧ i = .int .i64 k ∧ Hid (OwnInts w3.heap.size wr q (selTo (fun j => decide (apartF h.wide x j = 1)) k)) ∧ Below w3.heap.size w3 wr) (fun _ i _ => n - (intOf i).toNat)
  case atStart => exact ⟨0, Nat.zero_le _, rfl, Lib.hid (ownInts_nil _ _), Below.refl _ _⟩
  case round =>
    obtain ⟨k, hk, rfl, ho, hbr⟩ := hrel
    have HR := Lib.hid hbr
    have hsz := hbr.size
    have b4 := b3.keep HR.out
    have b4_0 := b4.c0
    have b4_1 := b4.c1
    have b4_2 := b4.c2
    have b4_l := b4.lt
    clear b3 b3_0 b3_1 b3_2 b3_l
    clear hbr
    by_cases hlt : k < n
    · have hll := selTo_length (fun j => decide (apartF h.wide x j = 1)) k
      obtain ⟨L, hL⟩ : ∃ L, L = selTo (fun j => decide (apartF h.wide x j = 1)) k := ⟨_, rfl⟩
      rw [← hL] at hll ho
      have hc := Lib.hid (HA.out wr k hlt)
      by_cases he : apartF h.wide x k = 1
      · have hsel := Lib.hid (selTo_yes (p := fun j => decide (apartF h.wide x j = 1)) (k := k) (by simpa using he))
        rw [← hL] at hsel
        have hbq : (apartF h.wide x k == 1) = true := by simpa using he
        clear he hL
        go_wp2_with fail
        refine (hc.out).mono ?_
        rintro e wa ⟨rfl, q, rfl⟩
        have HOX := Lib.hid (ho.out.keep (below_drewN (Below.refl _ _) q))
        have HRX := Lib.hid (below_drewN HR.out q)
        go_wp2_with (at_builtin; go_must (refine wpList_append_own _ rfl _ _ 23 rfl w3.heap.size 3 i0 (.int .i64 0) 1 8 Tryd.underlying23 hi hz0 hz1 hz2 rfl (by decide) _ _ _ rfl (HOX.out.2.alloc _) ⟨wr.heap.size, 0, none⟩ 1 1 [.int .i64 k] rfl rfl (cell_one_new _ _ _) ?_ ?_ ?_ ?_ ?_; (intro u hu; simp at hu; subst hu; rfl); (unfold maxLen; omega); (omega); (simp; omega); intro v' w2 hown' hgrow _hh; have HO := Lib.hid (ownInts_append (by unfold lim; omega) hown'); have HB2 := Lib.hid (below_app HRX.out hsz HOX.out.blk hgrow); clear hown' hgrow _hh))
        go_roundw
        case rel => exact ⟨k+1, by omega, by go_num, by rw [hsel.out]; exact HO, HB2.out⟩
        case measure => simp [intOf]; omega
      · have hsel := Lib.hid (selTo_no (p := fun j => decide (apartF h.wide x j = 1)) (k := k) (by simpa using he))
        rw [← hL] at hsel
        have hbq : (apartF h.wide x k == 1) = false := by simpa using he
        clear he hL
        go_wp2_with fail
        refine (hc.out).mono ?_
        rintro e wa ⟨rfl, q, rfl⟩
        have HOX := Lib.hid (ho.out.keep (below_drewN (Below.refl _ _) q))
        have HRX := Lib.hid (below_drewN HR.out q)
        go_wp2
        go_roundw
        case rel => exact ⟨k+1, by omega, by go_num, by rw [hsel.out]; exact HOX, HRX.out⟩
        case measure => simp [intOf]; omega
    · obtain rfl : k = n := by omega
      have HF := Lib.hid (below_then HB3.out HR.out)
      have hz := HB3.out.size
      go_wp2
      go_ret
      exact ⟨_, rfl, by rw [H.out]; exact ho.out.base hz, HF.out⟩

set_option maxHeartbeats 1000000 in
theorem specCellsBeside_any (w : World) (v : Value) (h : PHall) (x : Int) (hv : HallAt w v h) :
    Calls Tryd.prog 126 #[v, .int .i64 x] w (GivesInts (besideF h x) w) := by
  have HV := Lib.hid hv
  obtain ⟨cv, rfl, ao, c, rfl, hn, hcm, hx⟩ := hv
  clear hx
  rw [lim_eq] at hn
  obtain ⟨W, hW⟩ : ∃ W, W = w.alloc (.cells #[.int .i64 h.wide, .int .i64 h.deep, .slice ao h.cells.length c] 25) := ⟨_, rfl⟩
  have hWs : W.heap.size = w.heap.size + 1 := by rw [hW]; simp
  have HBW : Hid (Below w.heap.size w W) := Lib.hid (by rw [hW]; exact below_new _ _)
  have HE : Hid (OwnInts (w.heap.size + 1) (W.alloc (.cells #[] 3)) (.slice (some ⟨w.heap.size + 1, 0, none⟩) 0 0) []) := Lib.hid (by rw [← hWs]; exact ownInts_empty W)
  have HBX := Lib.hid (show Box3 W w.heap.size _ _ _ by rw [hW]; exact box3_new _ _ _ _ _)
  have H := Lib.hid (beside_apart h x)
  have HA := Lib.hid (fun (W' : World) (v' : Value) (hh : HallAt W' v' h) (j : Nat) => specCellsApart_any W' v' h x j hh)
  obtain ⟨n, hnn⟩ : ∃ n, n = h.cells.length := ⟨_, rfl⟩
  rw [← hnn] at H HV HBX hW hn ⊢
  obtain ⟨i0, hi, hz0, hz1, hz2⟩ := info_parts Tryd.infoInt
  clear hcm hnn
  go_enter Tryd.func126, Tryd.ntmps126
  go_wp2
  rw [← hW]
  clear hW
  go_loopw [5, 6] (fun q i wr => ∃ k : Nat, k ≤ n ∧ i = .int .i64 k ∧ Hid (OwnInts (w.heap.size + 1) wr q (selTo (fun j => decide (apartAt h x j = 1)) k)) ∧ Below (w.heap.size + 1) W wr) (fun _ i _ => n - (intOf i).toNat)
  case atStart => exact ⟨0, Nat.zero_le _, rfl, HE, by rw [← hWs]; exact below_new _ _⟩
  case round =>
    obtain ⟨k, hk, rfl, ho, hbr⟩ := hrel
    have HR := Lib.hid hbr
    have hsz : w.heap.size + 1 ≤ wr.heap.size := by have := HR.out.size; omega
    have HRW' := Lib.hid (show Below W.heap.size W wr by rw [hWs]; exact HR.out)
    have HRW := Lib.hid (HBW.out.trans (HR.out.mono (by omega)))
    have b2 := HBX.out.keep HRW'.out
    have b2_0 := b2.c0
    have b2_1 := b2.c1
    have b2_2 := b2.c2
    have b2_l := b2.lt
    clear hbr
    by_cases hlt : k < n
    · have hll := selTo_length (fun j => decide (apartAt h x j = 1)) k
      obtain ⟨L, hL⟩ : ∃ L, L = selTo (fun j => decide (apartAt h x j = 1)) k := ⟨_, rfl⟩
      rw [← hL] at hll ho
      have hc := Lib.hid (HA.out wr _ (HV.out.keep HRW.out) k)
      by_cases he : apartAt h x k = 1
      · have hsel := Lib.hid (selTo_yes (p := fun j => decide (apartAt h x j = 1)) (k := k) (by simpa using he))
        rw [← hL] at hsel
        have hbq : (apartAt h x k == 1) = true := by simpa using he
        clear he hL
        go_wp2_with fail
        refine (hc.out).mono ?_
        rintro e wa ⟨rfl, hba⟩
        have HOX := Lib.hid (ho.out.keep hba)
        have HRX := Lib.hid (HR.out.trans (hba.mono hsz))
        have hsz : w.heap.size + 1 ≤ wa.heap.size := Nat.le_trans hsz hba.size
        clear hba
        go_wp2_with (at_builtin; go_must (refine wpList_append_own _ rfl _ _ 23 rfl (w.heap.size + 1) 3 i0 (.int .i64 0) 1 8 Tryd.underlying23 hi hz0 hz1 hz2 rfl (by decide) _ _ _ rfl (HOX.out.2.alloc _) ⟨wa.heap.size, 0, none⟩ 1 1 [.int .i64 k] rfl rfl (cell_one_new _ _ _) ?_ ?_ ?_ ?_ ?_; (intro u hu; simp at hu; subst hu; rfl); (unfold maxLen; omega); (omega); (simp; omega); intro v' w2 hown' hgrow _hh; have HO := Lib.hid (ownInts_append (by unfold lim; omega) hown'); have HB2 := Lib.hid (below_app HRX.out hsz HOX.out.blk hgrow); clear hown' hgrow _hh))
        go_roundw
        case rel => exact ⟨k+1, by omega, by go_num, by rw [hsel.out]; exact HO, HB2.out⟩
        case measure => simp [intOf]; omega
      · have hsel := Lib.hid (selTo_no (p := fun j => decide (apartAt h x j = 1)) (k := k) (by simpa using he))
        rw [← hL] at hsel
        have hbq : (apartAt h x k == 1) = false := by simpa using he
        clear he hL
        go_wp2_with fail
        refine (hc.out).mono ?_
        rintro e wa ⟨rfl, hba⟩
        have HOX := Lib.hid (ho.out.keep hba)
        have HRX := Lib.hid (HR.out.trans (hba.mono hsz))
        clear hba
        go_wp2
        go_roundw
        case rel => exact ⟨k+1, by omega, by go_num, by rw [hsel.out]; exact HOX, HRX.out⟩
        case measure => simp [intOf]; omega
    · obtain rfl : k = n := by omega
      go_wp2
      go_ret
      exact ⟨_, rfl, by rw [H.out]; exact ho.out.base (by omega), HRW.out⟩

end Go.Proofs.YtnfjmcenjpoloaaDoor
end

section
/-
  Shortest ways, plainly: nothing of the program's text stands here.
-/
set_option linter.unusedVariables false
namespace Go.Proofs.YtnfjmcenjpoloaaDoor
open Go Go.RowKit Go.Park

def visitF (but d : Int) : List Int → List Int × List Int → List Int × List Int
  | [], s => s
  | x :: xs, s => visitF but d xs (if x ≠ but ∧ gi s.1 x.toNat < 0 then (s.1.set x.toNat (d+1), s.2 ++ [x]) else s)
def bfsF (h : PHall) (but : Int) : Nat → Nat → List Int × List Int → List Int
  | 0, _, s => s.1
  | F+1, k, s => if k < s.2.length then bfsF h but F (k+1) (visitF but (gi s.1 (gi s.2 k).toNat) (besideF h (gi s.2 k)) s) else s.1
def startF (n : Nat) (tgt : Int) : List Int := (List.replicate n (-1)).set tgt.toNat 0
def stepsF (h : PHall) (tgt but : Int) : List Int := bfsF h but (h.cells.length + 1) 0 (startF h.cells.length tgt, [tgt])

def negs (l : List Int) : Nat := l.countP (fun x => decide (x < 0))

theorem gi_upd {l : List Int} {i j : Nat} {x : Int} (hi : i < l.length) : gi (l.set i x) j = if i = j then x else gi l j := by
  unfold gi
  rw [List.getD_eq_getElem?_getD, List.getD_eq_getElem?_getD, List.getElem?_set]
  by_cases e : i = j
  · subst e; simp [hi]
  · simp [e]
theorem gi_append_left {l m : List Int} {j : Nat} (h : j < l.length) : gi (l ++ m) j = gi l j := by
  unfold gi; rw [List.getD_eq_getElem?_getD, List.getD_eq_getElem?_getD, List.getElem?_append_left h]
theorem gi_append_one {l : List Int} {x : Int} : gi (l ++ [x]) l.length = x := by
  unfold gi; simp [List.getD_eq_getElem?_getD]
theorem gi_replicate {n j : Nat} {x : Int} (h : j < n) : gi (List.replicate n x) j = x := by
  unfold gi; simp [List.getD_eq_getElem?_getD, h]
theorem negs_set {l : List Int} {i : Nat} {x : Int} (hi : i < l.length) (h : gi l i < 0) (hx : 0 ≤ x) : negs (l.set i x) + 1 = negs l := by
  induction l generalizing i with
  | nil => simp at hi
  | cons a l ih =>
    cases i with
    | zero =>
      have ha : a < 0 := h
      simp only [List.set_cons_zero, negs, List.countP_cons]
      simp [ha, Int.not_lt.2 hx]
    | succ i =>
      have := ih (i := i) (by simpa using hi) h
      simp only [List.set_cons_succ, negs, List.countP_cons] at this ⊢
      omega
theorem negs_replicate (n : Nat) : negs (List.replicate n (-1)) = n := by
  induction n with
  | zero => rfl
  | succ n ih => rw [List.replicate_succ]; unfold negs at *; rw [List.countP_cons, ih]; rfl

theorem farF_comm (x y : Int) : farF x y = farF y x := by unfold farF; omega
theorem apartF_comm (w a b : Int) : apartF w a b = apartF w b a := by unfold apartF; rw [farF_comm (a % w), farF_comm (a / w)]
theorem beside_mem {h : PHall} {c x : Int} : x ∈ besideF h c ↔ validB h = true ∧ hasCellB h c = true ∧ hasCellB h x = true ∧ apartF h.wide c x = 1 := by
  unfold besideF
  by_cases hv : validB h = true ∧ hasCellB h c = true
  · rw [if_pos hv, selTo_mem]
    constructor
    · rintro ⟨j, hj, hp, rfl⟩
      exact ⟨hv.1, hv.2, hasCell_iff.2 ⟨by omega, by omega⟩, by simpa using hp⟩
    · rintro ⟨_, _, hx, hp⟩
      have := hasCell_iff.1 hx
      obtain ⟨j, rfl⟩ := Int.eq_ofNat_of_zero_le this.1
      exact ⟨j, by omega, by simpa using hp, rfl⟩
  · rw [if_neg hv]
    constructor
    · intro h; cases h
    · rintro ⟨a, b, _⟩; exact absurd ⟨a, b⟩ hv
theorem beside_symm {h : PHall} {c x : Int} (hx : x ∈ besideF h c) : c ∈ besideF h x := by
  rw [beside_mem] at hx ⊢
  exact ⟨hx.1, hx.2.2.1, hx.2.1, by rw [apartF_comm]; exact hx.2.2.2⟩
theorem beside_lt {h : PHall} {c x : Int} (hx : x ∈ besideF h c) : 0 ≤ x ∧ x < h.cells.length := hasCell_iff.1 (beside_mem.1 hx).2.2.1
theorem beside_len (h : PHall) (c : Int) : (besideF h c).length ≤ h.cells.length := by
  unfold besideF; split
  · exact selTo_length _ _
  · simp
theorem beside_small {h : PHall} (c : Int) : (besideF h c).length ≤ 12 := by
  cases hv : validB h
  · unfold besideF; simp [hv]
  · have := beside_len h c
    have := valid_len hv
    omega

/-- what holds of the steps and of the queue -/
structure Bfs (h : PHall) (tgt but : Int) (m : Int) (st q : List Int) : Prop where
  len : st.length = h.cells.length
  cnt : q.length + negs st = h.cells.length
  mem : ∀ j, j < q.length → (0 ≤ gi q j ∧ gi q j < h.cells.length) ∧ 0 ≤ gi st (gi q j).toNat
  le : ∀ j, -1 ≤ gi st j ∧ gi st j ≤ m
  zero : ∀ j, j < h.cells.length → gi st j = 0 → (j : Int) = tgt
  home : 0 ≤ tgt ∧ tgt < h.cells.length ∧ gi st tgt.toNat = 0
  avoid : 0 ≤ but → but < h.cells.length → gi st but.toNat = -1
  pre : ∀ j : Nat, j < h.cells.length → 0 < gi st j → ∃ y, y ∈ besideF h j ∧ gi st y.toNat = gi st j - 1

theorem Bfs.mono {h : PHall} {tgt but m m' : Int} {st q : List Int} (b : Bfs h tgt but m st q) (hm : m ≤ m') : Bfs h tgt but m' st q :=
  { b with le := fun j => ⟨(b.le j).1, Int.le_trans (b.le j).2 hm⟩ }
theorem Bfs.qlen {h : PHall} {tgt but m : Int} {st q : List Int} (b : Bfs h tgt but m st q) : q.length ≤ h.cells.length := by have := b.cnt; omega
theorem bfs_start {h : PHall} {tgt but : Int} (h0 : 0 ≤ tgt) (h1 : tgt < h.cells.length) (hb : but ≠ tgt) : Bfs h tgt but 0 (startF h.cells.length tgt) [tgt] := by
  have hl : (startF h.cells.length tgt).length = h.cells.length := by simp [startF]
  have hg : ∀ j, j < h.cells.length → gi (startF h.cells.length tgt) j = if tgt.toNat = j then 0 else -1 := by
    intro j hj
    unfold startF
    rw [gi_upd (by simp; omega), gi_replicate hj]
  refine ⟨hl, ?_, ?_, ?_, ?_, ⟨h0, h1, ?_⟩, ?_, ?_⟩
  · have := negs_set (l := List.replicate h.cells.length (-1)) (i := tgt.toNat) (x := 0) (by simp; omega) (by rw [gi_replicate (by omega)]; omega) (Int.le_refl _)
    rw [negs_replicate] at this
    unfold startF
    simp only [List.length_cons, List.length_nil]
    omega
  · intro j hj
    have : j = 0 := by simpa using hj
    subst this
    refine ⟨⟨h0, h1⟩, ?_⟩
    show 0 ≤ gi _ tgt.toNat
    rw [hg _ (by omega)]; simp
  · intro j
    by_cases hj : j < h.cells.length
    · rw [hg j hj]; split <;> omega
    · rw [gi_out (by omega)]; omega
  · intro j hj
    rw [hg j hj]
    split
    · intro _; omega
    · intro e; omega
  · rw [hg _ (by omega)]; simp
  · intro a b
    rw [hg _ (by omega), if_neg (by omega)]
  · intro j hj
    rw [hg j hj]
    split <;> (intro e; omega)
theorem bfs_visit {h : PHall} {tgt but m : Int} {st q : List Int} (b : Bfs h tgt but m st q) {k : Nat} {d x : Int} (hk : k < q.length)
    (hd : gi st (gi q k).toNat = d) (hm : d + 1 ≤ m) (hx : x ∈ besideF h (gi q k)) (hb : x ≠ but) (hn : gi st x.toNat < 0) :
    Bfs h tgt but m (st.set x.toNat (d + 1)) (q ++ [x]) ∧ gi (st.set x.toNat (d + 1)) (gi q k).toNat = d := by
  have hx1 := beside_lt hx
  have hmk := b.mem k hk
  have hxl : x.toNat < st.length := by rw [b.len]; omega
  have hd0 : 0 ≤ d := by rw [← hd]; exact hmk.2
  have hne : ∀ y : Int, 0 ≤ y → 0 ≤ gi st y.toNat → x.toNat ≠ y.toNat := by
    intro y h0 h1 e; rw [← e] at h1; omega
  refine ⟨⟨by simpa using b.len, ?_, ?_, ?_, ?_, ?_, ?_, ?_⟩, ?_⟩
  · have := negs_set hxl hn (x := d + 1) (by omega)
    have := b.cnt
    rw [List.length_append]
    simp only [List.length_cons, List.length_nil]
    omega
  · intro j hj
    by_cases hjl : j < q.length
    · rw [gi_append_left hjl]
      refine ⟨(b.mem j hjl).1, ?_⟩
      rw [gi_upd hxl, if_neg (hne _ (b.mem j hjl).1.1 (b.mem j hjl).2)]
      exact (b.mem j hjl).2
    · have : j = q.length := by simp at hj; omega
      subst this
      rw [gi_append_one, gi_upd hxl]
      simp; omega
  · intro j
    rw [gi_upd hxl]
    split
    · omega
    · exact b.le j
  · intro j hj
    rw [gi_upd hxl]
    split
    · intro e; omega
    · exact b.zero j hj
  · refine ⟨b.home.1, b.home.2.1, ?_⟩
    rw [gi_upd hxl, if_neg (hne _ b.home.1 (by rw [b.home.2.2]; exact Int.le_refl _))]
    exact b.home.2.2
  · intro h0 h1
    rw [gi_upd hxl, if_neg (by omega)]
    exact b.avoid h0 h1
  · intro j hj
    rw [gi_upd hxl]
    split
    · rename_i e
      intro _
      refine ⟨gi q k, ?_, ?_⟩
      · have : (j : Int) = x := by omega
        rw [this]; exact beside_symm hx
      · rw [gi_upd hxl, if_neg (hne _ hmk.1.1 hmk.2), hd]; omega
    · intro hp
      obtain ⟨y, hy, e⟩ := b.pre j hj hp
      refine ⟨y, hy, ?_⟩
      have hy1 := beside_lt hy
      rw [gi_upd hxl, if_neg (hne _ hy1.1 (by omega))]
      exact e
  · rw [gi_upd hxl, if_neg (hne _ hmk.1.1 hmk.2)]; exact hd

theorem visit_cons {but d : Int} {B : List Int} {j : Nat} (hj : j < B.length) (s : List Int × List Int) :
    visitF but d (B.drop j) s = visitF but d (B.drop (j + 1)) (if gi B j ≠ but ∧ gi s.1 (gi B j).toNat < 0 then (s.1.set (gi B j).toNat (d+1), s.2 ++ [gi B j]) else s) := by
  rw [List.drop_eq_getElem_cons hj, ← gi_get hj]; rfl
theorem visit_all {but d : Int} {B : List Int} (s : List Int × List Int) : visitF but d (B.drop B.length) s = s := by simp [visitF]
theorem bfs_next {h : PHall} {but : Int} {F k : Nat} {s : List Int × List Int} (hk : k < s.2.length) :
    bfsF h but (F + 1) k s = bfsF h but F (k + 1) (visitF but (gi s.1 (gi s.2 k).toNat) (besideF h (gi s.2 k)) s) := by simp [bfsF, hk]
theorem bfs_done {h : PHall} {but : Int} {F k : Nat} {s : List Int × List Int} (hk : ¬ k < s.2.length) : bfsF h but F k s = s.1 := by
  cases F with
  | zero => rfl
  | succ F => simp [bfsF, hk]

/-- one cell's neighbours visited -/
theorem visit_inv {h : PHall} {tgt but m : Int} {k : Nat} {d : Int} : ∀ (xs : List Int) (st q : List Int), Bfs h tgt but m st q → k < q.length → gi st (gi q k).toNat = d → d + 1 ≤ m → (∀ x ∈ xs, x ∈ besideF h (gi q k)) →
    Bfs h tgt but m (visitF but d xs (st, q)).1 (visitF but d xs (st, q)).2 ∧ k < (visitF but d xs (st, q)).2.length := by
  intro xs
  induction xs with
  | nil => intro st q b hk _ _ _; exact ⟨b, hk⟩
  | cons x xs ih =>
    intro st q b hk hd hm hx
    simp only [visitF]
    by_cases hc : x ≠ but ∧ gi st x.toNat < 0
    · rw [if_pos hc]
      obtain ⟨b2, hd2⟩ := bfs_visit b hk hd hm (hx x (by simp)) hc.1 hc.2
      have hkk : gi (q ++ [x]) k = gi q k := gi_append_left hk
      exact ih _ _ b2 (by rw [List.length_append]; omega) (by rw [hkk]; exact hd2) hm (fun y hy => by rw [hkk]; exact hx y (by simp [hy]))
    · rw [if_neg hc]
      exact ih _ _ b hk hd hm (fun y hy => hx y (by simp [hy]))
theorem bfs_inv {h : PHall} {tgt but : Int} : ∀ (F k : Nat) (st q : List Int), Bfs h tgt but k st q → k ≤ q.length → h.cells.length ≤ k + F → ∃ q', Bfs h tgt but h.cells.length (bfsF h but F k (st, q)) q' := by
  intro F
  induction F with
  | zero => intro k st q b hk _; exact ⟨_, b.mono (by have := b.qlen; omega)⟩
  | succ F ih =>
    intro k st q b hk hF
    by_cases hlt : k < q.length
    · rw [bfs_next (s := (st, q)) hlt]
      obtain ⟨b2, hk2⟩ := visit_inv (d := gi st (gi q k).toNat) (besideF h (gi q k)) st q (b.mono (m' := ((k + 1 : Nat) : Int)) (by omega)) hlt rfl (by have := (b.le (gi q k).toNat).2; omega) (fun _ hx => hx)
      exact ih (k + 1) _ _ b2 hk2 (by omega)
    · rw [bfs_done (s := (st, q)) hlt]; exact ⟨_, b.mono (by have := b.qlen; omega)⟩
theorem steps_inv {h : PHall} {tgt but : Int} (h0 : 0 ≤ tgt) (h1 : tgt < h.cells.length) (hb : but ≠ tgt) : ∃ q', Bfs h tgt but h.cells.length (stepsF h tgt but) q' :=
  bfs_inv _ 0 _ _ (bfs_start h0 h1 hb) (by simp) (by omega)
/-! the way -/
def downF (h : PHall) (st : List Int) (c : Int) : Option Int := (besideF h c).find? (fun y => decide (gi st y.toNat = gi st c.toNat - 1))
def wayGo (h : PHall) (st : List Int) : Nat → Int → List Int
  | 0, _ => []
  | F+1, c => match downF h st c with
    | none => []
    | some y => y :: wayGo h st F y
def wayOk (h : PHall) (a b but : Int) : Bool := validB h && (hasCellB h a && (hasCellB h b && (inR but (-1) ((h.cells.length : Int) - 1) && (!decide (but = a) && !decide (but = b)))))
def wayF (h : PHall) (a b but : Int) : List Int :=
  if wayOk h a b but = true ∧ 0 ≤ gi (stepsF h b but) a.toNat then a :: wayGo h (stepsF h b but) (gi (stepsF h b but) a.toNat).toNat a else []
theorem wayOk_iff {h : PHall} {a b but : Int} : wayOk h a b but = true ↔ validB h = true ∧ (0 ≤ a ∧ a < h.cells.length) ∧ (0 ≤ b ∧ b < h.cells.length) ∧ (-1 ≤ but ∧ but < h.cells.length) ∧ but ≠ a ∧ but ≠ b := by
  simp only [wayOk, Bool.and_eq_true, hasCell_iff, inR_true, Bool.not_eq_true', decide_eq_false_iff_not]
  constructor
  · rintro ⟨a1, a2, a3, a4, a5, a6⟩; exact ⟨a1, a2, a3, ⟨a4.1, by omega⟩, a5, a6⟩
  · rintro ⟨a1, a2, a3, a4, a5, a6⟩; exact ⟨a1, a2, a3, ⟨a4.1, by omega⟩, a5, a6⟩
/-- a cell on the way, not at its end -/
theorem down_some {h : PHall} {tgt but m : Int} {st q : List Int} (b : Bfs h tgt but m st q) {c : Int} (hc : 0 ≤ c ∧ c < h.cells.length) (hp : 0 < gi st c.toNat) :
    ∃ y, downF h st c = some y ∧ y ∈ besideF h c ∧ gi st y.toNat = gi st c.toNat - 1 ∧ (0 ≤ y ∧ y < h.cells.length) ∧ y ≠ but := by
  obtain ⟨z, hz, hze⟩ := b.pre c.toNat (by omega) hp
  have ec : ((c.toNat : Nat) : Int) = c := by omega
  rw [ec] at hz
  cases e : downF h st c with
  | none =>
    have := List.find?_eq_none.1 e z hz
    simp [hze] at this
  | some y =>
    have h1 := List.mem_of_find?_eq_some e
    have h2 := List.find?_some e
    have h3 : gi st y.toNat = gi st c.toNat - 1 := by simpa using h2
    refine ⟨y, rfl, h1, h3, beside_lt h1, ?_⟩
    rintro rfl
    have := b.avoid (beside_lt h1).1 (beside_lt h1).2
    omega
/-- which of the cells beside is the first one that is a step nearer -/
theorem down_at {h : PHall} {st : List Int} {c y : Int} (hd : downF h st c = some y) : ∃ j, j < (besideF h c).length ∧ gi (besideF h c) j = y ∧ (∀ i, i < j → ¬ gi st (gi (besideF h c) i).toNat = gi st c.toNat - 1) ∧ gi st y.toNat = gi st c.toNat - 1 := by
  unfold downF at hd
  obtain ⟨hp, l1, l2, e, hn⟩ := List.find?_eq_some_iff_append.1 hd
  refine ⟨l1.length, by rw [e]; simp, by rw [e]; simp [gi], ?_, by simpa using hp⟩
  intro i hi
  have hm : gi (besideF h c) i ∈ l1 := by
    rw [e, gi_append_left hi]
    exact gi_mem hi
  have := hn _ hm
  simpa using this

end Go.Proofs.YtnfjmcenjpoloaaDoor
end
