/-
  HallValid: the program's and the reference's answer is validB.
-/
import Derived.Test.YtjdgbdakkdljmaaDoorA
set_option linter.unusedVariables false
namespace Go.Proofs.YtjdgbdakkdljmaaDoor
open Go Go.RowKit Go.Park

theorem l1In_any (w : World) (a b c : Int) :
    Calls Tryd.prog 73 #[.int .i64 a, .int .i64 b, .int .i64 c] w (Tells (.bool (inR a b c)) w) := by
  by_cases h1 : b ≤ a
  · by_cases h2 : a ≤ c
    · have H := Lib.hid (show inR a b c = true by simp [inR, h1, h2])
      go_enter Tryd.func73, Tryd.ntmps73
      go_wp2
      go_ret
      exact tells_mk (by rw [H.out]; rfl) (drew0 _)
    · have H := Lib.hid (show inR a b c = false by simp [inR, h2])
      go_enter Tryd.func73, Tryd.ntmps73
      go_wp2
      go_ret
      exact tells_mk (by rw [H.out]; rfl) (drew0 _)
  · have H := Lib.hid (show inR a b c = false by simp [inR, h1])
    go_enter Tryd.func73, Tryd.ntmps73
    go_wp2
    go_ret
    exact tells_mk (by rw [H.out]; rfl) (drew0 _)

theorem l1In_calls {a b c : Int} {r : Bool} (h : inR a b c = r) : ∀ w' : World, Calls Tryd.prog 73 #[.int .i64 a, .int .i64 b, .int .i64 c] w' (Tells (.bool r) w') := fun w' => by rw [← h]; exact l1In_any w' _ _ _

set_option maxHeartbeats 400000 in
theorem l1Has_any (w : World) (ao : Option Addr) (n c : Nat) (l : List Int) (x : Int) (hn : n ≤ 17592186044416) (hx : CellsAt w ao n (gi l)) :
    Calls Tryd.prog 74 #[.slice ao n c, .int .i64 x] w (Tells (.bool (hasTo l x n)) w) := by
  go_enter Tryd.func74, Tryd.ntmps74
  go_wp2
  go_loopw [5] (fun i wr => ∃ k : Nat, k ≤ n ∧ i = .int .i64 k ∧ Hid (hasTo l x k = false) ∧ ∃ q, wr = w.drewN q) (fun i _ => n - (intOf i).toNat)
  case atStart => exact ⟨0, Nat.zero_le _, rfl, rfl, 0, rfl⟩
  case round =>
    obtain ⟨k, hk, rfl, ha, q, rfl⟩ := hrel
    by_cases hlt : k < n
    · obtain ⟨b, o, rfl, h1⟩ := hx k hlt
      by_cases he : gi l k = x
      · have Hf := Lib.hid (hasTo_yes hlt he)
        have hb : (gi l k == x) = true := by simpa using he
        clear hx he
        go_wp2
        go_ret
        exact tells_mk (by rw [Hf.out]; rfl) (drewN1 _ _)
      · have Hf := Lib.hid (hasTo_no ha.out he)
        have hb : (gi l k == x) = false := by simpa using he
        clear hx he ha
        go_wp2
        go_roundw
        case rel => exact ⟨k+1, by omega, by go_num, Hf, _, rfl⟩
        case measure => simp [intOf]; omega
    · obtain rfl : k = n := by omega
      clear hx
      go_wp2
      go_ret
      exact tells_mk (by rw [ha.out]; rfl) (drewN1 _ _)

theorem mul_small {x y : Int} (h1 : 2 ≤ x ∧ x ≤ 4) (h2 : 2 ≤ y ∧ y ≤ 3) : 0 ≤ x * y ∧ x * y ≤ 12 := by
  obtain ⟨a, b⟩ := h1
  obtain ⟨c, d⟩ := h2
  have e1 : 0 ≤ x * y := Int.mul_nonneg (by omega) (by omega)
  have e2 : x * y ≤ 4 * 3 := Int.mul_le_mul b d (by omega) (by omega)
  omega

set_option maxHeartbeats 400000 in
theorem specHallValid_any (w : World) (v : Value) (h : PHall) (hv : HallAt w v h) :
    Calls Tryd.prog 28 #[v] w (Gives (.bool (validB h)) w) := by
  obtain ⟨cv, rfl, ao, c, rfl, hn, ⟨hc1, hc2⟩, hx⟩ := hv
  obtain ⟨x, y, l⟩ := h
  simp only at hn hx hc1 ⊢
  unfold maxLen at hc2
  cases h1 : inR x 2 4
  · have H := Lib.hid (show validB ⟨x, y, l⟩ = false by simp [validB, sizeB, h1])
    clear hx
    go_enter Tryd.func28, Tryd.ntmps28
    go_wp2_with (go_at_call 73; refine (l1In_any _ _ _ _).mono ?_; rintro e w' ⟨rfl, q, rfl⟩)
    go_ret
    exact gives_mk (by rw [H.out]; rfl) (below_drewN ((Below.refl _ _).alloc (Nat.le_refl _) _) _)
  cases h2 : inR y 2 3
  · have H := Lib.hid (show validB ⟨x, y, l⟩ = false by simp [validB, sizeB, h2])
    clear hx
    go_enter Tryd.func28, Tryd.ntmps28
    go_wp2_with (go_at_call 73; refine (l1In_any _ _ _ _).mono ?_; rintro e w' ⟨rfl, q, rfl⟩)
    go_ret
    exact gives_mk (by rw [H.out]; rfl) (below_drewN ((Below.refl _ _).alloc (Nat.le_refl _) _) _)
  obtain ⟨n, hnn⟩ : ∃ n, n = l.length := ⟨_, rfl⟩
  rw [← hnn] at hn hx hc1 ⊢
  rw [lim_eq] at hn
  have HN := Lib.hid hnn
  clear hnn
  have hm := mul_small (inR_true.1 h1) (inR_true.1 h2)
  have hb1 := inR_true.1 h1
  have hb2 := inR_true.1 h2
  have hwd : IntKind.i64.wrap (x * y) = x * y := IntWalk.i64_in _ (by omega)
  by_cases h3 : (n : Int) = x * y
  · have H := Lib.hid (show validB ⟨x, y, l⟩ = okTo l n by rw [HN.out] at h3 ⊢; simp [validB, sizeB, h1, h2, h3])
    have h3' : ((n : Int) != x * y) = false := by simpa using h3
    obtain ⟨W, hW⟩ : ∃ W, W = w.alloc (.cells #[.int .i64 x, .int .i64 y, .slice ao n c] 25) := ⟨_, rfl⟩
    have hx' : CellsAt W ao n (gi l) := by rw [hW]; exact hx.keep ((Below.refl _ _).alloc (Nat.le_refl _) _)
    have hbW : Below w.heap.size w W := by rw [hW]; exact (Below.refl _ _).alloc (Nat.le_refl _) _
    have hW2 : W.cell? ⟨w.heap.size, 2, none⟩ = some (.slice ao n c) := by rw [hW]; simp
    have HW := Lib.hid hW
    clear hx h3 hW
    go_enter Tryd.func28, Tryd.ntmps28
    go_wp2_with (go_at_call 73; refine (l1In_any _ _ _ _).mono ?_; rintro e w' ⟨rfl, q, rfl⟩)
    rw [← HW.out]
    go_loopw [3] (fun i wr => ∃ k : Nat, k ≤ n ∧ i = .int .i64 k ∧ Hid (okTo l k = true) ∧ ∃ q, wr = W.drewN q) (fun i _ => n - (intOf i).toNat)
    case atStart => exact ⟨0, Nat.zero_le _, rfl, rfl, _, rfl⟩
    case round =>
      obtain ⟨k, hk, rfl, ha, q, rfl⟩ := hrel
      by_cases hlt : k < n
      · obtain ⟨b, o, rfl, hc⟩ := hx' k hlt
        have hkc : k ≤ c := by omega
        have hxk : CellsAt W (some ⟨b, o, none⟩) k (gi l) := fun j hj => hx' j (by omega)
        have HX := Lib.hid hxk
        clear hx' hxk
        cases h4 : inR (gi l k) 0 99
        · have Hf := Lib.hid (okTo_no hlt (show okAt l k = false by simp [okAt, h4]))
          have Hin : Hid (∀ w' : World, Calls Tryd.prog 73 #[.int .i64 (gi l k), .int .i64 0, .int .i64 99] w' (Tells (.bool false) w')) := fun w' => by rw [← h4]; exact l1In_any w' _ _ _
          clear h4 ha
          go_wp2
          go_quiet ((go_at_call 73; exact quiet_add (Hin.out _)))
          go_wp2
          go_ret
          exact gives_mk (by rw [H.out, Hf.out]; rfl) (hbW.trans (below_drewN (below_drewN (Below.refl _ _) _) _))
        · have Hin : Hid (∀ w' : World, Calls Tryd.prog 73 #[.int .i64 (gi l k), .int .i64 0, .int .i64 99] w' (Tells (.bool true) w')) := fun w' => by rw [← h4]; exact l1In_any w' _ _ _
          have H4 := Lib.hid h4
          clear h4
          by_cases h5 : 0 < gi l k
          · cases h6 : hasTo l (gi l k) k
            · have Hf := Lib.hid (okTo_yes ha.out (show okAt l k = true by simp [okAt, H4.out, h6]))
              have Hha : Hid (∀ q : Nat, Calls Tryd.prog 74 #[.slice (some ⟨b, o, none⟩) k c, .int .i64 (gi l k)] (W.drewN q) (Tells (.bool false) (W.drewN q))) := fun q => by rw [← h6]; exact l1Has_any _ _ _ _ _ _ (by omega) (cells_drewN HX.out q)
              clear h6 ha
              go_wp2
              go_quiet ((first | (go_at_call 73; exact quiet_add (Hin.out _)) | (go_at_call 74; exact quiet_add (Hha.out _))))
              go_wp2
              go_roundw
              case rel => exact ⟨k+1, by omega, by go_num, Hf, _, rfl⟩
              case measure => simp [intOf]; omega
            · have Hf := Lib.hid (okTo_no hlt (show okAt l k = false by simp [okAt, h5, h6]))
              have Hha : Hid (∀ q : Nat, Calls Tryd.prog 74 #[.slice (some ⟨b, o, none⟩) k c, .int .i64 (gi l k)] (W.drewN q) (Tells (.bool true) (W.drewN q))) := fun q => by rw [← h6]; exact l1Has_any _ _ _ _ _ _ (by omega) (cells_drewN HX.out q)
              clear h6 ha
              go_wp2
              go_quiet ((first | (go_at_call 73; exact quiet_add (Hin.out _)) | (go_at_call 74; exact quiet_add (Hha.out _))))
              go_wp2
              go_ret
              exact gives_mk (by rw [H.out, Hf.out]; rfl) (hbW.trans (below_drewN (below_drewN (Below.refl _ _) _) _))
          · have Hf := Lib.hid (okTo_yes ha.out (show okAt l k = true by simp [okAt, H4.out, h5]))
            have h5' : decide (0 < gi l k) = false := by simpa using h5
            clear ha
            go_wp2
            go_quiet ((first | (go_at_call 73; exact quiet_add (Hin.out _))))
            go_wp2
            go_roundw
            case rel => exact ⟨k+1, by omega, by go_num, Hf, _, rfl⟩
            case measure => simp [intOf]; omega
      · obtain rfl : k = n := by omega
        clear hx'
        go_wp2
        go_ret
        exact gives_mk (by rw [H.out, ha.out]; rfl) (hbW.trans (below_drewN (Below.refl _ _) _))
  · have H := Lib.hid (show validB ⟨x, y, l⟩ = false by rw [HN.out] at h3; simp [validB, sizeB, h3])
    have h3' : ((n : Int) != x * y) = true := by simpa using h3
    clear hx h3
    go_enter Tryd.func28, Tryd.ntmps28
    go_wp2_with (go_at_call 73; refine (l1In_any _ _ _ _).mono ?_; rintro e w' ⟨rfl, q, rfl⟩)
    go_ret
    exact gives_mk (by rw [H.out]; rfl) (below_drewN ((Below.refl _ _).alloc (Nat.le_refl _) _) _)

end Go.Proofs.YtjdgbdakkdljmaaDoor
