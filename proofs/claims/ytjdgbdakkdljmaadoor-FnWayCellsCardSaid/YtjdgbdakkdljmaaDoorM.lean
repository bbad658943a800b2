/-
  The marks that the laws write into results, and how they are held.
-/
import Derived.Test.YtjdgbdakkdljmaaDoorA
set_option linter.unusedVariables false
namespace Go.Proofs.YtjdgbdakkdljmaaDoor
open Go Go.RowKit Go.Park

def marks (k : Int) (n : Nat) : List Int := (List.range n).map (fun (i : Nat) => k + (i : Int))
theorem marks_length (k : Int) (n : Nat) : (marks k n).length = n := by simp [marks]
theorem gi_marks {k : Int} {n j : Nat} (h : j < n) : gi (marks k n) j = k + j := by simp [gi, marks, List.getD, h]

/-- the marks in an owned row, up to the i-th -/
def Mark (w wr : World) (b g n c : Nat) (k : Int) (i : Nat) : Prop :=
  w.grownBy wr (some g) ∧ ∃ xs : List Value, wr.ownsRow b 3 1 (.slice (some ⟨g, 0, none⟩) n c) n xs ∧ ∀ j, j < i → xs[j]? = some (.int .i64 (k + (j : Int)))
theorem mark_start {w : World} {b g n c : Nat} {k : Int} {xs : List Value} (h : w.ownsRow b 3 1 (.slice (some ⟨g, 0, none⟩) n c) n xs) : Mark w w b g n c k 0 :=
  ⟨grown_refl _ _, xs, h, fun j hj => by omega⟩
theorem mark_cell {w wr : World} {b g n c : Nat} {k : Int} {i : Nat} (h : Mark w wr b g n c k i) {j : Nat} (hj : j < n) : ∃ u, wr.cell? ⟨g, j, none⟩ = some u := by
  obtain ⟨_, xs, ho, _⟩ := h
  rw [ho.cellAt j (by omega)]
  have := ho.1
  exact ⟨xs[j]'(by omega), by simp [show j < xs.length by omega]⟩
theorem mark_free {w wr : World} {b g n c : Nat} {k : Int} {i : Nat} (h : Mark w wr b g n c k i) (j : Nat) : wr.frozen? ⟨g, j, none⟩ = false := by
  obtain ⟨_, xs, ho, _⟩ := h
  exact ho.frozenAt j
theorem mark_step {w wr : World} {b g n c : Nat} {k : Int} {i : Nat} (h : Mark w wr b g n c k i) (hi : i < n) : Mark w (wr.setCell ⟨g, i, none⟩ (.int .i64 (k + (i : Int)))) b g n c k (i+1) := by
  obtain ⟨hg, xs, ho, hx⟩ := h
  refine ⟨grown_set hg _ _, _, (ho.stored i _).1, ?_⟩
  intro j hj
  have := ho.1
  rw [List.getElem?_set]
  by_cases e : i = j
  · subst e; simp; omega
  · rw [if_neg e]; exact hx j (by omega)
theorem mark_all {w wr : World} {b g n c : Nat} {k : Int} (h : Mark w wr b g n c k n) : wr.ownsRow b 3 1 (.slice (some ⟨g, 0, none⟩) n c) n ((marks k n).map (Value.int .i64)) := by
  obtain ⟨_, xs, ho, hx⟩ := h
  have e : xs = (marks k n).map (Value.int .i64) := by
    apply List.ext_getElem?
    intro i
    rw [List.getElem?_map]
    by_cases hi : i < n
    · rw [hx i hi, gi_of_lt (by rw [marks_length]; exact hi), gi_marks hi]; rfl
    · have := ho.1
      rw [List.getElem?_eq_none (by omega), List.getElem?_eq_none (by rw [marks_length]; omega)]; rfl
  rw [← e]; exact ho

set_option maxHeartbeats 400000 in
theorem markIntS_row (w : World) (b : Nat) (v : Value) (n : Nat) (xs : List Value) (k : Int) (hv : w.ownsRow b 3 1 v n xs) (hn : n ≤ lim) (h0 : 0 ≤ k) (h1 : k ≤ 1152921504606846976) :
    Calls Tryd.prog 102 #[v, .int .i64 k] w (fun e w' => e = .returned (.int .i64 (k + n)) ∧ w'.ownsRow b 3 1 v n ((marks k n).map (Value.int .i64)) ∧ w.grownBy w' v.ownBlock) := by
  rw [lim_eq] at hn
  have hv2 := hv.2
  rcases hv2 with ⟨rfl, rfl⟩ | ⟨g, cap, cur, rfl, hg, _⟩
  · clear hv
    go_enter Tryd.func102, Tryd.ntmps102
    go_wp2_with fail
    refine wp_loop_rounds 1 ?_
    rw [rounds_succ]
    go_wp2
    go_ret
    exact ⟨by simp, by simpa [marks] using World.ownsRow_nil _ _ _ _, grown_refl _ _⟩
  · have HM : Hid (Mark w w b g n cap k 0) := mark_start hv
    clear hv
    go_enter Tryd.func102, Tryd.ntmps102
    go_wp2
    go_loopw [1, 5] (fun q i wr => ∃ j : Nat, j ≤ n ∧ i = .int .i64 j ∧ q = .int .i64 (k + j) ∧ Hid (Mark w wr b g n cap k j)) (fun _ i _ => n - (intOf i).toNat)
    case atStart => exact ⟨0, Nat.zero_le _, rfl, by simp, HM⟩
    case round =>
      obtain ⟨j, hj, rfl, rfl, hm⟩ := hrel
      by_cases hlt : j < n
      · obtain ⟨u, hc⟩ := mark_cell hm.out hlt
        have hf := mark_free hm.out j
        have HS := Lib.hid (mark_step hm.out hlt)
        clear hm HM
        go_wp2
        go_roundw
        case rel => exact ⟨j+1, by omega, by go_num, by congr 1; omega, HS⟩
        case measure => simp [intOf]; omega
      · obtain rfl : j = n := by omega
        have HA := Lib.hid (mark_all hm.out)
        have HG := Lib.hid hm.out.1
        clear hm HM
        go_wp2
        go_ret
        exact ⟨rfl, HA.out, HG.out⟩

set_option maxHeartbeats 400000 in
theorem markIntS_any (w : World) (lo : Nat) (v : Value) (l : List Int) (k : Int) (hv : OwnInts lo w v l) (h0 : 0 ≤ k) (h1 : k ≤ 1152921504606846976) :
    Calls Tryd.prog 102 #[v, .int .i64 k] w (fun e w' => e = .returned (.int .i64 (k + l.length)) ∧ OwnInts lo w' v (marks k l.length) ∧ w.grownBy w' v.ownBlock) := by
  have hn := hv.1
  obtain ⟨n, hnn⟩ : ∃ n, n = l.length := ⟨_, rfl⟩
  have hv2 := hv.2
  unfold OwnInts
  simp only [marks_length]
  rw [← hnn] at hv2 hn ⊢
  have HL := Lib.hid hn
  have HX := markIntS_row w lo v n _ k hv2 hn h0 h1
  exact HX.mono fun e w' ⟨h1, h2, h3⟩ => ⟨h1, ⟨hn, h2⟩, h3⟩

set_option maxHeartbeats 400000 in
theorem heldIntS_any (w : World) (v : Value) (n : Nat) (k : Int) (hv : IntsAt w v (marks k n)) (h0 : 0 ≤ k) (h1 : k ≤ 1152921504606846976) :
    Calls Tryd.prog 103 #[v, .int .i64 k] w (Tells (.int .i64 (k + n)) w) := by
  obtain ⟨ao, c, rfl, hn, _, hx⟩ := hv
  rw [lim_eq] at hn
  rw [marks_length] at hn hx ⊢
  go_enter Tryd.func103, Tryd.ntmps103
  go_wp2
  go_loopw [1, 5] (fun q i wr => ∃ j : Nat, j ≤ n ∧ i = .int .i64 j ∧ q = .int .i64 (k + j) ∧ ∃ q, wr = w.drewN q) (fun _ i _ => n - (intOf i).toNat)
  case atStart => exact ⟨0, Nat.zero_le _, rfl, by simp, 0, rfl⟩
  case round =>
    obtain ⟨j, hj, rfl, rfl, q, rfl⟩ := hrel
    by_cases hlt : j < n
    · obtain ⟨b, o, rfl, hc⟩ := hx j hlt
      rw [gi_marks hlt] at hc
      clear hx
      go_wp2
      go_roundw
      case rel => exact ⟨j+1, by omega, by go_num, by congr 1; omega, _, rfl⟩
      case measure => simp [intOf]; omega
    · obtain rfl : j = n := by omega
      clear hx
      go_wp2
      go_ret
      exact tells_mk rfl (drewN1 _ _)


set_option maxHeartbeats 400000 in
theorem markHall_row (w : World) (b : Nat) (x y : Int) (v : Value) (n : Nat) (xs : List Value) (k : Int) (hv : w.ownsRow b 3 1 v n xs) (hn : n ≤ lim) (h0 : 0 ≤ k) (h1 : k ≤ 1152921504606846976) :
    Calls Tryd.prog 63 #[.agg #[.int .i64 x, .int .i64 y, v], .int .i64 k] w (fun e w' => e = .returned (.int .i64 (k + n)) ∧ w'.ownsRow b 3 1 v n ((marks k n).map (Value.int .i64)) ∧ w.grownBy w' v.ownBlock) := by
  have HV := Lib.hid hv
  clear hv
  go_enter Tryd.func63, Tryd.ntmps63
  go_wp2_with (go_at_call 102; refine (markIntS_row _ _ _ n _ _ (HV.out.alloc _) hn h0 h1).mono ?_; rintro e w' ⟨rfl, ho, hg⟩)
  go_ret
  exact ⟨rfl, ho, grown_alloc hg⟩

set_option maxHeartbeats 400000 in
theorem heldHall_any (w : World) (x y : Int) (v : Value) (n : Nat) (k : Int) (hv : IntsAt w v (marks k n)) (h0 : 0 ≤ k) (h1 : k ≤ 1152921504606846976) (hn : n ≤ lim) :
    Calls Tryd.prog 64 #[.agg #[.int .i64 x, .int .i64 y, v], .int .i64 k] w (Gives (.int .i64 (k + n)) w) := by
  have HV := Lib.hid hv
  rw [lim_eq] at hn
  clear hv
  go_enter Tryd.func64, Tryd.ntmps64
  go_wp2_with (go_at_call 103; refine (heldIntS_any _ _ n _ (HV.out.keep ((Below.refl _ _).alloc (Nat.le_refl _) _)) h0 h1).mono ?_; rintro e w' ⟨rfl, q, rfl⟩)
  go_ret
  exact gives_mk rfl (below_drewN ((Below.refl _ _).alloc (Nat.le_refl _) _) _)

theorem markHall_any (w : World) (lo : Nat) (x y : Int) (v : Value) (l : List Int) (k : Int) (hv : OwnInts lo w v l) (h0 : 0 ≤ k) (h1 : k ≤ 1152921504606846976) :
    Calls Tryd.prog 63 #[.agg #[.int .i64 x, .int .i64 y, v], .int .i64 k] w (fun e w' => e = .returned (.int .i64 (k + l.length)) ∧ OwnInts lo w' v (marks k l.length) ∧ w.grownBy w' v.ownBlock) := by
  refine (markHall_row w lo x y v l.length _ k hv.2 hv.1 h0 h1).mono fun e w' ⟨h1, h2, h3⟩ => ⟨h1, ?_, h3⟩
  unfold OwnInts
  simp only [marks_length]
  exact ⟨hv.1, h2⟩

end Go.Proofs.YtjdgbdakkdljmaaDoor
