/-
  ParityOf.
-/
import Derived.Test.YtlmkdhbemgkbjaaP4
import Derived.Deep.RegionHeld3
import Derived.BigQuiet
set_option linter.unusedVariables false
namespace Go.Proofs.Ytlmkdhbemgkbjaa
open Go Go.RowKit Go.Park

def cntTo (p : Nat → Bool) : Nat → Nat
  | 0 => 0
  | k+1 => cntTo p k + (if p k = true then 1 else 0)
theorem cntTo_le (p : Nat → Bool) (k : Nat) : cntTo p k ≤ k := by
  induction k with
  | zero => simp [cntTo]
  | succ k ih => simp only [cntTo]; split <;> omega
def sumTo (f : Nat → Nat) : Nat → Nat
  | 0 => 0
  | k+1 => sumTo f k + f k
theorem sumTo_le {f : Nat → Nat} {c k : Nat} (h : ∀ j, j < k → f j ≤ c) : sumTo f k ≤ c * k := by
  induction k with
  | zero => simp [sumTo]
  | succ k ih =>
    have h1 := ih (fun j hj => h j (by omega))
    have h2 := h k (by omega)
    simp only [sumTo, Nat.mul_add, Nat.mul_one]
    omega
/-- how many of the first m stand before the k-th and are greater -/
def invCol (l : List Int) (k m : Nat) : Nat := cntTo (fun j => decide (gi l k < gi l j)) m
def invRow (l : List Int) (i m : Nat) : Nat := cntTo (fun t => decide (gi l (i + 1 + t) < gi l i)) m
def invS (l : List Int) (n : Nat) : Nat := sumTo (fun k => invCol l k k) n
def invI (l : List Int) (n m : Nat) : Nat := sumTo (fun i => invRow l i (n - (i + 1))) m
theorem invI_step (l : List Int) (n m : Nat) (h : m ≤ n) : invI l (n + 1) m = invI l n m + invCol l n m := by
  induction m with
  | zero => rfl
  | succ m ih =>
    have ih := ih (by omega)
    simp only [invI, invCol, sumTo, cntTo] at ih ⊢
    rw [ih]
    obtain ⟨d, hd⟩ : ∃ d, n = m + 1 + d := ⟨n - (m + 1), by omega⟩
    have e1 : n + 1 - (m + 1) = d + 1 := by omega
    have e2 : n - (m + 1) = d := by omega
    have e3 : invRow l m (d + 1) = invRow l m d + (if decide (gi l n < gi l m) = true then 1 else 0) := by
      simp only [invRow, cntTo, ← hd]
    rw [e1, e2, e3]
    omega
theorem invI_all (l : List Int) (n : Nat) : invI l n n = invS l n := by
  induction n with
  | zero => rfl
  | succ n ih =>
    have h := invI_step l n n (Nat.le_refl _)
    have e : invI l (n + 1) (n + 1) = invI l (n + 1) n + invRow l n 0 := by simp [invI, sumTo]
    have e0 : invRow l n 0 = 0 := rfl
    have e2 : invS l (n + 1) = invS l n + invCol l n n := rfl
    omega
theorem invS_le (l : List Int) {n : Nat} (h : n ≤ 12) : invS l n ≤ 144 := by
  have := sumTo_le (f := fun k => invCol l k k) (c := 12) (k := n) (fun j hj => by have := cntTo_le (fun i => decide (gi l j < gi l i)) j; simp only [invCol]; omega)
  simp only [invS]
  omega
theorem invI_le (l : List Int) {n m : Nat} (h : n ≤ 12) (hm : m ≤ 12) : invI l n m ≤ 144 := by
  have := sumTo_le (f := fun i => invRow l i (n - (i + 1))) (c := 12) (k := m) (fun j hj => by have := cntTo_le (fun t => decide (gi l (j + 1 + t) < gi l j)) (n - (j + 1)); simp only [invRow]; omega)
  simp only [invI]
  omega
theorem invCol_le (l : List Int) (k m : Nat) : invCol l k m ≤ m := cntTo_le _ _
theorem invRow_le (l : List Int) (k m : Nat) : invRow l k m ≤ m := cntTo_le _ _
theorem invCol_yes {l : List Int} {k j : Nat} (h : gi l k < gi l j) : invCol l k (j + 1) = invCol l k j + 1 := by simp [invCol, cntTo, h]
theorem invCol_no {l : List Int} {k j : Nat} (h : ¬ gi l k < gi l j) : invCol l k (j + 1) = invCol l k j := by
  simp only [invCol, cntTo]; rw [if_neg (by simpa using h)]; rfl
theorem invRow_yes {l : List Int} {k j : Nat} (h : gi l (k + 1 + j) < gi l k) : invRow l k (j + 1) = invRow l k j + 1 := by simp [invRow, cntTo, h]
theorem invRow_no {l : List Int} {k j : Nat} (h : ¬ gi l (k + 1 + j) < gi l k) : invRow l k (j + 1) = invRow l k j := by
  simp only [invRow, cntTo]; rw [if_neg (by simpa using h)]; rfl

def parityF (h : PHall) : Int :=
  if (hallFreeF h).length = 1 then (apartAt h (gi (hallFreeF h) 0) 0 + invS h.cells h.cells.length) % 2 else -1

theorem free_one {h : PHall} (h1 : (hallFreeF h).length = 1) : ∃ x : Int, hallFreeF h = [x] ∧ h.cells.length ≤ 12 ∧ 0 ≤ apartAt h x 0 ∧ apartAt h x 0 ≤ 100 := by
  obtain ⟨x, hx⟩ := List.length_eq_one_iff.1 h1
  refine ⟨x, hx, ?_⟩
  by_cases hv : validB h = true
  · have hx2 : x ∈ selTo (fun j => decide (gi h.cells j = 0)) h.cells.length := by
      have : x ∈ hallFreeF h := by rw [hx]; simp
      simpa [hallFreeF, hv] using this
    obtain ⟨j, hj, _, rfl⟩ := selTo_mem.1 hx2
    have hl := (valid_len hv).2
    have hs := (valid_size hv).1
    have c1 : hasCellB h (j : Int) = true := hasCell_iff.2 (by omega)
    have c0 : hasCellB h 0 = true := hasCell_iff.2 (by omega)
    refine ⟨hl, ?_⟩
    have e : apartAt h j 0 = apartF h.wide j 0 := by simp [apartAt, hv, c1, c0]
    rw [e]
    unfold apartF farF
    have hw : h.wide = 2 ∨ h.wide = 3 ∨ h.wide = 4 := by omega
    rcases hw with e | e | e <;> rw [e] <;> omega
  · simp [hallFreeF, hv] at h1

set_option maxHeartbeats 2000000 in
theorem specParityOf_any (w : World) (v : Value) (h : PHall) (hv : HallAt w v h) :
    Calls Try.prog 21 #[v] w (Gives (.int .i64 (parityF h)) w) := by
  have HV := Lib.hid hv
  obtain ⟨cv, rfl, ao, cp, rfl, hn, hcm, hx⟩ := hv
  have HX := Lib.hid hx
  rw [lim_eq] at hn
  clear hx
  by_cases h1 : (hallFreeF h).length = 1
  rotate_left
  · have H := Lib.hid (show parityF h = -1 by simp [parityF, h1])
    have HF := Lib.hid (fun w' v' hv' => specHallFree_any w' v' h hv')
    have hbq : (((hallFreeF h).length : Int) == 1) = false := by simp; omega
    clear h1
    go_enter Try.func21, Try.ntmps21
    go_wp2_with fail
    refine (HF.out _ _ (HV.out.keep (below_new _ _))).mono ?_
    rintro e w1 ⟨cv2, rfl, ho, hb⟩
    obtain ⟨ao2, cp2, rfl⟩ := ho.slice
    have b1 := (box3_new w _ _ _ _).keep hb
    have b1_0 := b1.c0
    have b1_1 := b1.c1
    have b1_2 := b1.c2
    have b1_l := b1.lt
    have HB := Lib.hid (below_alloc hb)
    clear hb ho
    go_wp2
    go_ret
    exact gives_mk (by rw [H.out]; rfl) HB.out
  obtain ⟨x, hx, hlen, ha0, ha1⟩ := free_one h1
  have H := Lib.hid (show parityF h = (apartAt h x 0 + invS h.cells h.cells.length) % 2 by simp [parityF, hx, gi])
  have HF := Lib.hid (show ∀ w' v', HallAt w' v' h → Calls Try.prog 40 #[v'] w' (GivesInts [x] w') from fun w' v' hv' => by rw [← hx]; exact specHallFree_any w' v' h hv')
  obtain ⟨A, hA⟩ : ∃ A, A = apartAt h x 0 := ⟨_, rfl⟩
  have HC := Lib.hid (show ∀ w' v', HallAt w' v' h → Calls Try.prog 41 #[v', .int .i64 x, .int .i64 0] w' (Gives (.int .i64 A) w') from fun w' v' hv' => by rw [hA]; exact specCellsApart_any w' v' h x 0 hv')
  rw [← hA] at H ha0 ha1
  obtain ⟨n, hnn⟩ : ∃ n, n = h.cells.length := ⟨_, rfl⟩
  have HVn := Lib.hid (show HallAt w (.agg #[.int .i64 h.wide, .int .i64 h.deep, .slice ao n cp]) h by rw [hnn]; exact HV.out)
  rw [← hnn] at hlen H HX ⊢
  clear hn hcm hnn h1 hx hA HV
  go_enter Try.func21, Try.ntmps21
  go_wp2_with fail
  refine (HF.out _ _ (HVn.out.keep (below_new _ _))).mono ?_
  rintro e w1 ⟨cv2, rfl, ho, hb⟩
  obtain ⟨g, cp2, rfl, hg1, hg2⟩ := ho.head (by simp)
  have b1 := (box3_new w _ _ _ _).keep hb
  have b1_0 := b1.c0
  have b1_1 := b1.c1
  have b1_2 := b1.c2
  have b1_l := b1.lt
  have HB := Lib.hid (below_alloc hb)
  have cg : w1.cell? ⟨g, 0, none⟩ = some (.int .i64 x) := own_cell ho (j := 0) (by simp)
  clear hb ho
  go_wp2
  go_region_held3 (fun w' => w'.cell? ⟨w.heap.size, 0, none⟩ = some (.int .i64 h.wide) ∧ w'.cell? ⟨w.heap.size, 1, none⟩ = some (.int .i64 h.deep) ∧ w'.cell? ⟨w.heap.size, 2, none⟩ = some (.slice ao n cp) ∧ w'.cell? ⟨g, 0, none⟩ = some (.int .i64 x)) (((try dsimp only); (repeat' apply And.intro); all_goals first | (with_reducible assumption) | go_keep)) (first
    | (go_at_call 41; refine (HC.out _ _ (HVn.out.keep (below_then HB.out (below_drew1 _)))).mono ?_; rintro e w2 ⟨rfl, hb2⟩; have b2 := (b1.keep (below_drew1 _)).keep hb2; have b2_0 := b2.c0; have b2_1 := b2.c1; have b2_2 := b2.c2; have b2_l := b2.lt; have cg2 : w2.cell? ⟨g, 0, none⟩ = some (.int .i64 x) := (hb2.cell (p := ⟨g, 0, none⟩) hg2).trans cg; have HB2 := Lib.hid (below_then (below_then HB.out (below_drew1 _)) hb2); clear hb2 b1 b1_0 b1_1 b1_2 b1_l HB))
  have hx2 := HX.out.keep HB2.out
  clear cg cg2
  go_wp2
  go_loopw [4, 5] (fun s i wr => ∃ k : Nat, k ≤ n ∧ i = .int .i64 k ∧ s = .int .i64 (A + invS h.cells k) ∧ ∃ q, wr = w2.drewN q) (fun _ i _ => n - (intOf i).toNat)
  case atStart => exact ⟨0, Nat.zero_le _, rfl, by simp [invS, sumTo], 0, rfl⟩
  case round =>
    obtain ⟨k, hk, rfl, rfl, q, rfl⟩ := hrel
    obtain ⟨S, hS⟩ : ∃ S, S = invS h.cells k := ⟨_, rfl⟩
    have hSl := invS_le h.cells (n := k) (by omega)
    rw [← hS] at hSl ⊢
    by_cases hlt : k < n
    · have HS := Lib.hid (show invS h.cells (k + 1) = S + invCol h.cells k k by rw [hS]; rfl)
      obtain ⟨b, o, rfl, g1⟩ := hx2 k hlt
      have HX2 := Lib.hid hx2
      clear hS hx2
      go_wp2
      go_loopw [4, 6] (fun s i wr => ∃ j : Nat, j ≤ k ∧ i = .int .i64 j ∧ s = .int .i64 (A + S + invCol h.cells k j) ∧ ∃ q, wr = w2.drewN q) (fun _ i _ => n - (intOf i).toNat)
      case atStart => exact ⟨0, Nat.zero_le _, rfl, by simp [invCol, cntTo], q, rfl⟩
      case round =>
        obtain ⟨j, hj, rfl, rfl, q, rfl⟩ := hrel
        have hCl := invCol_le h.cells k j
        by_cases hjk : j < k
        · obtain ⟨b', o', e, g2⟩ := HX2.out j (by omega)
          cases e
          by_cases he : gi h.cells k < gi h.cells j
          · have HC2 := Lib.hid (invCol_yes he)
            clear HS
            go_wp2
            go_quiet (fail)
            go_wp2
            go_roundw
            case rel => exact ⟨j+1, by omega, by go_num, by rw [HC2.out]; go_num, _, rfl⟩
            case measure => simp [intOf]; omega
          · have HC2 := Lib.hid (invCol_no he)
            clear HS
            go_wp2
            go_quiet (fail)
            go_wp2
            go_roundw
            case rel => exact ⟨j+1, by omega, by go_num, by rw [HC2.out], _, rfl⟩
            case measure => simp [intOf]; omega
        · obtain rfl : j = k := by omega
          go_wp2
          go_roundw
          case rel => exact ⟨j+1, by omega, by go_num, by rw [HS.out]; go_num, _, rfl⟩
          case measure => simp [intOf]; omega
    · obtain rfl : k = n := by omega
      have H2 := Lib.hid (show parityF h = (A + S) % 2 by rw [H.out, hS])
      have hp : 0 ≤ A + S := by omega
      clear hx2 hS
      go_wp2
      go_ret
      exact gives_mk (by rw [H2.out]; congr 1) (below_drewN HB2.out _)

set_option maxHeartbeats 2000000 in
theorem parityOf_any (w : World) (v : Value) (h : PHall) (hv : HallAt w v h) :
    Calls Try.prog 27 #[v] w (Gives (.int .i64 (parityF h)) w) := by
  have HV := Lib.hid hv
  obtain ⟨cv, rfl, ao, cp, rfl, hn, hcm, hx⟩ := hv
  have HX := Lib.hid hx
  rw [lim_eq] at hn
  clear hx
  by_cases h1 : (hallFreeF h).length = 1
  rotate_left
  · have H := Lib.hid (show parityF h = -1 by simp [parityF, h1])
    have HF := Lib.hid (fun w' v' hv' => hallFree_any w' v' h hv')
    have hbq : (((hallFreeF h).length : Int) == 1) = false := by simp; omega
    clear h1
    go_enter Try.func27, Try.ntmps27
    go_wp2_with fail
    refine (HF.out _ _ (HV.out.keep (below_new _ _))).mono ?_
    rintro e w1 ⟨cv2, rfl, ho, hb⟩
    obtain ⟨ao2, cp2, rfl⟩ := ho.slice
    have b1 := (box3_new w _ _ _ _).keep hb
    have b1_0 := b1.c0
    have b1_1 := b1.c1
    have b1_2 := b1.c2
    have b1_l := b1.lt
    have HB := Lib.hid (below_alloc hb)
    clear hb ho
    go_wp2
    go_ret
    exact gives_mk (by rw [H.out]; rfl) HB.out
  obtain ⟨x, hx, hlen, ha0, ha1⟩ := free_one h1
  have H := Lib.hid (show parityF h = (apartAt h x 0 + invS h.cells h.cells.length) % 2 by simp [parityF, hx, gi])
  have HF := Lib.hid (show ∀ w' v', HallAt w' v' h → Calls Try.prog 26 #[v'] w' (GivesInts [x] w') from fun w' v' hv' => by rw [← hx]; exact hallFree_any w' v' h hv')
  obtain ⟨A, hA⟩ : ∃ A, A = apartAt h x 0 := ⟨_, rfl⟩
  have HC := Lib.hid (show ∀ w' v', HallAt w' v' h → Calls Try.prog 43 #[v', .int .i64 x, .int .i64 0] w' (Gives (.int .i64 A) w') from fun w' v' hv' => by rw [hA]; exact cellsApart_any w' v' h x 0 hv')
  rw [← hA] at H ha0 ha1
  obtain ⟨n, hnn⟩ : ∃ n, n = h.cells.length := ⟨_, rfl⟩
  have HVn := Lib.hid (show HallAt w (.agg #[.int .i64 h.wide, .int .i64 h.deep, .slice ao n cp]) h by rw [hnn]; exact HV.out)
  rw [← hnn] at hlen H HX hn hcm ⊢
  clear hnn h1 hx hA HV
  go_enter Try.func27, Try.ntmps27
  go_wp2_with fail
  refine (HF.out _ _ (HVn.out.keep (below_new _ _))).mono ?_
  rintro e w1 ⟨cv2, rfl, ho, hb⟩
  obtain ⟨g, cp2, rfl, hg1, hg2⟩ := ho.head (by simp)
  have b1 := (box3_new w _ _ _ _).keep hb
  have b1_0 := b1.c0
  have b1_1 := b1.c1
  have b1_2 := b1.c2
  have b1_l := b1.lt
  have HB := Lib.hid (below_alloc hb)
  have cg : w1.cell? ⟨g, 0, none⟩ = some (.int .i64 x) := own_cell ho (j := 0) (by simp)
  clear hb ho
  go_wp2
  go_region_held3 (fun w' => w'.cell? ⟨w.heap.size, 0, none⟩ = some (.int .i64 h.wide) ∧ w'.cell? ⟨w.heap.size, 1, none⟩ = some (.int .i64 h.deep) ∧ w'.cell? ⟨w.heap.size, 2, none⟩ = some (.slice ao n cp) ∧ w'.cell? ⟨g, 0, none⟩ = some (.int .i64 x)) (((try dsimp only); (repeat' apply And.intro); all_goals first | (with_reducible assumption) | go_keep)) (first
    | (go_at_call 43; refine (HC.out _ _ (HVn.out.keep (below_then HB.out (below_drew1 _)))).mono ?_; rintro e w2 ⟨rfl, hb2⟩; have b2 := (b1.keep (below_drew1 _)).keep hb2; have b2_0 := b2.c0; have b2_1 := b2.c1; have b2_2 := b2.c2; have b2_l := b2.lt; have cg2 : w2.cell? ⟨g, 0, none⟩ = some (.int .i64 x) := (hb2.cell (p := ⟨g, 0, none⟩) hg2).trans cg; have HB2 := Lib.hid (below_then (below_then HB.out (below_drew1 _)) hb2); clear hb2 b1 b1_0 b1_1 b1_2 b1_l HB))
  have hx2 := HX.out.keep HB2.out
  clear cg cg2
  go_wp2
  go_loopw [4, 22] (fun s i wr => ∃ k : Nat, k ≤ n ∧ i = .int .i64 k ∧ s = .int .i64 (A + invI h.cells n k) ∧ ∃ q, wr = w2.drewN q) (fun _ i _ => n - (intOf i).toNat)
  case atStart => exact ⟨0, Nat.zero_le _, rfl, by simp [invI, sumTo], 0, rfl⟩
  case round =>
    obtain ⟨k, hk, rfl, rfl, q, rfl⟩ := hrel
    obtain ⟨S, hS⟩ : ∃ S, S = invI h.cells n k := ⟨_, rfl⟩
    have hSl := invI_le h.cells (n := n) (m := k) hlen (by omega)
    rw [← hS] at hSl ⊢
    by_cases hlt : k < n
    · have HS := Lib.hid (show invI h.cells n (k + 1) = S + invRow h.cells k (n - (k + 1)) by rw [hS]; rfl)
      obtain ⟨b, o, rfl, g1⟩ := hx2 k hlt
      have HX2 := Lib.hid hx2
      clear hS hx2
      by_cases hcp : cp = k + 1
      · obtain rfl : n = k + 1 := by omega
        have hz : k + 1 - (k + 1) = 0 := by omega
        have HZ : invRow h.cells k (k + 1 - (k + 1)) = 0 := by rw [hz]; rfl
        go_wp2
        go_loopw [4, 33] (fun s i wr => i = .int .i64 0 ∧ s = .int .i64 (A + S) ∧ ∃ q, wr = w2.drewN q) (fun _ i _ => 0)
        case atStart => exact ⟨rfl, rfl, q, rfl⟩
        case round =>
          obtain ⟨rfl, rfl, q, rfl⟩ := hrel
          go_wp2
          go_roundw
          case rel => exact ⟨k+1, by omega, by go_num, by rw [HS.out, HZ]; go_num, _, rfl⟩
          case measure => simp [intOf]
      go_wp2
      go_loopw [4, 33] (fun s i wr => ∃ j : Nat, j ≤ n - (k + 1) ∧ i = .int .i64 j ∧ s = .int .i64 (A + S + invRow h.cells k j) ∧ ∃ q, wr = w2.drewN q) (fun _ i _ => n - (intOf i).toNat)
      case atStart => exact ⟨0, Nat.zero_le _, rfl, by simp [invRow, cntTo], q, rfl⟩
      case round =>
        obtain ⟨j, hj, rfl, rfl, q, rfl⟩ := hrel
        have hCl := invRow_le h.cells k j
        by_cases hjk : j < n - (k + 1)
        · obtain ⟨b', o', e, g2⟩ := HX2.out (k + 1 + j) (by omega)
          cases e
          have g3 : w2.cell? ⟨b, o + (k + 1) + j, none⟩ = some (.int .i64 (gi h.cells (k + 1 + j))) := by rw [Nat.add_assoc]; exact g2
          obtain ⟨Y, hY⟩ : ∃ Y, Y = gi h.cells (k + 1 + j) := ⟨_, rfl⟩
          rw [← hY] at g3
          clear g2
          by_cases he : Y < gi h.cells k
          · have HC2 := Lib.hid (invRow_yes (by rw [← hY]; exact he))
            clear HS hY
            go_wp2
            go_roundw
            case rel => exact ⟨j+1, by omega, by go_num, by rw [HC2.out]; go_num, _, rfl⟩
            case measure => simp [intOf]; omega
          · have HC2 := Lib.hid (invRow_no (by rw [← hY]; exact he))
            clear HS hY
            go_wp2
            go_roundw
            case rel => exact ⟨j+1, by omega, by go_num, by rw [HC2.out], _, rfl⟩
            case measure => simp [intOf]; omega
        · obtain rfl : j = n - (k + 1) := by omega
          go_wp2
          go_roundw
          case rel => exact ⟨k+1, by omega, by go_num, by rw [HS.out]; go_num, _, rfl⟩
          case measure => simp [intOf]; omega
    · obtain rfl : k = n := by omega
      have H2 := Lib.hid (show parityF h = (A + S) % 2 by rw [H.out, hS, invI_all])
      have hp : 0 ≤ A + S := by omega
      clear hx2 hS
      go_wp2
      go_ret
      exact gives_mk (by rw [H2.out]; congr 1) (below_drewN HB2.out _)

end Go.Proofs.Ytlmkdhbemgkbjaa
