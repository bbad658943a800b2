/-
  SlidesAll.
-/
import Derived.Test.YtjdgbdakkdljmaaDoorH
import Derived.Test.YtjdgbdakkdljmaaDoorK
import Derived.Deep.AppendLies
import Derived.Test.YtjdgbdakkdljmaaDoorB
import Derived.Maps.AppendAt
set_option linter.unusedVariables false
namespace Go.Proofs.YtjdgbdakkdljmaaDoor
open Go Go.RowKit Go.Park

def mayRow (h : PHall) (k m : Nat) : List (Int × Int) := (selTo (fun j => slideMayB h k j) m).map (fun x => ((k : Int), x))
def mayTo (h : PHall) : Nat → List (Int × Int)
  | 0 => []
  | k+1 => mayTo h k ++ mayRow h k h.cells.length
def slidesAllF (h : PHall) : List (Int × Int) := mayTo h h.cells.length

theorem mayRow_len (h : PHall) (k m : Nat) : (mayRow h k m).length ≤ m := by
  unfold mayRow; rw [List.length_map]; exact selTo_length _ _
theorem mayRow_yes {h : PHall} {k j : Nat} (e : slideMayB h k j = true) : mayRow h k (j + 1) = mayRow h k j ++ [((k : Int), (j : Int))] := by
  unfold mayRow
  rw [selTo_yes (p := fun j => slideMayB h k j) (k := j) e, List.map_append]
  rfl
theorem mayRow_no {h : PHall} {k j : Nat} (e : slideMayB h k j = false) : mayRow h k (j + 1) = mayRow h k j := by
  unfold mayRow
  rw [selTo_no (p := fun j => slideMayB h k j) (k := j) e]
theorem mayRow_bad {h : PHall} (hv : validB h = false) (k m : Nat) : mayRow h k m = [] := by
  unfold mayRow
  rw [selTo_none (fun j _ => by simp [slideMayB, hv])]
  rfl
theorem mayTo_bad {h : PHall} (hv : validB h = false) (k : Nat) : mayTo h k = [] := by
  induction k with
  | zero => rfl
  | succ k ih => simp [mayTo, ih, mayRow_bad hv]
theorem mayTo_len (h : PHall) (k : Nat) : (mayTo h k).length ≤ h.cells.length * k := by
  induction k with
  | zero => simp [mayTo]
  | succ k ih =>
    have := mayRow_len h k h.cells.length
    simp only [mayTo, List.length_append, Nat.mul_add, Nat.mul_one]
    omega
theorem may_small (h : PHall) (k j : Nat) (hk : k ≤ h.cells.length) (hj : j ≤ h.cells.length) : (mayTo h k ++ mayRow h k j).length ≤ 200 := by
  cases hv : validB h
  · rw [mayTo_bad hv, mayRow_bad hv]; simp
  · have h1 := (valid_len hv).2
    have h2 := mayTo_len h k
    have h3 := mayRow_len h k j
    have h4 : h.cells.length * k ≤ 12 * 12 := Nat.mul_le_mul h1 (by omega)
    rw [List.length_append]
    omega
theorem below_app2 {B : Nat} {W wr w1 : World} {v : Value} {o : Obj} (hb : Below B W wr) (hl : B ≤ wr.heap.size) (ho : Blk v B wr.heap.size) (hg : (wr.alloc o).grownBy w1 v.ownBlock) : Below B W w1 :=
  below_app hb hl ho hg

set_option maxRecDepth 100000 in
set_option maxHeartbeats 4000000 in
theorem specSlidesAll_any (w : World) (v : Value) (h : PHall) (hv : HallAt w v h) :
    Calls Tryd.prog 33 #[v] w (GivesSlides (slidesAllF h) w) := by
  have HV := Lib.hid hv
  obtain ⟨cv, rfl, ao, c, rfl, hn, hcm, hx⟩ := hv
  clear hx
  rw [lim_eq] at hn
  obtain ⟨W, hW⟩ : ∃ W, W = w.alloc (.cells #[.int .i64 h.wide, .int .i64 h.deep, .slice ao h.cells.length c] 25) := ⟨_, rfl⟩
  have hWs : W.heap.size = w.heap.size + 1 := by rw [hW]; simp
  have HBW : Hid (Below w.heap.size w W) := Lib.hid (by rw [hW]; exact below_new _ _)
  have HE : Hid (OwnSlides (w.heap.size + 1) (W.alloc (.cells #[] 40)) (.slice (some ⟨w.heap.size + 1, 0, none⟩) 0 0) []) := Lib.hid (by rw [← hWs]; exact own_empty_row W)
  have HBX := Lib.hid (show Box3 W w.heap.size _ _ _ by rw [hW]; exact box3_new _ _ _ _ _)
  have H := Lib.hid (show slidesAllF h = mayTo h h.cells.length from rfl)
  have HS := Lib.hid (fun k => show mayTo h (k + 1) = mayTo h k ++ mayRow h k h.cells.length from rfl)
  have HM := Lib.hid (may_small h)
  have HA := Lib.hid (fun (W' : World) (v' : Value) (hh : HallAt W' v' h) (k j : Nat) => specSlideMay_any W' v' h k j hh)
  obtain ⟨n, hnn⟩ : ∃ n, n = h.cells.length := ⟨_, rfl⟩
  rw [← hnn] at H HV HBX hW hn HS HM ⊢
  obtain ⟨i0, hi, hz0, hz1, hz2⟩ := info_parts Tryd.infoSlide
  clear hcm hnn
  go_enter Tryd.func33, Tryd.ntmps33
  go_wp2
  rw [← hW]
  clear hW
  go_loopw [3, 4] (fun q i wr => ∃ k : Nat, k ≤ n ∧ i = .int .i64 k ∧ Hid (OwnSlides (w.heap.size + 1) wr q (mayTo h k)) ∧ Below (w.heap.size + 1) W wr) (fun _ i _ => n - (intOf i).toNat)
  case atStart => exact ⟨0, Nat.zero_le _, rfl, HE, by rw [← hWs]; exact below_new _ _⟩
  case round =>
    obtain ⟨k, hk, rfl, ho, hbr⟩ := hrel
    have HR := Lib.hid hbr
    have hsz : w.heap.size + 1 ≤ wr.heap.size := by have := HR.out.size; omega
    have HRW' := Lib.hid (show Below W.heap.size W wr by rw [hWs]; exact HR.out)
    have HRW := Lib.hid (HBW.out.trans (HR.out.mono (by omega)))
    have b2 := HBX.out.keep HRW'.out
    have b2_0 := b2.c0
    have b2_1 := b2.c1
    have b2_2 := b2.c2
    have b2_l := b2.lt
    clear hbr
    by_cases hlt : k < n
    · go_wp2
      clear b2 b2_0 b2_1 b2_2 b2_l
      go_loopw [3, 5] (fun q i wr => ∃ j : Nat, j ≤ n ∧ i = .int .i64 j ∧ Hid (OwnSlides (w.heap.size + 1) wr q (mayTo h k ++ mayRow h k j)) ∧ Below (w.heap.size + 1) W wr) (fun _ i _ => n - (intOf i).toNat)
      case atStart => exact ⟨0, Nat.zero_le _, rfl, by rw [show mayRow h k 0 = [] from rfl, List.append_nil]; exact ho, HR.out⟩
      case round =>
        clear ho HR hsz HRW' HRW
        obtain ⟨j, hj, rfl, ho, hbr⟩ := hrel
        have HR := Lib.hid hbr
        have hsz : w.heap.size + 1 ≤ wr.heap.size := by have := HR.out.size; omega
        have HRW' := Lib.hid (show Below W.heap.size W wr by rw [hWs]; exact HR.out)
        have HRW := Lib.hid (HBW.out.trans (HR.out.mono (by omega)))
        have b3 := HBX.out.keep HRW'.out
        have b3_0 := b3.c0
        have b3_1 := b3.c1
        have b3_2 := b3.c2
        have b3_l := b3.lt
        clear hbr
        by_cases hjn : j < n
        · have hll := HM.out k j (by omega) (by omega)
          have HL : Hid (∀ r, slideMayB h k j = true → r = mayTo h k ++ mayRow h k j → mayTo h k ++ mayRow h k (j + 1) = r ++ [((k : Int), (j : Int))]) := Lib.hid (fun r e hr => by rw [hr, mayRow_yes e, List.append_assoc])
          have HL0 : Hid (∀ r, slideMayB h k j = false → r = mayTo h k ++ mayRow h k j → mayTo h k ++ mayRow h k (j + 1) = r) := Lib.hid (fun r e hr => by rw [hr, mayRow_no e])
          obtain ⟨L, hL⟩ : ∃ L, L = mayTo h k ++ mayRow h k j := ⟨_, rfl⟩
          rw [← hL] at hll ho
          have hc := Lib.hid (HA.out wr _ (HV.out.keep HRW.out) k j)
          cases he : slideMayB h k j
          · have hsel := Lib.hid (HL0.out _ he hL)
            rw [he] at hc
            clear he hL HL HL0
            go_wp2_with fail
            refine (hc.out).mono ?_
            rintro e wa ⟨rfl, hba⟩
            have HOX := Lib.hid (ho.out.keep hba)
            have HRX := Lib.hid (HR.out.trans (hba.mono hsz))
            clear hba
            go_wp2
            go_roundw
            case rel => exact ⟨j+1, by omega, by go_num, by rw [hsel.out]; exact HOX, HRX.out⟩
            case measure => simp [intOf]; omega
          · have hsel := Lib.hid (HL.out _ he hL)
            rw [he] at hc
            clear he hL HL HL0
            go_wp2_with fail
            refine (hc.out).mono ?_
            rintro e wa ⟨rfl, hba⟩
            have HOX := Lib.hid (ho.out.keep hba)
            have HRX := Lib.hid (HR.out.trans (hba.mono hsz))
            have hsz : w.heap.size + 1 ≤ wa.heap.size := Nat.le_trans hsz hba.size
            clear hba
            go_wp2_with (at_builtin; go_must (refine wpList_append_own _ rfl _ _ 36 rfl (w.heap.size + 1) 40 i0 (.agg #[.int .i64 0, .int .i64 0]) 2 16 Tryd.underlying36 hi hz0 hz1 hz2 rfl (by decide) _ _ _ rfl (HOX.out.2.alloc _) ⟨wa.heap.size, 0, none⟩ 1 1 [.int .i64 k, .int .i64 j] rfl rfl (World.news_of_block (cs := #[.int .i64 k, .int .i64 j]) (t := 40) (fr := (0, 0)) (heap_alloc_new wa _)) ?_ ?_ ?_ ?_ ?_; (simp [Value.oneCell']); (unfold maxLen; omega); (omega); (simp; omega); intro v' w2 hown' hgrow _hh; have HO := Lib.hid (own_append (by unfold lim; omega) hown'); have HB2 := Lib.hid (below_app HRX.out hsz HOX.out.blk hgrow); clear hown' hgrow _hh))
            go_roundw
            case rel => exact ⟨j+1, by omega, by go_num, by rw [hsel.out]; exact HO, HB2.out⟩
            case measure => simp [intOf]; omega
        · obtain rfl : j = n := by omega
          go_wp2
          go_roundw
          case rel => exact ⟨k+1, by omega, by go_num, by rw [HS.out]; exact ho, HR.out⟩
          case measure => simp [intOf]; omega
    · obtain rfl : k = n := by omega
      go_wp2
      go_ret
      exact ⟨_, rfl, by rw [H.out]; exact ho.out.base (by omega), HRW.out⟩

/-! impl.SlidesAll goes over the cells beside -/
def beRow (h : PHall) (k : Nat) (B : List Int) (t : Nat) : List (Int × Int) := ((B.take t).filter (fun x => slideMayB h k x)).map (fun x => ((k : Int), x))
theorem beRow_yes {h : PHall} {k t : Nat} {B : List Int} (ht : t < B.length) (e : slideMayB h k (gi B t) = true) : beRow h k B (t + 1) = beRow h k B t ++ [((k : Int), gi B t)] := by
  unfold beRow
  rw [List.take_add_one, List.filter_append, List.map_append, gi_of_lt ht]
  simp [e]
theorem beRow_no {h : PHall} {k t : Nat} {B : List Int} (ht : t < B.length) (e : slideMayB h k (gi B t) = false) : beRow h k B (t + 1) = beRow h k B t := by
  unfold beRow
  rw [List.take_add_one, List.filter_append, List.map_append, gi_of_lt ht]
  simp [e]
theorem sel_filter (p : Nat → Bool) (f : Int → Bool) (n : Nat) : (selTo p n).filter f = selTo (fun j => p j && f j) n := by
  induction n with
  | zero => rfl
  | succ n ih =>
    simp only [selTo]
    by_cases hp : p n = true <;> by_cases hf : f (n : Int) = true <;> simp [hp, hf, List.filter_append, ih]
theorem beRow_all (h : PHall) (k : Nat) : beRow h k (besideF h k) (besideF h k).length = mayRow h k h.cells.length := by
  unfold beRow mayRow
  rw [List.take_length]
  by_cases hv : validB h = true ∧ hasCellB h k = true
  · simp only [besideF, if_pos hv]
    rw [sel_filter]
    congr 1
    refine selTo_congr fun j _ => ?_
    cases hm : slideMayB h k j
    · simp
    · simp only [slideMayB, Bool.and_eq_true, decide_eq_true_eq] at hm
      simp [hm.2.2.2.2.2]
  · simp only [besideF, if_neg hv]
    rw [selTo_none]
    · rfl
    · intro j _
      cases hm : slideMayB h k j
      · rfl
      · simp only [slideMayB, Bool.and_eq_true] at hm
        exact absurd ⟨hm.1, hm.2.1⟩ hv
theorem be_small (h : PHall) (k t : Nat) (hk : k ≤ h.cells.length) : (mayTo h k ++ beRow h k (besideF h k) t).length ≤ 200 := by
  cases hv : validB h
  · rw [mayTo_bad hv]; simp [besideF, hv, beRow]
  · have h1 := (valid_len hv).2
    have h2 := mayTo_len h k
    have h3 : (besideF h k).length ≤ h.cells.length := by
      unfold besideF; split
      · exact selTo_length _ _
      · simp
    have h4 : h.cells.length * k ≤ 12 * 12 := Nat.mul_le_mul h1 (by omega)
    have h5 : (beRow h k (besideF h k) t).length ≤ (besideF h k).length := by
      unfold beRow
      rw [List.length_map]
      refine Nat.le_trans (List.length_filter_le _ _) ?_
      rw [List.length_take]; omega
    rw [List.length_append]
    omega
def ApartRow (wr : World) (q : Value) (ao : Option Addr) (B : List Int) : Prop :=
  ∀ t, t < B.length → ∃ g, ao = some ⟨g, 0, none⟩ ∧ wr.cell? ⟨g, t, none⟩ = some (.int .i64 (gi B t)) ∧ q.ownBlock ≠ some g
theorem ApartRow.keep {wr wa : World} {q : Value} {ao : Option Addr} {B : List Int} (h : ApartRow wr q ao B) (hb : Below wr.heap.size wr wa) : ApartRow wa q ao B := by
  intro t ht
  obtain ⟨g, e, h1, h2⟩ := h t ht
  exact ⟨g, e, (hb.cell (p := ⟨g, t, none⟩) (cell_lt h1)).trans h1, h2⟩
theorem ApartRow.app {wa w2 : World} {q v' : Value} {ao : Option Addr} {B : List Int} {o : Obj} (h : ApartRow wa q ao B)
    (hg : (wa.alloc o).grownBy w2 q.ownBlock) (hv : v'.ownBlock = q.ownBlock ∨ v'.ownBlock = some (wa.alloc o).heap.size) : ApartRow w2 v' ao B := by
  intro t ht
  obtain ⟨g, e, h1, h2⟩ := (h.keep (below_new wa o)) t ht
  refine ⟨g, e, ?_, ?_⟩
  · rw [hg.cell_far _ (cell_lt h1) (Ne.symm h2)]; exact h1
  · rcases hv with hv | hv
    · rw [hv]; exact h2
    · rw [hv]; intro e2
      have := cell_lt h1
      simp only [Option.some.injEq] at e2
      simp only at this
      omega
theorem apartRow_of {w0 w1 : World} {q : Value} {ao : Option Addr} {c : Nat} {lo : Nat} {B : List Int} (h : OwnInts w0.heap.size w1 (.slice ao B.length c) B) (hq : Blk q lo w0.heap.size) : ApartRow w1 q ao B := by
  intro t ht
  obtain ⟨g, cap, e, h1, h2⟩ := h.head (by intro hb; rw [hb] at ht; simp at ht)
  cases e
  refine ⟨g, rfl, own_cell h ht, ?_⟩
  intro hh
  have := (hq g hh).2
  omega
theorem ownSlides_nil (lo : Nat) (w : World) : OwnSlides lo w (.slice none 0 0) [] := ⟨by simp [lim], World.ownsRow_nil _ _ _ _⟩

set_option maxRecDepth 100000 in
set_option maxHeartbeats 4000000 in
theorem slidesAll_any (w : World) (v : Value) (h : PHall) (hv : HallAt w v h) :
    Calls Tryd.prog 29 #[v] w (GivesSlides (slidesAllF h) w) := by
  have HV := Lib.hid hv
  obtain ⟨cv, rfl, ao, c, rfl, hn, hcm, hx⟩ := hv
  clear hx
  rw [lim_eq] at hn
  obtain ⟨W, hW⟩ : ∃ W, W = w.alloc (.cells #[.int .i64 h.wide, .int .i64 h.deep, .slice ao h.cells.length c] 25) := ⟨_, rfl⟩
  have hWs : W.heap.size = w.heap.size + 1 := by rw [hW]; simp
  have HBW : Hid (Below w.heap.size w W) := Lib.hid (by rw [hW]; exact below_new _ _)
  have HBX := Lib.hid (show Box3 W w.heap.size _ _ _ by rw [hW]; exact box3_new _ _ _ _ _)
  have H := Lib.hid (show slidesAllF h = mayTo h h.cells.length from rfl)
  have HS := Lib.hid (fun k => show mayTo h (k + 1) = mayTo h k ++ beRow h k (besideF h k) (besideF h k).length from by rw [beRow_all]; rfl)
  have HM := Lib.hid (be_small h)
  have HA := Lib.hid (fun (W' : World) (v' : Value) (hh : HallAt W' v' h) (k : Nat) (j : Int) => slideMay_any W' v' h k j hh)
  have HC := Lib.hid (fun (W' : World) (v' : Value) (hh : HallAt W' v' h) (k : Nat) => cellsBeside_any W' v' h k hh)
  obtain ⟨n, hnn⟩ : ∃ n, n = h.cells.length := ⟨_, rfl⟩
  rw [← hnn] at H HV HBX hW hn HM ⊢
  obtain ⟨i0, hi, hz0, hz1, hz2⟩ := info_parts Tryd.infoSlide
  clear hcm hnn
  go_enter Tryd.func29, Tryd.ntmps29
  go_wp2
  rw [← hW]
  clear hW
  go_loopw [3, 11] (fun q i wr => ∃ k : Nat, k ≤ n ∧ i = .int .i64 k ∧ Hid (OwnSlides (w.heap.size + 1) wr q (mayTo h k)) ∧ Below (w.heap.size + 1) W wr) (fun _ i _ => n - (intOf i).toNat)
  case atStart => exact ⟨0, Nat.zero_le _, rfl, Lib.hid (ownSlides_nil _ _), Below.refl _ _⟩
  case round =>
    obtain ⟨k, hk, rfl, ho, hbr⟩ := hrel
    have HR := Lib.hid hbr
    have hsz : w.heap.size + 1 ≤ wr.heap.size := by have := HR.out.size; omega
    have HRW' := Lib.hid (show Below W.heap.size W wr by rw [hWs]; exact HR.out)
    have HRW := Lib.hid (HBW.out.trans (HR.out.mono (by omega)))
    have b2 := HBX.out.keep HRW'.out
    have b2_0 := b2.c0
    have b2_1 := b2.c1
    have b2_2 := b2.c2
    have b2_l := b2.lt
    clear hbr
    by_cases hlt : k < n
    · have hc := Lib.hid (HC.out wr _ (HV.out.keep HRW.out) k)
      have HSk := Lib.hid (HS.out k)
      have HMk := Lib.hid (fun t => HM.out k t hk)
      obtain ⟨B, hB⟩ : ∃ B, B = besideF h k := ⟨_, rfl⟩
      rw [← hB] at hc HSk HMk
      clear hB
      go_wp2_with fail
      refine (hc.out).mono ?_
      rintro e wb ⟨cv2, rfl, hob, hbb⟩
      obtain ⟨ao2, cp2, rfl⟩ := hob.slice
      have HAR := Lib.hid (apartRow_of hob ho.out.blk)
      have hBl : B.length ≤ 1073741824 := hob.1
      have HO1 := Lib.hid (ho.out.keep hbb)
      have HR1 := Lib.hid (HR.out.trans (hbb.mono hsz))
      have b3 := b2.keep hbb
      have b3_0 := b3.c0
      have b3_1 := b3.c1
      have b3_2 := b3.c2
      have b3_l := b3.lt
      clear b2 b2_0 b2_1 b2_2 b2_l
      clear hob hbb ho HR hsz HRW' HRW
      go_wp2
      clear b3 b3_0 b3_1 b3_2 b3_l
      go_loopw [3, 18] (fun q i wr => ∃ j : Nat, j ≤ B.length ∧ i = .int .i64 j ∧ Hid (OwnSlides (w.heap.size + 1) wr q (mayTo h k ++ beRow h k B j)) ∧ Hid (ApartRow wr q ao2 B) ∧ Below (w.heap.size + 1) W wr) (fun _ i _ => B.length - (intOf i).toNat)
      case atStart => exact ⟨0, Nat.zero_le _, rfl, by rw [show beRow h k B 0 = [] from rfl, List.append_nil]; exact HO1, HAR, HR1.out⟩
      case round =>
        clear HO1 HAR HR1
        obtain ⟨j, hj, rfl, ho, har, hbr⟩ := hrel
        have HR := Lib.hid hbr
        have hsz : w.heap.size + 1 ≤ wr.heap.size := by have := HR.out.size; omega
        have HRW' := Lib.hid (show Below W.heap.size W wr by rw [hWs]; exact HR.out)
        have HRW := Lib.hid (HBW.out.trans (HR.out.mono (by omega)))
        have b3 := HBX.out.keep HRW'.out
        have b3_0 := b3.c0
        have b3_1 := b3.c1
        have b3_2 := b3.c2
        have b3_l := b3.lt
        clear hbr
        by_cases hjn : j < B.length
        · have hll := HMk.out j
          obtain ⟨g, rfl, hcell, _⟩ := har.out j hjn
          have HL := Lib.hid (fun r (e : slideMayB h k (gi B j) = true) (hr : r = mayTo h k ++ beRow h k B j) => show mayTo h k ++ beRow h k B (j + 1) = r ++ [((k : Int), gi B j)] by rw [hr, beRow_yes hjn e, List.append_assoc])
          have HL0 := Lib.hid (fun r (e : slideMayB h k (gi B j) = false) (hr : r = mayTo h k ++ beRow h k B j) => show mayTo h k ++ beRow h k B (j + 1) = r by rw [hr, beRow_no hjn e])
          obtain ⟨L, hL⟩ : ∃ L, L = mayTo h k ++ beRow h k B j := ⟨_, rfl⟩
          rw [← hL] at hll ho
          obtain ⟨x, hx⟩ : ∃ x, x = gi B j := ⟨_, rfl⟩
          have hc := Lib.hid (HA.out (wr.alloc (.cells #[.int .i64 k, .int .i64 x] 40)) _ (HV.out.keep (below_then HRW.out (below_new _ _))) k x)
          rw [← hx] at hcell HL HL0
          cases he : slideMayB h k x
          · have hsel := Lib.hid (HL0.out _ he hL)
            rw [he] at hc
            clear he hL HL HL0 hx
            go_wp2_with fail
            refine (hc.out).mono ?_
            rintro e wa ⟨rfl, hba⟩
            have hba := below_alloc hba
            have HOX := Lib.hid (ho.out.keep hba)
            have HAX := Lib.hid (har.out.keep hba)
            have HRX := Lib.hid (HR.out.trans (hba.mono hsz))
            clear hba
            go_wp2
            go_roundw
            case rel => exact ⟨j+1, by omega, by go_num, by rw [hsel.out]; exact HOX, HAX, HRX.out⟩
            case measure => simp [intOf]; omega
          · have hsel := Lib.hid (HL.out _ he hL)
            rw [he] at hc
            clear he hL HL HL0 hx
            go_wp2_with fail
            refine (hc.out).mono ?_
            rintro e wa ⟨rfl, hba⟩
            have s4 := (box2_new wr _ _ _).keep hba
            have s4_0 := s4.c0
            have s4_1 := s4.c1
            have hba := below_alloc hba
            have HOX := Lib.hid (ho.out.keep hba)
            have HAX := Lib.hid (har.out.keep hba)
            have HRX := Lib.hid (HR.out.trans (hba.mono hsz))
            have hsz : w.heap.size + 1 ≤ wa.heap.size := Nat.le_trans hsz hba.size
            clear hba
            go_wp2_with (at_builtin; go_must (refine wpList_append_own_at _ rfl _ _ 36 rfl (w.heap.size + 1) 40 i0 (.agg #[.int .i64 0, .int .i64 0]) 2 16 Tryd.underlying36 hi hz0 hz1 hz2 rfl (by decide) _ _ _ rfl (HOX.out.2.alloc _) ⟨wa.heap.size, 0, none⟩ 1 1 [.int .i64 k, .int .i64 x] rfl rfl (World.news_of_block (cs := #[.int .i64 k, .int .i64 x]) (t := 40) (fr := (0, 0)) (heap_alloc_new wa _)) ?_ ?_ ?_ ?_ ?_; (simp [Value.oneCell']); (unfold maxLen; omega); (omega); (simp; omega); intro v' w2 hown' hgrow _hh hat; have HO := Lib.hid (own_append (by unfold lim; omega) hown'); have HB2 := Lib.hid (below_app HRX.out hsz HOX.out.blk hgrow); have HA2 := Lib.hid (HAX.out.app hgrow hat); clear hown' hgrow _hh hat))
            go_roundw
            case rel => exact ⟨j+1, by omega, by go_num, by rw [hsel.out]; exact HO, HA2, HB2.out⟩
            case measure => simp [intOf]; omega
        · obtain rfl : j = B.length := by omega
          go_wp2
          go_roundw
          case rel => exact ⟨k+1, by omega, by go_num, by rw [HSk.out]; exact ho, HR.out⟩
          case measure => simp [intOf]; omega
    · obtain rfl : k = n := by omega
      go_wp2
      go_ret
      exact ⟨_, rfl, by rw [H.out]; exact ho.out.base (by omega), HRW.out⟩

end Go.Proofs.YtjdgbdakkdljmaaDoor
