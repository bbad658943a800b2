/-
  WayCells.
-/
import Derived.Test.YtjdgbdakkdljmaaDoorN2
import Derived.Deep.LoopGhost
set_option linter.unusedVariables false
namespace Go.Proofs.YtjdgbdakkdljmaaDoor
open Go Go.RowKit Go.Park

theorem wayGo_step {h : PHall} {st : List Int} {c y : Int} {m : Nat} (hd : downF h st c = some y) : wayGo h st (m + 1) c = y :: wayGo h st m y := by simp [wayGo, hd]
theorem way_bad {h : PHall} {a b but : Int} (hb : wayOk h a b but = false) : wayF h a b but = [] := by simp [wayF, hb]
theorem way_none {h : PHall} {a b but : Int} (hb : gi (stepsF h b but) a.toNat < 0) : wayF h a b but = [] := by
  unfold wayF; rw [if_neg]; intro e; have := e.2; omega
theorem way_some {h : PHall} {a b but : Int} (hok : wayOk h a b but = true) (hb : ¬ gi (stepsF h b but) a.toNat < 0) : wayF h a b but = a :: wayGo h (stepsF h b but) (gi (stepsF h b but) a.toNat).toNat a := by
  unfold wayF; rw [if_pos ⟨hok, by omega⟩]
/-- the way that has been gone and the way that is left -/
structure OnWay (h : PHall) (a b but : Int) (st : List Int) (m : Nat) (c : Int) (P : List Int) : Prop where
  cell : 0 ≤ c ∧ c < h.cells.length
  left : gi st c.toNat = m
  all : P ++ wayGo h st m c = wayF h a b but
  small : P.length + m ≤ 14
theorem onway_start {h : PHall} {a b but : Int} (hok : wayOk h a b but = true) (hb : ¬ gi (stepsF h b but) a.toNat < 0) (hs : gi (stepsF h b but) a.toNat ≤ 12) :
    OnWay h a b but (stepsF h b but) (gi (stepsF h b but) a.toNat).toNat a [a] :=
  ⟨(wayOk_iff.1 hok).2.1, by omega, by rw [way_some hok hb]; rfl, by simp; omega⟩
theorem onway_next {h : PHall} {a b but c y : Int} {st : List Int} {m : Nat} {P : List Int} (o : OnWay h a b but st (m + 1) c P) (hd : downF h st c = some y) (hy : 0 ≤ y ∧ y < h.cells.length) (hl : gi st y.toNat = gi st c.toNat - 1) :
    OnWay h a b but st m y (P ++ [y]) := by
  refine ⟨hy, by rw [hl, o.left]; omega, ?_, by rw [List.length_append]; have := o.small; simp; omega⟩
  rw [← o.all, wayGo_step hd, List.append_assoc]; rfl
theorem onway_end {h : PHall} {a b but c : Int} {st : List Int} {P : List Int} (o : OnWay h a b but st 0 c P) : P = wayF h a b but := by rw [← o.all]; simp [wayGo]


theorem hasCell_calls' {h : PHall} {c : Int} {b : Bool} (hb : hasCellB h c = b) : ∀ (w' : World) (v : Value), HallAt w' v h → Calls Tryd.prog 75 #[v, .int .i64 c] w' (Gives (.bool b) w') := hasCell_calls hb

set_option maxRecDepth 100000 in
set_option maxHeartbeats 4000000 in
theorem wayCells_bad (w : World) (v : Value) (h : PHall) (a b but : Int) (hv : HallAt w v h) (hbad : wayOk h a b but = false) :
    Calls Tryd.prog 45 #[v, .int .i64 a, .int .i64 b, .int .i64 but] w (GivesInts (wayF h a b but) w) := by
  have HV := Lib.hid hv
  obtain ⟨cv, rfl, ao, cp, rfl, hn, hcm, hx⟩ := hv
  rw [lim_eq] at hn
  clear hx hcm
  have H := Lib.hid (way_bad hbad)
  obtain ⟨W, hW⟩ : ∃ W, W = w.alloc (.cells #[.int .i64 h.wide, .int .i64 h.deep, .slice ao h.cells.length cp] 25) := ⟨_, rfl⟩
  have HBW : Hid (Below w.heap.size w W) := Lib.hid (by rw [hW]; exact below_new _ _)
  have HBX := Lib.hid (show Box3 W w.heap.size _ _ _ by rw [hW]; exact box3_new _ _ _ _ _)
  cases hval : validB h
  · have HW := Lib.hid (valid_calls hval)
    clear hval hbad
    go_enter Tryd.func45, Tryd.ntmps45
    go_wp2_with fail
    rw [← hW]
    clear hW
    refine (HW.out _ _ (HV.out.keep HBW.out)).mono ?_
    rintro e w1 ⟨rfl, hb⟩
    have HB := Lib.hid (below_then HBW.out hb)
    clear hb
    go_wp2
    go_ret
    exact ⟨_, rfl, by rw [H.out]; exact ownInts_nil _ _, HB.out⟩
  have HW := Lib.hid (valid_calls hval)
  cases ha : hasCellB h a
  · have HA := Lib.hid (hasCell_calls ha)
    clear hval hbad ha
    go_enter Tryd.func45, Tryd.ntmps45
    go_wp2_with fail
    rw [← hW]
    clear hW
    refine (HW.out _ _ (HV.out.keep HBW.out)).mono ?_
    rintro e w1 ⟨rfl, hb⟩
    have HB := Lib.hid (below_then HBW.out hb)
    have b1 := HBX.out.keep hb
    have b1_0 := b1.c0
    have b1_1 := b1.c1
    have b1_2 := b1.c2
    have b1_l := b1.lt
    clear hb
    go_wp2_with fail
    refine (HA.out _ _ (HV.out.keep HB.out)).mono ?_
    rintro e w2 ⟨rfl, hb⟩
    have HB2 := Lib.hid (below_then HB.out hb)
    clear hb
    go_wp2
    go_ret
    exact ⟨_, rfl, by rw [H.out]; exact ownInts_nil _ _, HB2.out⟩
  have HA := Lib.hid (hasCell_calls ha)
  cases hb' : hasCellB h b
  · have HC := Lib.hid (hasCell_calls hb')
    clear hval hbad ha hb'
    go_enter Tryd.func45, Tryd.ntmps45
    go_wp2_with fail
    rw [← hW]
    clear hW
    refine (HW.out _ _ (HV.out.keep HBW.out)).mono ?_
    rintro e w1 ⟨rfl, hb⟩
    have HB := Lib.hid (below_then HBW.out hb)
    have b1 := HBX.out.keep hb
    have b1_0 := b1.c0
    have b1_1 := b1.c1
    have b1_2 := b1.c2
    have b1_l := b1.lt
    clear hb
    go_wp2_with fail
    refine (HA.out _ _ (HV.out.keep HB.out)).mono ?_
    rintro e w2 ⟨rfl, hb⟩
    have HB2 := Lib.hid (below_then HB.out hb)
    have b2 := b1.keep hb
    have b2_0 := b2.c0
    have b2_1 := b2.c1
    have b2_2 := b2.c2
    have b2_l := b2.lt
    clear b1 b1_0 b1_1 b1_2 b1_l
    clear hb
    go_wp2_with fail
    refine (HC.out _ _ (HV.out.keep HB2.out)).mono ?_
    rintro e w3 ⟨rfl, hb⟩
    have HB3 := Lib.hid (below_then HB2.out hb)
    clear hb
    go_wp2
    go_ret
    exact ⟨_, rfl, by rw [H.out]; exact ownInts_nil _ _, HB3.out⟩
  have HC := Lib.hid (hasCell_calls hb')
  have hcs : but < -1 ∨ (-1 ≤ but ∧ (h.cells.length : Int) ≤ but) ∨ (-1 ≤ but ∧ but < h.cells.length ∧ but = a) ∨ (-1 ≤ but ∧ but < h.cells.length ∧ but ≠ a ∧ but = b) := by
    by_cases h1 : but < -1
    · exact .inl h1
    by_cases h2 : (h.cells.length : Int) ≤ but
    · exact .inr (.inl ⟨by omega, h2⟩)
    by_cases h3 : but = a
    · exact .inr (.inr (.inl ⟨by omega, by omega, h3⟩))
    by_cases h4 : but = b
    · exact .inr (.inr (.inr ⟨by omega, by omega, h3, h4⟩))
    exfalso
    have : wayOk h a b but = true := wayOk_iff.2 ⟨hval, hasCell_iff.1 ha, hasCell_iff.1 hb', ⟨by omega, by omega⟩, h3, h4⟩
    rw [this] at hbad; cases hbad
  clear hval hbad ha hb'
  have hcs2 : ∃ x1 x2, (but == a) = x1 ∧ (but == b) = x2 ∧ (but < -1 ∨ (-1 ≤ but ∧ (h.cells.length : Int) ≤ but) ∨ (-1 ≤ but ∧ but < h.cells.length ∧ x1 = true) ∨ (-1 ≤ but ∧ but < h.cells.length ∧ x1 = false ∧ x2 = true)) := by
    refine ⟨_, _, rfl, rfl, ?_⟩
    rcases hcs with h1 | h1 | h1 | h1
    · exact .inl h1
    · exact .inr (.inl h1)
    · exact .inr (.inr (.inl ⟨h1.1, h1.2.1, by simpa using h1.2.2⟩))
    · exact .inr (.inr (.inr ⟨h1.1, h1.2.1, by simpa using h1.2.2.1, by simpa using h1.2.2.2⟩))
  clear hcs
  obtain ⟨x1, x2, e1, e2, hc⟩ := hcs2
  rcases hc with h1 | ⟨h1, h2⟩ | ⟨h1, h2, rfl⟩ | ⟨h1, h2, rfl, rfl⟩
  all_goals
    go_enter Tryd.func45, Tryd.ntmps45
    go_wp2_with fail
    rw [← hW]
    clear hW
    refine (HW.out _ _ (HV.out.keep HBW.out)).mono ?_
    rintro e w1 ⟨rfl, hb⟩
    have HB := Lib.hid (below_then HBW.out hb)
    have b1 := HBX.out.keep hb
    have b1_0 := b1.c0
    have b1_1 := b1.c1
    have b1_2 := b1.c2
    have b1_l := b1.lt
    clear hb
    go_wp2_with fail
    refine (HA.out _ _ (HV.out.keep HB.out)).mono ?_
    rintro e w2 ⟨rfl, hb⟩
    have HB2 := Lib.hid (below_then HB.out hb)
    have b2 := b1.keep hb
    have b2_0 := b2.c0
    have b2_1 := b2.c1
    have b2_2 := b2.c2
    have b2_l := b2.lt
    clear b1 b1_0 b1_1 b1_2 b1_l
    clear hb
    go_wp2_with fail
    refine (HC.out _ _ (HV.out.keep HB2.out)).mono ?_
    rintro e w3 ⟨rfl, hb⟩
    have HB3 := Lib.hid (below_then HB2.out hb)
    have b3 := b2.keep hb
    have b3_0 := b3.c0
    have b3_1 := b3.c1
    have b3_2 := b3.c2
    have b3_l := b3.lt
    clear b2 b2_0 b2_1 b2_2 b2_l
    clear hb
    go_wp2
    go_ret
    exact ⟨_, rfl, by rw [H.out]; exact ownInts_nil _ _, HB3.out⟩

set_option maxRecDepth 100000 in
set_option maxHeartbeats 4000000 in
theorem wayCells_any (w : World) (v : Value) (h : PHall) (a b but : Int) (hv : HallAt w v h) :
    Calls Tryd.prog 45 #[v, .int .i64 a, .int .i64 b, .int .i64 but] w (GivesInts (wayF h a b but) w) := by
  cases hok : wayOk h a b but
  · exact wayCells_bad w v h a b but hv hok
  obtain ⟨hval, hA, hB, hb1, hne1, hne2⟩ := wayOk_iff.1 hok
  obtain ⟨x, rfl⟩ := Int.eq_ofNat_of_zero_le hA.1
  obtain ⟨t, rfl⟩ := Int.eq_ofNat_of_zero_le hB.1
  obtain ⟨q0, hbfs⟩ := steps_inv (h := h) (tgt := t) (but := but) hB.1 hB.2 hne2
  have HV := Lib.hid hv
  have HW := Lib.hid (valid_calls hval)
  have HA := Lib.hid (hasCell_calls (hasCell_iff.2 hA))
  have HC := Lib.hid (hasCell_calls (hasCell_iff.2 hB))
  have HST := Lib.hid (fun (W' : World) (v' : Value) (hh : HallAt W' v' h) => stepsTo_any W' v' h t but hh hval (by omega) hne2)
  have HBE := Lib.hid (fun (W' : World) (v' : Value) (hh : HallAt W' v' h) (y : Int) => cellsBeside_any W' v' h y hh)
  obtain ⟨cv, rfl, ao, cp, rfl, hn, hcm, hx⟩ := hv
  rw [lim_eq] at hn
  clear hx hcm
  have hlen := (valid_len hval).2
  have HN := Lib.hid (show way_none (h := h) (a := x) (b := t) (but := but) = way_none from rfl)
  have HNo := Lib.hid (fun hz : gi (stepsF h t but) x < 0 => way_none (h := h) (a := x) (b := t) (but := but) hz)
  have HYe := Lib.hid (fun (hz : 0 ≤ gi (stepsF h t but) x) (hs : gi (stepsF h t but) x ≤ 12) => onway_start (h := h) (a := x) (b := t) (but := but) hok (Int.not_lt.2 hz) hs)
  have HSl := hbfs.len
  have HSx := hbfs.le x
  have HBF := Lib.hid hbfs
  have HL := Lib.hid HSl
  obtain ⟨st, hst⟩ : ∃ st, st = stepsF h t but := ⟨_, rfl⟩
  rw [← hst] at HNo HYe HSl HSx HBF HL
  have HSTR := Lib.hid hst
  obtain ⟨R, hR⟩ : ∃ R, R = wayF h x t but := ⟨_, rfl⟩
  have HR := Lib.hid hR
  obtain ⟨W, hW⟩ : ∃ W, W = w.alloc (.cells #[.int .i64 h.wide, .int .i64 h.deep, .slice ao h.cells.length cp] 25) := ⟨_, rfl⟩
  have HBW : Hid (Below w.heap.size w W) := Lib.hid (by rw [hW]; exact below_new _ _)
  have HBX := Lib.hid (show Box3 W w.heap.size _ _ _ by rw [hW]; exact box3_new _ _ _ _ _)
  have hne1' : (but == (x : Int)) = false := by simpa using hne1
  have hne2' : (but == (t : Int)) = false := by simpa using hne2
  obtain ⟨hb1, hb2⟩ := hb1
  have hA1 := hA.2
  have hB1 := hB.2
  have hxn : x < h.cells.length := by omega
  have htn : t < h.cells.length := by omega
  have hx0 : (0 : Int) ≤ x := by omega
  obtain ⟨n, hnn⟩ : ∃ n, n = h.cells.length := ⟨_, rfl⟩
  have HNN := Lib.hid hnn
  rw [← hnn] at hlen HV HBX hW hn hb2 hA1 hB1 hxn htn HSl HSx HL ⊢
  rw [← hR]
  clear hval hok hA hB hne1 hne2 hbfs hst hR hnn HN
  go_enter Tryd.func45, Tryd.ntmps45
  go_wp2_with fail
  rw [← hW]
  clear hW
  refine (HW.out _ _ (HV.out.keep HBW.out)).mono ?_
  rintro e w1 ⟨rfl, hb⟩
  have HB := Lib.hid (below_then HBW.out hb)
  have b1 := HBX.out.keep hb
  have b1_0 := b1.c0
  have b1_1 := b1.c1
  have b1_2 := b1.c2
  have b1_l := b1.lt
  clear hb
  go_wp2_with fail
  refine (HA.out _ _ (HV.out.keep HB.out)).mono ?_
  rintro e w2 ⟨rfl, hb⟩
  have HB2 := Lib.hid (below_then HB.out hb)
  have b2 := b1.keep hb
  have b2_0 := b2.c0
  have b2_1 := b2.c1
  have b2_2 := b2.c2
  have b2_l := b2.lt
  clear b1 b1_0 b1_1 b1_2 b1_l
  clear hb
  go_wp2_with fail
  refine (HC.out _ _ (HV.out.keep HB2.out)).mono ?_
  rintro e w3 ⟨rfl, hb⟩
  have HB3 := Lib.hid (below_then HB2.out hb)
  have b3 := b2.keep hb
  have b3_0 := b3.c0
  have b3_1 := b3.c1
  have b3_2 := b3.c2
  have b3_l := b3.lt
  clear b2 b2_0 b2_1 b2_2 b2_l
  clear hb
  go_wp2_with fail
  refine (HST.out _ _ (HV.out.keep HB3.out)).mono ?_
  rintro e w4 ⟨sv, rfl, hos, hb⟩
  rw [← HSTR.out] at hos
  obtain ⟨gs, cs, rfl, hgs1, hgs2⟩ := hos.head (by intro e; rw [e] at HSl; simp at HSl; omega)
  have HOS := Lib.hid hos
  have cx := own_cell hos (j := x) (by rw [HSl]; exact hxn)
  have HB4 := Lib.hid (below_then HB3.out hb)
  have b4 := b3.keep hb
  have b4_0 := b4.c0
  have b4_1 := b4.c1
  have b4_2 := b4.c2
  have b4_l := b4.lt
  clear b3 b3_0 b3_1 b3_2 b3_l
  rw [HSl]
  rw [HSl] at HOS
  obtain ⟨sx, hsx⟩ : ∃ sx, sx = gi st x := ⟨_, rfl⟩
  rw [← hsx] at cx HNo HYe HSx
  have HSXE := Lib.hid hsx
  clear hb hos HSl hsx
  by_cases hz : sx < 0
  · have H := Lib.hid (HNo.out hz)
    clear b4 b4_0 b4_1 b4_2 b4_l
    go_wp2
    go_ret
    exact ⟨_, rfl, by rw [HR.out, H.out]; exact ownInts_nil _ _, HB4.out⟩
  have hz' : ¬ sx < 0 := hz
  have HO : Hid (OnWay h x t but st sx.toNat x [(x : Int)]) := Lib.hid (by have e := HYe.out (Int.not_lt.1 hz) (by omega); simp only [Int.toNat_natCast, ← HSXE.out] at e; exact e)
  obtain ⟨hz0, hz1⟩ := And.intro (Int.not_lt.1 hz) HSx.2
  clear hz HSx HYe HNo
  obtain ⟨i0, hi, hz0', hz1', hz2'⟩ := info_parts Tryd.infoInt
  go_wp2
  obtain ⟨w5, hw5⟩ : ∃ y, y = w4.alloc (.cells #[.int .i64 x] 3) := ⟨_, rfl⟩
  have hsz4 : w.heap.size < w4.heap.size := b4.lt
  have HP5 : Hid (OwnInts (w.heap.size + 1) w5 (.slice (some ⟨w4.heap.size, 0, none⟩) 1 1) [(x : Int)]) := Lib.hid (by rw [hw5]; exact (ownInts_one w4 x).base (by omega))
  have HS5 : Hid (OwnInts w3.heap.size w5 (.slice (some ⟨gs, 0, none⟩) n cs) st) := Lib.hid (by rw [hw5]; exact HOS.out.keep (below_new _ _))
  have HE5 := Lib.hid (sep_new HOS.out (ownInts_one w4 x))
  have HB5 : Hid (Below w.heap.size w w5) := Lib.hid (by rw [hw5]; exact below_then HB4.out (below_new _ _))
  have HBX5 : Hid (Box3 w5 w.heap.size (.int .i64 h.wide) (.int .i64 h.deep) (.slice ao n cp)) := Lib.hid (by rw [hw5]; exact b4.keep (below_new _ _))
  rw [← hw5]
  clear b4 b4_0 b4_1 b4_2 b4_l
  clear hw5 HOS HB4 cx
  go_loopg [10, 11] sx.toNat (fun gk q c wr => ∃ y : Nat, c = .int .i64 y ∧ Hid (∃ P, OnWay h x t but st gk y P ∧ OwnInts (w.heap.size + 1) wr q P ∧ OwnInts w3.heap.size wr (.slice (some ⟨gs, 0, none⟩) n cs) st ∧ Sep (.slice (some ⟨gs, 0, none⟩) n cs) q ∧ Box3 wr w.heap.size (.int .i64 h.wide) (.int .i64 h.deep) (.slice ao n cp)) ∧ Below w.heap.size w wr)
  case atStart => exact ⟨x, rfl, Lib.hid ⟨_, HO.out, HP5.out, HS5.out, HE5.out, HBX5.out⟩, HB5.out⟩
  case round =>
    clear HO HP5 HS5 HE5 HB5 HBX5
    obtain ⟨y, rfl, hh, hbr⟩ := hrel
    obtain ⟨P, hO, hP, hS, hE, hbx⟩ := hh.out
    have hyn := hO.cell.2
    rw [← HNN.out] at hyn
    have HBr := Lib.hid hbr
    have HO := Lib.hid hO
    have HP := Lib.hid hP
    have HS := Lib.hid hS
    have HE := Lib.hid hE
    have hszr : w.heap.size < wr.heap.size := hbx.lt
    by_cases hyt : y = t
    · subst hyt
      have hg0 : gk = 0 := by
        have h1 := hO.left
        have h2 := HBF.out.home.2.2
        rw [h2] at h1
        omega
      subst hg0
      have HRR := Lib.hid (onway_end hO)
      obtain ⟨aq, cq, rfl⟩ := hP.slice
      clear hh hO hP hS hE hbx hbr
      go_wp2
      go_ret
      exact ⟨_, rfl, by rw [HR.out, ← HRR.out]; exact HP.out.base (by omega), HBr.out⟩
    · obtain ⟨m, rfl⟩ : ∃ m, gk = m + 1 := by
        refine ⟨gk - 1, ?_⟩
        have h1 := hO.left
        have h2 := HBF.out.zero y (by rw [← HNN.out]; omega)
        simp only [Int.toNat_natCast] at h1
        rw [h1] at h2
        have h3 : gk ≠ 0 := fun e => hyt (by have := h2 (by rw [e]; rfl); omega)
        omega
      obtain ⟨z, hz1, hz2, hz3, hz4, hz5⟩ := down_some HBF.out (c := y) hO.cell (by rw [hO.left]; omega)
      obtain ⟨j0, hj1, hj2, hj3, hj4⟩ := down_at hz1
      obtain ⟨z, rfl⟩ := Int.eq_ofNat_of_zero_le hz4.1
      have hleft := hO.left
      simp only [Int.toNat_natCast] at hleft hj3 hj4
      rw [hleft] at hj3 hj4
      have HNX := Lib.hid (onway_next hO hz1 hz4 (by simp only [Int.toNat_natCast]; rw [hj4, hleft]))
      have hzn := hz4.2
      rw [← HNN.out] at hzn
      have hmle := HBF.out.le y
      rw [hleft, ← HNN.out] at hmle
      have HJ3 := Lib.hid hj3
      have HJ4 := Lib.hid hj4
      have HM : Hid (∀ i, i < (besideF h y).length → 0 ≤ gi (besideF h y) i ∧ gi (besideF h y) i < (n : Int)) := Lib.hid (fun i hi => by rw [HNN.out]; exact beside_lt (gi_mem hi))
      have HL3 := Lib.hid hleft
      have hyt' : ((y : Int) != (t : Int)) = true := by simp; omega
      obtain ⟨q, cq', rfl⟩ := hP.slice
      have HC := Lib.hid (HBE.out wr (.agg #[.int .i64 h.wide, .int .i64 h.deep, .slice ao n cp]) (HV.out.keep HBr.out) y)
      have hB12 := beside_small (h := h) y
      have hj1' := hj1
      obtain ⟨B, hB⟩ : ∃ B, B = besideF h y := ⟨_, rfl⟩
      rw [← hB] at HC hj1 hj2 HJ3 hB12 HM
      have HJ2 := Lib.hid hj2
      have HD := Lib.hid hz1
      have b6 := hbx
      have b6_0 := b6.c0
      have b6_1 := b6.c1
      have b6_2 := b6.c2
      have b6_l := b6.lt
      clear hh hO hP hS hE hbx hbr hz1 hz2 hz3 hz4 hz5 hj2 hj3 hj4 hleft hj1' hB
      go_wp2_with fail
      refine (HC.out).mono ?_
      rintro e wb ⟨bv, rfl, hob, hbb⟩
      obtain ⟨ab, cb, rfl⟩ := hob.slice
      have HOB := Lib.hid hob
      have HS2 := Lib.hid (HS.out.keep hbb)
      have HP2 := Lib.hid (HP.out.keep hbb)
      have HBr2 := Lib.hid (below_then HBr.out hbb)
      have HBX2 := Lib.hid (b6.keep hbb)
      obtain ⟨D, hD⟩ : ∃ D : Int, D = (m : Int) + 1 := ⟨_, rfl⟩
      have cy : wb.cell? ⟨gs, y, none⟩ = some (.int .i64 D) := by rw [hD]; have e := own_cell HS2.out (j := y) (by rw [HL.out]; exact (by omega)); rw [HL3.out] at e; exact e
      have hD1 : 1 ≤ D := by omega
      have hD2 : D ≤ 12 := by have := hmle.2; omega
      have hwr : IntKind.i64.wrap (D - 1) = D - 1 := IntWalk.i64_in _ (by omega)
      have HDm := Lib.hid (show D - 1 = (m : Int) by omega)
      have hszb : w.heap.size < wb.heap.size := HBX2.out.lt
      clear b6 b6_0 b6_1 b6_2 b6_l
      clear hob hbb HS HP HBr hD hmle HC
      go_wp2
      go_loopw [11, 69] (fun c i wr => ∃ k : Nat, k ≤ j0 ∧ i = .int .i64 k ∧ c = .int .i64 y ∧ ∃ q, wr = wb.drewN q) (fun _ i _ => B.length - (intOf i).toNat)
      case atStart => exact ⟨0, Nat.zero_le _, rfl, rfl, 0, rfl⟩
      case round =>
        obtain ⟨k, hk, rfl, rfl, qd, rfl⟩ := hrel
        obtain ⟨gb, cb', eb, _, _⟩ := HOB.out.head (by intro e; rw [e] at hj1; simp at hj1)
        obtain ⟨rfl, rfl⟩ : ab = some ⟨gb, 0, none⟩ ∧ cb = cb' := by cases eb; exact ⟨rfl, rfl⟩
        have hkB : k < B.length := by omega
        have ck := own_cell HOB.out hkB
        have hm := HM.out k hkB
        obtain ⟨s, hs⟩ := Int.eq_ofNat_of_zero_le hm.1
        rw [hs] at ck hm
        have hsn := hm.2
        have hs0 : (0 : Int) ≤ s := by omega
        have hsn' : s < n := by omega
        have cs := own_cell HS2.out (j := s) (by rw [HL.out]; exact hsn')
        obtain ⟨V, hV⟩ : ∃ V, V = gi st s := ⟨_, rfl⟩
        rw [← hV] at cs
        have HVs := Lib.hid hV
        have HSs := Lib.hid hs
        clear hV hs hm eb
        by_cases hkj : k < j0
        · have hF : (V == D - 1) = false := by
            have e := HJ3.out k hkj
            rw [HSs.out] at e
            simp only [Int.toNat_natCast] at e
            rw [← HVs.out] at e
            have e2 := HDm.out
            simp only [beq_eq_false_iff_ne, ne_eq]
            intro e3; apply e; omega
          go_wp2
          go_quiet (fail)
          go_wp2
          go_roundw
          case rel => exact ⟨k+1, by omega, by go_num, rfl, by first | exact ⟨_, rfl⟩ | exact drewNN _ _ _⟩
          case measure => simp [intOf]; omega
        · obtain rfl : k = j0 := by omega
          have hzs : z = s := by have e := HJ2.out; rw [HSs.out] at e; omega
          subst hzs
          have hT : (V == D - 1) = true := by
            have e := HJ4.out
            rw [← HVs.out] at e
            have e2 := HDm.out
            simp only [beq_iff_eq]
            omega
          go_wp2
          go_quiet (fail)
          have hPl : P.length + (m + 1) ≤ 14 := HO.out.small
          obtain ⟨w6, hw6⟩ : ∃ w6, w6 = (wb.drewN qd).drewN nq := ⟨_, rfl⟩
          have hb6 : Below wb.heap.size wb w6 := by rw [hw6]; exact below_drewN (below_drewN (Below.refl _ _) _) _
          have HP6 := Lib.hid (HP2.out.keep hb6)
          have HS6 := Lib.hid (HS2.out.keep hb6)
          have HBX6 := Lib.hid (HBX2.out.keep hb6)
          have HBr6 := Lib.hid (below_then HBr2.out hb6)
          have hsz6 : w.heap.size + 1 ≤ w6.heap.size := HBX6.out.lt
          rw [← hw6]
          clear hw6 hb6 hT HP2 HS2 HBX2 HBr2 cy ck cs
          go_wp2_with (at_builtin; go_must (refine wpList_append_own_at _ rfl _ _ 23 rfl (w.heap.size + 1) 3 i0 (.int .i64 0) 1 8 Tryd.underlying23 hi hz0' hz1' hz2' rfl (by decide) _ _ _ rfl (HP6.out.2.alloc _) ⟨w6.heap.size, 0, none⟩ 1 1 [.int .i64 z] rfl rfl (cell_one_new _ _ _) ?_ ?_ ?_ ?_ ?_; (intro u hu; simp at hu; subst hu; rfl); (unfold maxLen; omega); (omega); (simp; omega); intro v' w7 hown' hgrow _hh hvb; have HP7 : Hid (OwnInts (w.heap.size + 1) w7 v' (P ++ [(z : Int)])) := Lib.hid (ownInts_append (by unfold lim; omega) hown'); have HS7 := Lib.hid ((HS6.out.keep (below_new _ _)).keepS hgrow HE.out); have HE7 := Lib.hid (sep_app HS6.out HE.out hvb); have HX7 := Lib.hid ((HBX6.out.keep (below_new _ _)).keepG hgrow HP6.out.blk (by omega)); have HR7 := Lib.hid (below_grownG (below_then HBr6.out (below_new _ _)) hgrow HP6.out.blk (by omega)); clear hown' hgrow _hh hvb))
          go_roundg m
          case rel => exact ⟨z, rfl, Lib.hid ⟨_, HNX.out, HP7.out, HS7.out, HE7.out, HX7.out⟩, HR7.out⟩
          case measure => omega

end Go.Proofs.YtjdgbdakkdljmaaDoor
