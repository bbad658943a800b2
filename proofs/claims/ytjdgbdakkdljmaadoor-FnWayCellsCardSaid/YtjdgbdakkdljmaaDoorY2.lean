/-
  WayCells of the reference.
-/
import Derived.Test.YtjdgbdakkdljmaaDoorY
set_option linter.unusedVariables false
namespace Go.Proofs.YtjdgbdakkdljmaaDoor
open Go Go.RowKit Go.Park

theorem l1In_gives {a b c : Int} {r : Bool} (h : inR a b c = r) : ∀ w' : World, Calls Tryd.prog 73 #[.int .i64 a, .int .i64 b, .int .i64 c] w' (Gives (.bool r) w') := fun w' => tells_gives (l1In_calls h w')

set_option maxRecDepth 100000 in
set_option maxHeartbeats 4000000 in
theorem specWayCells_bad (w : World) (v : Value) (h : PHall) (a b but : Int) (hv : HallAt w v h) (hbad : wayOk h a b but = false) :
    Calls Tryd.prog 46 #[v, .int .i64 a, .int .i64 b, .int .i64 but] w (GivesInts (wayF h a b but) w) := by
  have HV := Lib.hid hv
  obtain ⟨cv, rfl, ao, cp, rfl, hn, hcm, hx⟩ := hv
  rw [lim_eq] at hn
  clear hx hcm
  have H := Lib.hid (way_bad hbad)
  obtain ⟨W, hW⟩ : ∃ W, W = (w.alloc (.cells #[.int .i64 h.wide, .int .i64 h.deep, .slice ao h.cells.length cp] 25)).alloc (.cells #[] 3) := ⟨_, rfl⟩
  have HBW : Hid (Below w.heap.size w W) := Lib.hid (by rw [hW]; exact below_new2 _ _ _)
  have HBX := Lib.hid (show Box3 W w.heap.size _ _ _ by rw [hW]; exact (box3_new _ _ _ _ _).keep (below_new _ _))
  have HEM : Hid (OwnInts w.heap.size W (.slice (some ⟨w.heap.size + 1, 0, none⟩) 0 0) []) := Lib.hid (by rw [hW]; have e := (ownInts_empty (w.alloc (.cells #[.int .i64 h.wide, .int .i64 h.deep, .slice ao h.cells.length cp] 25))).base (lo' := w.heap.size) (by simp); rw [World.size_alloc] at e; exact e)
  have HA := Lib.hid (fun (W' : World) (v' : Value) (hh : HallAt W' v' h) => specCellsApart_any W' v' h a b hh)
  by_cases hap : apartAt h a b < 0
  · obtain ⟨A, hA⟩ : ∃ A, A = apartAt h a b := ⟨_, rfl⟩
    rw [← hA] at HA hap
    clear hA hbad
    go_enter Tryd.func46, Tryd.ntmps46
    go_wp2_with fail
    rw [← hW]
    clear hW
    refine (HA.out _ _ (HV.out.keep HBW.out)).mono ?_
    rintro e w1 ⟨rfl, hb⟩
    have HB := Lib.hid (below_then HBW.out hb)
    have HE1 := Lib.hid (HEM.out.keep hb)
    clear hb
    go_wp2
    go_ret
    have X := H.out
    rw [X]
    refine ⟨.slice (some ⟨w.heap.size + 1, 0, none⟩) 0 0, ?_, ?_, ?_⟩
    · rfl
    · exact HE1.out
    · exact HB.out
  have hvab : validB h = true ∧ hasCellB h a = true ∧ hasCellB h b = true := by
    by_cases e : validB h = true ∧ hasCellB h a = true ∧ hasCellB h b = true
    · exact e
    · exfalso; apply hap; unfold apartAt; rw [if_neg e]; omega
  obtain ⟨A, hA⟩ : ∃ A, A = apartAt h a b := ⟨_, rfl⟩
  rw [← hA] at HA hap
  clear hA
  cases hr : inR but (-1) ((h.cells.length : Int) - 1)
  · have HI := Lib.hid (l1In_gives hr)
    have hlen := (valid_len hvab.1).2
    clear hr hbad hvab
    go_enter Tryd.func46, Tryd.ntmps46
    go_wp2_with fail
    rw [← hW]
    clear hW
    refine (HA.out _ _ (HV.out.keep HBW.out)).mono ?_
    rintro e w1 ⟨rfl, hb⟩
    have HB := Lib.hid (below_then HBW.out hb)
    have HE1 := Lib.hid (HEM.out.keep hb)
    have b1 := HBX.out.keep hb
    have b1_0 := b1.c0
    have b1_1 := b1.c1
    have b1_2 := b1.c2
    have b1_l := b1.lt
    clear hb
    go_wp2_with fail
    refine (HI.out _).mono ?_
    rintro e w2 ⟨rfl, hb⟩
    have HB2 := Lib.hid (below_then HB.out hb)
    have HE2 := Lib.hid (HE1.out.keep hb)
    clear hb
    go_wp2
    go_ret
    have X := H.out
    rw [X]
    refine ⟨.slice (some ⟨w.heap.size + 1, 0, none⟩) 0 0, ?_, ?_, ?_⟩
    · rfl
    · exact HE2.out
    · exact HB2.out
  have HI := Lib.hid (l1In_gives hr)
  have hlen := (valid_len hvab.1).2
  have hcs : ∃ x1 x2, (but == a) = x1 ∧ (but == b) = x2 ∧ (x1 = true ∨ (x1 = false ∧ x2 = true)) := by
    refine ⟨_, _, rfl, rfl, ?_⟩
    by_cases h3 : but = a
    · exact .inl (by simpa using h3)
    · refine .inr ⟨by simpa using h3, ?_⟩
      by_cases h4 : but = b
      · simpa using h4
      · exfalso
        have hr' := inR_true.1 hr
        have : wayOk h a b but = true := wayOk_iff.2 ⟨hvab.1, hasCell_iff.1 hvab.2.1, hasCell_iff.1 hvab.2.2, ⟨by omega, by omega⟩, h3, h4⟩
        rw [this] at hbad; cases hbad
  obtain ⟨x1, x2, e1, e2, hc⟩ := hcs
  clear hr hbad hvab
  rcases hc with rfl | ⟨rfl, rfl⟩
  all_goals
    go_enter Tryd.func46, Tryd.ntmps46
    go_wp2_with fail
    rw [← hW]
    clear hW
    refine (HA.out _ _ (HV.out.keep HBW.out)).mono ?_
    rintro e w1 ⟨rfl, hb⟩
    have HB := Lib.hid (below_then HBW.out hb)
    have HE1 := Lib.hid (HEM.out.keep hb)
    have b1 := HBX.out.keep hb
    have b1_0 := b1.c0
    have b1_1 := b1.c1
    have b1_2 := b1.c2
    have b1_l := b1.lt
    clear hb
    go_wp2_with fail
    refine (HI.out _).mono ?_
    rintro e w2 ⟨rfl, hb⟩
    have HB2 := Lib.hid (below_then HB.out hb)
    have HE2 := Lib.hid (HE1.out.keep hb)
    clear hb
    go_wp2
    go_ret
    have X := H.out
    rw [X]
    refine ⟨.slice (some ⟨w.heap.size + 1, 0, none⟩) 0 0, ?_, ?_, ?_⟩
    · rfl
    · exact HE2.out
    · exact HB2.out

set_option maxRecDepth 100000 in
set_option maxHeartbeats 4000000 in
theorem specWayCells_any (w : World) (v : Value) (h : PHall) (a b but : Int) (hv : HallAt w v h) :
    Calls Tryd.prog 46 #[v, .int .i64 a, .int .i64 b, .int .i64 but] w (GivesInts (wayF h a b but) w) := by
  cases hok : wayOk h a b but
  · exact specWayCells_bad w v h a b but hv hok
  obtain ⟨hval, hA, hB, hb1, hne1, hne2⟩ := wayOk_iff.1 hok
  obtain ⟨x, rfl⟩ := Int.eq_ofNat_of_zero_le hA.1
  obtain ⟨t, rfl⟩ := Int.eq_ofNat_of_zero_le hB.1
  obtain ⟨q0, hbfs⟩ := steps_inv (h := h) (tgt := t) (but := but) hB.1 hB.2 hne2
  have HV := Lib.hid hv
  have hap0 : 0 ≤ apartAt h x t := by
    unfold apartAt; rw [if_pos ⟨hval, hasCell_iff.2 hA, hasCell_iff.2 hB⟩]; unfold apartF farF; omega
  have HA := Lib.hid (fun (W' : World) (v' : Value) (hh : HallAt W' v' h) => specCellsApart_any W' v' h x t hh)
  have HI := Lib.hid (l1In_gives (show inR but (-1) ((h.cells.length : Int) - 1) = true from inR_true.2 ⟨hb1.1, by omega⟩))
  obtain ⟨A, hAA⟩ : ∃ A, A = apartAt h x t := ⟨_, rfl⟩
  rw [← hAA] at HA hap0
  clear hAA
  have HST := Lib.hid (fun (W' : World) (v' : Value) (hh : HallAt W' v' h) => l2Far_any W' v' h t but hh hval (by omega) hne2)
  have HBE := Lib.hid (fun (W' : World) (v' : Value) (hh : HallAt W' v' h) (y : Int) => specCellsBeside_any W' v' h y hh)
  obtain ⟨cv, rfl, ao, cp, rfl, hn, hcm, hx⟩ := hv
  rw [lim_eq] at hn
  clear hx hcm
  have hlen := (valid_len hval).2
  have HN := Lib.hid (show way_none (h := h) (a := x) (b := t) (but := but) = way_none from rfl)
  have HNo := Lib.hid (fun hz : gi (stepsF h t but) x < 0 => way_none (h := h) (a := x) (b := t) (but := but) hz)
  have HYe := Lib.hid (fun (hz : 0 ≤ gi (stepsF h t but) x) (hs : gi (stepsF h t but) x ≤ 12) => onway_start (h := h) (a := x) (b := t) (but := but) hok (Int.not_lt.2 hz) hs)
  have HSl := hbfs.len
  have HSx := hbfs.le x
  have HBF := Lib.hid hbfs
  have HL := Lib.hid HSl
  obtain ⟨st, hst⟩ : ∃ st, st = stepsF h t but := ⟨_, rfl⟩
  rw [← hst] at HNo HYe HSl HSx HBF HL
  have HSTR := Lib.hid hst
  obtain ⟨R, hR⟩ : ∃ R, R = wayF h x t but := ⟨_, rfl⟩
  have HR := Lib.hid hR
  obtain ⟨W, hW⟩ : ∃ W, W = (w.alloc (.cells #[.int .i64 h.wide, .int .i64 h.deep, .slice ao h.cells.length cp] 25)).alloc (.cells #[] 3) := ⟨_, rfl⟩
  have HBW : Hid (Below w.heap.size w W) := Lib.hid (by rw [hW]; exact below_new2 _ _ _)
  have HBX := Lib.hid (show Box3 W w.heap.size _ _ _ by rw [hW]; exact (box3_new _ _ _ _ _).keep (below_new _ _))
  have HEM : Hid (OwnInts (w.heap.size + 1) W (.slice (some ⟨w.heap.size + 1, 0, none⟩) 0 0) []) := Lib.hid (by rw [hW]; have e := ownInts_empty (w.alloc (.cells #[.int .i64 h.wide, .int .i64 h.deep, .slice ao h.cells.length cp] 25)); rw [World.size_alloc] at e; exact e)
  have hne1' : (but == (x : Int)) = false := by simpa using hne1
  have hne2' : (but == (t : Int)) = false := by simpa using hne2
  obtain ⟨hb1, hb2⟩ := hb1
  have hA1 := hA.2
  have hB1 := hB.2
  have hxn : x < h.cells.length := by omega
  have htn : t < h.cells.length := by omega
  have hx0 : (0 : Int) ≤ x := by omega
  obtain ⟨n, hnn⟩ : ∃ n, n = h.cells.length := ⟨_, rfl⟩
  have HNN := Lib.hid hnn
  rw [← hnn] at HI hlen HV HBX hW hn hb2 hA1 hB1 hxn htn HSl HSx HL ⊢
  rw [← hR]
  clear hval hok hA hB hne1 hne2 hbfs hst hR hnn HN
  obtain ⟨i0, hi, hz0', hz1', hz2'⟩ := info_parts Tryd.infoInt
  go_enter Tryd.func46, Tryd.ntmps46
  go_wp2_with fail
  rw [← hW]
  clear hW
  refine (HA.out _ _ (HV.out.keep HBW.out)).mono ?_
  rintro e w1 ⟨rfl, hb⟩
  have HB := Lib.hid (below_then HBW.out hb)
  have HE1 := Lib.hid (HEM.out.keep hb)
  have b1 := HBX.out.keep hb
  have b1_0 := b1.c0
  have b1_1 := b1.c1
  have b1_2 := b1.c2
  have b1_l := b1.lt
  clear hb
  go_wp2_with fail
  refine (HI.out _).mono ?_
  rintro e w3 ⟨rfl, hb⟩
  have HB3 := Lib.hid (below_then HB.out hb)
  have HE3 := Lib.hid (HE1.out.keep hb)
  have b3 := b1.keep hb
  have b3_0 := b3.c0
  have b3_1 := b3.c1
  have b3_2 := b3.c2
  have b3_l := b3.lt
  clear b1 b1_0 b1_1 b1_2 b1_l
  clear hb HE1 HEM
  go_wp2_with fail
  refine (HST.out _ _ (HV.out.keep HB3.out)).mono ?_
  rintro e w4 ⟨sv, rfl, hos, hb⟩
  rw [← HSTR.out] at hos
  obtain ⟨gs, cs, rfl, hgs1, hgs2⟩ := hos.head (by intro e; rw [e] at HSl; simp at HSl; omega)
  have HOS := Lib.hid hos
  have cx := own_cell hos (j := x) (by rw [HSl]; exact hxn)
  have HB4 := Lib.hid (below_then HB3.out hb)
  have HE4 := Lib.hid (HE3.out.keep hb)
  have HSQ := Lib.hid (sep_new HE3.out hos).symm
  have b4 := b3.keep hb
  have b4_0 := b4.c0
  have b4_1 := b4.c1
  have b4_2 := b4.c2
  have b4_l := b4.lt
  clear b3 b3_0 b3_1 b3_2 b3_l
  rw [HSl]
  rw [HSl] at HOS
  obtain ⟨sx, hsx⟩ : ∃ sx, sx = gi st x := ⟨_, rfl⟩
  rw [← hsx] at cx HNo HYe HSx
  have HSXE := Lib.hid hsx
  clear hb hos HSl hsx
  by_cases hz : sx < 0
  · have H := Lib.hid (HNo.out hz)
    clear b4 b4_0 b4_1 b4_2 b4_l
    go_wp2
    go_ret
    have X := HR.out.trans H.out
    rw [X]
    refine ⟨.slice (some ⟨w.heap.size + 1, 0, none⟩) 0 0, ?_, ?_, ?_⟩
    · rfl
    · exact HE4.out.base (by omega)
    · exact HB4.out
  have hz' : ¬ sx < 0 := hz
  have HO : Hid (OnWay h x t but st sx.toNat x [(x : Int)]) := Lib.hid (by have e := HYe.out (Int.not_lt.1 hz) (by omega); simp only [Int.toNat_natCast, ← HSXE.out] at e; exact e)
  obtain ⟨hz0, hz1⟩ := And.intro (Int.not_lt.1 hz) HSx.2
  clear hz HSx HYe HNo
  have hsz4 : w.heap.size + 1 ≤ w4.heap.size := b4.lt
  have HBX4 := Lib.hid (show Box3 _ _ _ _ _ from b4)
  clear b4 b4_0 b4_1 b4_2 b4_l
  clear HE3
  go_wp2_with (at_builtin; go_must (refine wpList_append_own_at _ rfl _ _ 23 rfl (w.heap.size + 1) 3 i0 (.int .i64 0) 1 8 Tryd.underlying23 hi hz0' hz1' hz2' rfl (by decide) _ _ _ rfl (HE4.out.2.alloc _) ⟨w4.heap.size, 0, none⟩ 1 1 [.int .i64 x] rfl rfl (cell_one_new _ _ _) ?_ ?_ ?_ ?_ ?_; (intro u hu; simp at hu; subst hu; rfl); (unfold maxLen; simp); (simp); (simp; omega); intro v' w5 hown' hgrow _hh hvb; have HP5 : Hid (OwnInts (w.heap.size + 1) w5 v' [(x : Int)]) := Lib.hid (ownInts_append (l := []) (by unfold lim; simp) hown'); have HS5 := Lib.hid ((HOS.out.keep (below_new _ _)).keepS hgrow HSQ.out); have HE5 := Lib.hid (sep_app HOS.out HSQ.out hvb); have HBX5 := Lib.hid ((HBX4.out.keep (below_new _ _)).keepG hgrow HE4.out.blk (by omega)); have HB5 := Lib.hid (below_grownG (below_then HB4.out (below_new _ _)) hgrow HE4.out.blk (by omega)); clear hown' hgrow _hh hvb))
  go_loopg [1, 9] sx.toNat (fun gk c q wr => ∃ y : Nat, c = .int .i64 y ∧ Hid (∃ P, OnWay h x t but st gk y P ∧ OwnInts (w.heap.size + 1) wr q P ∧ OwnInts w3.heap.size wr (.slice (some ⟨gs, 0, none⟩) n cs) st ∧ Sep (.slice (some ⟨gs, 0, none⟩) n cs) q ∧ Box3 wr w.heap.size (.int .i64 h.wide) (.int .i64 h.deep) (.slice ao n cp)) ∧ Below w.heap.size w wr)
  case atStart => exact ⟨x, rfl, Lib.hid ⟨_, HO.out, HP5.out, HS5.out, HE5.out, HBX5.out⟩, HB5.out⟩
  case round =>
    clear HO HP5 HS5 HE5 HB5 HBX5
    obtain ⟨y, rfl, hh, hbr⟩ := hrel
    obtain ⟨P, hO, hP, hS, hE, hbx⟩ := hh.out
    have hyn := hO.cell.2
    rw [← HNN.out] at hyn
    have HBr := Lib.hid hbr
    have HO := Lib.hid hO
    have HP := Lib.hid hP
    have HS := Lib.hid hS
    have HE := Lib.hid hE
    have hszr : w.heap.size < wr.heap.size := hbx.lt
    by_cases hyt : y = t
    · subst hyt
      have hg0 : gk = 0 := by
        have h1 := hO.left
        have h2 := HBF.out.home.2.2
        rw [h2] at h1
        omega
      subst hg0
      have HRR := Lib.hid (onway_end hO)
      obtain ⟨aq, cq, rfl⟩ := hP.slice
      clear hh hO hP hS hE hbx hbr
      go_wp2
      go_ret
      exact ⟨_, rfl, by rw [HR.out, ← HRR.out]; exact HP.out.base (by omega), HBr.out⟩
    · obtain ⟨m, rfl⟩ : ∃ m, gk = m + 1 := by
        refine ⟨gk - 1, ?_⟩
        have h1 := hO.left
        have h2 := HBF.out.zero y (by rw [← HNN.out]; omega)
        simp only [Int.toNat_natCast] at h1
        rw [h1] at h2
        have h3 : gk ≠ 0 := fun e => hyt (by have := h2 (by rw [e]; rfl); omega)
        omega
      obtain ⟨z, hz1, hz2, hz3, hz4, hz5⟩ := down_some HBF.out (c := y) hO.cell (by rw [hO.left]; omega)
      obtain ⟨j0, hj1, hj2, hj3, hj4⟩ := down_at hz1
      obtain ⟨z, rfl⟩ := Int.eq_ofNat_of_zero_le hz4.1
      have hleft := hO.left
      simp only [Int.toNat_natCast] at hleft hj3 hj4
      rw [hleft] at hj3 hj4
      have HNX := Lib.hid (onway_next hO hz1 hz4 (by simp only [Int.toNat_natCast]; rw [hj4, hleft]))
      have hzn := hz4.2
      rw [← HNN.out] at hzn
      have hmle := HBF.out.le y
      rw [hleft, ← HNN.out] at hmle
      have HJ3 := Lib.hid hj3
      have HZ5 := Lib.hid hz5
      have HJ4 := Lib.hid hj4
      have HM : Hid (∀ i, i < (besideF h y).length → 0 ≤ gi (besideF h y) i ∧ gi (besideF h y) i < (n : Int)) := Lib.hid (fun i hi => by rw [HNN.out]; exact beside_lt (gi_mem hi))
      have HL3 := Lib.hid hleft
      have hyt' : ((y : Int) != (t : Int)) = true := by simp; omega
      obtain ⟨q, cq', rfl⟩ := hP.slice
      have HC := Lib.hid (HBE.out wr (.agg #[.int .i64 h.wide, .int .i64 h.deep, .slice ao n cp]) (HV.out.keep HBr.out) y)
      have hB12 := beside_small (h := h) y
      have hj1' := hj1
      obtain ⟨B, hB⟩ : ∃ B, B = besideF h y := ⟨_, rfl⟩
      rw [← hB] at HC hj1 hj2 HJ3 hB12 HM
      have HJ2 := Lib.hid hj2
      have HD := Lib.hid hz1
      have b6 := hbx
      have b6_0 := b6.c0
      have b6_1 := b6.c1
      have b6_2 := b6.c2
      have b6_l := b6.lt
      clear hh hO hP hS hE hbx hbr hz1 hz2 hz3 hz4 hz5 hj2 hj3 hj4 hleft hj1' hB
      go_wp2_with fail
      refine (HC.out).mono ?_
      rintro e wb ⟨bv, rfl, hob, hbb⟩
      obtain ⟨ab, cb, rfl⟩ := hob.slice
      have HOB := Lib.hid hob
      have HS2 := Lib.hid (HS.out.keep hbb)
      have HP2 := Lib.hid (HP.out.keep hbb)
      have HBr2 := Lib.hid (below_then HBr.out hbb)
      have HBX2 := Lib.hid (b6.keep hbb)
      obtain ⟨D, hD⟩ : ∃ D : Int, D = (m : Int) + 1 := ⟨_, rfl⟩
      have cy : wb.cell? ⟨gs, y, none⟩ = some (.int .i64 D) := by rw [hD]; have e := own_cell HS2.out (j := y) (by rw [HL.out]; exact (by omega)); rw [HL3.out] at e; exact e
      have hD1 : 1 ≤ D := by omega
      have hD2 : D ≤ 12 := by have := hmle.2; omega
      have hwr : IntKind.i64.wrap (D - 1) = D - 1 := IntWalk.i64_in _ (by omega)
      have HDm := Lib.hid (show D - 1 = (m : Int) by omega)
      have hszb : w.heap.size < wb.heap.size := HBX2.out.lt
      clear b6 b6_0 b6_1 b6_2 b6_l
      clear hob hbb HS HP HBr hD hmle HC
      go_wp2
      go_loopw [12] (fun i wr => ∃ k : Nat, k ≤ j0 ∧ i = .int .i64 k ∧ ∃ q, wr = wb.drewN q) (fun i _ => j0 - (intOf i).toNat)
      case atStart => exact ⟨0, Nat.zero_le _, rfl, 0, rfl⟩
      case round =>
        obtain ⟨k, hk, rfl, qd, rfl⟩ := hrel
        obtain ⟨gb, cb', eb, _, _⟩ := HOB.out.head (by intro e; rw [e] at hj1; simp at hj1)
        obtain ⟨rfl, rfl⟩ : ab = some ⟨gb, 0, none⟩ ∧ cb = cb' := by cases eb; exact ⟨rfl, rfl⟩
        have hkB : k < B.length := by omega
        have ck := own_cell HOB.out hkB
        have hm := HM.out k hkB
        obtain ⟨s, hs⟩ := Int.eq_ofNat_of_zero_le hm.1
        rw [hs] at ck hm
        have hsn := hm.2
        have hs0 : (0 : Int) ≤ s := by omega
        have hsn' : s < n := by omega
        have cs := own_cell HS2.out (j := s) (by rw [HL.out]; exact hsn')
        obtain ⟨V, hV⟩ : ∃ V, V = gi st s := ⟨_, rfl⟩
        rw [← hV] at cs
        have HVs := Lib.hid hV
        have HSs := Lib.hid hs
        clear hV hs hm eb
        have hk0 : (0 : Int) ≤ k := by omega
        have hk1 : (k : Int) < B.length := by omega
        have hy0 : (0 : Int) ≤ y := by omega
        by_cases hkj : k < j0
        · have hF : (V != D - 1) = true := by
            have e := HJ3.out k hkj
            rw [HSs.out] at e
            simp only [Int.toNat_natCast] at e
            rw [← HVs.out] at e
            have e2 := HDm.out
            simp only [bne_iff_ne, ne_eq]
            intro e3; apply e; omega
          cases hgb : ((s : Int) == but)
          all_goals
            go_wp2
            go_quiet (fail)
            go_wp2
            go_roundw
            case rel => exact ⟨k+1, by omega, by go_num, by first | exact ⟨_, rfl⟩ | exact drewNN _ _ _⟩
            case measure => simp [intOf]; omega
        · obtain rfl : k = j0 := by omega
          have hzs : z = s := by have e := HJ2.out; rw [HSs.out] at e; omega
          subst hzs
          have hgb : ((z : Int) == but) = false := by have := HZ5.out; simpa using this
          have hT : (V != D - 1) = false := by
            have e := HJ4.out
            rw [← HVs.out] at e
            have e2 := HDm.out
            simp only [bne_eq_false_iff_eq]
            omega
          go_wp2
          go_quiet (fail)
          have hPl : P.length + (m + 1) ≤ 14 := HO.out.small
          obtain ⟨w6, hw6⟩ : ∃ w6, w6 = (wb.drewN qd).drewN nq := ⟨_, rfl⟩
          have hb6 : Below wb.heap.size wb w6 := by rw [hw6]; exact below_drewN (below_drewN (Below.refl _ _) _) _
          have HP6 := Lib.hid (HP2.out.keep hb6)
          have HS6 := Lib.hid (HS2.out.keep hb6)
          have HBX6 := Lib.hid (HBX2.out.keep hb6)
          have HBr6 := Lib.hid (below_then HBr2.out hb6)
          have hsz6 : w.heap.size + 1 ≤ w6.heap.size := HBX6.out.lt
          have ck6 := (hb6.cell (p := ⟨gb, k, none⟩) (cell_lt ck)).trans ck
          rw [← hw6]
          clear hw6 hb6 hT HP2 HS2 HBX2 HBr2 cy ck cs
          go_wp2_with (at_builtin; go_must (refine wpList_append_own_at _ rfl _ _ 23 rfl (w.heap.size + 1) 3 i0 (.int .i64 0) 1 8 Tryd.underlying23 hi hz0' hz1' hz2' rfl (by decide) _ _ _ rfl (HP6.out.2.alloc _) ⟨w6.heap.size, 0, none⟩ 1 1 [.int .i64 z] rfl rfl (cell_one_new _ _ _) ?_ ?_ ?_ ?_ ?_; (intro u hu; simp at hu; subst hu; rfl); (unfold maxLen; omega); (omega); (simp; omega); intro v' w7 hown' hgrow _hh hvb; have HP7 : Hid (OwnInts (w.heap.size + 1) w7 v' (P ++ [(z : Int)])) := Lib.hid (ownInts_append (by unfold lim; omega) hown'); have HS7 := Lib.hid ((HS6.out.keep (below_new _ _)).keepS hgrow HE.out); have HE7 := Lib.hid (sep_app HS6.out HE.out hvb); have HX7 := Lib.hid ((HBX6.out.keep (below_new _ _)).keepG hgrow HP6.out.blk (by omega)); have HR7 := Lib.hid (below_grownG (below_then HBr6.out (below_new _ _)) hgrow HP6.out.blk (by omega)); clear hown' hgrow _hh hvb))
          go_roundg m
          case rel => exact ⟨z, rfl, Lib.hid ⟨_, HNX.out, HP7.out, HS7.out, HE7.out, HX7.out⟩, HR7.out⟩
          case measure => omega

end Go.Proofs.YtjdgbdakkdljmaaDoor
