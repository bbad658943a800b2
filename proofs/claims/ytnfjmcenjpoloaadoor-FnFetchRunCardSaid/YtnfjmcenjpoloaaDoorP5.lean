/-
  The texts N2 Y Z Y2 K3 in one.
-/
import Derived.Test.YtnfjmcenjpoloaaDoorP3
import Derived.Test.YtnfjmcenjpoloaaDoorP4
import Derived.Maps.AppendAt
import Derived.BigRegion
import Derived.Deep.CutRange
import Derived.Deep.LoopGhost
import Derived.Deep.DrawnRows
section
/-
  Shortest ways: the walks over the steps.
-/
set_option linter.unusedVariables false
namespace Go.Proofs.YtnfjmcenjpoloaaDoor
open Go Go.RowKit Go.Park

/-- two values that share no block -/
def Sep (u v : Value) : Prop := ∀ g, u.ownBlock = some g → v.ownBlock = some g → False
theorem Sep.symm {u v : Value} (h : Sep u v) : Sep v u := fun g a b => h g b a
theorem sep_ne {u v : Value} (h : Sep u v) : u.ownBlock = none ∨ u.ownBlock ≠ v.ownBlock := by
  cases hu : u.ownBlock with
  | none => exact .inl rfl
  | some g => right; intro e; exact h g hu e.symm
theorem OwnInts.keepS {lo : Nat} {w w' : World} {u v : Value} {l : List Int} (h : OwnInts lo w u l) (hg : w.grownBy w' v.ownBlock) (hs : Sep u v) : OwnInts lo w' u l := ⟨h.1, h.2.kept hg (sep_ne hs)⟩
theorem OwnInts.setS {lo : Nat} {w : World} {u : Value} {l : List Int} {g n c : Nat} (h : OwnInts lo w u l) (hs : Sep u (.slice (some ⟨g, 0, none⟩) n c)) (j : Nat) (x : Value) : OwnInts lo (w.setCell ⟨g, j, none⟩ x) u l :=
  h.keepS (v := .slice (some ⟨g, 0, none⟩) n c) (grown_set (g := g) (grown_refl w (some g)) j x) hs
theorem sep_new {w w' : World} {lo : Nat} {u v : Value} {l m : List Int} (hu : OwnInts lo w u l) (hv : OwnInts w.heap.size w' v m) : Sep u v := fun g a b => by
  have h1 := (hu.blk g a).2
  have h2 := (hv.blk g b).1
  omega
theorem sep_app {w : World} {lo : Nat} {u v v' : Value} {l : List Int} {o : Obj} (hu : OwnInts lo w u l) (hs : Sep u v) (hv : v'.ownBlock = v.ownBlock ∨ v'.ownBlock = some (w.alloc o).heap.size) : Sep u v' := fun g a b => by
  rcases hv with hv | hv
  · exact hs g a (by rw [← hv]; exact b)
  · have h1 := (hu.blk g a).2
    rw [b] at hv
    simp at hv
    omega
theorem ownInts_one (w : World) (x : Int) : OwnInts w.heap.size (w.alloc (.cells #[.int .i64 x] 3)) (.slice (some ⟨w.heap.size, 0, none⟩) 1 1) [x] :=
  ⟨by simp [lim], World.ownsRow_lit w #[.int .i64 x] 1 (Nat.le_refl _) (by unfold maxLen; omega) rfl⟩
theorem below_setS {B : Nat} {W w : World} {g : Nat} (h : Below B W w) (hg : B ≤ g) (j : Nat) (x : Value) : Below B W (w.setCell ⟨g, j, none⟩ x) := h.setCell (by exact hg) _

def Fill (L : List Int) (n k : Nat) : Prop := L.length = n ∧ ∀ j, j < k → gi L j = -1
theorem fill_set {L : List Int} {n k : Nat} (h : Fill L n k) (hk : k < n) : Fill (L.set k (-1)) n (k + 1) := by
  refine ⟨by simpa using h.1, fun j hj => ?_⟩
  rw [gi_upd (by rw [h.1]; exact hk)]
  split
  · rfl
  · exact h.2 j (by omega)
theorem fill_all {L : List Int} {n : Nat} (h : Fill L n n) : L = List.replicate n (-1) := by
  refine ext_gi (by rw [h.1]; simp) fun j hj => ?_
  rw [h.1] at hj
  rw [h.2 j hj, gi_replicate hj]

/-- what the inner rounds keep -/
structure Vis (h : PHall) (tgt but : Int) (k : Nat) (y d : Int) (st q : List Int) : Prop where
  bfs : Bfs h tgt but ((k : Int) + 1) st q
  lt : k < q.length
  at_ : gi q k = y
  dist : gi st y.toNat = d
theorem Vis.next {h : PHall} {tgt but : Int} {k : Nat} {y d x : Int} {st q : List Int} (v : Vis h tgt but k y d st q) (hd : d ≤ k) (hx : x ∈ besideF h y) (hb : x ≠ but) (hn : gi st x.toNat < 0) :
    Vis h tgt but k y d (st.set x.toNat (d + 1)) (q ++ [x]) := by
  have e := v.at_
  subst e
  obtain ⟨b2, e2⟩ := bfs_visit v.bfs v.lt v.dist (by omega) hx hb hn
  exact ⟨b2, by rw [List.length_append]; have := v.lt; omega, gi_append_left v.lt, e2⟩

set_option maxRecDepth 100000 in
set_option maxHeartbeats 4000000 in
theorem stepsTo_any (w : World) (v : Value) (h : PHall) (t : Nat) (but : Int) (hv : HallAt w v h) (hval : validB h = true) (ht : t < h.cells.length) (hbt : but ≠ t) :
    Calls Tryd.prog 109 #[v, .int .i64 t, .int .i64 but] w (GivesInts (stepsF h t but) w) := by
  have HV := Lib.hid hv
  obtain ⟨cv, rfl, ao, cp, rfl, hn, hcm, hx⟩ := hv
  clear hx hn hcm
  have hlen := (valid_len hval).2
  have HS0 := Lib.hid (bfs_start (h := h) (tgt := t) (but := but) (by omega) (by omega) hbt)
  have HF0 := Lib.hid (show stepsF h t but = bfsF h but (h.cells.length + 1) 0 (startF h.cells.length t, [(t : Int)]) from rfl)
  have HB := Lib.hid (fun (W' : World) (v' : Value) (hh : HallAt W' v' h) (y : Int) => cellsBeside_any W' v' h y hh)
  obtain ⟨W, hW⟩ : ∃ W, W = w.alloc (.cells #[.int .i64 h.wide, .int .i64 h.deep, .slice ao h.cells.length cp] 25) := ⟨_, rfl⟩
  have hWs : W.heap.size = w.heap.size + 1 := by rw [hW]; simp
  have HBW : Hid (Below w.heap.size w W) := Lib.hid (by rw [hW]; exact below_new _ _)
  have HBX := Lib.hid (show Box3 W w.heap.size _ _ _ by rw [hW]; exact box3_new _ _ _ _ _)
  obtain ⟨n, hnn⟩ : ∃ n, n = h.cells.length := ⟨_, rfl⟩
  have HBe := Lib.hid (fun y => beside_small (h := h) y)
  rw [← hnn] at hlen HF0 HBX hW ht HS0 HV ⊢
  have HN := Lib.hid hnn
  have HVal := Lib.hid hval
  clear hnn hval
  obtain ⟨i0, hi, hz0, hz1, hz2⟩ := info_parts Tryd.infoInt
  have HWs := Lib.hid hWs
  clear hWs
  have x0 := HBX.out
  have x0_0 := x0.c0
  have x0_1 := x0.c1
  have x0_2 := x0.c2
  have x0_l := x0.lt
  clear x0 x0_0 x0_1 x0_2 x0_l
  go_enter Tryd.func109, Tryd.ntmps109
  go_wp2_with (at_make; go_must (refine wpList_make_full _ rfl _ _ 23 rfl (w.heap.size + 1) 3 i0 (.int .i64 0) 1 Tryd.underlying23 hi hz0 hz1 _ _ _ _ n rfl rfl rfl rfl ?_ ?_ ?_ ?_; (rw [hz2]; omega); (unfold maxLen; omega); (simp); intro w1 hown hgr))
  obtain ⟨G, hG⟩ : ∃ G, G = w.heap.size + 1 := ⟨_, rfl⟩
  have hGw : w.heap.size < G := by omega
  simp only [World.size_alloc] at hown
  rw [← hG] at hown ⊢
  rw [← hW] at hgr
  have hWG : G = W.heap.size := by rw [HWs.out, hG]
  have hb1 : Below G W w1 := by rw [hWG]; exact below_of_grown hgr
  have HWG := Lib.hid hWG
  clear hG hWG hW
  have HO1 := Lib.hid (ownInts_zero hlen hown)
  clear hown hgr
  go_wp2
  go_loopw [19] (fun i wr => ∃ k : Nat, k ≤ n ∧ i = .int .i64 k ∧ Hid (∃ L, Fill L n k ∧ OwnInts G wr (.slice (some ⟨G, 0, none⟩) n n) L) ∧ Below G W wr) (fun i _ => n - (intOf i).toNat)
  case atStart => exact ⟨0, Nat.zero_le _, rfl, Lib.hid ⟨_, ⟨by rw [List.length_replicate], fun j hj => by omega⟩, HO1.out⟩, hb1⟩
  case round =>
    clear HO1 hb1
    obtain ⟨k, hk, rfl, ho, hbr⟩ := hrel
    by_cases hlt : k < n
    · obtain ⟨L, hL, hO⟩ := ho.out
      have c1 := own_cell hO (j := k) (by rw [hL.1]; exact hlt)
      have f1 := own_free hO k
      have HL := Lib.hid (fill_set hL hlt)
      have HO := Lib.hid (own_store hO k (-1))
      have HB2 := Lib.hid (below_setS hbr (Nat.le_refl _) k (.int .i64 (-1)))
      clear hL hO ho hbr
      go_wp2
      go_roundw
      case rel => exact ⟨k+1, by omega, by go_num, Lib.hid ⟨_, HL.out, HO.out⟩, HB2.out⟩
      case measure => simp [intOf]; omega
    · obtain rfl : k = n := by omega
      clear hlt hk
      obtain ⟨L, hL, hO⟩ := ho.out
      have e := fill_all hL
      subst e
      have c1 := own_cell hO (j := t) (by simpa using ht)
      have f1 := own_free hO t
      have x2 := HBX.out.keep (by rw [← HWG.out]; exact hbr)
      have x2_0 := x2.c0
      have x2_1 := x2.c1
      have x2_2 := x2.c2
      have x2_l := x2.lt
      have ht0 : (0 : Int) ≤ t := by omega
      have ht1 : (t : Int) < k := by omega
      have HO := Lib.hid hO
      have HBr := Lib.hid hbr
      clear hL hO ho hbr
      go_upto_region 8 with fail
      obtain ⟨w2, hw2⟩ : ∃ x, x = wr.setCell ⟨G, t, none⟩ (.int .i64 0) := ⟨_, rfl⟩
      have HO2 : Hid (OwnInts G w2 (.slice (some ⟨G, 0, none⟩) k k) (startF k t)) := Lib.hid (by rw [hw2]; exact own_store HO.out t 0)
      have HB2 : Hid (Below G W w2) := Lib.hid (by rw [hw2]; exact below_setS HBr.out (Nat.le_refl _) _ _)
      have hsz2 : G ≤ w2.heap.size := by rw [HWG.out]; exact HB2.out.size
      rw [← hw2]
      clear x2 x2_0 x2_1 x2_2 x2_l
      clear hw2 HO HBr c1 f1
      go_wp2
      obtain ⟨w3, hw3⟩ : ∃ x, x = w2.alloc (.cells #[.int .i64 t] 3) := ⟨_, rfl⟩
      have HQ3 : Hid (OwnInts G w3 (.slice (some ⟨w2.heap.size, 0, none⟩) 1 1) [(t : Int)]) := Lib.hid (by rw [hw3]; exact (ownInts_one w2 t).base hsz2)
      have HO3 : Hid (OwnInts G w3 (.slice (some ⟨G, 0, none⟩) k k) (startF k t)) := Lib.hid (by rw [hw3]; exact HO2.out.keep (below_new _ _))
      have HS3 := Lib.hid (sep_new HO2.out (ownInts_one w2 t))
      have HB3 : Hid (Below G W w3) := Lib.hid (by rw [hw3]; exact HB2.out.trans ((below_new _ _).mono hsz2))
      rw [← hw3]
      clear hw3 HO2 HB2 hsz2
      go_loopw [9, 10] (fun q i wr => ∃ j : Nat, i = .int .i64 j ∧ Hid (∃ st qs, j ≤ qs.length ∧ Bfs h t but j st qs ∧ bfsF h but (k + 1 - j) j (st, qs) = stepsF h t but ∧ OwnInts G wr (.slice (some ⟨G, 0, none⟩) k k) st ∧ OwnInts G wr q qs ∧ Sep (.slice (some ⟨G, 0, none⟩) k k) q) ∧ Below G W wr) (fun _ i _ => k + 1 - (intOf i).toNat)
      case atStart => exact ⟨0, rfl, Lib.hid ⟨_, _, Nat.zero_le _, HS0.out, HF0.out.symm, HO3.out, HQ3.out, HS3.out⟩, HB3.out⟩
      case round =>
        clear HS0 HF0 HO3 HQ3 HS3 HB3
        obtain ⟨j, rfl, hh, hbr⟩ := hrel
        obtain ⟨st, qs, hj, hbf, hfin, hS, hQ, hsep⟩ := hh.out
        have hql := hbf.qlen
        rw [← HN.out] at hql
        have HBF := Lib.hid hbf
        have HFI := Lib.hid hfin
        have HS := Lib.hid hS
        have HQ := Lib.hid hQ
        have HSE := Lib.hid hsep
        have HBr := Lib.hid hbr
        have hsz : G ≤ wr.heap.size := by rw [HWG.out]; exact hbr.size
        by_cases hlt : j < qs.length
        · obtain ⟨g, cap, rfl, hg1, hg2⟩ := HQ.out.head (by intro e; rw [e] at hlt; simp at hlt)
          have hm := HBF.out.mem j hlt
          obtain ⟨y, hy⟩ := Int.eq_ofNat_of_zero_le hm.1.1
          have cq := own_cell HQ.out hlt
          rw [hy] at cq
          have HY := Lib.hid hy
          have hyk : y < k := by have := hm.1.2; rw [hy, ← HN.out] at this; omega
          have x4 := HBX.out.keep (by rw [← HWG.out]; exact hbr)
          have x4_0 := x4.c0
          have x4_1 := x4.c1
          have x4_2 := x4.c2
          have x4_l := x4.lt
          obtain ⟨L, hL⟩ : ∃ L, L = qs.length := ⟨_, rfl⟩
          rw [← hL] at hlt hql ⊢
          have HL := Lib.hid hL
          have HRW := Lib.hid (HBW.out.trans (HBr.out.mono (Nat.le_of_lt hGw)))
          clear hL hbf hfin hS hQ hsep hbr hy hm hj hh
          go_wp2
          go_region_held3 (fun w' => w'.cell? ⟨w.heap.size, 0, none⟩ = some (.int .i64 h.wide) ∧ w'.cell? ⟨w.heap.size, 1, none⟩ = some (.int .i64 h.deep) ∧ w'.cell? ⟨w.heap.size, 2, none⟩ = some (.slice ao k cp) ∧ w'.cell? ⟨g, j, none⟩ = some (.int .i64 y)) (((try dsimp only); (repeat' apply And.intro); all_goals first | (with_reducible assumption) | go_keep)) (first
            | (go_at_call 78; refine (HB.out _ _ (HV.out.keep (below_then HRW.out (below_drew1 _))) y).mono ?_; rintro e wb ⟨cv2, rfl, hob, hbb⟩; obtain ⟨ao2, cp2, rfl⟩ := hob.slice; have x5 := (x4.keep (below_drew1 _)).keep hbb; have x5_0 := x5.c0; have x5_1 := x5.c1; have x5_2 := x5.c2; have cq2 : wb.cell? ⟨g, j, none⟩ = some (.int .i64 y) := (hbb.cell (p := ⟨g, j, none⟩) hg2).trans cq; have HBB := Lib.hid (below_then (below_drew1 wr) hbb); have HOB := Lib.hid hob; clear hbb hob x4 x4_0 x4_1 x4_2 x4_l))
          clear x5 x5_0 x5_1 x5_2 cq cq2
          have HS2 := Lib.hid (HS.out.keep HBB.out)
          have HQ2 := Lib.hid (HQ.out.keep HBB.out)
          have HOB1 : Hid (OwnInts wr.heap.size wb (.slice ao2 (besideF h y).length cp2) (besideF h y)) := Lib.hid HOB.out
          have HSB := Lib.hid (sep_new HS.out HOB1.out)
          have HQB := Lib.hid (sep_new HQ.out HOB1.out).symm
          have HBB2 := Lib.hid (HBr.out.trans (HBB.out.mono hsz))
          have hm := HBF.out.mem j (by rw [← HL.out]; exact hlt)
          rw [HY.out] at hm
          have hle := HBF.out.le y
          have HV0 : Hid (Vis h t but j y (gi st y) st qs) := Lib.hid ⟨HBF.out.mono (by omega), by rw [← HL.out]; exact hlt, HY.out, rfl⟩
          have HNX : Hid (bfsF h but (k + 1 - (j + 1)) (j + 1) (visitF but (gi st y) (besideF h y) (st, qs)) = stepsF h t but) := Lib.hid (by
            have e := HFI.out
            rw [show k + 1 - j = (k + 1 - (j + 1)) + 1 by omega, bfs_next (s := (st, qs)) (by show j < qs.length; rw [← HL.out]; exact hlt)] at e
            simp only [HY.out, Int.toNat_natCast] at e
            exact e)
          have HM : Hid (∀ i, i < (besideF h y).length → gi (besideF h y) i ∈ besideF h y) := Lib.hid (fun i hi => gi_mem hi)
          obtain ⟨d, hd⟩ : ∃ d, d = gi st y := ⟨_, rfl⟩
          obtain ⟨fin, hfin⟩ : ∃ fin, fin = visitF but (gi st y) (besideF h y) (st, qs) := ⟨_, rfl⟩
          have hBl := HBe.out y
          obtain ⟨B, hB⟩ : ∃ B, B = besideF h y := ⟨_, rfl⟩
          rw [← hfin] at HNX
          rw [← hB] at hfin hBl HOB1 HSB HQB HM ⊢
          rw [← hd] at hfin HV0 hle
          have hd0 : 0 ≤ d := by rw [hd]; exact hm.2
          have hdj : d ≤ j := hle.2
          have HFN := Lib.hid hfin
          have HBq := Lib.hid hB
          clear hfin hd hm hle hB HOB HBB HBr HS HQ HFI HBF HRW
          go_wp2
          go_loopw [9, 44] (fun q i wr => ∃ m : Nat, m ≤ B.length ∧ i = .int .i64 m ∧ Hid (∃ st' qs', visitF but d (B.drop m) (st', qs') = fin ∧ Vis h t but j y d st' qs' ∧ OwnInts G wr (.slice (some ⟨G, 0, none⟩) k k) st' ∧ OwnInts G wr q qs' ∧ OwnInts G wr (.slice ao2 B.length cp2) B ∧ Sep (.slice (some ⟨G, 0, none⟩) k k) q ∧ Sep (.slice ao2 B.length cp2) q) ∧ Below G W wr) (fun _ i _ => B.length - (intOf i).toNat)
          case atStart => exact ⟨0, Nat.zero_le _, rfl, Lib.hid ⟨st, qs, HFN.out.symm, HV0.out, HS2.out, by rw [HL.out]; exact HQ2.out, HOB1.out.base hsz, HSE.out, HQB.out⟩, HBB2.out⟩
          case round =>
            clear HFN HV0 HS2 HQ2 HOB1 HSE HQB HBB2
            obtain ⟨m, hm, rfl, hh, hbr⟩ := hrel
            obtain ⟨st', qs', hvis, hv, hS, hQ, hBB, hs1, hs2⟩ := hh.out
            by_cases hmB : m < B.length
            · obtain ⟨gb, cb, eb, _, _⟩ := hBB.head (by intro e; rw [e] at hmB; simp at hmB)
              obtain ⟨rfl, rfl⟩ : ao2 = some ⟨gb, 0, none⟩ ∧ cp2 = cb := by cases eb; exact ⟨rfl, rfl⟩
              obtain ⟨g', cap', rfl, hg1', hg2'⟩ := hQ.head (by intro e; have := hv.lt; rw [e] at this; simp at this)
              have hmem : gi B m ∈ besideF h y := by rw [← HBq.out]; exact HM.out m hmB
              have hxl := beside_lt hmem
              obtain ⟨x, hx⟩ := Int.eq_ofNat_of_zero_le hxl.1
              have cb1 := own_cell hBB hmB
              rw [hx] at hxl hmem cb1
              have hxk : x < k := by rw [HN.out]; omega
              have hlS := hv.bfs.len
              rw [← HN.out] at hlS
              have cs1 := own_cell hS (j := x) (by rw [hlS]; exact hxk)
              have cs2 := own_cell hS (j := y) (by rw [hlS]; exact hyk)
              rw [show gi st' y = d from hv.dist] at cs2
              have fs1 := own_free hS x
              have cq1 := own_cell hQ hv.lt
              rw [hv.at_] at cq1
              have hstep := visit_cons (but := but) (d := d) hmB (st', qs')
              rw [hvis, hx] at hstep
              simp only [Int.toNat_natCast] at hstep
              have hsz1 : G ≤ wr.heap.size := by rw [HWG.out]; exact hbr.size
              have hql' := hv.bfs.cnt
              rw [← HN.out] at hql'
              have hng : gi st' x < 0 → 0 < negs st' := fun hn => by
                have := negs_set (l := st') (i := x) (x := 0) (by rw [hlS]; exact hxk) hn (Int.le_refl _)
                omega
              have HV := Lib.hid hv
              have HS := Lib.hid hS
              have HQ := Lib.hid hQ
              have HB1 := Lib.hid hBB
              have HS1 := Lib.hid hs1
              have HS2 := Lib.hid hs2
              have HBr := Lib.hid hbr
              have HME := Lib.hid hmem
              obtain ⟨L', hL'⟩ : ∃ L', L' = qs'.length := ⟨_, rfl⟩
              have hL'k : L' ≤ k := by omega
              have hjL : j < L' := by rw [hL']; exact hv.lt
              rw [← hL']
              obtain ⟨sx, hsx⟩ : ∃ sx, sx = gi st' x := ⟨_, rfl⟩
              rw [← hsx] at cs1 hstep hng
              have hx0 : (0 : Int) ≤ x := by omega
              have hx1 : (x : Int) < k := by omega
              have hy0 : (0 : Int) ≤ y := by omega
              have hy1 : (y : Int) < k := by omega
              have HL' := Lib.hid hL'
              have HSX := Lib.hid hsx
              by_cases hxb : (x : Int) = but
              · have hne : ((x : Int) != but) = false := by simpa using hxb
                rw [if_neg (by intro e; exact e.1 hxb)] at hstep
                have HST := Lib.hid hstep
                clear hstep hxb hv hS hQ hBB hs1 hs2 hbr hmem hvis hx hlS hql' hng hL' hsx cs1 cs2 cq1 fs1 hh eb
                go_wp2
                go_roundw
                case rel => exact ⟨m+1, by omega, by go_num, Lib.hid ⟨st', qs', HST.out.symm, HV.out, HS.out, by rw [HL'.out]; exact HQ.out, HB1.out, HS1.out, HS2.out⟩, HBr.out⟩
                case measure => simp [intOf]; omega
              · have hne : ((x : Int) != but) = true := by simpa using hxb
                by_cases hneg : sx < 0
                · rw [if_pos ⟨hxb, hneg⟩] at hstep
                  have HST := Lib.hid hstep
                  have HV2 := Lib.hid (hv.next hdj hmem hxb (by rw [Int.toNat_natCast, ← HSX.out]; exact hneg))
                  have hqk : qs'.length + 1 ≤ k := by have := hng hneg; omega
                  clear hql' hng hstep hxb hv hS hQ hBB hs1 hs2 hbr hmem hvis hx hlS hL' hsx hh eb
                  go_upto_region 17 with fail
                  obtain ⟨w4, hw4⟩ : ∃ w4, w4 = wr.setCell ⟨G, x, none⟩ (.int .i64 (d + 1)) := ⟨_, rfl⟩
                  have HS4 : Hid (OwnInts G w4 (.slice (some ⟨G, 0, none⟩) k k) (st'.set x (d + 1))) := Lib.hid (by rw [hw4]; exact own_store HS.out x (d + 1))
                  have HQ4 : Hid (OwnInts G w4 (.slice (some ⟨g', 0, none⟩) L' cap') qs') := Lib.hid (by rw [hw4, HL'.out]; exact HQ.out.setS HS1.out.symm x _)
                  have HB4 : Hid (OwnInts G w4 (.slice (some ⟨gb, 0, none⟩) B.length cp2) B) := Lib.hid (by rw [hw4]; exact HB1.out.setS HSB.out.symm x _)
                  have HBr4 : Hid (Below G W w4) := Lib.hid (by rw [hw4]; exact below_setS HBr.out (Nat.le_refl _) x _)
                  have hsz4 : G ≤ w4.heap.size := by rw [HWG.out]; exact HBr4.out.size
                  rw [← hw4]
                  clear hw4 cs1 cs2 cq1 cb1 fs1 HS HQ HB1 HBr
                  go_wp2_with (at_builtin; go_must (refine wpList_append_own_at _ rfl _ _ 23 rfl G 3 i0 (.int .i64 0) 1 8 Tryd.underlying23 hi hz0 hz1 hz2 rfl (by decide) _ _ _ rfl (HQ4.out.2.alloc _) ⟨w4.heap.size, 0, none⟩ 1 1 [.int .i64 x] rfl rfl (cell_one_new _ _ _) ?_ ?_ ?_ ?_ ?_; (intro u hu; simp at hu; subst hu; rfl); (unfold maxLen; omega); (omega); (simp; omega); intro v' w5 hown' hgrow _hh hvb; have HQ5 : Hid (OwnInts G w5 v' (qs' ++ [(x : Int)])) := Lib.hid (ownInts_append (by unfold lim; omega) hown'); have HS5 := Lib.hid ((HS4.out.keep (below_new _ _)).keepS hgrow HS1.out); have HB5 := Lib.hid ((HB4.out.keep (below_new _ _)).keepS hgrow HS2.out); have HE5 := Lib.hid (sep_app HS4.out HS1.out hvb); have HF5 := Lib.hid (sep_app HB4.out HS2.out hvb); have HR5 := Lib.hid (below_app HBr4.out hsz4 HQ4.out.blk hgrow); clear hown' hgrow _hh hvb))
                  go_roundw
                  case rel => exact ⟨m+1, by omega, by go_num, Lib.hid ⟨_, _, HST.out.symm, HV2.out, HS5.out, HQ5.out, HB5.out, HE5.out, HF5.out⟩, HR5.out⟩
                  case measure => simp [intOf]; omega
                · rw [if_neg (by intro e; exact hneg e.2)] at hstep
                  have HST := Lib.hid hstep
                  clear hstep hxb hv hS hQ hBB hs1 hs2 hbr hmem hvis hx hlS hql' hng hL' hsx cs2 cq1 fs1 hh eb
                  go_wp2
                  go_roundw
                  case rel => exact ⟨m+1, by omega, by go_num, Lib.hid ⟨st', qs', HST.out.symm, HV.out, HS.out, by rw [HL'.out]; exact HQ.out, HB1.out, HS1.out, HS2.out⟩, HBr.out⟩
                  case measure => simp [intOf]; omega
            · obtain rfl : m = B.length := by omega
              rw [visit_all] at hvis
              have HFI : Hid (bfsF h but (k + 1 - (j + 1)) (j + 1) (st', qs') = stepsF h t but) := Lib.hid (by rw [hvis]; exact HNX.out)
              have HV := Lib.hid hv
              have HS := Lib.hid hS
              have HQ := Lib.hid hQ
              have HS1 := Lib.hid hs1
              have HBr := Lib.hid hbr
              clear hv hS hQ hBB hs1 hs2 hbr hvis hh
              go_wp2
              go_roundw
              case rel => exact ⟨j+1, by go_num, Lib.hid ⟨st', qs', HV.out.lt, by have := HV.out.bfs; simpa using this, HFI.out, HS.out, HQ.out, HS1.out⟩, HBr.out⟩
              case measure => simp [intOf]; omega
        · obtain ⟨aq, cq, rfl⟩ := HQ.out.slice
          obtain rfl : j = qs.length := by omega
          have HR := Lib.hid (HBW.out.trans (HBr.out.mono (Nat.le_of_lt hGw)))
          have HE : Hid (st = stepsF h t but) := Lib.hid (by have e := HFI.out; rw [bfs_done (s := (st, qs)) (by simp)] at e; exact e)
          clear hbf hfin hS hQ hsep hbr hh hj hlt
          go_wp2
          go_ret
          have hl := HBF.out.len
          rw [← HN.out] at hl
          refine ⟨_, rfl, ?_, HR.out⟩
          rw [← HE.out]
          exact HS.out.base (Nat.le_of_lt hGw)


end Go.Proofs.YtnfjmcenjpoloaaDoor
end

section
/-
  WayCells.
-/
set_option linter.unusedVariables false
namespace Go.Proofs.YtnfjmcenjpoloaaDoor
open Go Go.RowKit Go.Park

theorem wayGo_step {h : PHall} {st : List Int} {c y : Int} {m : Nat} (hd : downF h st c = some y) : wayGo h st (m + 1) c = y :: wayGo h st m y := by simp [wayGo, hd]
theorem way_bad {h : PHall} {a b but : Int} (hb : wayOk h a b but = false) : wayF h a b but = [] := by simp [wayF, hb]
theorem way_none {h : PHall} {a b but : Int} (hb : gi (stepsF h b but) a.toNat < 0) : wayF h a b but = [] := by
  unfold wayF; rw [if_neg]; intro e; have := e.2; omega
theorem way_some {h : PHall} {a b but : Int} (hok : wayOk h a b but = true) (hb : ¬ gi (stepsF h b but) a.toNat < 0) : wayF h a b but = a :: wayGo h (stepsF h b but) (gi (stepsF h b but) a.toNat).toNat a := by
  unfold wayF; rw [if_pos ⟨hok, by omega⟩]
/-- the way that has been gone and the way that is left -/
structure OnWay (h : PHall) (a b but : Int) (st : List Int) (m : Nat) (c : Int) (P : List Int) : Prop where
  cell : 0 ≤ c ∧ c < h.cells.length
  left : gi st c.toNat = m
  all : P ++ wayGo h st m c = wayF h a b but
  small : P.length + m ≤ 14
theorem onway_start {h : PHall} {a b but : Int} (hok : wayOk h a b but = true) (hb : ¬ gi (stepsF h b but) a.toNat < 0) (hs : gi (stepsF h b but) a.toNat ≤ 12) :
    OnWay h a b but (stepsF h b but) (gi (stepsF h b but) a.toNat).toNat a [a] :=
  ⟨(wayOk_iff.1 hok).2.1, by omega, by rw [way_some hok hb]; rfl, by simp; omega⟩
theorem onway_next {h : PHall} {a b but c y : Int} {st : List Int} {m : Nat} {P : List Int} (o : OnWay h a b but st (m + 1) c P) (hd : downF h st c = some y) (hy : 0 ≤ y ∧ y < h.cells.length) (hl : gi st y.toNat = gi st c.toNat - 1) :
    OnWay h a b but st m y (P ++ [y]) := by
  refine ⟨hy, by rw [hl, o.left]; omega, ?_, by rw [List.length_append]; have := o.small; simp; omega⟩
  rw [← o.all, wayGo_step hd, List.append_assoc]; rfl
theorem onway_end {h : PHall} {a b but c : Int} {st : List Int} {P : List Int} (o : OnWay h a b but st 0 c P) : P = wayF h a b but := by rw [← o.all]; simp [wayGo]


set_option maxRecDepth 100000 in
set_option maxHeartbeats 4000000 in
theorem wayCells_bad (w : World) (v : Value) (h : PHall) (a b but : Int) (hv : HallAt w v h) (hbad : wayOk h a b but = false) :
    Calls Tryd.prog 76 #[v, .int .i64 a, .int .i64 b, .int .i64 but] w (GivesInts (wayF h a b but) w) := by
  have HV := Lib.hid hv
  obtain ⟨cv, rfl, ao, cp, rfl, hn, hcm, hx⟩ := hv
  rw [lim_eq] at hn
  clear hx hcm
  have H := Lib.hid (way_bad hbad)
  obtain ⟨W, hW⟩ : ∃ W, W = w.alloc (.cells #[.int .i64 h.wide, .int .i64 h.deep, .slice ao h.cells.length cp] 25) := ⟨_, rfl⟩
  have HBW : Hid (Below w.heap.size w W) := Lib.hid (by rw [hW]; exact below_new _ _)
  have HBX := Lib.hid (show Box3 W w.heap.size _ _ _ by rw [hW]; exact box3_new _ _ _ _ _)
  cases hval : validB h
  · have HW := Lib.hid (valid_calls hval)
    clear hval hbad
    go_enter Tryd.func76, Tryd.ntmps76
    go_wp2_with fail
    rw [← hW]
    clear hW
    refine (HW.out _ _ (HV.out.keep HBW.out)).mono ?_
    rintro e w1 ⟨rfl, hb⟩
    have HB := Lib.hid (below_then HBW.out hb)
    clear hb
    go_wp2
    go_ret
    exact ⟨_, rfl, by rw [H.out]; exact ownInts_nil _ _, HB.out⟩
  have HW := Lib.hid (valid_calls hval)
  cases ha : hasCellB h a
  · have HA := Lib.hid (hasCell_calls ha)
    clear hval hbad ha
    go_enter Tryd.func76, Tryd.ntmps76
    go_wp2_with fail
    rw [← hW]
    clear hW
    refine (HW.out _ _ (HV.out.keep HBW.out)).mono ?_
    rintro e w1 ⟨rfl, hb⟩
    have HB := Lib.hid (below_then HBW.out hb)
    have b1 := HBX.out.keep hb
    have b1_0 := b1.c0
    have b1_1 := b1.c1
    have b1_2 := b1.c2
    have b1_l := b1.lt
    clear hb
    go_wp2_with fail
    refine (HA.out _ _ (HV.out.keep HB.out)).mono ?_
    rintro e w2 ⟨rfl, hb⟩
    have HB2 := Lib.hid (below_then HB.out hb)
    clear hb
    go_wp2
    go_ret
    exact ⟨_, rfl, by rw [H.out]; exact ownInts_nil _ _, HB2.out⟩
  have HA := Lib.hid (hasCell_calls ha)
  cases hb' : hasCellB h b
  · have HC := Lib.hid (hasCell_calls hb')
    clear hval hbad ha hb'
    go_enter Tryd.func76, Tryd.ntmps76
    go_wp2_with fail
    rw [← hW]
    clear hW
    refine (HW.out _ _ (HV.out.keep HBW.out)).mono ?_
    rintro e w1 ⟨rfl, hb⟩
    have HB := Lib.hid (below_then HBW.out hb)
    have b1 := HBX.out.keep hb
    have b1_0 := b1.c0
    have b1_1 := b1.c1
    have b1_2 := b1.c2
    have b1_l := b1.lt
    clear hb
    go_wp2_with fail
    refine (HA.out _ _ (HV.out.keep HB.out)).mono ?_
    rintro e w2 ⟨rfl, hb⟩
    have HB2 := Lib.hid (below_then HB.out hb)
    have b2 := b1.keep hb
    have b2_0 := b2.c0
    have b2_1 := b2.c1
    have b2_2 := b2.c2
    have b2_l := b2.lt
    clear b1 b1_0 b1_1 b1_2 b1_l
    clear hb
    go_wp2_with fail
    refine (HC.out _ _ (HV.out.keep HB2.out)).mono ?_
    rintro e w3 ⟨rfl, hb⟩
    have HB3 := Lib.hid (below_then HB2.out hb)
    clear hb
    go_wp2
    go_ret
    exact ⟨_, rfl, by rw [H.out]; exact ownInts_nil _ _, HB3.out⟩
  have HC := Lib.hid (hasCell_calls hb')
  have hcs : but < -1 ∨ (-1 ≤ but ∧ (h.cells.length : Int) ≤ but) ∨ (-1 ≤ but ∧ but < h.cells.length ∧ but = a) ∨ (-1 ≤ but ∧ but < h.cells.length ∧ but ≠ a ∧ but = b) := by
    by_cases h1 : but < -1
    · exact .inl h1
    by_cases h2 : (h.cells.length : Int) ≤ but
    · exact .inr (.inl ⟨by omega, h2⟩)
    by_cases h3 : but = a
    · exact .inr (.inr (.inl ⟨by omega, by omega, h3⟩))
    by_cases h4 : but = b
    · exact .inr (.inr (.inr ⟨by omega, by omega, h3, h4⟩))
    exfalso
    have : wayOk h a b but = true := wayOk_iff.2 ⟨hval, hasCell_iff.1 ha, hasCell_iff.1 hb', ⟨by omega, by omega⟩, h3, h4⟩
    rw [this] at hbad; cases hbad
  clear hval hbad ha hb'
  have hcs2 : ∃ x1 x2, (but == a) = x1 ∧ (but == b) = x2 ∧ (but < -1 ∨ (-1 ≤ but ∧ (h.cells.length : Int) ≤ but) ∨ (-1 ≤ but ∧ but < h.cells.length ∧ x1 = true) ∨ (-1 ≤ but ∧ but < h.cells.length ∧ x1 = false ∧ x2 = true)) := by
    refine ⟨_, _, rfl, rfl, ?_⟩
    rcases hcs with h1 | h1 | h1 | h1
    · exact .inl h1
    · exact .inr (.inl h1)
    · exact .inr (.inr (.inl ⟨h1.1, h1.2.1, by simpa using h1.2.2⟩))
    · exact .inr (.inr (.inr ⟨h1.1, h1.2.1, by simpa using h1.2.2.1, by simpa using h1.2.2.2⟩))
  clear hcs
  obtain ⟨x1, x2, e1, e2, hc⟩ := hcs2
  rcases hc with h1 | ⟨h1, h2⟩ | ⟨h1, h2, rfl⟩ | ⟨h1, h2, rfl, rfl⟩
  all_goals
    go_enter Tryd.func76, Tryd.ntmps76
    go_wp2_with fail
    rw [← hW]
    clear hW
    refine (HW.out _ _ (HV.out.keep HBW.out)).mono ?_
    rintro e w1 ⟨rfl, hb⟩
    have HB := Lib.hid (below_then HBW.out hb)
    have b1 := HBX.out.keep hb
    have b1_0 := b1.c0
    have b1_1 := b1.c1
    have b1_2 := b1.c2
    have b1_l := b1.lt
    clear hb
    go_wp2_with fail
    refine (HA.out _ _ (HV.out.keep HB.out)).mono ?_
    rintro e w2 ⟨rfl, hb⟩
    have HB2 := Lib.hid (below_then HB.out hb)
    have b2 := b1.keep hb
    have b2_0 := b2.c0
    have b2_1 := b2.c1
    have b2_2 := b2.c2
    have b2_l := b2.lt
    clear b1 b1_0 b1_1 b1_2 b1_l
    clear hb
    go_wp2_with fail
    refine (HC.out _ _ (HV.out.keep HB2.out)).mono ?_
    rintro e w3 ⟨rfl, hb⟩
    have HB3 := Lib.hid (below_then HB2.out hb)
    have b3 := b2.keep hb
    have b3_0 := b3.c0
    have b3_1 := b3.c1
    have b3_2 := b3.c2
    have b3_l := b3.lt
    clear b2 b2_0 b2_1 b2_2 b2_l
    clear hb
    go_wp2
    go_ret
    exact ⟨_, rfl, by rw [H.out]; exact ownInts_nil _ _, HB3.out⟩

set_option maxRecDepth 100000 in
set_option maxHeartbeats 4000000 in
theorem wayCells_any (w : World) (v : Value) (h : PHall) (a b but : Int) (hv : HallAt w v h) :
    Calls Tryd.prog 76 #[v, .int .i64 a, .int .i64 b, .int .i64 but] w (GivesInts (wayF h a b but) w) := by
  cases hok : wayOk h a b but
  · exact wayCells_bad w v h a b but hv hok
  obtain ⟨hval, hA, hB, hb1, hne1, hne2⟩ := wayOk_iff.1 hok
  obtain ⟨x, rfl⟩ := Int.eq_ofNat_of_zero_le hA.1
  obtain ⟨t, rfl⟩ := Int.eq_ofNat_of_zero_le hB.1
  obtain ⟨q0, hbfs⟩ := steps_inv (h := h) (tgt := t) (but := but) hB.1 hB.2 hne2
  have HV := Lib.hid hv
  have HW := Lib.hid (valid_calls hval)
  have HA := Lib.hid (hasCell_calls (hasCell_iff.2 hA))
  have HC := Lib.hid (hasCell_calls (hasCell_iff.2 hB))
  have HST := Lib.hid (fun (W' : World) (v' : Value) (hh : HallAt W' v' h) => stepsTo_any W' v' h t but hh hval (by omega) hne2)
  have HBE := Lib.hid (fun (W' : World) (v' : Value) (hh : HallAt W' v' h) (y : Int) => cellsBeside_any W' v' h y hh)
  obtain ⟨cv, rfl, ao, cp, rfl, hn, hcm, hx⟩ := hv
  rw [lim_eq] at hn
  clear hx hcm
  have hlen := (valid_len hval).2
  have HN := Lib.hid (show way_none (h := h) (a := x) (b := t) (but := but) = way_none from rfl)
  have HNo := Lib.hid (fun hz : gi (stepsF h t but) x < 0 => way_none (h := h) (a := x) (b := t) (but := but) hz)
  have HYe := Lib.hid (fun (hz : 0 ≤ gi (stepsF h t but) x) (hs : gi (stepsF h t but) x ≤ 12) => onway_start (h := h) (a := x) (b := t) (but := but) hok (Int.not_lt.2 hz) hs)
  have HSl := hbfs.len
  have HSx := hbfs.le x
  have HBF := Lib.hid hbfs
  have HL := Lib.hid HSl
  obtain ⟨st, hst⟩ : ∃ st, st = stepsF h t but := ⟨_, rfl⟩
  rw [← hst] at HNo HYe HSl HSx HBF HL
  have HSTR := Lib.hid hst
  obtain ⟨R, hR⟩ : ∃ R, R = wayF h x t but := ⟨_, rfl⟩
  have HR := Lib.hid hR
  obtain ⟨W, hW⟩ : ∃ W, W = w.alloc (.cells #[.int .i64 h.wide, .int .i64 h.deep, .slice ao h.cells.length cp] 25) := ⟨_, rfl⟩
  have HBW : Hid (Below w.heap.size w W) := Lib.hid (by rw [hW]; exact below_new _ _)
  have HBX := Lib.hid (show Box3 W w.heap.size _ _ _ by rw [hW]; exact box3_new _ _ _ _ _)
  have hne1' : (but == (x : Int)) = false := by simpa using hne1
  have hne2' : (but == (t : Int)) = false := by simpa using hne2
  obtain ⟨hb1, hb2⟩ := hb1
  have hA1 := hA.2
  have hB1 := hB.2
  have hxn : x < h.cells.length := by omega
  have htn : t < h.cells.length := by omega
  have hx0 : (0 : Int) ≤ x := by omega
  obtain ⟨n, hnn⟩ : ∃ n, n = h.cells.length := ⟨_, rfl⟩
  have HNN := Lib.hid hnn
  rw [← hnn] at hlen HV HBX hW hn hb2 hA1 hB1 hxn htn HSl HSx HL ⊢
  rw [← hR]
  clear hval hok hA hB hne1 hne2 hbfs hst hR hnn HN
  go_enter Tryd.func76, Tryd.ntmps76
  go_wp2_with fail
  rw [← hW]
  clear hW
  refine (HW.out _ _ (HV.out.keep HBW.out)).mono ?_
  rintro e w1 ⟨rfl, hb⟩
  have HB := Lib.hid (below_then HBW.out hb)
  have b1 := HBX.out.keep hb
  have b1_0 := b1.c0
  have b1_1 := b1.c1
  have b1_2 := b1.c2
  have b1_l := b1.lt
  clear hb
  go_wp2_with fail
  refine (HA.out _ _ (HV.out.keep HB.out)).mono ?_
  rintro e w2 ⟨rfl, hb⟩
  have HB2 := Lib.hid (below_then HB.out hb)
  have b2 := b1.keep hb
  have b2_0 := b2.c0
  have b2_1 := b2.c1
  have b2_2 := b2.c2
  have b2_l := b2.lt
  clear b1 b1_0 b1_1 b1_2 b1_l
  clear hb
  go_wp2_with fail
  refine (HC.out _ _ (HV.out.keep HB2.out)).mono ?_
  rintro e w3 ⟨rfl, hb⟩
  have HB3 := Lib.hid (below_then HB2.out hb)
  have b3 := b2.keep hb
  have b3_0 := b3.c0
  have b3_1 := b3.c1
  have b3_2 := b3.c2
  have b3_l := b3.lt
  clear b2 b2_0 b2_1 b2_2 b2_l
  clear hb
  go_wp2_with fail
  refine (HST.out _ _ (HV.out.keep HB3.out)).mono ?_
  rintro e w4 ⟨sv, rfl, hos, hb⟩
  rw [← HSTR.out] at hos
  obtain ⟨gs, cs, rfl, hgs1, hgs2⟩ := hos.head (by intro e; rw [e] at HSl; simp at HSl; omega)
  have HOS := Lib.hid hos
  have cx := own_cell hos (j := x) (by rw [HSl]; exact hxn)
  have HB4 := Lib.hid (below_then HB3.out hb)
  have b4 := b3.keep hb
  have b4_0 := b4.c0
  have b4_1 := b4.c1
  have b4_2 := b4.c2
  have b4_l := b4.lt
  clear b3 b3_0 b3_1 b3_2 b3_l
  rw [HSl]
  rw [HSl] at HOS
  obtain ⟨sx, hsx⟩ : ∃ sx, sx = gi st x := ⟨_, rfl⟩
  rw [← hsx] at cx HNo HYe HSx
  have HSXE := Lib.hid hsx
  clear hb hos HSl hsx
  by_cases hz : sx < 0
  · have H := Lib.hid (HNo.out hz)
    clear b4 b4_0 b4_1 b4_2 b4_l
    go_wp2
    go_ret
    exact ⟨_, rfl, by rw [HR.out, H.out]; exact ownInts_nil _ _, HB4.out⟩
  have hz' : ¬ sx < 0 := hz
  have HO : Hid (OnWay h x t but st sx.toNat x [(x : Int)]) := Lib.hid (by have e := HYe.out (Int.not_lt.1 hz) (by omega); simp only [Int.toNat_natCast, ← HSXE.out] at e; exact e)
  obtain ⟨hz0, hz1⟩ := And.intro (Int.not_lt.1 hz) HSx.2
  clear hz HSx HYe HNo
  obtain ⟨i0, hi, hz0', hz1', hz2'⟩ := info_parts Tryd.infoInt
  go_wp2
  obtain ⟨w5, hw5⟩ : ∃ y, y = w4.alloc (.cells #[.int .i64 x] 3) := ⟨_, rfl⟩
  have hsz4 : w.heap.size < w4.heap.size := b4.lt
  have HP5 : Hid (OwnInts (w.heap.size + 1) w5 (.slice (some ⟨w4.heap.size, 0, none⟩) 1 1) [(x : Int)]) := Lib.hid (by rw [hw5]; exact (ownInts_one w4 x).base (by omega))
  have HS5 : Hid (OwnInts w3.heap.size w5 (.slice (some ⟨gs, 0, none⟩) n cs) st) := Lib.hid (by rw [hw5]; exact HOS.out.keep (below_new _ _))
  have HE5 := Lib.hid (sep_new HOS.out (ownInts_one w4 x))
  have HB5 : Hid (Below w.heap.size w w5) := Lib.hid (by rw [hw5]; exact below_then HB4.out (below_new _ _))
  have HBX5 : Hid (Box3 w5 w.heap.size (.int .i64 h.wide) (.int .i64 h.deep) (.slice ao n cp)) := Lib.hid (by rw [hw5]; exact b4.keep (below_new _ _))
  rw [← hw5]
  clear b4 b4_0 b4_1 b4_2 b4_l
  clear hw5 HOS HB4 cx
  go_loopg [10, 11] sx.toNat (fun gk q c wr => ∃ y : Nat, c = .int .i64 y ∧ Hid (∃ P, OnWay h x t but st gk y P ∧ OwnInts (w.heap.size + 1) wr q P ∧ OwnInts w3.heap.size wr (.slice (some ⟨gs, 0, none⟩) n cs) st ∧ Sep (.slice (some ⟨gs, 0, none⟩) n cs) q ∧ Box3 wr w.heap.size (.int .i64 h.wide) (.int .i64 h.deep) (.slice ao n cp)) ∧ Below w.heap.size w wr)
  case atStart => exact ⟨x, rfl, Lib.hid ⟨_, HO.out, HP5.out, HS5.out, HE5.out, HBX5.out⟩, HB5.out⟩
  case round =>
    clear HO HP5 HS5 HE5 HB5 HBX5
    obtain ⟨y, rfl, hh, hbr⟩ := hrel
    obtain ⟨P, hO, hP, hS, hE, hbx⟩ := hh.out
    have hyn := hO.cell.2
    rw [← HNN.out] at hyn
    have HBr := Lib.hid hbr
    have HO := Lib.hid hO
    have HP := Lib.hid hP
    have HS := Lib.hid hS
    have HE := Lib.hid hE
    have hszr : w.heap.size < wr.heap.size := hbx.lt
    by_cases hyt : y = t
    · subst hyt
      have hg0 : gk = 0 := by
        have h1 := hO.left
        have h2 := HBF.out.home.2.2
        rw [h2] at h1
        omega
      subst hg0
      have HRR := Lib.hid (onway_end hO)
      obtain ⟨aq, cq, rfl⟩ := hP.slice
      clear hh hO hP hS hE hbx hbr
      go_wp2
      go_ret
      exact ⟨_, rfl, by rw [HR.out, ← HRR.out]; exact HP.out.base (by omega), HBr.out⟩
    · obtain ⟨m, rfl⟩ : ∃ m, gk = m + 1 := by
        refine ⟨gk - 1, ?_⟩
        have h1 := hO.left
        have h2 := HBF.out.zero y (by rw [← HNN.out]; omega)
        simp only [Int.toNat_natCast] at h1
        rw [h1] at h2
        have h3 : gk ≠ 0 := fun e => hyt (by have := h2 (by rw [e]; rfl); omega)
        omega
      obtain ⟨z, hz1, hz2, hz3, hz4, hz5⟩ := down_some HBF.out (c := y) hO.cell (by rw [hO.left]; omega)
      obtain ⟨j0, hj1, hj2, hj3, hj4⟩ := down_at hz1
      obtain ⟨z, rfl⟩ := Int.eq_ofNat_of_zero_le hz4.1
      have hleft := hO.left
      simp only [Int.toNat_natCast] at hleft hj3 hj4
      rw [hleft] at hj3 hj4
      have HNX := Lib.hid (onway_next hO hz1 hz4 (by simp only [Int.toNat_natCast]; rw [hj4, hleft]))
      have hzn := hz4.2
      rw [← HNN.out] at hzn
      have hmle := HBF.out.le y
      rw [hleft, ← HNN.out] at hmle
      have HJ3 := Lib.hid hj3
      have HJ4 := Lib.hid hj4
      have HM : Hid (∀ i, i < (besideF h y).length → 0 ≤ gi (besideF h y) i ∧ gi (besideF h y) i < (n : Int)) := Lib.hid (fun i hi => by rw [HNN.out]; exact beside_lt (gi_mem hi))
      have HL3 := Lib.hid hleft
      have hyt' : ((y : Int) != (t : Int)) = true := by simp; omega
      obtain ⟨q, cq', rfl⟩ := hP.slice
      have HC := Lib.hid (HBE.out wr (.agg #[.int .i64 h.wide, .int .i64 h.deep, .slice ao n cp]) (HV.out.keep HBr.out) y)
      have hB12 := beside_small (h := h) y
      have hj1' := hj1
      obtain ⟨B, hB⟩ : ∃ B, B = besideF h y := ⟨_, rfl⟩
      rw [← hB] at HC hj1 hj2 HJ3 hB12 HM
      have HJ2 := Lib.hid hj2
      have HD := Lib.hid hz1
      have b6 := hbx
      have b6_0 := b6.c0
      have b6_1 := b6.c1
      have b6_2 := b6.c2
      have b6_l := b6.lt
      clear hh hO hP hS hE hbx hbr hz1 hz2 hz3 hz4 hz5 hj2 hj3 hj4 hleft hj1' hB
      go_wp2_with fail
      refine (HC.out).mono ?_
      rintro e wb ⟨bv, rfl, hob, hbb⟩
      obtain ⟨ab, cb, rfl⟩ := hob.slice
      have HOB := Lib.hid hob
      have HS2 := Lib.hid (HS.out.keep hbb)
      have HP2 := Lib.hid (HP.out.keep hbb)
      have HBr2 := Lib.hid (below_then HBr.out hbb)
      have HBX2 := Lib.hid (b6.keep hbb)
      obtain ⟨D, hD⟩ : ∃ D : Int, D = (m : Int) + 1 := ⟨_, rfl⟩
      have cy : wb.cell? ⟨gs, y, none⟩ = some (.int .i64 D) := by rw [hD]; have e := own_cell HS2.out (j := y) (by rw [HL.out]; exact (by omega)); rw [HL3.out] at e; exact e
      have hD1 : 1 ≤ D := by omega
      have hD2 : D ≤ 12 := by have := hmle.2; omega
      have hwr : IntKind.i64.wrap (D - 1) = D - 1 := IntWalk.i64_in _ (by omega)
      have HDm := Lib.hid (show D - 1 = (m : Int) by omega)
      have hszb : w.heap.size < wb.heap.size := HBX2.out.lt
      clear b6 b6_0 b6_1 b6_2 b6_l
      clear hob hbb HS HP HBr hD hmle HC
      go_wp2
      go_loopw [11, 69] (fun c i wr => ∃ k : Nat, k ≤ j0 ∧ i = .int .i64 k ∧ c = .int .i64 y ∧ ∃ q, wr = wb.drewN q) (fun _ i _ => B.length - (intOf i).toNat)
      case atStart => exact ⟨0, Nat.zero_le _, rfl, rfl, 0, rfl⟩
      case round =>
        obtain ⟨k, hk, rfl, rfl, qd, rfl⟩ := hrel
        obtain ⟨gb, cb', eb, _, _⟩ := HOB.out.head (by intro e; rw [e] at hj1; simp at hj1)
        obtain ⟨rfl, rfl⟩ : ab = some ⟨gb, 0, none⟩ ∧ cb = cb' := by cases eb; exact ⟨rfl, rfl⟩
        have hkB : k < B.length := by omega
        have ck := own_cell HOB.out hkB
        have hm := HM.out k hkB
        obtain ⟨s, hs⟩ := Int.eq_ofNat_of_zero_le hm.1
        rw [hs] at ck hm
        have hsn := hm.2
        have hs0 : (0 : Int) ≤ s := by omega
        have hsn' : s < n := by omega
        have cs := own_cell HS2.out (j := s) (by rw [HL.out]; exact hsn')
        obtain ⟨V, hV⟩ : ∃ V, V = gi st s := ⟨_, rfl⟩
        rw [← hV] at cs
        have HVs := Lib.hid hV
        have HSs := Lib.hid hs
        clear hV hs hm eb
        by_cases hkj : k < j0
        · have hF : (V == D - 1) = false := by
            have e := HJ3.out k hkj
            rw [HSs.out] at e
            simp only [Int.toNat_natCast] at e
            rw [← HVs.out] at e
            have e2 := HDm.out
            simp only [beq_eq_false_iff_ne, ne_eq]
            intro e3; apply e; omega
          go_wp2
          go_quiet (fail)
          go_wp2
          go_roundw
          case rel => exact ⟨k+1, by omega, by go_num, rfl, by first | exact ⟨_, rfl⟩ | exact drewNN _ _ _⟩
          case measure => simp [intOf]; omega
        · obtain rfl : k = j0 := by omega
          have hzs : z = s := by have e := HJ2.out; rw [HSs.out] at e; omega
          subst hzs
          have hT : (V == D - 1) = true := by
            have e := HJ4.out
            rw [← HVs.out] at e
            have e2 := HDm.out
            simp only [beq_iff_eq]
            omega
          go_wp2
          go_quiet (fail)
          have hPl : P.length + (m + 1) ≤ 14 := HO.out.small
          obtain ⟨w6, hw6⟩ : ∃ w6, w6 = (wb.drewN qd).drewN nq := ⟨_, rfl⟩
          have hb6 : Below wb.heap.size wb w6 := by rw [hw6]; exact below_drewN (below_drewN (Below.refl _ _) _) _
          have HP6 := Lib.hid (HP2.out.keep hb6)
          have HS6 := Lib.hid (HS2.out.keep hb6)
          have HBX6 := Lib.hid (HBX2.out.keep hb6)
          have HBr6 := Lib.hid (below_then HBr2.out hb6)
          have hsz6 : w.heap.size + 1 ≤ w6.heap.size := HBX6.out.lt
          rw [← hw6]
          clear hw6 hb6 hT HP2 HS2 HBX2 HBr2 cy ck cs
          go_wp2_with (at_builtin; go_must (refine wpList_append_own_at _ rfl _ _ 23 rfl (w.heap.size + 1) 3 i0 (.int .i64 0) 1 8 Tryd.underlying23 hi hz0' hz1' hz2' rfl (by decide) _ _ _ rfl (HP6.out.2.alloc _) ⟨w6.heap.size, 0, none⟩ 1 1 [.int .i64 z] rfl rfl (cell_one_new _ _ _) ?_ ?_ ?_ ?_ ?_; (intro u hu; simp at hu; subst hu; rfl); (unfold maxLen; omega); (omega); (simp; omega); intro v' w7 hown' hgrow _hh hvb; have HP7 : Hid (OwnInts (w.heap.size + 1) w7 v' (P ++ [(z : Int)])) := Lib.hid (ownInts_append (by unfold lim; omega) hown'); have HS7 := Lib.hid ((HS6.out.keep (below_new _ _)).keepS hgrow HE.out); have HE7 := Lib.hid (sep_app HS6.out HE.out hvb); have HX7 := Lib.hid ((HBX6.out.keep (below_new _ _)).keepG hgrow HP6.out.blk (by omega)); have HR7 := Lib.hid (below_grownG (below_then HBr6.out (below_new _ _)) hgrow HP6.out.blk (by omega)); clear hown' hgrow _hh hvb))
          go_roundg m
          case rel => exact ⟨z, rfl, Lib.hid ⟨_, HNX.out, HP7.out, HS7.out, HE7.out, HX7.out⟩, HR7.out⟩
          case measure => omega

end Go.Proofs.YtnfjmcenjpoloaaDoor
end

section
/-
  HoleSlides.
-/
set_option linter.unusedVariables false
set_option linter.unusedSimpArgs false
namespace Go.Proofs.YtnfjmcenjpoloaaDoor
open Go Go.RowKit Go.Park
attribute [local go_sem ↓] Go.wp_at_zero Go.wp_at_succ

theorem hole_bad {h : PHall} {way : List Int} (hb : holeOk h way = false) : holeF h way = [] := by simp [holeF, hb]
theorem holeOk_no {h : PHall} {way : List Int} (hb : validB h = false ∨ way = [] ∨ hasCellB h (gi way 0) = false ∨ gi h.cells (gi way 0).toNat ≠ 0 ∨ wayTo h way (way.length - 1) = false) : holeOk h way = false := by
  unfold holeOk
  rcases hb with h1 | h1 | h1 | h1 | h1 <;> simp [h1]
end Go.Proofs.YtnfjmcenjpoloaaDoor
end

section
/-
  WayCells of the reference.
-/
set_option linter.unusedVariables false
namespace Go.Proofs.YtnfjmcenjpoloaaDoor
open Go Go.RowKit Go.Park




end Go.Proofs.YtnfjmcenjpoloaaDoor
end

section
/-
  HallPut.
-/
set_option linter.unusedVariables false
namespace Go.Proofs.YtnfjmcenjpoloaaDoor
open Go Go.RowKit Go.Park

end Go.Proofs.YtnfjmcenjpoloaaDoor
end
