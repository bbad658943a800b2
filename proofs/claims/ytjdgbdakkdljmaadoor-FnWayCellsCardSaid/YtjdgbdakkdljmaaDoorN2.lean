/-
  Shortest ways: the walks over the steps.
-/
import Derived.Test.YtjdgbdakkdljmaaDoorN
import Derived.Test.YtjdgbdakkdljmaaDoorK
import Derived.Maps.AppendAt
import Derived.BigRegion
import Derived.Deep.CutRange
set_option linter.unusedVariables false
namespace Go.Proofs.YtjdgbdakkdljmaaDoor
open Go Go.RowKit Go.Park

/-- two values that share no block -/
def Sep (u v : Value) : Prop := ∀ g, u.ownBlock = some g → v.ownBlock = some g → False
theorem Sep.symm {u v : Value} (h : Sep u v) : Sep v u := fun g a b => h g b a
theorem sep_ne {u v : Value} (h : Sep u v) : u.ownBlock = none ∨ u.ownBlock ≠ v.ownBlock := by
  cases hu : u.ownBlock with
  | none => exact .inl rfl
  | some g => right; intro e; exact h g hu e.symm
theorem OwnInts.keepS {lo : Nat} {w w' : World} {u v : Value} {l : List Int} (h : OwnInts lo w u l) (hg : w.grownBy w' v.ownBlock) (hs : Sep u v) : OwnInts lo w' u l := ⟨h.1, h.2.kept hg (sep_ne hs)⟩
theorem OwnInts.setS {lo : Nat} {w : World} {u : Value} {l : List Int} {g n c : Nat} (h : OwnInts lo w u l) (hs : Sep u (.slice (some ⟨g, 0, none⟩) n c)) (j : Nat) (x : Value) : OwnInts lo (w.setCell ⟨g, j, none⟩ x) u l :=
  h.keepS (v := .slice (some ⟨g, 0, none⟩) n c) (grown_set (g := g) (grown_refl w (some g)) j x) hs
theorem sep_new {w w' : World} {lo : Nat} {u v : Value} {l m : List Int} (hu : OwnInts lo w u l) (hv : OwnInts w.heap.size w' v m) : Sep u v := fun g a b => by
  have h1 := (hu.blk g a).2
  have h2 := (hv.blk g b).1
  omega
theorem sep_app {w : World} {lo : Nat} {u v v' : Value} {l : List Int} {o : Obj} (hu : OwnInts lo w u l) (hs : Sep u v) (hv : v'.ownBlock = v.ownBlock ∨ v'.ownBlock = some (w.alloc o).heap.size) : Sep u v' := fun g a b => by
  rcases hv with hv | hv
  · exact hs g a (by rw [← hv]; exact b)
  · have h1 := (hu.blk g a).2
    rw [b] at hv
    simp at hv
    omega
theorem ownInts_one (w : World) (x : Int) : OwnInts w.heap.size (w.alloc (.cells #[.int .i64 x] 3)) (.slice (some ⟨w.heap.size, 0, none⟩) 1 1) [x] :=
  ⟨by simp [lim], World.ownsRow_lit w #[.int .i64 x] 1 (Nat.le_refl _) (by unfold maxLen; omega) rfl⟩
theorem below_setS {B : Nat} {W w : World} {g : Nat} (h : Below B W w) (hg : B ≤ g) (j : Nat) (x : Value) : Below B W (w.setCell ⟨g, j, none⟩ x) := h.setCell (by exact hg) _

def Fill (L : List Int) (n k : Nat) : Prop := L.length = n ∧ ∀ j, j < k → gi L j = -1
theorem fill_set {L : List Int} {n k : Nat} (h : Fill L n k) (hk : k < n) : Fill (L.set k (-1)) n (k + 1) := by
  refine ⟨by simpa using h.1, fun j hj => ?_⟩
  rw [gi_upd (by rw [h.1]; exact hk)]
  split
  · rfl
  · exact h.2 j (by omega)
theorem fill_all {L : List Int} {n : Nat} (h : Fill L n n) : L = List.replicate n (-1) := by
  refine ext_gi (by rw [h.1]; simp) fun j hj => ?_
  rw [h.1] at hj
  rw [h.2 j hj, gi_replicate hj]

/-- what the inner rounds keep -/
structure Vis (h : PHall) (tgt but : Int) (k : Nat) (y d : Int) (st q : List Int) : Prop where
  bfs : Bfs h tgt but ((k : Int) + 1) st q
  lt : k < q.length
  at_ : gi q k = y
  dist : gi st y.toNat = d
theorem Vis.next {h : PHall} {tgt but : Int} {k : Nat} {y d x : Int} {st q : List Int} (v : Vis h tgt but k y d st q) (hd : d ≤ k) (hx : x ∈ besideF h y) (hb : x ≠ but) (hn : gi st x.toNat < 0) :
    Vis h tgt but k y d (st.set x.toNat (d + 1)) (q ++ [x]) := by
  have e := v.at_
  subst e
  obtain ⟨b2, e2⟩ := bfs_visit v.bfs v.lt v.dist (by omega) hx hb hn
  exact ⟨b2, by rw [List.length_append]; have := v.lt; omega, gi_append_left v.lt, e2⟩

set_option maxRecDepth 100000 in
set_option maxHeartbeats 4000000 in
theorem stepsTo_any (w : World) (v : Value) (h : PHall) (t : Nat) (but : Int) (hv : HallAt w v h) (hval : validB h = true) (ht : t < h.cells.length) (hbt : but ≠ t) :
    Calls Tryd.prog 87 #[v, .int .i64 t, .int .i64 but] w (GivesInts (stepsF h t but) w) := by
  have HV := Lib.hid hv
  obtain ⟨cv, rfl, ao, cp, rfl, hn, hcm, hx⟩ := hv
  clear hx hn hcm
  have hlen := (valid_len hval).2
  have HS0 := Lib.hid (bfs_start (h := h) (tgt := t) (but := but) (by omega) (by omega) hbt)
  have HF0 := Lib.hid (show stepsF h t but = bfsF h but (h.cells.length + 1) 0 (startF h.cells.length t, [(t : Int)]) from rfl)
  have HB := Lib.hid (fun (W' : World) (v' : Value) (hh : HallAt W' v' h) (y : Int) => cellsBeside_any W' v' h y hh)
  obtain ⟨W, hW⟩ : ∃ W, W = w.alloc (.cells #[.int .i64 h.wide, .int .i64 h.deep, .slice ao h.cells.length cp] 25) := ⟨_, rfl⟩
  have hWs : W.heap.size = w.heap.size + 1 := by rw [hW]; simp
  have HBW : Hid (Below w.heap.size w W) := Lib.hid (by rw [hW]; exact below_new _ _)
  have HBX := Lib.hid (show Box3 W w.heap.size _ _ _ by rw [hW]; exact box3_new _ _ _ _ _)
  obtain ⟨n, hnn⟩ : ∃ n, n = h.cells.length := ⟨_, rfl⟩
  have HBe := Lib.hid (fun y => beside_small (h := h) y)
  rw [← hnn] at hlen HF0 HBX hW ht HS0 HV ⊢
  have HN := Lib.hid hnn
  have HVal := Lib.hid hval
  clear hnn hval
  obtain ⟨i0, hi, hz0, hz1, hz2⟩ := info_parts Tryd.infoInt
  have HWs := Lib.hid hWs
  clear hWs
  have x0 := HBX.out
  have x0_0 := x0.c0
  have x0_1 := x0.c1
  have x0_2 := x0.c2
  have x0_l := x0.lt
  clear x0 x0_0 x0_1 x0_2 x0_l
  go_enter Tryd.func87, Tryd.ntmps87
  go_wp2_with (at_make; go_must (refine wpList_make_full _ rfl _ _ 23 rfl (w.heap.size + 1) 3 i0 (.int .i64 0) 1 Tryd.underlying23 hi hz0 hz1 _ _ _ _ n rfl rfl rfl rfl ?_ ?_ ?_ ?_; (rw [hz2]; omega); (unfold maxLen; omega); (simp); intro w1 hown hgr))
  obtain ⟨G, hG⟩ : ∃ G, G = w.heap.size + 1 := ⟨_, rfl⟩
  have hGw : w.heap.size < G := by omega
  simp only [World.size_alloc] at hown
  rw [← hG] at hown ⊢
  rw [← hW] at hgr
  have hWG : G = W.heap.size := by rw [HWs.out, hG]
  have hb1 : Below G W w1 := by rw [hWG]; exact below_of_grown hgr
  have HWG := Lib.hid hWG
  clear hG hWG hW
  have HO1 := Lib.hid (ownInts_zero hlen hown)
  clear hown hgr
  go_wp2
  go_loopw [19] (fun i wr => ∃ k : Nat, k ≤ n ∧ i = .int .i64 k ∧ Hid (∃ L, Fill L n k ∧ OwnInts G wr (.slice (some ⟨G, 0, none⟩) n n) L) ∧ Below G W wr) (fun i _ => n - (intOf i).toNat)
  case atStart => exact ⟨0, Nat.zero_le _, rfl, Lib.hid ⟨_, ⟨by rw [List.length_replicate], fun j hj => by omega⟩, HO1.out⟩, hb1⟩
  case round =>
    clear HO1 hb1
    obtain ⟨k, hk, rfl, ho, hbr⟩ := hrel
    by_cases hlt : k < n
    · obtain ⟨L, hL, hO⟩ := ho.out
      have c1 := own_cell hO (j := k) (by rw [hL.1]; exact hlt)
      have f1 := own_free hO k
      have HL := Lib.hid (fill_set hL hlt)
      have HO := Lib.hid (own_store hO k (-1))
      have HB2 := Lib.hid (below_setS hbr (Nat.le_refl _) k (.int .i64 (-1)))
      clear hL hO ho hbr
      go_wp2
      go_roundw
      case rel => exact ⟨k+1, by omega, by go_num, Lib.hid ⟨_, HL.out, HO.out⟩, HB2.out⟩
      case measure => simp [intOf]; omega
    · obtain rfl : k = n := by omega
      clear hlt hk
      obtain ⟨L, hL, hO⟩ := ho.out
      have e := fill_all hL
      subst e
      have c1 := own_cell hO (j := t) (by simpa using ht)
      have f1 := own_free hO t
      have x2 := HBX.out.keep (by rw [← HWG.out]; exact hbr)
      have x2_0 := x2.c0
      have x2_1 := x2.c1
      have x2_2 := x2.c2
      have x2_l := x2.lt
      have ht0 : (0 : Int) ≤ t := by omega
      have ht1 : (t : Int) < k := by omega
      have HO := Lib.hid hO
      have HBr := Lib.hid hbr
      clear hL hO ho hbr
      go_upto_region 8 with fail
      obtain ⟨w2, hw2⟩ : ∃ x, x = wr.setCell ⟨G, t, none⟩ (.int .i64 0) := ⟨_, rfl⟩
      have HO2 : Hid (OwnInts G w2 (.slice (some ⟨G, 0, none⟩) k k) (startF k t)) := Lib.hid (by rw [hw2]; exact own_store HO.out t 0)
      have HB2 : Hid (Below G W w2) := Lib.hid (by rw [hw2]; exact below_setS HBr.out (Nat.le_refl _) _ _)
      have hsz2 : G ≤ w2.heap.size := by rw [HWG.out]; exact HB2.out.size
      rw [← hw2]
      clear x2 x2_0 x2_1 x2_2 x2_l
      clear hw2 HO HBr c1 f1
      go_wp2
      obtain ⟨w3, hw3⟩ : ∃ x, x = w2.alloc (.cells #[.int .i64 t] 3) := ⟨_, rfl⟩
      have HQ3 : Hid (OwnInts G w3 (.slice (some ⟨w2.heap.size, 0, none⟩) 1 1) [(t : Int)]) := Lib.hid (by rw [hw3]; exact (ownInts_one w2 t).base hsz2)
      have HO3 : Hid (OwnInts G w3 (.slice (some ⟨G, 0, none⟩) k k) (startF k t)) := Lib.hid (by rw [hw3]; exact HO2.out.keep (below_new _ _))
      have HS3 := Lib.hid (sep_new HO2.out (ownInts_one w2 t))
      have HB3 : Hid (Below G W w3) := Lib.hid (by rw [hw3]; exact HB2.out.trans ((below_new _ _).mono hsz2))
      rw [← hw3]
      clear hw3 HO2 HB2 hsz2
      go_loopw [9, 10] (fun q i wr => ∃ j : Nat, i = .int .i64 j ∧ Hid (∃ st qs, j ≤ qs.length ∧ Bfs h t but j st qs ∧ bfsF h but (k + 1 - j) j (st, qs) = stepsF h t but ∧ OwnInts G wr (.slice (some ⟨G, 0, none⟩) k k) st ∧ OwnInts G wr q qs ∧ Sep (.slice (some ⟨G, 0, none⟩) k k) q) ∧ Below G W wr) (fun _ i _ => k + 1 - (intOf i).toNat)
      case atStart => exact ⟨0, rfl, Lib.hid ⟨_, _, Nat.zero_le _, HS0.out, HF0.out.symm, HO3.out, HQ3.out, HS3.out⟩, HB3.out⟩
      case round =>
        clear HS0 HF0 HO3 HQ3 HS3 HB3
        obtain ⟨j, rfl, hh, hbr⟩ := hrel
        obtain ⟨st, qs, hj, hbf, hfin, hS, hQ, hsep⟩ := hh.out
        have hql := hbf.qlen
        rw [← HN.out] at hql
        have HBF := Lib.hid hbf
        have HFI := Lib.hid hfin
        have HS := Lib.hid hS
        have HQ := Lib.hid hQ
        have HSE := Lib.hid hsep
        have HBr := Lib.hid hbr
        have hsz : G ≤ wr.heap.size := by rw [HWG.out]; exact hbr.size
        by_cases hlt : j < qs.length
        · obtain ⟨g, cap, rfl, hg1, hg2⟩ := HQ.out.head (by intro e; rw [e] at hlt; simp at hlt)
          have hm := HBF.out.mem j hlt
          obtain ⟨y, hy⟩ := Int.eq_ofNat_of_zero_le hm.1.1
          have cq := own_cell HQ.out hlt
          rw [hy] at cq
          have HY := Lib.hid hy
          have hyk : y < k := by have := hm.1.2; rw [hy, ← HN.out] at this; omega
          have x4 := HBX.out.keep (by rw [← HWG.out]; exact hbr)
          have x4_0 := x4.c0
          have x4_1 := x4.c1
          have x4_2 := x4.c2
          have x4_l := x4.lt
          obtain ⟨L, hL⟩ : ∃ L, L = qs.length := ⟨_, rfl⟩
          rw [← hL] at hlt hql ⊢
          have HL := Lib.hid hL
          have HRW := Lib.hid (HBW.out.trans (HBr.out.mono (Nat.le_of_lt hGw)))
          clear hL hbf hfin hS hQ hsep hbr hy hm hj hh
          go_wp2
          go_region_held3 (fun w' => w'.cell? ⟨w.heap.size, 0, none⟩ = some (.int .i64 h.wide) ∧ w'.cell? ⟨w.heap.size, 1, none⟩ = some (.int .i64 h.deep) ∧ w'.cell? ⟨w.heap.size, 2, none⟩ = some (.slice ao k cp) ∧ w'.cell? ⟨g, j, none⟩ = some (.int .i64 y)) (((try dsimp only); (repeat' apply And.intro); all_goals first | (with_reducible assumption) | go_keep)) (first
            | (go_at_call 48; refine (HB.out _ _ (HV.out.keep (below_then HRW.out (below_drew1 _))) y).mono ?_; rintro e wb ⟨cv2, rfl, hob, hbb⟩; obtain ⟨ao2, cp2, rfl⟩ := hob.slice; have x5 := (x4.keep (below_drew1 _)).keep hbb; have x5_0 := x5.c0; have x5_1 := x5.c1; have x5_2 := x5.c2; have cq2 : wb.cell? ⟨g, j, none⟩ = some (.int .i64 y) := (hbb.cell (p := ⟨g, j, none⟩) hg2).trans cq; have HBB := Lib.hid (below_then (below_drew1 wr) hbb); have HOB := Lib.hid hob; clear hbb hob x4 x4_0 x4_1 x4_2 x4_l))
          clear x5 x5_0 x5_1 x5_2 cq cq2
          have HS2 := Lib.hid (HS.out.keep HBB.out)
          have HQ2 := Lib.hid (HQ.out.keep HBB.out)
          have HOB1 : Hid (OwnInts wr.heap.size wb (.slice ao2 (besideF h y).length cp2) (besideF h y)) := Lib.hid HOB.out
          have HSB := Lib.hid (sep_new HS.out HOB1.out)
          have HQB := Lib.hid (sep_new HQ.out HOB1.out).symm
          have HBB2 := Lib.hid (HBr.out.trans (HBB.out.mono hsz))
          have hm := HBF.out.mem j (by rw [← HL.out]; exact hlt)
          rw [HY.out] at hm
          have hle := HBF.out.le y
          have HV0 : Hid (Vis h t but j y (gi st y) st qs) := Lib.hid ⟨HBF.out.mono (by omega), by rw [← HL.out]; exact hlt, HY.out, rfl⟩
          have HNX : Hid (bfsF h but (k + 1 - (j + 1)) (j + 1) (visitF but (gi st y) (besideF h y) (st, qs)) = stepsF h t but) := Lib.hid (by
            have e := HFI.out
            rw [show k + 1 - j = (k + 1 - (j + 1)) + 1 by omega, bfs_next (s := (st, qs)) (by show j < qs.length; rw [← HL.out]; exact hlt)] at e
            simp only [HY.out, Int.toNat_natCast] at e
            exact e)
          have HM : Hid (∀ i, i < (besideF h y).length → gi (besideF h y) i ∈ besideF h y) := Lib.hid (fun i hi => gi_mem hi)
          obtain ⟨d, hd⟩ : ∃ d, d = gi st y := ⟨_, rfl⟩
          obtain ⟨fin, hfin⟩ : ∃ fin, fin = visitF but (gi st y) (besideF h y) (st, qs) := ⟨_, rfl⟩
          have hBl := HBe.out y
          obtain ⟨B, hB⟩ : ∃ B, B = besideF h y := ⟨_, rfl⟩
          rw [← hfin] at HNX
          rw [← hB] at hfin hBl HOB1 HSB HQB HM ⊢
          rw [← hd] at hfin HV0 hle
          have hd0 : 0 ≤ d := by rw [hd]; exact hm.2
          have hdj : d ≤ j := hle.2
          have HFN := Lib.hid hfin
          have HBq := Lib.hid hB
          clear hfin hd hm hle hB HOB HBB HBr HS HQ HFI HBF HRW
          go_wp2
          go_loopw [9, 44] (fun q i wr => ∃ m : Nat, m ≤ B.length ∧ i = .int .i64 m ∧ Hid (∃ st' qs', visitF but d (B.drop m) (st', qs') = fin ∧ Vis h t but j y d st' qs' ∧ OwnInts G wr (.slice (some ⟨G, 0, none⟩) k k) st' ∧ OwnInts G wr q qs' ∧ OwnInts G wr (.slice ao2 B.length cp2) B ∧ Sep (.slice (some ⟨G, 0, none⟩) k k) q ∧ Sep (.slice ao2 B.length cp2) q) ∧ Below G W wr) (fun _ i _ => B.length - (intOf i).toNat)
          case atStart => exact ⟨0, Nat.zero_le _, rfl, Lib.hid ⟨st, qs, HFN.out.symm, HV0.out, HS2.out, by rw [HL.out]; exact HQ2.out, HOB1.out.base hsz, HSE.out, HQB.out⟩, HBB2.out⟩
          case round =>
            clear HFN HV0 HS2 HQ2 HOB1 HSE HQB HBB2
            obtain ⟨m, hm, rfl, hh, hbr⟩ := hrel
            obtain ⟨st', qs', hvis, hv, hS, hQ, hBB, hs1, hs2⟩ := hh.out
            by_cases hmB : m < B.length
            · obtain ⟨gb, cb, eb, _, _⟩ := hBB.head (by intro e; rw [e] at hmB; simp at hmB)
              obtain ⟨rfl, rfl⟩ : ao2 = some ⟨gb, 0, none⟩ ∧ cp2 = cb := by cases eb; exact ⟨rfl, rfl⟩
              obtain ⟨g', cap', rfl, hg1', hg2'⟩ := hQ.head (by intro e; have := hv.lt; rw [e] at this; simp at this)
              have hmem : gi B m ∈ besideF h y := by rw [← HBq.out]; exact HM.out m hmB
              have hxl := beside_lt hmem
              obtain ⟨x, hx⟩ := Int.eq_ofNat_of_zero_le hxl.1
              have cb1 := own_cell hBB hmB
              rw [hx] at hxl hmem cb1
              have hxk : x < k := by rw [HN.out]; omega
              have hlS := hv.bfs.len
              rw [← HN.out] at hlS
              have cs1 := own_cell hS (j := x) (by rw [hlS]; exact hxk)
              have cs2 := own_cell hS (j := y) (by rw [hlS]; exact hyk)
              rw [show gi st' y = d from hv.dist] at cs2
              have fs1 := own_free hS x
              have cq1 := own_cell hQ hv.lt
              rw [hv.at_] at cq1
              have hstep := visit_cons (but := but) (d := d) hmB (st', qs')
              rw [hvis, hx] at hstep
              simp only [Int.toNat_natCast] at hstep
              have hsz1 : G ≤ wr.heap.size := by rw [HWG.out]; exact hbr.size
              have hql' := hv.bfs.cnt
              rw [← HN.out] at hql'
              have hng : gi st' x < 0 → 0 < negs st' := fun hn => by
                have := negs_set (l := st') (i := x) (x := 0) (by rw [hlS]; exact hxk) hn (Int.le_refl _)
                omega
              have HV := Lib.hid hv
              have HS := Lib.hid hS
              have HQ := Lib.hid hQ
              have HB1 := Lib.hid hBB
              have HS1 := Lib.hid hs1
              have HS2 := Lib.hid hs2
              have HBr := Lib.hid hbr
              have HME := Lib.hid hmem
              obtain ⟨L', hL'⟩ : ∃ L', L' = qs'.length := ⟨_, rfl⟩
              have hL'k : L' ≤ k := by omega
              have hjL : j < L' := by rw [hL']; exact hv.lt
              rw [← hL']
              obtain ⟨sx, hsx⟩ : ∃ sx, sx = gi st' x := ⟨_, rfl⟩
              rw [← hsx] at cs1 hstep hng
              have hx0 : (0 : Int) ≤ x := by omega
              have hx1 : (x : Int) < k := by omega
              have hy0 : (0 : Int) ≤ y := by omega
              have hy1 : (y : Int) < k := by omega
              have HL' := Lib.hid hL'
              have HSX := Lib.hid hsx
              by_cases hxb : (x : Int) = but
              · have hne : ((x : Int) != but) = false := by simpa using hxb
                rw [if_neg (by intro e; exact e.1 hxb)] at hstep
                have HST := Lib.hid hstep
                clear hstep hxb hv hS hQ hBB hs1 hs2 hbr hmem hvis hx hlS hql' hng hL' hsx cs1 cs2 cq1 fs1 hh eb
                go_wp2
                go_roundw
                case rel => exact ⟨m+1, by omega, by go_num, Lib.hid ⟨st', qs', HST.out.symm, HV.out, HS.out, by rw [HL'.out]; exact HQ.out, HB1.out, HS1.out, HS2.out⟩, HBr.out⟩
                case measure => simp [intOf]; omega
              · have hne : ((x : Int) != but) = true := by simpa using hxb
                by_cases hneg : sx < 0
                · rw [if_pos ⟨hxb, hneg⟩] at hstep
                  have HST := Lib.hid hstep
                  have HV2 := Lib.hid (hv.next hdj hmem hxb (by rw [Int.toNat_natCast, ← HSX.out]; exact hneg))
                  have hqk : qs'.length + 1 ≤ k := by have := hng hneg; omega
                  clear hql' hng hstep hxb hv hS hQ hBB hs1 hs2 hbr hmem hvis hx hlS hL' hsx hh eb
                  go_upto_region 17 with fail
                  obtain ⟨w4, hw4⟩ : ∃ w4, w4 = wr.setCell ⟨G, x, none⟩ (.int .i64 (d + 1)) := ⟨_, rfl⟩
                  have HS4 : Hid (OwnInts G w4 (.slice (some ⟨G, 0, none⟩) k k) (st'.set x (d + 1))) := Lib.hid (by rw [hw4]; exact own_store HS.out x (d + 1))
                  have HQ4 : Hid (OwnInts G w4 (.slice (some ⟨g', 0, none⟩) L' cap') qs') := Lib.hid (by rw [hw4, HL'.out]; exact HQ.out.setS HS1.out.symm x _)
                  have HB4 : Hid (OwnInts G w4 (.slice (some ⟨gb, 0, none⟩) B.length cp2) B) := Lib.hid (by rw [hw4]; exact HB1.out.setS HSB.out.symm x _)
                  have HBr4 : Hid (Below G W w4) := Lib.hid (by rw [hw4]; exact below_setS HBr.out (Nat.le_refl _) x _)
                  have hsz4 : G ≤ w4.heap.size := by rw [HWG.out]; exact HBr4.out.size
                  rw [← hw4]
                  clear hw4 cs1 cs2 cq1 cb1 fs1 HS HQ HB1 HBr
                  go_wp2_with (at_builtin; go_must (refine wpList_append_own_at _ rfl _ _ 23 rfl G 3 i0 (.int .i64 0) 1 8 Tryd.underlying23 hi hz0 hz1 hz2 rfl (by decide) _ _ _ rfl (HQ4.out.2.alloc _) ⟨w4.heap.size, 0, none⟩ 1 1 [.int .i64 x] rfl rfl (cell_one_new _ _ _) ?_ ?_ ?_ ?_ ?_; (intro u hu; simp at hu; subst hu; rfl); (unfold maxLen; omega); (omega); (simp; omega); intro v' w5 hown' hgrow _hh hvb; have HQ5 : Hid (OwnInts G w5 v' (qs' ++ [(x : Int)])) := Lib.hid (ownInts_append (by unfold lim; omega) hown'); have HS5 := Lib.hid ((HS4.out.keep (below_new _ _)).keepS hgrow HS1.out); have HB5 := Lib.hid ((HB4.out.keep (below_new _ _)).keepS hgrow HS2.out); have HE5 := Lib.hid (sep_app HS4.out HS1.out hvb); have HF5 := Lib.hid (sep_app HB4.out HS2.out hvb); have HR5 := Lib.hid (below_app HBr4.out hsz4 HQ4.out.blk hgrow); clear hown' hgrow _hh hvb))
                  go_roundw
                  case rel => exact ⟨m+1, by omega, by go_num, Lib.hid ⟨_, _, HST.out.symm, HV2.out, HS5.out, HQ5.out, HB5.out, HE5.out, HF5.out⟩, HR5.out⟩
                  case measure => simp [intOf]; omega
                · rw [if_neg (by intro e; exact hneg e.2)] at hstep
                  have HST := Lib.hid hstep
                  clear hstep hxb hv hS hQ hBB hs1 hs2 hbr hmem hvis hx hlS hql' hng hL' hsx cs2 cq1 fs1 hh eb
                  go_wp2
                  go_roundw
                  case rel => exact ⟨m+1, by omega, by go_num, Lib.hid ⟨st', qs', HST.out.symm, HV.out, HS.out, by rw [HL'.out]; exact HQ.out, HB1.out, HS1.out, HS2.out⟩, HBr.out⟩
                  case measure => simp [intOf]; omega
            · obtain rfl : m = B.length := by omega
              rw [visit_all] at hvis
              have HFI : Hid (bfsF h but (k + 1 - (j + 1)) (j + 1) (st', qs') = stepsF h t but) := Lib.hid (by rw [hvis]; exact HNX.out)
              have HV := Lib.hid hv
              have HS := Lib.hid hS
              have HQ := Lib.hid hQ
              have HS1 := Lib.hid hs1
              have HBr := Lib.hid hbr
              clear hv hS hQ hBB hs1 hs2 hbr hvis hh
              go_wp2
              go_roundw
              case rel => exact ⟨j+1, by go_num, Lib.hid ⟨st', qs', HV.out.lt, by have := HV.out.bfs; simpa using this, HFI.out, HS.out, HQ.out, HS1.out⟩, HBr.out⟩
              case measure => simp [intOf]; omega
        · obtain ⟨aq, cq, rfl⟩ := HQ.out.slice
          obtain rfl : j = qs.length := by omega
          have HR := Lib.hid (HBW.out.trans (HBr.out.mono (Nat.le_of_lt hGw)))
          have HE : Hid (st = stepsF h t but) := Lib.hid (by have e := HFI.out; rw [bfs_done (s := (st, qs)) (by simp)] at e; exact e)
          clear hbf hfin hS hQ hsep hbr hh hj hlt
          go_wp2
          go_ret
          have hl := HBF.out.len
          rw [← HN.out] at hl
          refine ⟨_, rfl, ?_, HR.out⟩
          rw [← HE.out]
          exact HS.out.base (Nat.le_of_lt hGw)

set_option maxRecDepth 100000 in
set_option maxHeartbeats 4000000 in
theorem l2Far_any (w : World) (v : Value) (h : PHall) (t : Nat) (but : Int) (hv : HallAt w v h) (hval : validB h = true) (ht : t < h.cells.length) (hbt : but ≠ t) :
    Calls Tryd.prog 88 #[v, .int .i64 t, .int .i64 but] w (GivesInts (stepsF h t but) w) := by
  have HV := Lib.hid hv
  obtain ⟨cv, rfl, ao, cp, rfl, hn, hcm, hx⟩ := hv
  clear hx hn hcm
  have hlen := (valid_len hval).2
  have HS0 := Lib.hid (bfs_start (h := h) (tgt := t) (but := but) (by omega) (by omega) hbt)
  have HF0 := Lib.hid (show stepsF h t but = bfsF h but (h.cells.length + 1) 0 (startF h.cells.length t, [(t : Int)]) from rfl)
  have HB := Lib.hid (fun (W' : World) (v' : Value) (hh : HallAt W' v' h) (y : Int) => specCellsBeside_any W' v' h y hh)
  obtain ⟨W, hW⟩ : ∃ W, W = w.alloc (.cells #[.int .i64 h.wide, .int .i64 h.deep, .slice ao h.cells.length cp] 25) := ⟨_, rfl⟩
  have hWs : W.heap.size = w.heap.size + 1 := by rw [hW]; simp
  have HBW : Hid (Below w.heap.size w W) := Lib.hid (by rw [hW]; exact below_new _ _)
  have HBX := Lib.hid (show Box3 W w.heap.size _ _ _ by rw [hW]; exact box3_new _ _ _ _ _)
  obtain ⟨n, hnn⟩ : ∃ n, n = h.cells.length := ⟨_, rfl⟩
  have HBe := Lib.hid (fun y => beside_small (h := h) y)
  rw [← hnn] at hlen HF0 HBX hW ht HS0 HV ⊢
  have HN := Lib.hid hnn
  have HVal := Lib.hid hval
  clear hnn hval
  obtain ⟨i0, hi, hz0, hz1, hz2⟩ := info_parts Tryd.infoInt
  have HWs := Lib.hid hWs
  clear hWs
  have x0 := HBX.out
  have x0_0 := x0.c0
  have x0_1 := x0.c1
  have x0_2 := x0.c2
  have x0_l := x0.lt
  clear x0 x0_0 x0_1 x0_2 x0_l
  obtain ⟨G, hG⟩ : ∃ G, G = w.heap.size + 1 := ⟨_, rfl⟩
  have hGw : w.heap.size < G := by omega
  have hWG : G = W.heap.size := by rw [HWs.out, hG]
  have HWG := Lib.hid hWG
  have HE : Hid (OwnInts G (W.alloc (.cells #[] 3)) (.slice (some ⟨w.heap.size + 1, 0, none⟩) 0 0) []) := Lib.hid (by rw [← hG, hWG]; exact ownInts_empty W)
  have hb1 : Hid (Below G W (W.alloc (.cells #[] 3))) := Lib.hid (by rw [hWG]; exact below_new _ _)
  have HSZ : Hid (W.heap.size = w.heap.size + 1) := HWs
  clear hG hWG
  go_enter Tryd.func88, Tryd.ntmps88
  go_wp2
  rw [← hW]
  clear hW
  go_loopw [7, 8] (fun q i wr => ∃ k : Nat, k ≤ n ∧ i = .int .i64 k ∧ Hid (OwnInts G wr q (List.replicate k (-1))) ∧ Below G W wr) (fun _ i _ => n - (intOf i).toNat)
  case atStart => exact ⟨0, Nat.zero_le _, rfl, HE, hb1.out⟩
  case round =>
    clear HE hb1
    obtain ⟨k, hk, rfl, ho, hbr⟩ := hrel
    have hsz : G ≤ wr.heap.size := by rw [HWG.out]; exact hbr.size
    have x1 := HBX.out.keep (by rw [← HWG.out]; exact hbr)
    have x1_0 := x1.c0
    have x1_1 := x1.c1
    have x1_2 := x1.c2
    have x1_l := x1.lt
    have HBr := Lib.hid hbr
    clear hbr
    by_cases hlt : k < n
    · have HR : Hid (List.replicate (k + 1) (-1 : Int) = List.replicate k (-1) ++ [-1]) := Lib.hid (List.replicate_succ')
      obtain ⟨L, hL⟩ : ∃ L, L = List.replicate k (-1 : Int) := ⟨_, rfl⟩
      have hLl : L.length = k := by rw [hL, List.length_replicate]
      have hLk : L.length ≤ 12 := by omega
      rw [← hL] at ho HR
      clear hL hLl
      go_wp2_with (at_builtin; go_must (refine wpList_append_own _ rfl _ _ 23 rfl G 3 i0 (.int .i64 0) 1 8 Tryd.underlying23 hi hz0 hz1 hz2 rfl (by decide) _ _ _ rfl (ho.out.2.alloc _) ⟨wr.heap.size, 0, none⟩ 1 1 [.int .i64 (-1)] rfl rfl (cell_one_new _ _ _) ?_ ?_ ?_ ?_ ?_; (intro u hu; simp at hu; subst hu; rfl); (unfold maxLen; omega); (omega); (simp; omega); intro v' w2 hown' hgrow _hh; have HO := Lib.hid (ownInts_append (by unfold lim; omega) hown'); have HB2 := Lib.hid (below_app HBr.out hsz ho.out.blk hgrow); clear hown' hgrow _hh))
      go_roundw
      case rel => exact ⟨k+1, by omega, by go_num, by rw [HR.out]; exact HO, HB2.out⟩
      case measure => simp [intOf]; omega
    · obtain rfl : k = n := by omega
      clear hlt hk
      obtain ⟨g0, c0, rfl, hG0, _⟩ := ho.out.head (by intro e; have := congrArg List.length e; simp at this; omega)
      simp only [List.length_replicate] at *
      have hO := ho.out
      have c1 := own_cell hO (j := t) (by simpa using ht)
      have f1 := own_free hO t
      have x2 := HBX.out.keep (by rw [← HWG.out]; exact HBr.out)
      have x2_0 := x2.c0
      have x2_1 := x2.c1
      have x2_2 := x2.c2
      have x2_l := x2.lt
      clear x1 x1_0 x1_1 x1_2 x1_l
      have ht0 : (0 : Int) ≤ t := by omega
      have ht1 : (t : Int) < k := by omega
      have hbr := HBr.out
      have HO := Lib.hid hO
      clear hO ho hbr
      go_upto_region 7 with fail
      obtain ⟨w2, hw2⟩ : ∃ x, x = wr.setCell ⟨g0, t, none⟩ (.int .i64 0) := ⟨_, rfl⟩
      have HO2 : Hid (OwnInts G w2 (.slice (some ⟨g0, 0, none⟩) k c0) (startF k t)) := Lib.hid (by rw [hw2]; exact own_store HO.out t 0)
      have HB2 : Hid (Below G W w2) := Lib.hid (by rw [hw2]; exact below_setS HBr.out hG0 _ _)
      have hsz2 : G ≤ w2.heap.size := by rw [HWG.out]; exact HB2.out.size
      rw [← hw2]
      clear x2 x2_0 x2_1 x2_2 x2_l
      clear hw2 HO HBr c1 f1
      go_wp2
      obtain ⟨w3, hw3⟩ : ∃ x, x = w2.alloc (.cells #[.int .i64 t] 3) := ⟨_, rfl⟩
      have HQ3 : Hid (OwnInts G w3 (.slice (some ⟨w2.heap.size, 0, none⟩) 1 1) [(t : Int)]) := Lib.hid (by rw [hw3]; exact (ownInts_one w2 t).base hsz2)
      have HO3 : Hid (OwnInts G w3 (.slice (some ⟨g0, 0, none⟩) k c0) (startF k t)) := Lib.hid (by rw [hw3]; exact HO2.out.keep (below_new _ _))
      have HS3 := Lib.hid (sep_new HO2.out (ownInts_one w2 t))
      have HB3 : Hid (Below G W w3) := Lib.hid (by rw [hw3]; exact HB2.out.trans ((below_new _ _).mono hsz2))
      rw [← hw3]
      clear hw3 HO2 HB2 hsz2
      go_loopw [9, 10] (fun q i wr => ∃ j : Nat, i = .int .i64 j ∧ Hid (∃ st qs, j ≤ qs.length ∧ Bfs h t but j st qs ∧ bfsF h but (k + 1 - j) j (st, qs) = stepsF h t but ∧ OwnInts G wr (.slice (some ⟨g0, 0, none⟩) k c0) st ∧ OwnInts G wr q qs ∧ Sep (.slice (some ⟨g0, 0, none⟩) k c0) q) ∧ Below G W wr) (fun _ i _ => k + 1 - (intOf i).toNat)
      case atStart => exact ⟨0, rfl, Lib.hid ⟨_, _, Nat.zero_le _, HS0.out, HF0.out.symm, HO3.out, HQ3.out, HS3.out⟩, HB3.out⟩
      case round =>
        clear HS0 HF0 HO3 HQ3 HS3 HB3
        obtain ⟨j, rfl, hh, hbr⟩ := hrel
        obtain ⟨st, qs, hj, hbf, hfin, hS, hQ, hsep⟩ := hh.out
        have hql := hbf.qlen
        rw [← HN.out] at hql
        have HBF := Lib.hid hbf
        have HFI := Lib.hid hfin
        have HS := Lib.hid hS
        have HQ := Lib.hid hQ
        have HSE := Lib.hid hsep
        have HBr := Lib.hid hbr
        have hsz : G ≤ wr.heap.size := by rw [HWG.out]; exact hbr.size
        by_cases hlt : j < qs.length
        · obtain ⟨g, cap, rfl, hg1, hg2⟩ := HQ.out.head (by intro e; rw [e] at hlt; simp at hlt)
          have hm := HBF.out.mem j hlt
          obtain ⟨y, hy⟩ := Int.eq_ofNat_of_zero_le hm.1.1
          have cq := own_cell HQ.out hlt
          rw [hy] at cq
          have HY := Lib.hid hy
          have hyk : y < k := by have := hm.1.2; rw [hy, ← HN.out] at this; omega
          have x4 := HBX.out.keep (by rw [← HWG.out]; exact hbr)
          have x4_0 := x4.c0
          have x4_1 := x4.c1
          have x4_2 := x4.c2
          have x4_l := x4.lt
          obtain ⟨L, hL⟩ : ∃ L, L = qs.length := ⟨_, rfl⟩
          rw [← hL] at hlt hql ⊢
          have HL := Lib.hid hL
          have HRW := Lib.hid (HBW.out.trans (HBr.out.mono (Nat.le_of_lt hGw)))
          clear hL hbf hfin hS hQ hsep hbr hy hm hj hh
          go_wp2
          go_region_held3 (fun w' => w'.cell? ⟨w.heap.size, 0, none⟩ = some (.int .i64 h.wide) ∧ w'.cell? ⟨w.heap.size, 1, none⟩ = some (.int .i64 h.deep) ∧ w'.cell? ⟨w.heap.size, 2, none⟩ = some (.slice ao k cp) ∧ w'.cell? ⟨g, j, none⟩ = some (.int .i64 y)) (((try dsimp only); (repeat' apply And.intro); all_goals first | (with_reducible assumption) | go_keep)) (first
            | (go_at_call 89; refine (HB.out _ _ (HV.out.keep (below_then HRW.out (below_drew1 _))) y).mono ?_; rintro e wb ⟨cv2, rfl, hob, hbb⟩; obtain ⟨ao2, cp2, rfl⟩ := hob.slice; have x5 := (x4.keep (below_drew1 _)).keep hbb; have x5_0 := x5.c0; have x5_1 := x5.c1; have x5_2 := x5.c2; have cq2 : wb.cell? ⟨g, j, none⟩ = some (.int .i64 y) := (hbb.cell (p := ⟨g, j, none⟩) hg2).trans cq; have HBB := Lib.hid (below_then (below_drew1 wr) hbb); have HOB := Lib.hid hob; clear hbb hob x4 x4_0 x4_1 x4_2 x4_l))
          clear x5 x5_0 x5_1 x5_2 cq cq2
          have HS2 := Lib.hid (HS.out.keep HBB.out)
          have HQ2 := Lib.hid (HQ.out.keep HBB.out)
          have HOB1 : Hid (OwnInts wr.heap.size wb (.slice ao2 (besideF h y).length cp2) (besideF h y)) := Lib.hid HOB.out
          have HSB := Lib.hid (sep_new HS.out HOB1.out)
          have HQB := Lib.hid (sep_new HQ.out HOB1.out).symm
          have HBB2 := Lib.hid (HBr.out.trans (HBB.out.mono hsz))
          have hm := HBF.out.mem j (by rw [← HL.out]; exact hlt)
          rw [HY.out] at hm
          have hle := HBF.out.le y
          have HV0 : Hid (Vis h t but j y (gi st y) st qs) := Lib.hid ⟨HBF.out.mono (by omega), by rw [← HL.out]; exact hlt, HY.out, rfl⟩
          have HNX : Hid (bfsF h but (k + 1 - (j + 1)) (j + 1) (visitF but (gi st y) (besideF h y) (st, qs)) = stepsF h t but) := Lib.hid (by
            have e := HFI.out
            rw [show k + 1 - j = (k + 1 - (j + 1)) + 1 by omega, bfs_next (s := (st, qs)) (by show j < qs.length; rw [← HL.out]; exact hlt)] at e
            simp only [HY.out, Int.toNat_natCast] at e
            exact e)
          have HM : Hid (∀ i, i < (besideF h y).length → gi (besideF h y) i ∈ besideF h y) := Lib.hid (fun i hi => gi_mem hi)
          obtain ⟨d, hd⟩ : ∃ d, d = gi st y := ⟨_, rfl⟩
          obtain ⟨fin, hfin⟩ : ∃ fin, fin = visitF but (gi st y) (besideF h y) (st, qs) := ⟨_, rfl⟩
          have hBl := HBe.out y
          obtain ⟨B, hB⟩ : ∃ B, B = besideF h y := ⟨_, rfl⟩
          rw [← hfin] at HNX
          rw [← hB] at hfin hBl HOB1 HSB HQB HM ⊢
          rw [← hd] at hfin HV0 hle
          have hd0 : 0 ≤ d := by rw [hd]; exact hm.2
          have hdj : d ≤ j := hle.2
          have HFN := Lib.hid hfin
          have HBq := Lib.hid hB
          clear hfin hd hm hle hB HOB HBB HBr HS HQ HFI HBF HRW
          go_wp2
          go_loopw [9, 12] (fun q i wr => ∃ m : Nat, m ≤ B.length ∧ i = .int .i64 m ∧ Hid (∃ st' qs', visitF but d (B.drop m) (st', qs') = fin ∧ Vis h t but j y d st' qs' ∧ OwnInts G wr (.slice (some ⟨g0, 0, none⟩) k c0) st' ∧ OwnInts G wr q qs' ∧ OwnInts G wr (.slice ao2 B.length cp2) B ∧ Sep (.slice (some ⟨g0, 0, none⟩) k c0) q ∧ Sep (.slice ao2 B.length cp2) q) ∧ Below G W wr) (fun _ i _ => B.length - (intOf i).toNat)
          case atStart => exact ⟨0, Nat.zero_le _, rfl, Lib.hid ⟨st, qs, HFN.out.symm, HV0.out, HS2.out, by rw [HL.out]; exact HQ2.out, HOB1.out.base hsz, HSE.out, HQB.out⟩, HBB2.out⟩
          case round =>
            clear HFN HV0 HS2 HQ2 HOB1 HSE HQB HBB2
            obtain ⟨m, hm, rfl, hh, hbr⟩ := hrel
            obtain ⟨st', qs', hvis, hv, hS, hQ, hBB, hs1, hs2⟩ := hh.out
            by_cases hmB : m < B.length
            · obtain ⟨gb, cb, eb, _, _⟩ := hBB.head (by intro e; rw [e] at hmB; simp at hmB)
              obtain ⟨rfl, rfl⟩ : ao2 = some ⟨gb, 0, none⟩ ∧ cp2 = cb := by cases eb; exact ⟨rfl, rfl⟩
              obtain ⟨g', cap', rfl, hg1', hg2'⟩ := hQ.head (by intro e; have := hv.lt; rw [e] at this; simp at this)
              have hmem : gi B m ∈ besideF h y := by rw [← HBq.out]; exact HM.out m hmB
              have hxl := beside_lt hmem
              obtain ⟨x, hx⟩ := Int.eq_ofNat_of_zero_le hxl.1
              have cb1 := own_cell hBB hmB
              rw [hx] at hxl hmem cb1
              have hxk : x < k := by rw [HN.out]; omega
              have hlS := hv.bfs.len
              rw [← HN.out] at hlS
              have cs1 := own_cell hS (j := x) (by rw [hlS]; exact hxk)
              have cs2 := own_cell hS (j := y) (by rw [hlS]; exact hyk)
              rw [show gi st' y = d from hv.dist] at cs2
              have fs1 := own_free hS x
              have cq1 := own_cell hQ hv.lt
              rw [hv.at_] at cq1
              have hstep := visit_cons (but := but) (d := d) hmB (st', qs')
              rw [hvis, hx] at hstep
              simp only [Int.toNat_natCast] at hstep
              have hsz1 : G ≤ wr.heap.size := by rw [HWG.out]; exact hbr.size
              have hql' := hv.bfs.cnt
              rw [← HN.out] at hql'
              have hng : gi st' x < 0 → 0 < negs st' := fun hn => by
                have := negs_set (l := st') (i := x) (x := 0) (by rw [hlS]; exact hxk) hn (Int.le_refl _)
                omega
              have HV := Lib.hid hv
              have HS := Lib.hid hS
              have HQ := Lib.hid hQ
              have HB1 := Lib.hid hBB
              have HS1 := Lib.hid hs1
              have HS2 := Lib.hid hs2
              have HBr := Lib.hid hbr
              have HME := Lib.hid hmem
              obtain ⟨L', hL'⟩ : ∃ L', L' = qs'.length := ⟨_, rfl⟩
              have hL'k : L' ≤ k := by omega
              have hjL : j < L' := by rw [hL']; exact hv.lt
              rw [← hL']
              obtain ⟨sx, hsx⟩ : ∃ sx, sx = gi st' x := ⟨_, rfl⟩
              rw [← hsx] at cs1 hstep hng
              have hx0 : (0 : Int) ≤ x := by omega
              have hx1 : (x : Int) < k := by omega
              have hy0 : (0 : Int) ≤ y := by omega
              have hy1 : (y : Int) < k := by omega
              have HL' := Lib.hid hL'
              have HSX := Lib.hid hsx
              by_cases hxb : (x : Int) = but
              · have hne : ((x : Int) != but) = false := by simpa using hxb
                rw [if_neg (by intro e; exact e.1 hxb)] at hstep
                have HST := Lib.hid hstep
                clear hstep hxb hv hS hQ hBB hs1 hs2 hbr hmem hvis hx hlS hql' hng hL' hsx cs1 cs2 cq1 fs1 hh eb
                go_wp2
                go_roundw
                case rel => exact ⟨m+1, by omega, by go_num, Lib.hid ⟨st', qs', HST.out.symm, HV.out, HS.out, by rw [HL'.out]; exact HQ.out, HB1.out, HS1.out, HS2.out⟩, HBr.out⟩
                case measure => simp [intOf]; omega
              · have hne : ((x : Int) != but) = true := by simpa using hxb
                by_cases hneg : sx < 0
                · rw [if_pos ⟨hxb, hneg⟩] at hstep
                  have HST := Lib.hid hstep
                  have HV2 := Lib.hid (hv.next hdj hmem hxb (by rw [Int.toNat_natCast, ← HSX.out]; exact hneg))
                  have HX := Lib.hid hx
                  have hqk : qs'.length + 1 ≤ k := by have := hng hneg; omega
                  clear hql' hng hstep hxb hv hS hQ hBB hs1 hs2 hbr hmem hvis hx hlS hL' hsx hh eb
                  go_wp2
                  go_region
                  obtain ⟨w4, hw4⟩ : ∃ w4, w4 = (wr.setCell ⟨g0, x, none⟩ (.int .i64 (d + 1))).drew := ⟨_, rfl⟩
                  have HS4 : Hid (OwnInts G w4 (.slice (some ⟨g0, 0, none⟩) k c0) (st'.set x (d + 1))) := Lib.hid (by rw [hw4]; exact (own_store HS.out x (d + 1)).keep (below_drew1 _))
                  have HQ4 : Hid (OwnInts G w4 (.slice (some ⟨g', 0, none⟩) L' cap') qs') := Lib.hid (by rw [hw4, HL'.out]; exact (HQ.out.setS HS1.out.symm x _).keep (below_drew1 _))
                  have HB4 : Hid (OwnInts G w4 (.slice (some ⟨gb, 0, none⟩) B.length cp2) B) := Lib.hid (by rw [hw4]; exact (HB1.out.setS HSB.out.symm x _).keep (below_drew1 _))
                  have HBr4 : Hid (Below G W w4) := Lib.hid (by rw [hw4]; exact (below_setS HBr.out hG0 x _).drew)
                  have hsz4 : G ≤ w4.heap.size := by rw [HWG.out]; exact HBr4.out.size
                  have cb4 := own_cell HB4.out hmB
                  rw [HX.out] at cb4
                  rw [← hw4]
                  clear hw4 cs1 cs2 cq1 cb1 fs1 HS HQ HB1 HBr
                  go_wp2_with (at_builtin; go_must (refine wpList_append_own_at _ rfl _ _ 23 rfl G 3 i0 (.int .i64 0) 1 8 Tryd.underlying23 hi hz0 hz1 hz2 rfl (by decide) _ _ _ rfl (HQ4.out.2.alloc _) ⟨w4.heap.size, 0, none⟩ 1 1 [.int .i64 x] rfl rfl (cell_one_new _ _ _) ?_ ?_ ?_ ?_ ?_; (intro u hu; simp at hu; subst hu; rfl); (unfold maxLen; omega); (omega); (simp; omega); intro v' w5 hown' hgrow _hh hvb; have HQ5 : Hid (OwnInts G w5 v' (qs' ++ [(x : Int)])) := Lib.hid (ownInts_append (by unfold lim; omega) hown'); have HS5 := Lib.hid ((HS4.out.keep (below_new _ _)).keepS hgrow HS1.out); have HB5 := Lib.hid ((HB4.out.keep (below_new _ _)).keepS hgrow HS2.out); have HE5 := Lib.hid (sep_app HS4.out HS1.out hvb); have HF5 := Lib.hid (sep_app HB4.out HS2.out hvb); have HR5 := Lib.hid (below_app HBr4.out hsz4 HQ4.out.blk hgrow); clear hown' hgrow _hh hvb))
                  go_roundw
                  case rel => exact ⟨m+1, by omega, by go_num, Lib.hid ⟨_, _, HST.out.symm, HV2.out, HS5.out, HQ5.out, HB5.out, HE5.out, HF5.out⟩, HR5.out⟩
                  case measure => simp [intOf]; omega
                · rw [if_neg (by intro e; exact hneg e.2)] at hstep
                  have HST := Lib.hid hstep
                  clear hstep hxb hv hS hQ hBB hs1 hs2 hbr hmem hvis hx hlS hql' hng hL' hsx cs2 cq1 fs1 hh eb
                  go_wp2
                  go_roundw
                  case rel => exact ⟨m+1, by omega, by go_num, Lib.hid ⟨st', qs', HST.out.symm, HV.out, HS.out, by rw [HL'.out]; exact HQ.out, HB1.out, HS1.out, HS2.out⟩, HBr.out⟩
                  case measure => simp [intOf]; omega
            · obtain rfl : m = B.length := by omega
              rw [visit_all] at hvis
              have HFI : Hid (bfsF h but (k + 1 - (j + 1)) (j + 1) (st', qs') = stepsF h t but) := Lib.hid (by rw [hvis]; exact HNX.out)
              have HV := Lib.hid hv
              have HS := Lib.hid hS
              have HQ := Lib.hid hQ
              have HS1 := Lib.hid hs1
              have HBr := Lib.hid hbr
              clear hv hS hQ hBB hs1 hs2 hbr hvis hh
              go_wp2
              go_roundw
              case rel => exact ⟨j+1, by go_num, Lib.hid ⟨st', qs', HV.out.lt, by have := HV.out.bfs; simpa using this, HFI.out, HS.out, HQ.out, HS1.out⟩, HBr.out⟩
              case measure => simp [intOf]; omega
        · obtain ⟨aq, cq, rfl⟩ := HQ.out.slice
          obtain rfl : j = qs.length := by omega
          have HR := Lib.hid (HBW.out.trans (HBr.out.mono (Nat.le_of_lt hGw)))
          have HE : Hid (st = stepsF h t but) := Lib.hid (by have e := HFI.out; rw [bfs_done (s := (st, qs)) (by simp)] at e; exact e)
          clear hbf hfin hS hQ hsep hbr hh hj hlt
          go_wp2
          go_ret
          have hl := HBF.out.len
          rw [← HN.out] at hl
          refine ⟨_, rfl, ?_, HR.out⟩
          rw [← HE.out]
          exact HS.out.base (Nat.le_of_lt hGw)

end Go.Proofs.YtjdgbdakkdljmaaDoor
