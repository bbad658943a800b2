/-
  Drawn pairs of halls.
-/
import Derived.Test.YtnfjmcenjpoloaaDoorWG
import Derived.Test.YtnfjmcenjpoloaaDoorWA
set_option linter.unusedVariables false
set_option linter.unusedSimpArgs false
set_option maxRecDepth 100000
namespace Go.Proofs.YtnfjmcenjpoloaaDoor
open Go Go.RowKit Go.Park Go.Sym

set_option maxHeartbeats 1000000 in
theorem l1Hall0_fn (h : PHall) (hl : h.cells.length ≤ lim) : FnS Tryd.prog 50 [hallV h] (hallV h) := by
  have hl' : h.cells.length ≤ 1073741824 := hl
  refine fn_go1 tabOk Tryd.func50 rfl (by kernel_rfl) Tryd.ntmps50 Tryd.results50 (by decide) ?_
  repeat first | refine Ua ?_ | refine Ub ?_ | refine Uc ?_ | refine Ud ?_ | refine Ue ?_ | refine Ug ⟨by kernel_rfl, ?_⟩ | refine Ug ?_ | refine Uh ?_ | refine Ui ?_ | refine Uj ?_ | refine Uk rfl ?_ | refine Ul rfl ?_ | refine Um ?_ | refine Un ?_ | refine Uo ?_ | refine Up rfl ?_ | refine Uq ?_ | refine Ur ?_ | refine Us ?_ | refine Ut ?_ | refine Uu ?_ | refine Ux ?_ | refine Uv rfl rfl rfl rfl ?_ | refine Uw rfl rfl rfl ?_ | refine U0 z0 ?_ | refine U1 z1 ?_ | refine U9 zs ?_
  exact ⟨.inl rfl, Rx⟩
theorem alike_comm (a b : PHall) : alikeF a b = alikeF b a := by
  by_cases h : validB a = true ∧ validB b = true ∧ a.wide = b.wide ∧ a.deep = b.deep ∧ carsF a = carsF b
  · have h' : validB b = true ∧ validB a = true ∧ b.wide = a.wide ∧ b.deep = a.deep ∧ carsF b = carsF a := ⟨h.2.1, h.1, h.2.2.1.symm, h.2.2.2.1.symm, h.2.2.2.2.symm⟩
    obtain ⟨_, f2⟩ := alike_free h
    rw [alike_yes h, alike_yes h', f2]
    split
    · exact decide_eq_decide.2 ⟨fun e => e.symm, fun e => e.symm⟩
    · split
      · exact decide_eq_decide.2 ⟨fun e => e.symm, fun e => e.symm⟩
      · rfl
  · rw [alike_no h, alike_no (fun h' => h ⟨h'.2.1, h'.1, h'.2.2.1.symm, h'.2.2.2.1.symm, h'.2.2.2.2.symm⟩)]
theorem alike_self (a : PHall) : alikeF a a = validB a := by
  cases hv : validB a with
  | true => rw [alike_yes ⟨hv, hv, rfl, rfl, rfl⟩]; simp
  | false => rw [alike_no (fun e => by rw [hv] at e; cases e.1)]
theorem alike_run {h : PHall} {l : List (Int × Int)} (hv : validB h = true) (h0 : l.length ≤ 60) : alikeF h (slideRunF h l).1 = true := by
  obtain ⟨n, hn, e1, e2⟩ := runF_is l h
  have e3 : slideRunF h l = (stS h l n, (n : Int)) := by unfold slideRunF; rw [if_pos ⟨hv, h0⟩, e1]
  rw [e3]
  show alikeF h (stS h l n) = true
  obtain ⟨t1, t2, t3⟩ := take_run hn e2
  obtain ⟨s1, s2, s3, s4⟩ := stS_ok (l := l) hv n
  have hc := run_cars _ _ t2
  have hp := run_parity _ _ t2
  rw [t3] at hc hp
  rw [alike_yes ⟨hv, s1, s3.symm, s4.symm, hc.symm⟩]
  split
  · rename_i hf
    have hn0 : n = 0 := by
      refine Decidable.byContradiction fun hne => ?_
      obtain ⟨m, _, _, _⟩ := may_of_do (e2 0 (by omega))
      have hm : ((gs l 0).2.toNat : Int) ∈ hallFreeF h := (free_mem hv).2 ⟨_, m.lb, m.free, rfl⟩
      have := List.length_pos_of_mem hm
      omega
    subst hn0
    exact decide_eq_true rfl
  · split
    · exact decide_eq_true hp.symm
    · rfl
set_option maxHeartbeats 4000000 in
theorem drawAlike_fn (v0 : Value) (bs : List Int) (hB : OkB bs) : ∃ i : PHall × PHall, (i.1.cells.length ≤ 13 ∧ i.2.cells.length ≤ 13) ∧ FnS Tryd.prog 11 [codeV v0 bs] (.tup [hallV i.1, hallV i.2]) := by
  have hC := cut_bytes hB
  obtain ⟨h, g1, hH⟩ := drawParityOf_fn v0 bs hB
  have hlim := lim_eq
  have hl : h.cells.length ≤ lim := by omega
  have u0 := pick_tri hC (p := 0) (n := 8) (by omega) (by omega)
  obtain ⟨K0, hK0⟩ : ∃ K0 : Nat, (K0 : Int) = pickF (bs.take (cutN bs.length)) 0 8 := ⟨(pickF (bs.take (cutN bs.length)) 0 8).toNat, by omega⟩
  refine fnx_go1 (Good := fun i : PHall × PHall => i.1.cells.length ≤ 13 ∧ i.2.cells.length ≤ 13) (res := fun i => .tup [hallV i.1, hallV i.2]) tabOk Tryd.func11 rfl (by kernel_rfl) Tryd.ntmps11 Tryd.results11 (by decide) ?_
  repeat first | refine Ua ?_ | refine Ub ?_ | refine Uc ?_ | refine Ud ?_ | refine Ue ?_ | refine Ug ⟨by kernel_rfl, ?_⟩ | refine Ug ?_ | refine Uh ?_ | refine Ui ?_ | refine Uj ?_ | refine Uk rfl ?_ | refine Ul rfl ?_ | refine Um ?_ | refine Un ?_ | refine Uo ?_ | refine Up rfl ?_ | refine Uq ?_ | refine Ur ?_ | refine Us ?_ | refine Ut ?_ | refine Uu ?_ | refine Ux ?_ | refine Uv rfl rfl rfl rfl ?_ | refine Uw rfl rfl rfl ?_ | refine U0 z0 ?_ | refine U1 (by first | (apply st_open; iterate 4 exact rfl) | (apply st_call_h (hfn := hH ); exact rfl; exact fz; iterate 2 exact rfl) | (apply st_call_h (hfn := l1Hall0_fn h hl ); exact rfl; exact fz; iterate 2 exact rfl) | (apply st_recv_v (hfn := pick_fn (rdV v0) _ hC 0 (by omega) 8 ); (iterate 4 exact rfl); exact fz; iterate 2 exact rfl) | exact z1 | fail) ?_ | refine U9 zs ?_
  refine ax_loop (fun i : Nat × PHall × Int => mkS [(7, .int (i.1 : Int)), (6, .ptr 7 0 0), (5, .ptr 5 0 0), (4, .ptr 3 0 0), (3, .ptr 2 0 0), (2, .ptr 1 0 0)] ⟨8, [(1, some zeroRow), (2, some zeroRow), (3, some (rdR (rdV v0) (bs.take (cutN bs.length)) i.2.2)), (4, some (intsRow h.cells)), (5, some (boxRow h.wide h.deep 4 0)), (6, some (intsRow i.2.1.cells)), (7, some (boxRow i.2.1.wide i.2.1.deep 6 0))]⟩) (fun i => i.2.1.cells.length ≤ 13 ∧ 0 ≤ i.2.2 ∧ i.2.2 + i.1 ≤ 20) (fun i => i.1) ((K0, h, 0 + 1)) (⟨g1, by show (0 : Int) ≤ 0 + 1; omega, by show (0 : Int) + 1 + K0 ≤ 20; omega⟩) (weak_of [] (by repeat first | exact .nil | refine LeEs.cons ?_ ?_ | exact .v (by first | rfl | (first | rfl | rw [hK0])) | exact .own rfl rfl rfl rfl rfl | exact .ptr rfl rfl rfl rfl rfl rfl | exact .nil rfl rfl rfl | exact .sl (by first | rfl | (first | rfl | rw [hK0])) | exact .both rfl rfl | exact .frz rfl rfl rfl rfl rfl (by first | rfl | (first | rfl | rw [hK0])) rfl | exact .tab rfl | exact .any _) (by repeat first | exact .nil | refine LeHs.keep rfl ⟨rfl, rfl, rfl, .inl ⟨rfl, by first | rfl | (first | rfl | rw [hK0])⟩⟩ ?_ | refine LeHs.keep rfl ⟨rfl, rfl, rfl, .inr ⟨(by first | exact .inl rfl | exact .inr rfl), by repeat first | exact .nil | refine LeVL.cons ?_ ?_ | exact .v (by first | rfl | (first | rfl | rw [hK0])) | exact .own rfl rfl rfl rfl rfl | exact .sl (by first | rfl | (first | rfl | rw [hK0])) | exact .both rfl rfl | exact .frz rfl rfl rfl rfl rfl (by first | rfl | (first | rfl | rw [hK0])) rfl⟩⟩ ?_ | refine LeHs.fresh rfl rfl rfl (Nat.succ_pos _) rfl ?_) rfl rfl) ?_
  rintro ⟨K, X, q2⟩ ⟨hX, hq0, hq1⟩
  dsimp only at hX hq0 hq1 ⊢
  have hls : (slidesAllF X).length ≤ 200 := by have := may_small X X.cells.length 0 (Nat.le_refl _) (Nat.zero_le _); simp [mayRow, selTo] at this; exact this
  repeat first | refine Ua ?_ | refine Ub ?_ | refine Uc ?_ | refine Ud ?_ | refine Ue ?_ | refine Ug ⟨by kernel_rfl, ?_⟩ | refine Ug ?_ | refine Uh ?_ | refine Ui ?_ | refine Uj ?_ | refine Uk rfl ?_ | refine Ul rfl ?_ | refine Um ?_ | refine Un ?_ | refine Uo ?_ | refine Up rfl ?_ | refine Uq ?_ | refine Ur ?_ | refine Us ?_ | refine Ut ?_ | refine Uu ?_ | refine Ux ?_ | refine Uv rfl rfl rfl rfl ?_ | refine Uw rfl rfl rfl ?_ | refine U0 z0 ?_ | refine U1 z1 ?_ | refine U9 zs ?_
  refine ax_cond rfl (fun hb => ?_) (fun hb => ?_)
  · have hK : 0 < K := by simpa using hb
    obtain ⟨K, rfl⟩ : ∃ K', K = K' + 1 := ⟨K - 1, by omega⟩
    repeat first | refine Ua ?_ | refine Ub ?_ | refine Uc ?_ | refine Ud ?_ | refine Ue ?_ | refine Ug ⟨by kernel_rfl, ?_⟩ | refine Ug ?_ | refine Uh ?_ | refine Ui ?_ | refine Uj ?_ | refine Uk rfl ?_ | refine Ul rfl ?_ | refine Um ?_ | refine Un ?_ | refine Uo ?_ | refine Up rfl ?_ | refine Uq ?_ | refine Ur ?_ | refine Us ?_ | refine Ut ?_ | refine Uu ?_ | refine Ux ?_ | refine Uv rfl rfl rfl rfl ?_ | refine Uw rfl rfl rfl ?_ | refine U0 z0 ?_ | refine U1 (by first | (apply st_call_s (hfn := specSlidesAll_fn X (by omega) ); exact rfl; exact fz; iterate 2 exact rfl) | exact z1 | fail) ?_ | refine U9 zs ?_
    refine ax_cond rfl (fun hb2 => ?_) (fun hb2 => ?_)
    · have hpos : 0 < (slidesAllF X).length := by simpa using hb2
      have v1 := pick_tri hC (p := q2) (n := ((slidesAllF X).length : Int)) (by omega) (by omega)
      repeat first | refine Ua ?_ | refine Ub ?_ | refine Uc ?_ | refine Ud ?_ | refine Ue ?_ | refine Ug ⟨by kernel_rfl, ?_⟩ | refine Ug ?_ | refine Uh ?_ | refine Ui ?_ | refine Uj ?_ | refine Uk rfl ?_ | refine Ul rfl ?_ | refine Um ?_ | refine Un ?_ | refine Uo ?_ | refine Up rfl ?_ | refine Uq ?_ | refine Ur ?_ | refine Us ?_ | refine Ut ?_ | refine Uu ?_ | refine Ux ?_ | refine Uv rfl rfl rfl rfl ?_ | refine Uw rfl rfl rfl ?_ | refine U0 z0 ?_ | refine U1 (by first | (apply st_recv_v (hfn := pick_fn (rdV v0) _ hC q2 (by omega) ((slidesAllF X).length : Int) ); (iterate 4 exact rfl); exact fz; iterate 2 exact rfl) | (apply st_call_hv (hfn := specSlideDo_fn X (by omega) ((gs (slidesAllF X) (pickF (bs.take (cutN bs.length)) q2 (slidesAllF X).length).toNat).1) ((gs (slidesAllF X) (pickF (bs.take (cutN bs.length)) q2 (slidesAllF X).length).toNat).2) ); exact rfl; exact fz; iterate 2 exact rfl) | exact z1 | fail) ?_ | refine U9 zs ?_
      refine round_next ((K, (slideDoF X ((gs (slidesAllF X) (pickF (bs.take (cutN bs.length)) q2 (slidesAllF X).length).toNat).1) ((gs (slidesAllF X) (pickF (bs.take (cutN bs.length)) q2 (slidesAllF X).length).toNat).2)).1, q2 + 1)) (⟨Nat.le_trans (do_len X _ _) hX, by show 0 ≤ q2 + 1; omega, by show q2 + 1 + (K : Int) ≤ 20; omega⟩) (Nat.lt_succ_self K) (Lw (ρ := [(6, 10)]))
    · repeat first | refine Ua ?_ | refine Ub ?_ | refine Uc ?_ | refine Ud ?_ | refine Ue ?_ | refine Ug ⟨by kernel_rfl, ?_⟩ | refine Ug ?_ | refine Uh ?_ | refine Ui ?_ | refine Uj ?_ | refine Uk rfl ?_ | refine Ul rfl ?_ | refine Um ?_ | refine Un ?_ | refine Uo ?_ | refine Up rfl ?_ | refine Uq ?_ | refine Ur ?_ | refine Us ?_ | refine Ut ?_ | refine Uu ?_ | refine Ux ?_ | refine Uv rfl rfl rfl rfl ?_ | refine Uw rfl rfl rfl ?_ | refine U0 z0 ?_ | refine U1 z1 ?_ | refine U9 zs ?_
      refine round_next ((K, X, q2)) (⟨hX, hq0, by show q2 + (K : Int) ≤ 20; omega⟩) (Nat.lt_succ_self K) (Lw (ρ := []))
  · have hK0 : K = 0 := by simp at hb; omega
    subst hK0
    have hcl := carsF_len X
    obtain ⟨q3, ⟨d1, d2⟩, hO⟩ := odd_fn (rdV v0) _ hC q2 (by omega) 9 (by omega)
    obtain ⟨⟨h3, q4⟩, ⟨e1, e2, e3⟩, hH3⟩ := l20Hall_fn (rdV v0) _ hC q3 (by omega) 4 (by omega)
    dsimp only at e1 e2 e3 hH3
    by_cases hc1 : 1 < (carsF X).length
    · have hv : validB X = true := by
        cases hv : validB X with
        | true => rfl
        | false => rw [cars_nil hv] at hc1; simp at hc1
      have hfind : ∀ k, k < (carsF X).length → 0 ≤ hallFindF X (gi (carsF X) k) ∧ hallFindF X (gi (carsF X) k) < X.cells.length := fun k hk => by
        obtain ⟨_, p1, p2⟩ := mem_cars.1 (gi_mem hk)
        have p3 := (find_iff hv (by omega)).2 p2
        exact ⟨p3, (find_ok (h := X) (id := gi (carsF X) k) (by omega)).2.2.1⟩
      have f0 := hfind 0 (by omega)
      have f1 := hfind 1 (by omega)
      have u1 := pick_tri hC (p := q2) (n := 3) (by omega) (by omega)
      obtain ⟨q5, ⟨d3, d4⟩, hO2⟩ := odd_fn (rdV v0) _ hC (q2 + 1) (by omega) 9 (by omega)
      obtain ⟨⟨h4, q6⟩, ⟨e4, e5, e6⟩, hH4⟩ := l20Hall_fn (rdV v0) _ hC q5 (by omega) 4 (by omega)
      dsimp only at e4 e5 e6 hH4
      repeat first | refine Ua ?_ | refine Ub ?_ | refine Uc ?_ | refine Ud ?_ | refine Ue ?_ | refine Ug ⟨by kernel_rfl, ?_⟩ | refine Ug ?_ | refine Uh ?_ | refine Ui ?_ | refine Uj ?_ | refine Uk rfl ?_ | refine Ul rfl ?_ | refine Um ?_ | refine Un ?_ | refine Uo ?_ | refine Up rfl ?_ | refine Uq ?_ | refine Ur ?_ | refine Us ?_ | refine Ut ?_ | refine Uu ?_ | refine Ux ?_ | refine Af (h := ?_) | refine At (h := ?_) | refine Uv rfl rfl rfl rfl ?_ | refine Uw rfl rfl rfl ?_ | refine U0 z0 ?_ | refine U1 (by first | (apply st_call_s (hfn := specHallCars_fn X (by omega) ); exact rfl; exact fz; iterate 2 exact rfl) | (apply st_recv_v (hfn := pick_fn (rdV v0) _ hC q2 (by omega) 3 ); (iterate 4 exact rfl); exact fz; iterate 2 exact rfl) | exact z1 | fail) ?_ | refine U9 zs ?_ | refine Kf (h := ?_) | refine Kt (h := ?_)
      refine ax_cond rfl (fun hb3 => ?_) (fun hb3 => ?_)
      · have hF0 := specHallFind_fn X (by omega) (gi (carsF X) 0)
        have hF1 := specHallFind_fn X (by omega) (gi (carsF X) 1)
        generalize hallFindF X (gi (carsF X) 0) = fa at *
        generalize hallFindF X (gi (carsF X) 1) = fb at *
        have hsl : (X.cells.set fa.toNat (gi (carsF X) 1)).length = X.cells.length := by simp
        repeat first | refine Ua ?_ | refine Ub ?_ | refine Uc ?_ | refine Ud ?_ | refine Ue ?_ | refine Ug ⟨by kernel_rfl, ?_⟩ | refine Ug ?_ | refine Uh ?_ | refine Ui ?_ | refine Uj ?_ | refine Uk rfl ?_ | refine Ul rfl ?_ | refine Um ?_ | refine Un ?_ | refine Uo ?_ | refine Up rfl ?_ | refine Uq ?_ | refine Ur ?_ | refine Us ?_ | refine Ut ?_ | refine Uu ?_ | refine Ux ?_ | refine Uv rfl rfl rfl rfl ?_ | refine Uw rfl rfl rfl ?_ | refine U0 (by first | (apply st_call (hfn := hF0 ); exact rfl; exact fz) | (apply st_call (hfn := hF1 ); exact rfl; exact fz) | exact z0 | fail) ?_ | refine U1 (by first | (apply st_recv_v (hfn := hO2 ); (iterate 4 exact rfl); exact fz; iterate 2 exact rfl) | exact z1 | fail) ?_ | refine U9 zs ?_
        refine ax_cond rfl (fun hb4 => ?_) (fun hb4 => ?_)
        · repeat first | refine Ua ?_ | refine Ub ?_ | refine Uc ?_ | refine Ud ?_ | refine Ue ?_ | refine Ug ⟨by kernel_rfl, ?_⟩ | refine Ug ?_ | refine Uh ?_ | refine Ui ?_ | refine Uj ?_ | refine Uk rfl ?_ | refine Ul rfl ?_ | refine Um ?_ | refine Un ?_ | refine Uo ?_ | refine Up rfl ?_ | refine Uq ?_ | refine Ur ?_ | refine Us ?_ | refine Ut ?_ | refine Uu ?_ | refine Ux ?_ | refine Uv rfl rfl rfl rfl ?_ | refine Uw rfl rfl rfl ?_ | refine U0 z0 ?_ | refine U1 z1 ?_ | refine U9 zs ?_ | refine U2 (by first | (apply st_recv_h (hfn := hH4 ); (iterate 4 exact rfl); exact fz; iterate 3 exact rfl) | fail) ?_
          exact ⟨⟨(h, h4), ⟨g1, e4⟩, .inl rfl, Rx⟩⟩
        · repeat first | refine Ua ?_ | refine Ub ?_ | refine Uc ?_ | refine Ud ?_ | refine Ue ?_ | refine Ug ⟨by kernel_rfl, ?_⟩ | refine Ug ?_ | refine Uh ?_ | refine Ui ?_ | refine Uj ?_ | refine Uk rfl ?_ | refine Ul rfl ?_ | refine Um ?_ | refine Un ?_ | refine Uo ?_ | refine Up rfl ?_ | refine Uq ?_ | refine Ur ?_ | refine Us ?_ | refine Ut ?_ | refine Uu ?_ | refine Ux ?_ | refine Uv rfl rfl rfl rfl ?_ | refine Uw rfl rfl rfl ?_ | refine U0 z0 ?_ | refine U1 z1 ?_ | refine U9 zs ?_
          exact ⟨⟨(h, ⟨X.wide, X.deep, (X.cells.set fa.toNat (gi (carsF X) 1)).set fb.toNat (gi (carsF X) 0)⟩), ⟨g1, by show ((X.cells.set _ _).set _ _).length ≤ 13; simp; exact hX⟩, .inl rfl, Rx⟩⟩
      · repeat first | refine Ua ?_ | refine Ub ?_ | refine Uc ?_ | refine Ud ?_ | refine Ue ?_ | refine Ug ⟨by kernel_rfl, ?_⟩ | refine Ug ?_ | refine Uh ?_ | refine Ui ?_ | refine Uj ?_ | refine Uk rfl ?_ | refine Ul rfl ?_ | refine Um ?_ | refine Un ?_ | refine Uo ?_ | refine Up rfl ?_ | refine Uq ?_ | refine Ur ?_ | refine Us ?_ | refine Ut ?_ | refine Uu ?_ | refine Ux ?_ | refine Uv rfl rfl rfl rfl ?_ | refine Uw rfl rfl rfl ?_ | refine U0 z0 ?_ | refine U1 (by first | (apply st_recv_v (hfn := hO2 ); (iterate 4 exact rfl); exact fz; iterate 2 exact rfl) | exact z1 | fail) ?_ | refine U9 zs ?_
        refine ax_cond rfl (fun hb4 => ?_) (fun hb4 => ?_)
        · repeat first | refine Ua ?_ | refine Ub ?_ | refine Uc ?_ | refine Ud ?_ | refine Ue ?_ | refine Ug ⟨by kernel_rfl, ?_⟩ | refine Ug ?_ | refine Uh ?_ | refine Ui ?_ | refine Uj ?_ | refine Uk rfl ?_ | refine Ul rfl ?_ | refine Um ?_ | refine Un ?_ | refine Uo ?_ | refine Up rfl ?_ | refine Uq ?_ | refine Ur ?_ | refine Us ?_ | refine Ut ?_ | refine Uu ?_ | refine Ux ?_ | refine Uv rfl rfl rfl rfl ?_ | refine Uw rfl rfl rfl ?_ | refine U0 z0 ?_ | refine U1 z1 ?_ | refine U9 zs ?_ | refine U2 (by first | (apply st_recv_h (hfn := hH4 ); (iterate 4 exact rfl); exact fz; iterate 3 exact rfl) | fail) ?_
          exact ⟨⟨(h, h4), ⟨g1, e4⟩, .inl rfl, Rx⟩⟩
        · repeat first | refine Ua ?_ | refine Ub ?_ | refine Uc ?_ | refine Ud ?_ | refine Ue ?_ | refine Ug ⟨by kernel_rfl, ?_⟩ | refine Ug ?_ | refine Uh ?_ | refine Ui ?_ | refine Uj ?_ | refine Uk rfl ?_ | refine Ul rfl ?_ | refine Um ?_ | refine Un ?_ | refine Uo ?_ | refine Up rfl ?_ | refine Uq ?_ | refine Ur ?_ | refine Us ?_ | refine Ut ?_ | refine Uu ?_ | refine Ux ?_ | refine Uv rfl rfl rfl rfl ?_ | refine Uw rfl rfl rfl ?_ | refine U0 z0 ?_ | refine U1 z1 ?_ | refine U9 zs ?_
          exact ⟨⟨(h, X), ⟨g1, hX⟩, .inl rfl, Rx⟩⟩
    · repeat first | refine Ua ?_ | refine Ub ?_ | refine Uc ?_ | refine Ud ?_ | refine Ue ?_ | refine Ug ⟨by kernel_rfl, ?_⟩ | refine Ug ?_ | refine Uh ?_ | refine Ui ?_ | refine Uj ?_ | refine Uk rfl ?_ | refine Ul rfl ?_ | refine Um ?_ | refine Un ?_ | refine Uo ?_ | refine Up rfl ?_ | refine Uq ?_ | refine Ur ?_ | refine Us ?_ | refine Ut ?_ | refine Uu ?_ | refine Ux ?_ | refine Af (h := ?_) | refine At (h := ?_) | refine Uv rfl rfl rfl rfl ?_ | refine Uw rfl rfl rfl ?_ | refine U0 z0 ?_ | refine U1 (by first | (apply st_call_s (hfn := specHallCars_fn X (by omega) ); exact rfl; exact fz; iterate 2 exact rfl) | (apply st_recv_v (hfn := hO ); (iterate 4 exact rfl); exact fz; iterate 2 exact rfl) | exact z1 | fail) ?_ | refine U9 zs ?_ | refine Kf (h := ?_) | refine Kt (h := ?_)
      refine ax_cond rfl (fun hb4 => ?_) (fun hb4 => ?_)
      · repeat first | refine Ua ?_ | refine Ub ?_ | refine Uc ?_ | refine Ud ?_ | refine Ue ?_ | refine Ug ⟨by kernel_rfl, ?_⟩ | refine Ug ?_ | refine Uh ?_ | refine Ui ?_ | refine Uj ?_ | refine Uk rfl ?_ | refine Ul rfl ?_ | refine Um ?_ | refine Un ?_ | refine Uo ?_ | refine Up rfl ?_ | refine Uq ?_ | refine Ur ?_ | refine Us ?_ | refine Ut ?_ | refine Uu ?_ | refine Ux ?_ | refine Uv rfl rfl rfl rfl ?_ | refine Uw rfl rfl rfl ?_ | refine U0 z0 ?_ | refine U1 z1 ?_ | refine U9 zs ?_ | refine U2 (by first | (apply st_recv_h (hfn := hH3 ); (iterate 4 exact rfl); exact fz; iterate 3 exact rfl) | fail) ?_
        exact ⟨⟨(h, h3), ⟨g1, e1⟩, .inl rfl, Rx⟩⟩
      · repeat first | refine Ua ?_ | refine Ub ?_ | refine Uc ?_ | refine Ud ?_ | refine Ue ?_ | refine Ug ⟨by kernel_rfl, ?_⟩ | refine Ug ?_ | refine Uh ?_ | refine Ui ?_ | refine Uj ?_ | refine Uk rfl ?_ | refine Ul rfl ?_ | refine Um ?_ | refine Un ?_ | refine Uo ?_ | refine Up rfl ?_ | refine Uq ?_ | refine Ur ?_ | refine Us ?_ | refine Ut ?_ | refine Uu ?_ | refine Ux ?_ | refine Uv rfl rfl rfl rfl ?_ | refine Uw rfl rfl rfl ?_ | refine U0 z0 ?_ | refine U1 z1 ?_ | refine U9 zs ?_
        exact ⟨⟨(h, X), ⟨g1, hX⟩, .inl rfl, Rx⟩⟩
end Go.Proofs.YtnfjmcenjpoloaaDoor
