/-
  More drawn inputs: crowded halls.
-/
import Derived.Test.YtnfjmcenjpoloaaDoorWD
import Derived.Test.YtnfjmcenjpoloaaDoorU6
set_option linter.unusedVariables false
set_option linter.unusedSimpArgs false
set_option maxRecDepth 100000
namespace Go.Proofs.YtnfjmcenjpoloaaDoor
open Go Go.RowKit Go.Park Go.Sym

set_option maxHeartbeats 8000000 in
theorem l20Crowd_fn (x0 : Value) (l : List Int) (hB : Bytes l) (p : Int) (hp : 0 ≤ p ∧ p ≤ 700000) (n : Int) (hn : 0 ≤ n ∧ n ≤ 1000) : ∃ i : PHall × Int × Int, (i.1.cells.length ≤ 13 ∧ p ≤ i.2.2 ∧ i.2.2 ≤ p + 100) ∧ FnR Tryd.prog 65 103 x0 5 (byts l) p [.int n] i.2.2 (.tup [hallV i.1, .int i.2.1]) := by
  obtain ⟨⟨h, q⟩, ⟨g1, g2, g3⟩, hH⟩ := l20Hall_fn x0 l hB p (by omega) n hn
  dsimp only at g1 g2 g3 hH
  have hlim := lim_eq
  have u0 := pick_tri hB (p := q) (n := 3) (by omega) (by omega)
  refine fnr_go2 (Good := fun i : PHall × Int × Int => i.1.cells.length ≤ 13 ∧ p ≤ i.2.2 ∧ i.2.2 ≤ p + 100) (pos := fun i => i.2.2) (res := fun i => .tup [hallV i.1, .int i.2.1]) tabOk Tryd.func65 rfl (by kernel_rfl) Tryd.ntmps65 Tryd.results65 (by decide) ?_
  repeat first | refine Ua ?_ | refine Ub ?_ | refine Uc ?_ | refine Ud ?_ | refine Ue ?_ | refine Ug ⟨by kernel_rfl, ?_⟩ | refine Ug ?_ | refine Uh ?_ | refine Ui ?_ | refine Uj ?_ | refine Uk rfl ?_ | refine Ul rfl ?_ | refine Um ?_ | refine Un ?_ | refine Uo ?_ | refine Up rfl ?_ | refine Uq ?_ | refine Ur ?_ | refine Us ?_ | refine Ut ?_ | refine Uu ?_ | refine Ux ?_ | refine Uv rfl rfl rfl rfl ?_ | refine Uw rfl rfl rfl ?_ | refine U0 z0 ?_ | refine U1 (by first | (apply st_recv_v (hfn := pick_fn x0 l hB q (by omega) 3 ); (iterate 4 exact rfl); exact fz; iterate 2 exact rfl) | exact z1 | fail) ?_ | refine U9 zs ?_ | refine U2 (by first | (apply st_recv_h (hfn := hH ); (iterate 4 exact rfl); exact fz; iterate 3 exact rfl) | fail) ?_
  refine ax_cond rfl (fun hb => ?_) (fun hb => ?_)
  · have u1 := pick_tri hB (p := q + 1) (n := 2) (by omega) (by omega)
    repeat first | refine Ua ?_ | refine Ub ?_ | refine Uc ?_ | refine Ud ?_ | refine Ue ?_ | refine Ug ⟨by kernel_rfl, ?_⟩ | refine Ug ?_ | refine Uh ?_ | refine Ui ?_ | refine Uj ?_ | refine Uk rfl ?_ | refine Ul rfl ?_ | refine Um ?_ | refine Un ?_ | refine Uo ?_ | refine Up rfl ?_ | refine Uq ?_ | refine Ur ?_ | refine Us ?_ | refine Ut ?_ | refine Uu ?_ | refine Ux ?_ | refine Uv rfl rfl rfl rfl ?_ | refine Uw rfl rfl rfl ?_ | refine U0 z0 ?_ | refine U1 (by first | (apply st_recv_v (hfn := pick_fn x0 l hB (q + 1) (by omega) 2 ); (iterate 4 exact rfl); exact fz; iterate 2 exact rfl) | exact z1 | fail) ?_ | refine U9 zs ?_
    refine ax_loop (fun i : Nat × Int × Int × List Int => mkS [(9, .int (i.1 : Int)), (8, .int (1 + pickF l (q + 1) 2)), (7, .int i.2.1), (6, .ptr 4 0 0), (4, .ptr 1 0 0), (0, .ptr 0 0 0), (1, .int n)] ⟨5, [(0, some (rdR x0 l i.2.2.1)), (1, some zeroRow), (2, some (intsRow i.2.2.2)), (4, some (boxRow h.wide h.deep 2 0))]⟩) (fun i => i.1 ≤ h.cells.length ∧ i.2.2.2.length = h.cells.length ∧ q + 2 ≤ i.2.2.1 ∧ i.2.2.1 ≤ q + 2 + i.1 ∧ 70 ≤ i.2.1 ∧ i.2.1 ≤ 70 + i.1) (fun i => h.cells.length - i.1) ((0, 70, q + 1 + 1, h.cells)) (⟨Nat.zero_le _, rfl, by show q + 2 ≤ q + 1 + 1; omega, by show q + 1 + 1 ≤ q + 2 + ((0 : Nat) : Int); omega, by show (70 : Int) ≤ 70; omega, by show (70 : Int) ≤ 70 + ((0 : Nat) : Int); omega⟩) (Lw (ρ := [])) ?_
    rintro ⟨k, id, q2, cs⟩ ⟨hk, hcs, hq1, hq2, hi1, hi2⟩
    dsimp only at hk hcs hq1 hq2 hi1 hi2 ⊢
    obtain ⟨X, hX⟩ : ∃ X : PHall, X = ⟨h.wide, h.deep, cs⟩ := ⟨_, rfl⟩
    have hXl : X.cells.length ≤ lim := by rw [hX]; show cs.length ≤ lim; omega
    have hF : FnS Tryd.prog 96 [hallV ⟨h.wide, h.deep, cs⟩] (intsV (hallFreeF X)) := by rw [← hX]; exact specHallFree_fn X hXl
    have hfl := free_len X
    have hXc : X.cells.length = cs.length := by rw [hX]
    obtain ⟨⟨c, q3⟩, c1, hC⟩ := l20Car_fn x0 l hB q2 (by omega) ⟨h.wide, h.deep, cs⟩ (by show cs.length ≤ 1000; omega)
    dsimp only at c1 hC
    have u2 := pick_tri hB (p := q2) (n := 5) (by omega) (by omega)
    repeat first | refine Ua ?_ | refine Ub ?_ | refine Uc ?_ | refine Ud ?_ | refine Ue ?_ | refine Ug ⟨by kernel_rfl, ?_⟩ | refine Ug ?_ | refine Uh ?_ | refine Ui ?_ | refine Uj ?_ | refine Uk rfl ?_ | refine Ul rfl ?_ | refine Um ?_ | refine Un ?_ | refine Uo ?_ | refine Up rfl ?_ | refine Uq ?_ | refine Ur ?_ | refine Us ?_ | refine Ut ?_ | refine Uu ?_ | refine Ux ?_ | refine Uv rfl rfl rfl rfl ?_ | refine Uw rfl rfl rfl ?_ | refine U0 z0 ?_ | refine U1 z1 ?_ | refine U9 zs ?_
    refine rh_split rfl rfl (fun hb2 => ?_) (fun hb2 => ?_)
    · have hlt : k < cs.length := by simpa using hb2
      repeat first | refine Ua ?_ | refine Ub ?_ | refine Uc ?_ | refine Ud ?_ | refine Ue ?_ | refine Ug ⟨by kernel_rfl, ?_⟩ | refine Ug ?_ | refine Uh ?_ | refine Ui ?_ | refine Uj ?_ | refine Uk rfl ?_ | refine Ul rfl ?_ | refine Um ?_ | refine Un ?_ | refine Uo ?_ | refine Up rfl ?_ | refine Uq ?_ | refine Ur ?_ | refine Us ?_ | refine Ut ?_ | refine Uu ?_ | refine Ux ?_ | refine Uv rfl rfl rfl rfl ?_ | refine Uw rfl rfl rfl ?_ | refine U0 z0 ?_ | refine U1 (by first | (apply st_call_s (hfn := hF ); exact rfl; exact fz; iterate 2 exact rfl) | exact z1 | fail) ?_ | refine U9 zs ?_
      refine ax_cond rfl (fun hb3 => ?_) (fun hb3 => ?_)
      · skip
        repeat first | refine Ua ?_ | refine Ub ?_ | refine Uc ?_ | refine Ud ?_ | refine Ue ?_ | refine Ug ⟨by kernel_rfl, ?_⟩ | refine Ug ?_ | refine Uh ?_ | refine Ui ?_ | refine Uj ?_ | refine Uk rfl ?_ | refine Ul rfl ?_ | refine Um ?_ | refine Un ?_ | refine Uo ?_ | refine Up rfl ?_ | refine Uq ?_ | refine Ur ?_ | refine Us ?_ | refine Ut ?_ | refine Uu ?_ | refine Ux ?_ | refine Uv rfl rfl rfl rfl ?_ | refine Uw rfl rfl rfl ?_ | refine U0 z0 ?_ | refine U1 z1 ?_ | refine U9 zs ?_
        refine rh_split rfl rfl (fun hb4 => ?_) (fun hb4 => ?_)
        · skip
          repeat first | refine Ua ?_ | refine Ub ?_ | refine Uc ?_ | refine Ud ?_ | refine Ue ?_ | refine Ug ⟨by kernel_rfl, ?_⟩ | refine Ug ?_ | refine Uh ?_ | refine Ui ?_ | refine Uj ?_ | refine Uk rfl ?_ | refine Ul rfl ?_ | refine Um ?_ | refine Un ?_ | refine Uo ?_ | refine Up rfl ?_ | refine Uq ?_ | refine Ur ?_ | refine Us ?_ | refine Ut ?_ | refine Uu ?_ | refine Ux ?_ | refine Uv rfl rfl rfl rfl ?_ | refine Uw rfl rfl rfl ?_ | refine U0 z0 ?_ | refine U1 (by first | (apply st_recv_v (hfn := pick_fn x0 l hB q2 (by omega) 5 ); (iterate 4 exact rfl); exact fz; iterate 2 exact rfl) | exact z1 | fail) ?_ | refine U9 zs ?_
          refine ax_cond rfl (fun hb5 => ?_) (fun hb5 => ?_)
          · skip
            repeat first | refine Ua ?_ | refine Ub ?_ | refine Uc ?_ | refine Ud ?_ | refine Ue ?_ | refine Ug ⟨by kernel_rfl, ?_⟩ | refine Ug ?_ | refine Uh ?_ | refine Ui ?_ | refine Uj ?_ | refine Uk rfl ?_ | refine Ul rfl ?_ | refine Um ?_ | refine Un ?_ | refine Uo ?_ | refine Up rfl ?_ | refine Uq ?_ | refine Ur ?_ | refine Us ?_ | refine Ut ?_ | refine Uu ?_ | refine Ux ?_ | refine Uv rfl rfl rfl rfl ?_ | refine Uw rfl rfl rfl ?_ | refine U0 z0 ?_ | refine U1 z1 ?_ | refine U9 zs ?_
            refine round_next ((k + 1, id + 1, q2 + 1, cs.set k id)) (⟨by show k + 1 ≤ h.cells.length; omega, by show (cs.set k id).length = h.cells.length; simp [hcs], by show q + 2 ≤ q2 + 1; omega, by show q2 + 1 ≤ q + 2 + ((k + 1 : Nat) : Int); omega, by show (70 : Int) ≤ id + 1; omega, by show id + 1 ≤ 70 + ((k + 1 : Nat) : Int); omega⟩) ((by show h.cells.length - (k + 1) < h.cells.length - k; omega)) (Lw (ρ := []))
          · skip
            repeat first | refine Ua ?_ | refine Ub ?_ | refine Uc ?_ | refine Ud ?_ | refine Ue ?_ | refine Ug ⟨by kernel_rfl, ?_⟩ | refine Ug ?_ | refine Uh ?_ | refine Ui ?_ | refine Uj ?_ | refine Uk rfl ?_ | refine Ul rfl ?_ | refine Um ?_ | refine Un ?_ | refine Uo ?_ | refine Up rfl ?_ | refine Uq ?_ | refine Ur ?_ | refine Us ?_ | refine Ut ?_ | refine Uu ?_ | refine Ux ?_ | refine Uv rfl rfl rfl rfl ?_ | refine Uw rfl rfl rfl ?_ | refine U0 z0 ?_ | refine U1 z1 ?_ | refine U9 zs ?_
            refine round_next ((k + 1, id, q2 + 1, cs)) (⟨by show k + 1 ≤ h.cells.length; omega, hcs, by show q + 2 ≤ q2 + 1; omega, by show q2 + 1 ≤ q + 2 + ((k + 1 : Nat) : Int); omega, by show (70 : Int) ≤ id; omega, by show id ≤ 70 + ((k + 1 : Nat) : Int); omega⟩) ((by show h.cells.length - (k + 1) < h.cells.length - k; omega)) (Lw (ρ := []))
        · skip
          repeat first | refine Ua ?_ | refine Ub ?_ | refine Uc ?_ | refine Ud ?_ | refine Ue ?_ | refine Ug ⟨by kernel_rfl, ?_⟩ | refine Ug ?_ | refine Uh ?_ | refine Ui ?_ | refine Uj ?_ | refine Uk rfl ?_ | refine Ul rfl ?_ | refine Um ?_ | refine Un ?_ | refine Uo ?_ | refine Up rfl ?_ | refine Uq ?_ | refine Ur ?_ | refine Us ?_ | refine Ut ?_ | refine Uu ?_ | refine Ux ?_ | refine Uv rfl rfl rfl rfl ?_ | refine Uw rfl rfl rfl ?_ | refine U0 z0 ?_ | refine U1 z1 ?_ | refine U9 zs ?_
          refine round_next ((k + 1, id, q2, cs)) (⟨by show k + 1 ≤ h.cells.length; omega, hcs, by show q + 2 ≤ q2; omega, by show q2 ≤ q + 2 + ((k + 1 : Nat) : Int); omega, by show (70 : Int) ≤ id; omega, by show id ≤ 70 + ((k + 1 : Nat) : Int); omega⟩) ((by show h.cells.length - (k + 1) < h.cells.length - k; omega)) (Lw (ρ := []))
      · skip
        repeat first | refine Ua ?_ | refine Ub ?_ | refine Uc ?_ | refine Ud ?_ | refine Ue ?_ | refine Ug ⟨by kernel_rfl, ?_⟩ | refine Ug ?_ | refine Uh ?_ | refine Ui ?_ | refine Uj ?_ | refine Uk rfl ?_ | refine Ul rfl ?_ | refine Um ?_ | refine Un ?_ | refine Uo ?_ | refine Up rfl ?_ | refine Uq ?_ | refine Ur ?_ | refine Us ?_ | refine Ut ?_ | refine Uu ?_ | refine Ux ?_ | refine Uv rfl rfl rfl rfl ?_ | refine Uw rfl rfl rfl ?_ | refine U0 z0 ?_ | refine U1 (by first | (apply st_recv_v (hfn := hC ); (iterate 4 exact rfl); exact fz; iterate 2 exact rfl) | exact z1 | fail) ?_ | refine U9 zs ?_
        exact ⟨⟨(⟨h.wide, h.deep, cs⟩, c, q3), ⟨by show cs.length ≤ 13; omega, by dsimp only; omega, by dsimp only; omega⟩, .inl rfl, rfl, Rx⟩⟩
    · skip
      repeat first | refine Ua ?_ | refine Ub ?_ | refine Uc ?_ | refine Ud ?_ | refine Ue ?_ | refine Ug ⟨by kernel_rfl, ?_⟩ | refine Ug ?_ | refine Uh ?_ | refine Ui ?_ | refine Uj ?_ | refine Uk rfl ?_ | refine Ul rfl ?_ | refine Um ?_ | refine Un ?_ | refine Uo ?_ | refine Up rfl ?_ | refine Uq ?_ | refine Ur ?_ | refine Us ?_ | refine Ut ?_ | refine Uu ?_ | refine Ux ?_ | refine Uv rfl rfl rfl rfl ?_ | refine Uw rfl rfl rfl ?_ | refine U0 z0 ?_ | refine U1 (by first | (apply st_recv_v (hfn := hC ); (iterate 4 exact rfl); exact fz; iterate 2 exact rfl) | exact z1 | fail) ?_ | refine U9 zs ?_
      exact ⟨⟨(⟨h.wide, h.deep, cs⟩, c, q3), ⟨by show cs.length ≤ 13; omega, by dsimp only; omega, by dsimp only; omega⟩, .inl rfl, rfl, Rx⟩⟩
  · obtain ⟨⟨c, q2⟩, c1, hC⟩ := l20Car_fn x0 l hB (q + 1) (by omega) h (by omega)
    dsimp only at c1 hC
    repeat first | refine Ua ?_ | refine Ub ?_ | refine Uc ?_ | refine Ud ?_ | refine Ue ?_ | refine Ug ⟨by kernel_rfl, ?_⟩ | refine Ug ?_ | refine Uh ?_ | refine Ui ?_ | refine Uj ?_ | refine Uk rfl ?_ | refine Ul rfl ?_ | refine Um ?_ | refine Un ?_ | refine Uo ?_ | refine Up rfl ?_ | refine Uq ?_ | refine Ur ?_ | refine Us ?_ | refine Ut ?_ | refine Uu ?_ | refine Ux ?_ | refine Uv rfl rfl rfl rfl ?_ | refine Uw rfl rfl rfl ?_ | refine U0 z0 ?_ | refine U1 (by first | (apply st_recv_v (hfn := hC ); (iterate 4 exact rfl); exact fz; iterate 2 exact rfl) | exact z1 | fail) ?_ | refine U9 zs ?_
    exact ⟨⟨(h, c, q2), ⟨g1, by dsimp only; omega, by dsimp only; omega⟩, .inl rfl, rfl, Rx⟩⟩
end Go.Proofs.YtnfjmcenjpoloaaDoor
