/-
  DrawFetchRun.
-/
import Derived.Test.YtnfjmcenjpoloaaDoorWG
import Derived.Test.YtnfjmcenjpoloaaDoorWQ
set_option linter.unusedVariables false
set_option linter.unusedSimpArgs false
set_option maxRecDepth 100000
namespace Go.Proofs.YtnfjmcenjpoloaaDoor
open Go Go.RowKit Go.Park Go.Sym
set_option maxHeartbeats 4000000 in
theorem drawFetchRun_fn (v0 : Value) (bs : List Int) (hB : OkB bs) : ∃ i : PHall × List Int, (i.1.cells.length ≤ 13 ∧ i.2.length ≤ 20) ∧ FnS Tryd.prog 27 [codeV v0 bs] (.tup [hallV i.1, intsV i.2]) := by
  have hC := cut_bytes hB
  obtain ⟨⟨h, id, q⟩, ⟨g1, g2, g3⟩, hH⟩ := l20Crowd_fn (rdV v0) _ hC 0 (by omega) 9 (by omega)
  dsimp only at g1 g2 g3 hH
  have hlim := lim_eq
  have hcl := carsF_len h
  refine fnx_go1 (Good := fun i : PHall × List Int => i.1.cells.length ≤ 13 ∧ i.2.length ≤ 20) (res := fun i => .tup [hallV i.1, intsV i.2]) tabOk Tryd.func27 rfl (by kernel_rfl) Tryd.ntmps27 Tryd.results27 (by decide) ?_
  repeat first | refine Ua ?_ | refine Ub ?_ | refine Uc ?_ | refine Ud ?_ | refine Ue ?_ | refine Ug ⟨by kernel_rfl, ?_⟩ | refine Ug ?_ | refine Uh ?_ | refine Ui ?_ | refine Uj ?_ | refine Uk rfl ?_ | refine Ul rfl ?_ | refine Um ?_ | refine Un ?_ | refine Uo ?_ | refine Up rfl ?_ | refine Uq ?_ | refine Ur ?_ | refine Us ?_ | refine Ut ?_ | refine Uu ?_ | refine Ux ?_ | refine Uv rfl rfl rfl rfl ?_ | refine Uw rfl rfl rfl ?_ | refine U0 z0 ?_ | refine U1 (by first | (apply st_open; iterate 4 exact rfl) | (apply st_call_s (hfn := specHallCars_fn h (by omega) ); exact rfl; exact fz; iterate 2 exact rfl) | exact z1 | fail) ?_ | refine U9 zs ?_ | refine U2 (by first | (apply st_recv_hv (hfn := hH ); (iterate 4 exact rfl); exact fz; iterate 3 exact rfl) | fail) ?_
  refine ax_loop (fun i : List Int × Nat × Int => mkS [(9, .int (i.2.1 : Int)), (8, .own 7 0), (7, .own 6 0), (5, .ptr 5 0 0), (4, .ptr 2 0 0), (2, .ptr 1 0 0)] ⟨8, [(1, some zeroRow), (2, some (rdR (rdV v0) (bs.take (cutN bs.length)) i.2.2)), (3, some (intsRow h.cells)), (5, some (boxRow h.wide h.deep 3 0)), (6, some (intsRow i.1)), (7, some (intsRow (carsF h)))]⟩) (fun i => i.1.length = i.2.1 ∧ i.2.1 ≤ (carsF h).length ∧ q ≤ i.2.2 ∧ i.2.2 ≤ q + 10 * i.2.1) (fun i => (carsF h).length - i.2.1) (([], 0, q)) (⟨rfl, Nat.zero_le _, Int.le_refl _, by show q ≤ q + 10 * ((0 : Nat) : Int); omega⟩) (Lw (ρ := [])) ?_
  rintro ⟨ids, k, q2⟩ ⟨e1, e2, e3, e4⟩
  dsimp only at e1 e2 e3 e4 ⊢
  repeat first | refine Ua ?_ | refine Ub ?_ | refine Uc ?_ | refine Ud ?_ | refine Ue ?_ | refine Ug ⟨by kernel_rfl, ?_⟩ | refine Ug ?_ | refine Uh ?_ | refine Ui ?_ | refine Uj ?_ | refine Uk rfl ?_ | refine Ul rfl ?_ | refine Um ?_ | refine Un ?_ | refine Uo ?_ | refine Up rfl ?_ | refine Uq ?_ | refine Ur ?_ | refine Us ?_ | refine Ut ?_ | refine Uu ?_ | refine Ux ?_ | refine Uv rfl rfl rfl rfl ?_ | refine Uw rfl rfl rfl ?_ | refine U0 z0 ?_ | refine U1 z1 ?_ | refine U9 zs ?_
  refine ax_cond rfl (fun hb => ?_) (fun hb => ?_)
  · have hlt : k < (carsF h).length := by simpa using hb
    have u := pick_tri hC (p := q2) (n := (ids.length : Int) + 1) (by omega) (by omega)
    obtain ⟨at', hat⟩ : ∃ at' : Nat, pickF (bs.take (cutN bs.length)) q2 ((ids.length : Int) + 1) = (at' : Int) := ⟨(pickF (bs.take (cutN bs.length)) q2 ((ids.length : Int) + 1)).toNat, by omega⟩
    have hp := pick_fn (rdV v0) _ hC q2 (by omega) ((ids.length : Int) + 1)
    rw [hat] at hp u
    have t1 : (ids.take at').length = at' := by rw [List.length_take]; omega
    have t2 : ((ids.drop at').take (ids.length - at')).length = ids.length - at' := by rw [List.length_take, List.length_drop]; omega
    repeat first | refine Ua ?_ | refine Ub ?_ | refine Uc ?_ | refine Ud ?_ | refine Ue ?_ | refine Ug ⟨by kernel_rfl, ?_⟩ | refine Ug ?_ | refine Uh ?_ | refine Ui ?_ | refine Uj ?_ | refine Uk rfl ?_ | refine Ul rfl ?_ | refine Um ?_ | refine Un ?_ | refine Uo ?_ | refine Up rfl ?_ | refine Uq ?_ | refine Ur ?_ | refine Us ?_ | refine Ut ?_ | refine Uu ?_ | refine Ux ?_ | refine Uv rfl rfl rfl rfl ?_ | refine Uw rfl rfl rfl ?_ | refine U0 (by first | (apply does_from_own (o := at') (n := ids.length) tabOk; (iterate 11 exact rfl); exact ints_length _; exact ⟨by omega, by omega⟩) | exact z0 | fail) ?_ | refine U1 (by first | (apply st_recv_v (hfn := hp ); (iterate 4 exact rfl); exact fz; iterate 2 exact rfl) | (apply st_app_sub tabOk; (iterate 22 exact rfl); omega; (first | omega | (simp; omega))) | (apply st_cut (o := at') tabOk; (iterate 15 exact rfl); exact ⟨by omega, by omega⟩) | exact z1 | fail) ?_ | refine U9 zs ?_
    trace_state
    refine round_next ((ids.take at' ++ [gi (carsF h) k] ++ ([] ++ (ids.drop at').take (ids.length - at')), k + 1, q2 + 1)) (⟨by simp only [List.length_append, List.length_cons, List.length_nil, t1, t2]; omega, hlt, by show q ≤ q2 + 1; omega, by show q2 + 1 ≤ q + 10 * ((k + 1 : Nat) : Int); omega⟩) (by show (carsF h).length - (k + 1) < (carsF h).length - k; omega) (Lw (ρ := []))
  · have hkn : k = (carsF h).length := by simp at hb; omega
    by_cases h4 : 4 < ids.length
    · have u := pick_tri hC (p := q2) (n := 3) (by omega) (by omega)
      obtain ⟨q3, ⟨d1, d2⟩, hO⟩ := odd_fn (rdV v0) _ hC (q2 + 1) (by omega) 12 (by omega)
      have t3 : (ids.take 4).length = 4 := by rw [List.length_take]; omega
      repeat first | refine Ua ?_ | refine Ub ?_ | refine Uc ?_ | refine Ud ?_ | refine Ue ?_ | refine Ug ⟨by kernel_rfl, ?_⟩ | refine Ug ?_ | refine Uh ?_ | refine Ui ?_ | refine Uj ?_ | refine Uk rfl ?_ | refine Ul rfl ?_ | refine Um ?_ | refine Un ?_ | refine Uo ?_ | refine Up rfl ?_ | refine Uq ?_ | refine Ur ?_ | refine Us ?_ | refine Ut ?_ | refine Uu ?_ | refine Ux ?_ | refine Af (h := ?_) | refine At (h := ?_) | refine Uv rfl rfl rfl rfl ?_ | refine Uw rfl rfl rfl ?_ | refine U0 z0 ?_ | refine U1 (by first | (apply st_recv_v (hfn := pick_fn (rdV v0) _ hC q2 (by omega) 3 ); (iterate 4 exact rfl); exact fz; iterate 2 exact rfl) | exact z1 | fail) ?_ | refine U9 zs ?_ | refine Kf (h := ?_) | refine Kt (h := ?_)
      refine ax_cond rfl (fun hb2 => ?_) (fun hb2 => ?_)
      · repeat first | refine Ua ?_ | refine Ub ?_ | refine Uc ?_ | refine Ud ?_ | refine Ue ?_ | refine Ug ⟨by kernel_rfl, ?_⟩ | refine Ug ?_ | refine Uh ?_ | refine Ui ?_ | refine Uj ?_ | refine Uk rfl ?_ | refine Ul rfl ?_ | refine Um ?_ | refine Un ?_ | refine Uo ?_ | refine Up rfl ?_ | refine Uq ?_ | refine Ur ?_ | refine Us ?_ | refine Ut ?_ | refine Uu ?_ | refine Ux ?_ | refine Uv rfl rfl rfl rfl ?_ | refine Uw rfl rfl rfl ?_ | refine U0 z0 ?_ | refine U1 (by first | (apply st_recv_v (hfn := hO ); (iterate 4 exact rfl); exact fz; iterate 2 exact rfl) | (apply st_cut (o := 4) tabOk; (iterate 15 exact rfl); exact ⟨by omega, by omega⟩) | exact z1 | fail) ?_ | refine U9 zs ?_
        refine ax_cond rfl (fun hb3 => ?_) (fun hb3 => ?_)
        · repeat first | refine Ua ?_ | refine Ub ?_ | refine Uc ?_ | refine Ud ?_ | refine Ue ?_ | refine Ug ⟨by kernel_rfl, ?_⟩ | refine Ug ?_ | refine Uh ?_ | refine Ui ?_ | refine Uj ?_ | refine Uk rfl ?_ | refine Ul rfl ?_ | refine Um ?_ | refine Un ?_ | refine Uo ?_ | refine Up rfl ?_ | refine Uq ?_ | refine Ur ?_ | refine Us ?_ | refine Ut ?_ | refine Uu ?_ | refine Ux ?_ | refine Uv rfl rfl rfl rfl ?_ | refine Uw rfl rfl rfl ?_ | refine U0 z0 ?_ | refine U1 z1 ?_ | refine U9 zs ?_
          exact ⟨⟨(h, ids.take 4 ++ [44]), ⟨g1, by show (ids.take 4 ++ [(44 : Int)]).length ≤ 20; simp only [List.length_append, List.length_cons, List.length_nil, t3]; omega⟩, .inl rfl, Rx⟩⟩
        · repeat first | refine Ua ?_ | refine Ub ?_ | refine Uc ?_ | refine Ud ?_ | refine Ue ?_ | refine Ug ⟨by kernel_rfl, ?_⟩ | refine Ug ?_ | refine Uh ?_ | refine Ui ?_ | refine Uj ?_ | refine Uk rfl ?_ | refine Ul rfl ?_ | refine Um ?_ | refine Un ?_ | refine Uo ?_ | refine Up rfl ?_ | refine Uq ?_ | refine Ur ?_ | refine Us ?_ | refine Ut ?_ | refine Uu ?_ | refine Ux ?_ | refine Uv rfl rfl rfl rfl ?_ | refine Uw rfl rfl rfl ?_ | refine U0 z0 ?_ | refine U1 z1 ?_ | refine U9 zs ?_
          exact ⟨⟨(h, ids.take 4), ⟨g1, by show (ids.take 4).length ≤ 20; omega⟩, .inl rfl, Rx⟩⟩
      · repeat first | refine Ua ?_ | refine Ub ?_ | refine Uc ?_ | refine Ud ?_ | refine Ue ?_ | refine Ug ⟨by kernel_rfl, ?_⟩ | refine Ug ?_ | refine Uh ?_ | refine Ui ?_ | refine Uj ?_ | refine Uk rfl ?_ | refine Ul rfl ?_ | refine Um ?_ | refine Un ?_ | refine Uo ?_ | refine Up rfl ?_ | refine Uq ?_ | refine Ur ?_ | refine Us ?_ | refine Ut ?_ | refine Uu ?_ | refine Ux ?_ | refine Uv rfl rfl rfl rfl ?_ | refine Uw rfl rfl rfl ?_ | refine U0 z0 ?_ | refine U1 (by first | (apply st_recv_v (hfn := hO ); (iterate 4 exact rfl); exact fz; iterate 2 exact rfl) | exact z1 | fail) ?_ | refine U9 zs ?_
        refine ax_cond rfl (fun hb3 => ?_) (fun hb3 => ?_)
        · repeat first | refine Ua ?_ | refine Ub ?_ | refine Uc ?_ | refine Ud ?_ | refine Ue ?_ | refine Ug ⟨by kernel_rfl, ?_⟩ | refine Ug ?_ | refine Uh ?_ | refine Ui ?_ | refine Uj ?_ | refine Uk rfl ?_ | refine Ul rfl ?_ | refine Um ?_ | refine Un ?_ | refine Uo ?_ | refine Up rfl ?_ | refine Uq ?_ | refine Ur ?_ | refine Us ?_ | refine Ut ?_ | refine Uu ?_ | refine Ux ?_ | refine Uv rfl rfl rfl rfl ?_ | refine Uw rfl rfl rfl ?_ | refine U0 z0 ?_ | refine U1 z1 ?_ | refine U9 zs ?_
          exact ⟨⟨(h, ids ++ [44]), ⟨g1, by show (ids ++ [(44 : Int)]).length ≤ 20; simp only [List.length_append, List.length_cons, List.length_nil]; omega⟩, .inl rfl, Rx⟩⟩
        · repeat first | refine Ua ?_ | refine Ub ?_ | refine Uc ?_ | refine Ud ?_ | refine Ue ?_ | refine Ug ⟨by kernel_rfl, ?_⟩ | refine Ug ?_ | refine Uh ?_ | refine Ui ?_ | refine Uj ?_ | refine Uk rfl ?_ | refine Ul rfl ?_ | refine Um ?_ | refine Un ?_ | refine Uo ?_ | refine Up rfl ?_ | refine Uq ?_ | refine Ur ?_ | refine Us ?_ | refine Ut ?_ | refine Uu ?_ | refine Ux ?_ | refine Uv rfl rfl rfl rfl ?_ | refine Uw rfl rfl rfl ?_ | refine U0 z0 ?_ | refine U1 z1 ?_ | refine U9 zs ?_
          exact ⟨⟨(h, ids), ⟨g1, by show ids.length ≤ 20; omega⟩, .inl rfl, Rx⟩⟩
    · obtain ⟨q3, ⟨d1, d2⟩, hO⟩ := odd_fn (rdV v0) _ hC q2 (by omega) 12 (by omega)
      repeat first | refine Ua ?_ | refine Ub ?_ | refine Uc ?_ | refine Ud ?_ | refine Ue ?_ | refine Ug ⟨by kernel_rfl, ?_⟩ | refine Ug ?_ | refine Uh ?_ | refine Ui ?_ | refine Uj ?_ | refine Uk rfl ?_ | refine Ul rfl ?_ | refine Um ?_ | refine Un ?_ | refine Uo ?_ | refine Up rfl ?_ | refine Uq ?_ | refine Ur ?_ | refine Us ?_ | refine Ut ?_ | refine Uu ?_ | refine Ux ?_ | refine Af (h := ?_) | refine At (h := ?_) | refine Uv rfl rfl rfl rfl ?_ | refine Uw rfl rfl rfl ?_ | refine U0 z0 ?_ | refine U1 (by first | (apply st_recv_v (hfn := hO ); (iterate 4 exact rfl); exact fz; iterate 2 exact rfl) | exact z1 | fail) ?_ | refine U9 zs ?_ | refine Kf (h := ?_) | refine Kt (h := ?_)
      refine ax_cond rfl (fun hb3 => ?_) (fun hb3 => ?_)
      · repeat first | refine Ua ?_ | refine Ub ?_ | refine Uc ?_ | refine Ud ?_ | refine Ue ?_ | refine Ug ⟨by kernel_rfl, ?_⟩ | refine Ug ?_ | refine Uh ?_ | refine Ui ?_ | refine Uj ?_ | refine Uk rfl ?_ | refine Ul rfl ?_ | refine Um ?_ | refine Un ?_ | refine Uo ?_ | refine Up rfl ?_ | refine Uq ?_ | refine Ur ?_ | refine Us ?_ | refine Ut ?_ | refine Uu ?_ | refine Ux ?_ | refine Uv rfl rfl rfl rfl ?_ | refine Uw rfl rfl rfl ?_ | refine U0 z0 ?_ | refine U1 z1 ?_ | refine U9 zs ?_
        exact ⟨⟨(h, ids ++ [44]), ⟨g1, by show (ids ++ [(44 : Int)]).length ≤ 20; simp only [List.length_append, List.length_cons, List.length_nil]; omega⟩, .inl rfl, Rx⟩⟩
      · repeat first | refine Ua ?_ | refine Ub ?_ | refine Uc ?_ | refine Ud ?_ | refine Ue ?_ | refine Ug ⟨by kernel_rfl, ?_⟩ | refine Ug ?_ | refine Uh ?_ | refine Ui ?_ | refine Uj ?_ | refine Uk rfl ?_ | refine Ul rfl ?_ | refine Um ?_ | refine Un ?_ | refine Uo ?_ | refine Up rfl ?_ | refine Uq ?_ | refine Ur ?_ | refine Us ?_ | refine Ut ?_ | refine Uu ?_ | refine Ux ?_ | refine Uv rfl rfl rfl rfl ?_ | refine Uw rfl rfl rfl ?_ | refine U0 z0 ?_ | refine U1 z1 ?_ | refine U9 zs ?_
        exact ⟨⟨(h, ids), ⟨g1, by show ids.length ≤ 20; omega⟩, .inl rfl, Rx⟩⟩
end Go.Proofs.YtnfjmcenjpoloaaDoor
