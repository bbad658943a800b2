/-
  Texts: the walks of the reference's functions on texts, and of readNumber.
-/
import Derived.Test.YtnfjmcenjpoloaaDoorTS
set_option linter.unusedVariables false
set_option linter.unusedSimpArgs false
set_option maxRecDepth 100000
namespace Go.Proofs.YtnfjmcenjpoloaaDoor
open Go Go.RowKit Go.Park Go.Sym
abbrev txtsRow (ls : List (List UInt8)) : Row := ⟨9, 1, 0, true, false, txts ls⟩
def readS (l : List UInt8) : Int := match readL 4 l with
  | some n => n
  | none => -1
def readI (l : List UInt8) : Int × Bool := match readL 2 l with
  | some n => (n, true)
  | none => (0, false)
theorem readS_none {l : List UInt8} (h : readL 4 l = none) : readS l = -1 := by rw [readS, h]
theorem readS_some {l : List UInt8} {n : Nat} (h : readL 4 l = some n) : readS l = n := by rw [readS, h]
theorem readI_none {l : List UInt8} (h : readL 2 l = none) : readI l = (0, false) := by rw [readI, h]
theorem readI_some {l : List UInt8} {n : Nat} (h : readL 2 l = some n) : readI l = ((n : Int), true) := by rw [readI, h]
set_option maxHeartbeats 4000000 in
theorem l1Cut_fn (l : List UInt8) (c : UInt8) (hl : l.length ≤ 2147483647) : FnS Tryd.prog 89 [.txt l, .v (.int .u8 (c.toNat : Int))] (.sl 9 1 (txts (cutL c l))) := by
  refine fn_go2 tabOk Tryd.func89 rfl (by kernel_rfl) Tryd.ntmps89 Tryd.results89 (by decide) ?_
  repeat first | refine Ua ?_ | refine Ub ?_ | refine Uc ?_ | refine Ud ?_ | refine Ue ?_ | refine Ug ⟨by kernel_rfl, ?_⟩ | refine Ug ?_ | refine Uh ?_ | refine Ui ?_ | refine Uj ?_ | refine Uk rfl ?_ | refine Ul rfl ?_ | refine Um ?_ | refine Un ?_ | refine Uo ?_ | refine Up rfl ?_ | refine Uq ?_ | refine Ur ?_ | refine Us ?_ | refine Ut ?_ | refine Uu ?_ | refine Ux ?_ | refine Uv rfl rfl rfl rfl ?_ | refine Uw rfl rfl rfl ?_ | refine U0 (by first | exact x0 | exact z0 | fail) ?_ | refine U1 (by first | exact x1 | exact z1 | fail) ?_ | refine U9 zs ?_
  refine ax_loop (fun i : Nat × Nat × List (List UInt8) => mkS [(7, .int (i.1 : Int)), (6, .int (i.2.1 : Int)), (5, .own 1 0), (0, .txt l), (1, .v (.int .u8 (c.toNat : Int)))] ⟨2, [(1, some (txtsRow i.2.2))]⟩) (fun i => i.1 ≤ l.length ∧ i.2.1 ≤ i.1 ∧ i.2.2.length ≤ i.1 ∧ i.2.2 ++ app1 ((l.drop i.2.1).take (i.1 - i.2.1)) (cutL c (l.drop i.1)) = cutL c l) (fun i => l.length - i.1) ((0, 0, [])) (⟨Nat.zero_le _, Nat.le_refl _, Nat.le_refl _, by simp [app1_nil (cutL_ne c l)]⟩) (Lw (ρ := [])) ?_
  rintro ⟨k, o, out⟩ ⟨h1, h2, h3, h4⟩
  dsimp only at h1 h2 h3 h4 ⊢
  repeat first | refine Ua ?_ | refine Ub ?_ | refine Uc ?_ | refine Ud ?_ | refine Ue ?_ | refine Ug ⟨by kernel_rfl, ?_⟩ | refine Ug ?_ | refine Uh ?_ | refine Ui ?_ | refine Uj ?_ | refine Uk rfl ?_ | refine Ul rfl ?_ | refine Um ?_ | refine Un ?_ | refine Uo ?_ | refine Up rfl ?_ | refine Uq ?_ | refine Ur ?_ | refine Us ?_ | refine Ut ?_ | refine Uu ?_ | refine Ux ?_ | refine Uv rfl rfl rfl rfl ?_ | refine Uw rfl rfl rfl ?_ | refine U0 (by first | exact x0 | exact z0 | fail) ?_ | refine U1 (by first | exact x1 | exact z1 | fail) ?_ | refine U9 zs ?_
  refine ax_cond rfl (fun hb => ?_) (fun hb => ?_)
  · have hk : k < l.length := by simpa using hb
    repeat first | refine Ua ?_ | refine Ub ?_ | refine Uc ?_ | refine Ud ?_ | refine Ue ?_ | refine Ug ⟨by kernel_rfl, ?_⟩ | refine Ug ?_ | refine Uh ?_ | refine Ui ?_ | refine Uj ?_ | refine Uk rfl ?_ | refine Ul rfl ?_ | refine Um ?_ | refine Un ?_ | refine Uo ?_ | refine Up rfl ?_ | refine Uq ?_ | refine Ur ?_ | refine Us ?_ | refine Ut ?_ | refine Uu ?_ | refine Ux ?_ | refine Uv rfl rfl rfl rfl ?_ | refine Uw rfl rfl rfl ?_ | refine U0 (by first | exact x0 | exact z0 | fail) ?_ | refine U1 (by first | exact x1 | exact z1 | fail) ?_ | refine U9 zs ?_
    refine ax_cond rfl (fun hc => ?_) (fun hc => ?_)
    · have e : l[k] = c := by
        have := of_decide_eq_true hc
        rw [gu_is hk] at this
        exact UInt8.toNat.inj (by omega)
      repeat first | refine Ua ?_ | refine Ub ?_ | refine Uc ?_ | refine Ud ?_ | refine Ue ?_ | refine Ug ⟨by kernel_rfl, ?_⟩ | refine Ug ?_ | refine Uh ?_ | refine Ui ?_ | refine Uj ?_ | refine Uk rfl ?_ | refine Ul rfl ?_ | refine Um ?_ | refine Un ?_ | refine Uo ?_ | refine Up rfl ?_ | refine Uq ?_ | refine Ur ?_ | refine Us ?_ | refine Ut ?_ | refine Uu ?_ | refine Ux ?_ | refine Uv rfl rfl rfl rfl ?_ | refine Uw rfl rfl rfl ?_ | refine U0 (by first | exact x0 | exact z0 | fail) ?_ | refine U1 (by first | exact x1 | exact z1 | fail) ?_ | refine U9 zs ?_
      refine round_next ((k + 1, k + 1, out ++ [(l.drop o).take (k - o)])) (⟨hk, Nat.le_refl _, by simp; omega, by rw [← h4, cut_step_sep hk e]; simp [app1_nil (cutL_ne c _)]⟩) ((by show l.length - (k + 1) < l.length - k; omega)) (Lw (ρ := []))
    · have e : l[k] ≠ c := fun e => by
        have := of_decide_eq_false hc
        rw [gu_is hk, e] at this
        exact this rfl
      repeat first | refine Ua ?_ | refine Ub ?_ | refine Uc ?_ | refine Ud ?_ | refine Ue ?_ | refine Ug ⟨by kernel_rfl, ?_⟩ | refine Ug ?_ | refine Uh ?_ | refine Ui ?_ | refine Uj ?_ | refine Uk rfl ?_ | refine Ul rfl ?_ | refine Um ?_ | refine Un ?_ | refine Uo ?_ | refine Up rfl ?_ | refine Uq ?_ | refine Ur ?_ | refine Us ?_ | refine Ut ?_ | refine Uu ?_ | refine Ux ?_ | refine Uv rfl rfl rfl rfl ?_ | refine Uw rfl rfl rfl ?_ | refine U0 (by first | exact x0 | exact z0 | fail) ?_ | refine U1 (by first | exact x1 | exact z1 | fail) ?_ | refine U9 zs ?_
      refine round_next ((k + 1, o, out)) (⟨hk, by show o ≤ k + 1; omega, by show out.length ≤ k + 1; omega, by rw [← h4, cut_step_ne hk e, take_from h2 hk]⟩) ((by show l.length - (k + 1) < l.length - k; omega)) (Lw (ρ := []))
  have hk : k = l.length := by simp at hb; omega
  subst hk
  have e : out ++ [l.drop o] = cutL c l := by
    rw [← h4]
    simp only [List.drop_length, cutL, app1, List.append_nil]
    rw [List.take_of_length_le (by simp)]
  repeat first | refine Ua ?_ | refine Ub ?_ | refine Uc ?_ | refine Ud ?_ | refine Ue ?_ | refine Ug ⟨by kernel_rfl, ?_⟩ | refine Ug ?_ | refine Uh ?_ | refine Ui ?_ | refine Uj ?_ | refine Uk rfl ?_ | refine Ul rfl ?_ | refine Um ?_ | refine Un ?_ | refine Uo ?_ | refine Up rfl ?_ | refine Uq ?_ | refine Ur ?_ | refine Us ?_ | refine Ut ?_ | refine Uu ?_ | refine Ux ?_ | refine Uv rfl rfl rfl rfl ?_ | refine Uw rfl rfl rfl ?_ | refine U0 (by first | exact x0 | exact z0 | fail) ?_ | refine U1 (by first | exact x1 | exact z1 | fail) ?_ | refine U9 zs ?_
  exact ⟨.inl rfl, _, _, (by repeat first | exact .nil | apply ResL.cons | exact .tmp rfl | exact .agg rfl rfl rfl rfl rfl (Nat.le_of_ble_eq_true rfl) rfl | exact .cell rfl rfl rfl rfl rfl (Nat.le_of_ble_eq_true rfl) rfl), (by exact .one (.one (.own rfl rfl rfl rfl rfl rfl (by first | rfl | (rw [e])) (scal_txts _)))), (by decide)⟩
set_option maxHeartbeats 4000000 in
theorem l1Read_fn (l : List UInt8) : FnS Tryd.prog 90 [.txt l] (.int (readS l)) := by
  have hI := l1In_fn (l.length : Int) 1 4
  by_cases hlen : 1 ≤ l.length ∧ l.length ≤ 4
  · rw [inR_true.2 (by omega)] at hI
    by_cases hz : 1 < l.length ∧ gu l 0 = 48
    · have hr := readS_none (read_none_zero (d := 4) hz.1 hz.2)
      obtain ⟨hz1, hz2⟩ := hz
      refine fn_go1 tabOk Tryd.func90 rfl (by kernel_rfl) Tryd.ntmps90 Tryd.results90 (by decide) ?_
      repeat first | refine Ua ?_ | refine Ub ?_ | refine Uc ?_ | refine Ud ?_ | refine Ue ?_ | refine Ug ⟨by kernel_rfl, ?_⟩ | refine Ug ?_ | refine Uh ?_ | refine Ui ?_ | refine Uj ?_ | refine Uk rfl ?_ | refine Ul rfl ?_ | refine Um ?_ | refine Un ?_ | refine Uo ?_ | refine Up rfl ?_ | refine Uq ?_ | refine Ur ?_ | refine Us ?_ | refine Ut ?_ | refine Uu ?_ | refine Ux ?_ | refine Af (h := ?_) | refine At (h := ?_) | refine Uv rfl rfl rfl rfl ?_ | refine Uw rfl rfl rfl ?_ | refine U0 (by first | (apply st_call (hfn := hI ); exact rfl; exact fz) | exact x0 | exact z0 | fail) ?_ | refine U1 (by first | exact x1 | exact z1 | fail) ?_ | refine U9 zs ?_ | refine Kf (h := ?_) | refine Kt (h := ?_)
      exact ⟨.inl rfl, _, _, (by repeat first | exact .nil | apply ResL.cons | exact .tmp rfl | exact .agg rfl rfl rfl rfl rfl (Nat.le_of_ble_eq_true rfl) rfl | exact .cell rfl rfl rfl rfl rfl (Nat.le_of_ble_eq_true rfl) rfl), (by first | exact .one (by first | exact .one (.v (by first | rfl | (rw [hr]))) | exact .one (.own rfl rfl rfl rfl rfl rfl (by first | rfl | (rw [hr])) (by first | exact scal_ints _ | exact scal_slc _)) | exact .one (.nil (by decide) (by first | rfl | (rw [hr]))) | exact .agg (.cons (.v (by first | rfl | (rw [hr]))) (.cons (.v (by first | rfl | (rw [hr]))) (.cons (.own rfl rfl rfl rfl rfl rfl (by first | rfl | (rw [hr])) (scal_ints _)) .nil))) | exact .agg (.cons (.v (by first | rfl | (rw [hr]))) (.cons (.v (by first | rfl | (rw [hr]))) (.cons (.nil (by decide) (by first | rfl | (rw [hr]))) .nil))) | exact .agg (.cons (.v (by first | rfl | (rw [hr]))) (.cons (.v (by first | rfl | (rw [hr]))) .nil))) | exact .two (by repeat first | exact .nil | apply ExpL.cons | exact (by first | exact .one (.v (by first | rfl | (rw [hr]))) | exact .one (.own rfl rfl rfl rfl rfl rfl (by first | rfl | (rw [hr])) (by first | exact scal_ints _ | exact scal_slc _)) | exact .one (.nil (by decide) (by first | rfl | (rw [hr]))) | exact .agg (.cons (.v (by first | rfl | (rw [hr]))) (.cons (.v (by first | rfl | (rw [hr]))) (.cons (.own rfl rfl rfl rfl rfl rfl (by first | rfl | (rw [hr])) (scal_ints _)) .nil))) | exact .agg (.cons (.v (by first | rfl | (rw [hr]))) (.cons (.v (by first | rfl | (rw [hr]))) (.cons (.nil (by decide) (by first | rfl | (rw [hr]))) .nil))) | exact .agg (.cons (.v (by first | rfl | (rw [hr]))) (.cons (.v (by first | rfl | (rw [hr]))) .nil))))), (by decide)⟩
    · have hcases : l.length ≤ 1 ∨ (1 < l.length ∧ gu l 0 ≠ 48) := by omega
      rcases hcases with hz1 | ⟨hz1, hz2⟩
      all_goals
        refine fn_go1 tabOk Tryd.func90 rfl (by kernel_rfl) Tryd.ntmps90 Tryd.results90 (by decide) ?_
        repeat first | refine Ua ?_ | refine Ub ?_ | refine Uc ?_ | refine Ud ?_ | refine Ue ?_ | refine Ug ⟨by kernel_rfl, ?_⟩ | refine Ug ?_ | refine Uh ?_ | refine Ui ?_ | refine Uj ?_ | refine Uk rfl ?_ | refine Ul rfl ?_ | refine Um ?_ | refine Un ?_ | refine Uo ?_ | refine Up rfl ?_ | refine Uq ?_ | refine Ur ?_ | refine Us ?_ | refine Ut ?_ | refine Uu ?_ | refine Ux ?_ | refine Af (h := ?_) | refine At (h := ?_) | refine Uv rfl rfl rfl rfl ?_ | refine Uw rfl rfl rfl ?_ | refine U0 (by first | (apply st_call (hfn := hI ); exact rfl; exact fz) | exact x0 | exact z0 | fail) ?_ | refine U1 (by first | exact x1 | exact z1 | fail) ?_ | refine U9 zs ?_ | refine Kf (h := ?_) | refine Kt (h := ?_)
        refine ax_loop (fun i : Nat => mkS [(4, .int (i : Int)), (3, .int ((numL (l.take i) : Nat) : Int)), (0, .txt l)] ⟨1, []⟩) (fun i => i ≤ l.length ∧ (l.take i).all isDig = true) (fun i => l.length - i) (0) (⟨Nat.zero_le _, rfl⟩) (Lw (ρ := [])) ?_
        rintro k ⟨h1, h2⟩
        have hsm := num_small h1 h2 (by omega)
        have hg := gu_range l k
        repeat first | refine Ua ?_ | refine Ub ?_ | refine Uc ?_ | refine Ud ?_ | refine Ue ?_ | refine Ug ⟨by kernel_rfl, ?_⟩ | refine Ug ?_ | refine Uh ?_ | refine Ui ?_ | refine Uj ?_ | refine Uk rfl ?_ | refine Ul rfl ?_ | refine Um ?_ | refine Un ?_ | refine Uo ?_ | refine Up rfl ?_ | refine Uq ?_ | refine Ur ?_ | refine Us ?_ | refine Ut ?_ | refine Uu ?_ | refine Ux ?_ | refine Uv rfl rfl rfl rfl ?_ | refine Uw rfl rfl rfl ?_ | refine U0 (by first | exact x0 | exact z0 | fail) ?_ | refine U1 (by first | exact x1 | exact z1 | fail) ?_ | refine U9 zs ?_
        refine ax_cond rfl (fun hb => ?_) (fun hb => ?_)
        · have hk : k < l.length := by simpa using hb
          by_cases hd : 48 ≤ gu l k ∧ gu l k ≤ 57
          · have hn := num_step hk hd.1
            obtain ⟨hd1, hd2⟩ := hd
            repeat first | refine Ua ?_ | refine Ub ?_ | refine Uc ?_ | refine Ud ?_ | refine Ue ?_ | refine Ug ⟨by kernel_rfl, ?_⟩ | refine Ug ?_ | refine Uh ?_ | refine Ui ?_ | refine Uj ?_ | refine Uk rfl ?_ | refine Ul rfl ?_ | refine Um ?_ | refine Un ?_ | refine Uo ?_ | refine Up rfl ?_ | refine Uq ?_ | refine Ur ?_ | refine Us ?_ | refine Ut ?_ | refine Uu ?_ | refine Ux ?_ | refine Af (h := ?_) | refine At (h := ?_) | refine Uv rfl rfl rfl rfl ?_ | refine Uw rfl rfl rfl ?_ | refine U0 (by first | exact x0 | exact z0 | fail) ?_ | refine U1 (by first | exact x1 | exact z1 | fail) ?_ | refine U9 zs ?_ | refine Kf (h := ?_) | refine Kt (h := ?_)
            refine round_next (k + 1) (⟨hk, dig_step hk h2 hd1 hd2⟩) ((by show l.length - (k + 1) < l.length - k; omega)) (weak_of [] (by repeat first | exact .nil | refine LeEs.cons ?_ ?_ | exact .v (by first | rfl | (rw [hn])) | exact .own rfl rfl rfl rfl rfl | exact .ptr rfl rfl rfl rfl rfl rfl | exact .nil rfl rfl rfl | exact .sl (by first | rfl | (rw [hn])) | exact .both rfl rfl | exact .frz rfl rfl rfl rfl rfl (by first | rfl | (rw [hn])) rfl | exact .tab rfl | exact .any _) (by repeat first | exact .nil | refine LeHs.keep rfl ⟨rfl, rfl, rfl, .inl ⟨rfl, by first | rfl | (rw [hn])⟩⟩ ?_ | refine LeHs.keep rfl ⟨rfl, rfl, rfl, .inr ⟨(by first | exact .inl rfl | exact .inr rfl), by repeat first | exact .nil | refine LeVL.cons ?_ ?_ | exact .v (by first | rfl | (rw [hn])) | exact .own rfl rfl rfl rfl rfl | exact .sl (by first | rfl | (rw [hn])) | exact .both rfl rfl | exact .frz rfl rfl rfl rfl rfl (by first | rfl | (rw [hn])) rfl⟩⟩ ?_ | refine LeHs.fresh rfl rfl rfl (Nat.succ_pos _) rfl ?_) rfl rfl)
          · have hr := readS_none (read_none_dig (d := 4) hk (by omega))
            rcases (show gu l k < 48 ∨ (48 ≤ gu l k ∧ 57 < gu l k) by omega) with hd1 | ⟨hd1, hd2⟩
            all_goals
              repeat first | refine Ua ?_ | refine Ub ?_ | refine Uc ?_ | refine Ud ?_ | refine Ue ?_ | refine Ug ⟨by kernel_rfl, ?_⟩ | refine Ug ?_ | refine Uh ?_ | refine Ui ?_ | refine Uj ?_ | refine Uk rfl ?_ | refine Ul rfl ?_ | refine Um ?_ | refine Un ?_ | refine Uo ?_ | refine Up rfl ?_ | refine Uq ?_ | refine Ur ?_ | refine Us ?_ | refine Ut ?_ | refine Uu ?_ | refine Ux ?_ | refine Af (h := ?_) | refine At (h := ?_) | refine Uv rfl rfl rfl rfl ?_ | refine Uw rfl rfl rfl ?_ | refine U0 (by first | exact x0 | exact z0 | fail) ?_ | refine U1 (by first | exact x1 | exact z1 | fail) ?_ | refine U9 zs ?_ | refine Kf (h := ?_) | refine Kt (h := ?_)
              exact ⟨.inl rfl, _, _, (by repeat first | exact .nil | apply ResL.cons | exact .tmp rfl | exact .agg rfl rfl rfl rfl rfl (Nat.le_of_ble_eq_true rfl) rfl | exact .cell rfl rfl rfl rfl rfl (Nat.le_of_ble_eq_true rfl) rfl), (by first | exact .one (by first | exact .one (.v (by first | rfl | (rw [hr]))) | exact .one (.own rfl rfl rfl rfl rfl rfl (by first | rfl | (rw [hr])) (by first | exact scal_ints _ | exact scal_slc _)) | exact .one (.nil (by decide) (by first | rfl | (rw [hr]))) | exact .agg (.cons (.v (by first | rfl | (rw [hr]))) (.cons (.v (by first | rfl | (rw [hr]))) (.cons (.own rfl rfl rfl rfl rfl rfl (by first | rfl | (rw [hr])) (scal_ints _)) .nil))) | exact .agg (.cons (.v (by first | rfl | (rw [hr]))) (.cons (.v (by first | rfl | (rw [hr]))) (.cons (.nil (by decide) (by first | rfl | (rw [hr]))) .nil))) | exact .agg (.cons (.v (by first | rfl | (rw [hr]))) (.cons (.v (by first | rfl | (rw [hr]))) .nil))) | exact .two (by repeat first | exact .nil | apply ExpL.cons | exact (by first | exact .one (.v (by first | rfl | (rw [hr]))) | exact .one (.own rfl rfl rfl rfl rfl rfl (by first | rfl | (rw [hr])) (by first | exact scal_ints _ | exact scal_slc _)) | exact .one (.nil (by decide) (by first | rfl | (rw [hr]))) | exact .agg (.cons (.v (by first | rfl | (rw [hr]))) (.cons (.v (by first | rfl | (rw [hr]))) (.cons (.own rfl rfl rfl rfl rfl rfl (by first | rfl | (rw [hr])) (scal_ints _)) .nil))) | exact .agg (.cons (.v (by first | rfl | (rw [hr]))) (.cons (.v (by first | rfl | (rw [hr]))) (.cons (.nil (by decide) (by first | rfl | (rw [hr]))) .nil))) | exact .agg (.cons (.v (by first | rfl | (rw [hr]))) (.cons (.v (by first | rfl | (rw [hr]))) .nil))))), (by decide)⟩
        · have hk : k = l.length := by simp at hb; omega
          subst hk
          have hr := readS_some (read_some (d := 4) hlen.1 hlen.2 hz h2)
          repeat first | refine Ua ?_ | refine Ub ?_ | refine Uc ?_ | refine Ud ?_ | refine Ue ?_ | refine Ug ⟨by kernel_rfl, ?_⟩ | refine Ug ?_ | refine Uh ?_ | refine Ui ?_ | refine Uj ?_ | refine Uk rfl ?_ | refine Ul rfl ?_ | refine Um ?_ | refine Un ?_ | refine Uo ?_ | refine Up rfl ?_ | refine Uq ?_ | refine Ur ?_ | refine Us ?_ | refine Ut ?_ | refine Uu ?_ | refine Ux ?_ | refine Uv rfl rfl rfl rfl ?_ | refine Uw rfl rfl rfl ?_ | refine U0 (by first | exact x0 | exact z0 | fail) ?_ | refine U1 (by first | exact x1 | exact z1 | fail) ?_ | refine U9 zs ?_
          exact ⟨.inl rfl, _, _, (by repeat first | exact .nil | apply ResL.cons | exact .tmp rfl | exact .agg rfl rfl rfl rfl rfl (Nat.le_of_ble_eq_true rfl) rfl | exact .cell rfl rfl rfl rfl rfl (Nat.le_of_ble_eq_true rfl) rfl), (by first | exact .one (by first | exact .one (.v (by first | rfl | (rw [hr]))) | exact .one (.own rfl rfl rfl rfl rfl rfl (by first | rfl | (rw [hr])) (by first | exact scal_ints _ | exact scal_slc _)) | exact .one (.nil (by decide) (by first | rfl | (rw [hr]))) | exact .agg (.cons (.v (by first | rfl | (rw [hr]))) (.cons (.v (by first | rfl | (rw [hr]))) (.cons (.own rfl rfl rfl rfl rfl rfl (by first | rfl | (rw [hr])) (scal_ints _)) .nil))) | exact .agg (.cons (.v (by first | rfl | (rw [hr]))) (.cons (.v (by first | rfl | (rw [hr]))) (.cons (.nil (by decide) (by first | rfl | (rw [hr]))) .nil))) | exact .agg (.cons (.v (by first | rfl | (rw [hr]))) (.cons (.v (by first | rfl | (rw [hr]))) .nil))) | exact .two (by repeat first | exact .nil | apply ExpL.cons | exact (by first | exact .one (.v (by first | rfl | (rw [hr]))) | exact .one (.own rfl rfl rfl rfl rfl rfl (by first | rfl | (rw [hr])) (by first | exact scal_ints _ | exact scal_slc _)) | exact .one (.nil (by decide) (by first | rfl | (rw [hr]))) | exact .agg (.cons (.v (by first | rfl | (rw [hr]))) (.cons (.v (by first | rfl | (rw [hr]))) (.cons (.own rfl rfl rfl rfl rfl rfl (by first | rfl | (rw [hr])) (scal_ints _)) .nil))) | exact .agg (.cons (.v (by first | rfl | (rw [hr]))) (.cons (.v (by first | rfl | (rw [hr]))) (.cons (.nil (by decide) (by first | rfl | (rw [hr]))) .nil))) | exact .agg (.cons (.v (by first | rfl | (rw [hr]))) (.cons (.v (by first | rfl | (rw [hr]))) .nil))))), (by decide)⟩
  · rw [inR_false.2 (by omega)] at hI
    have hr := readS_none (read_none_len (l := l) (d := 4) (by omega))
    refine fn_go1 tabOk Tryd.func90 rfl (by kernel_rfl) Tryd.ntmps90 Tryd.results90 (by decide) ?_
    repeat first | refine Ua ?_ | refine Ub ?_ | refine Uc ?_ | refine Ud ?_ | refine Ue ?_ | refine Ug ⟨by kernel_rfl, ?_⟩ | refine Ug ?_ | refine Uh ?_ | refine Ui ?_ | refine Uj ?_ | refine Uk rfl ?_ | refine Ul rfl ?_ | refine Um ?_ | refine Un ?_ | refine Uo ?_ | refine Up rfl ?_ | refine Uq ?_ | refine Ur ?_ | refine Us ?_ | refine Ut ?_ | refine Uu ?_ | refine Ux ?_ | refine Af (h := ?_) | refine At (h := ?_) | refine Uv rfl rfl rfl rfl ?_ | refine Uw rfl rfl rfl ?_ | refine U0 (by first | (apply st_call (hfn := hI ); exact rfl; exact fz) | exact x0 | exact z0 | fail) ?_ | refine U1 (by first | exact x1 | exact z1 | fail) ?_ | refine U9 zs ?_ | refine Kf (h := ?_) | refine Kt (h := ?_)
    exact ⟨.inl rfl, _, _, (by repeat first | exact .nil | apply ResL.cons | exact .tmp rfl | exact .agg rfl rfl rfl rfl rfl (Nat.le_of_ble_eq_true rfl) rfl | exact .cell rfl rfl rfl rfl rfl (Nat.le_of_ble_eq_true rfl) rfl), (by first | exact .one (by first | exact .one (.v (by first | rfl | (rw [hr]))) | exact .one (.own rfl rfl rfl rfl rfl rfl (by first | rfl | (rw [hr])) (by first | exact scal_ints _ | exact scal_slc _)) | exact .one (.nil (by decide) (by first | rfl | (rw [hr]))) | exact .agg (.cons (.v (by first | rfl | (rw [hr]))) (.cons (.v (by first | rfl | (rw [hr]))) (.cons (.own rfl rfl rfl rfl rfl rfl (by first | rfl | (rw [hr])) (scal_ints _)) .nil))) | exact .agg (.cons (.v (by first | rfl | (rw [hr]))) (.cons (.v (by first | rfl | (rw [hr]))) (.cons (.nil (by decide) (by first | rfl | (rw [hr]))) .nil))) | exact .agg (.cons (.v (by first | rfl | (rw [hr]))) (.cons (.v (by first | rfl | (rw [hr]))) .nil))) | exact .two (by repeat first | exact .nil | apply ExpL.cons | exact (by first | exact .one (.v (by first | rfl | (rw [hr]))) | exact .one (.own rfl rfl rfl rfl rfl rfl (by first | rfl | (rw [hr])) (by first | exact scal_ints _ | exact scal_slc _)) | exact .one (.nil (by decide) (by first | rfl | (rw [hr]))) | exact .agg (.cons (.v (by first | rfl | (rw [hr]))) (.cons (.v (by first | rfl | (rw [hr]))) (.cons (.own rfl rfl rfl rfl rfl rfl (by first | rfl | (rw [hr])) (scal_ints _)) .nil))) | exact .agg (.cons (.v (by first | rfl | (rw [hr]))) (.cons (.v (by first | rfl | (rw [hr]))) (.cons (.nil (by decide) (by first | rfl | (rw [hr]))) .nil))) | exact .agg (.cons (.v (by first | rfl | (rw [hr]))) (.cons (.v (by first | rfl | (rw [hr]))) .nil))))), (by decide)⟩
set_option maxHeartbeats 4000000 in
theorem readNumber_fn (l : List UInt8) : FnS Tryd.prog 88 [.txt l, .int 2] (.tup [.int (readI l).1, .bool (readI l).2]) := by
  by_cases hlen : 1 ≤ l.length ∧ l.length ≤ 2
  · by_cases hz : 1 < l.length ∧ gu l 0 = 48
    · have hr := readI_none (read_none_zero (d := 2) hz.1 hz.2)
      obtain ⟨hz1, hz2⟩ := hz
      rw [hr]
      refine fn_go2 tabOk Tryd.func88 rfl (by kernel_rfl) Tryd.ntmps88 Tryd.results88 (by decide) ?_
      repeat first | refine Ua ?_ | refine Ub ?_ | refine Uc ?_ | refine Ud ?_ | refine Ue ?_ | refine Ug ⟨by kernel_rfl, ?_⟩ | refine Ug ?_ | refine Uh ?_ | refine Ui ?_ | refine Uj ?_ | refine Uk rfl ?_ | refine Ul rfl ?_ | refine Um ?_ | refine Un ?_ | refine Uo ?_ | refine Up rfl ?_ | refine Uq ?_ | refine Ur ?_ | refine Us ?_ | refine Ut ?_ | refine Uu ?_ | refine Ux ?_ | refine Af (h := ?_) | refine At (h := ?_) | refine Uv rfl rfl rfl rfl ?_ | refine Uw rfl rfl rfl ?_ | refine U0 (by first | exact x0 | exact z0 | fail) ?_ | refine U1 (by first | exact x1 | exact z1 | fail) ?_ | refine U9 zs ?_ | refine Kf (h := ?_) | refine Kt (h := ?_)
      exact ⟨.inl rfl, Rx⟩
    · have hcases : l.length ≤ 1 ∨ (1 < l.length ∧ gu l 0 ≠ 48) := by omega
      rcases hcases with hz1 | ⟨hz1, hz2⟩
      all_goals
        refine fn_go2 tabOk Tryd.func88 rfl (by kernel_rfl) Tryd.ntmps88 Tryd.results88 (by decide) ?_
        repeat first | refine Ua ?_ | refine Ub ?_ | refine Uc ?_ | refine Ud ?_ | refine Ue ?_ | refine Ug ⟨by kernel_rfl, ?_⟩ | refine Ug ?_ | refine Uh ?_ | refine Ui ?_ | refine Uj ?_ | refine Uk rfl ?_ | refine Ul rfl ?_ | refine Um ?_ | refine Un ?_ | refine Uo ?_ | refine Up rfl ?_ | refine Uq ?_ | refine Ur ?_ | refine Us ?_ | refine Ut ?_ | refine Uu ?_ | refine Ux ?_ | refine Af (h := ?_) | refine At (h := ?_) | refine Uv rfl rfl rfl rfl ?_ | refine Uw rfl rfl rfl ?_ | refine U0 (by first | exact x0 | exact z0 | fail) ?_ | refine U1 (by first | exact x1 | exact z1 | fail) ?_ | refine U9 zs ?_ | refine Kf (h := ?_) | refine Kt (h := ?_)
        refine ax_loop (fun i : Nat => mkS [(7, .int (i : Int)), (6, .int ((numL (l.take i) : Nat) : Int)), (0, .txt l)] ⟨1, []⟩) (fun i => i ≤ l.length ∧ (l.take i).all isDig = true) (fun i => l.length - i) (0) (⟨Nat.zero_le _, rfl⟩) (Lw (ρ := [])) ?_
        rintro k ⟨h1, h2⟩
        have hsm := num_small h1 h2 (by omega)
        have hg := gu_range l k
        repeat first | refine Ua ?_ | refine Ub ?_ | refine Uc ?_ | refine Ud ?_ | refine Ue ?_ | refine Ug ⟨by kernel_rfl, ?_⟩ | refine Ug ?_ | refine Uh ?_ | refine Ui ?_ | refine Uj ?_ | refine Uk rfl ?_ | refine Ul rfl ?_ | refine Um ?_ | refine Un ?_ | refine Uo ?_ | refine Up rfl ?_ | refine Uq ?_ | refine Ur ?_ | refine Us ?_ | refine Ut ?_ | refine Uu ?_ | refine Ux ?_ | refine Uv rfl rfl rfl rfl ?_ | refine Uw rfl rfl rfl ?_ | refine U0 (by first | exact x0 | exact z0 | fail) ?_ | refine U1 (by first | exact x1 | exact z1 | fail) ?_ | refine U9 zs ?_
        refine ax_cond rfl (fun hb => ?_) (fun hb => ?_)
        · have hk : k < l.length := by simpa using hb
          by_cases hd : 48 ≤ gu l k ∧ gu l k ≤ 57
          · have hn := num_step hk hd.1
            obtain ⟨hd1, hd2⟩ := hd
            repeat first | refine Ua ?_ | refine Ub ?_ | refine Uc ?_ | refine Ud ?_ | refine Ue ?_ | refine Ug ⟨by kernel_rfl, ?_⟩ | refine Ug ?_ | refine Uh ?_ | refine Ui ?_ | refine Uj ?_ | refine Uk rfl ?_ | refine Ul rfl ?_ | refine Um ?_ | refine Un ?_ | refine Uo ?_ | refine Up rfl ?_ | refine Uq ?_ | refine Ur ?_ | refine Us ?_ | refine Ut ?_ | refine Uu ?_ | refine Ux ?_ | refine Af (h := ?_) | refine At (h := ?_) | refine Uv rfl rfl rfl rfl ?_ | refine Uw rfl rfl rfl ?_ | refine U0 (by first | exact x0 | exact z0 | fail) ?_ | refine U1 (by first | exact x1 | exact z1 | fail) ?_ | refine U9 zs ?_ | refine Kf (h := ?_) | refine Kt (h := ?_)
            refine round_next (k + 1) (⟨hk, dig_step hk h2 hd1 hd2⟩) ((by show l.length - (k + 1) < l.length - k; omega)) (weak_of [] (by repeat first | exact .nil | refine LeEs.cons ?_ ?_ | exact .v (by first | rfl | (rw [hn, Int.mul_comm])) | exact .own rfl rfl rfl rfl rfl | exact .ptr rfl rfl rfl rfl rfl rfl | exact .nil rfl rfl rfl | exact .sl (by first | rfl | (rw [hn, Int.mul_comm])) | exact .both rfl rfl | exact .frz rfl rfl rfl rfl rfl (by first | rfl | (rw [hn, Int.mul_comm])) rfl | exact .tab rfl | exact .any _) (by repeat first | exact .nil | refine LeHs.keep rfl ⟨rfl, rfl, rfl, .inl ⟨rfl, by first | rfl | (rw [hn, Int.mul_comm])⟩⟩ ?_ | refine LeHs.keep rfl ⟨rfl, rfl, rfl, .inr ⟨(by first | exact .inl rfl | exact .inr rfl), by repeat first | exact .nil | refine LeVL.cons ?_ ?_ | exact .v (by first | rfl | (rw [hn, Int.mul_comm])) | exact .own rfl rfl rfl rfl rfl | exact .sl (by first | rfl | (rw [hn, Int.mul_comm])) | exact .both rfl rfl | exact .frz rfl rfl rfl rfl rfl (by first | rfl | (rw [hn, Int.mul_comm])) rfl⟩⟩ ?_ | refine LeHs.fresh rfl rfl rfl (Nat.succ_pos _) rfl ?_) rfl rfl)
          · have hr := readI_none (read_none_dig (d := 2) hk (by omega))
            rw [hr]
            rcases (show gu l k < 48 ∨ (48 ≤ gu l k ∧ 57 < gu l k) by omega) with hd1 | ⟨hd1, hd2⟩
            all_goals
              repeat first | refine Ua ?_ | refine Ub ?_ | refine Uc ?_ | refine Ud ?_ | refine Ue ?_ | refine Ug ⟨by kernel_rfl, ?_⟩ | refine Ug ?_ | refine Uh ?_ | refine Ui ?_ | refine Uj ?_ | refine Uk rfl ?_ | refine Ul rfl ?_ | refine Um ?_ | refine Un ?_ | refine Uo ?_ | refine Up rfl ?_ | refine Uq ?_ | refine Ur ?_ | refine Us ?_ | refine Ut ?_ | refine Uu ?_ | refine Ux ?_ | refine Af (h := ?_) | refine At (h := ?_) | refine Uv rfl rfl rfl rfl ?_ | refine Uw rfl rfl rfl ?_ | refine U0 (by first | exact x0 | exact z0 | fail) ?_ | refine U1 (by first | exact x1 | exact z1 | fail) ?_ | refine U9 zs ?_ | refine Kf (h := ?_) | refine Kt (h := ?_)
              exact ⟨.inl rfl, Rx⟩
        · have hk : k = l.length := by simp at hb; omega
          subst hk
          have hr := readI_some (read_some (d := 2) hlen.1 hlen.2 hz h2)
          rw [hr]
          repeat first | refine Ua ?_ | refine Ub ?_ | refine Uc ?_ | refine Ud ?_ | refine Ue ?_ | refine Ug ⟨by kernel_rfl, ?_⟩ | refine Ug ?_ | refine Uh ?_ | refine Ui ?_ | refine Uj ?_ | refine Uk rfl ?_ | refine Ul rfl ?_ | refine Um ?_ | refine Un ?_ | refine Uo ?_ | refine Up rfl ?_ | refine Uq ?_ | refine Ur ?_ | refine Us ?_ | refine Ut ?_ | refine Uu ?_ | refine Ux ?_ | refine Uv rfl rfl rfl rfl ?_ | refine Uw rfl rfl rfl ?_ | refine U0 (by first | exact x0 | exact z0 | fail) ?_ | refine U1 (by first | exact x1 | exact z1 | fail) ?_ | refine U9 zs ?_
          exact ⟨.inl rfl, Rx⟩
  · have hr := readI_none (read_none_len (l := l) (d := 2) (by omega))
    rw [hr]
    rcases (show l.length < 1 ∨ (1 ≤ l.length ∧ 2 < l.length) by omega) with hd1 | ⟨hd1, hd2⟩
    all_goals
      refine fn_go2 tabOk Tryd.func88 rfl (by kernel_rfl) Tryd.ntmps88 Tryd.results88 (by decide) ?_
      repeat first | refine Ua ?_ | refine Ub ?_ | refine Uc ?_ | refine Ud ?_ | refine Ue ?_ | refine Ug ⟨by kernel_rfl, ?_⟩ | refine Ug ?_ | refine Uh ?_ | refine Ui ?_ | refine Uj ?_ | refine Uk rfl ?_ | refine Ul rfl ?_ | refine Um ?_ | refine Un ?_ | refine Uo ?_ | refine Up rfl ?_ | refine Uq ?_ | refine Ur ?_ | refine Us ?_ | refine Ut ?_ | refine Uu ?_ | refine Ux ?_ | refine Af (h := ?_) | refine At (h := ?_) | refine Uv rfl rfl rfl rfl ?_ | refine Uw rfl rfl rfl ?_ | refine U0 (by first | exact x0 | exact z0 | fail) ?_ | refine U1 (by first | exact x1 | exact z1 | fail) ?_ | refine U9 zs ?_ | refine Kf (h := ?_) | refine Kt (h := ?_)
      exact ⟨.inl rfl, Rx⟩
set_option maxHeartbeats 1000000 in
theorem l1Number_lo (n : Nat) (hn : n < 10) : FnS Tryd.prog 86 [.int (n : Int)] (.txt [UInt8.ofNat (48 + n)]) := by
  refine fn_go1 tabOk Tryd.func86 rfl (by kernel_rfl) Tryd.ntmps86 Tryd.results86 (by decide) ?_
  repeat first | refine Ua ?_ | refine Ub ?_ | refine Uc ?_ | refine Ud ?_ | refine Ue ?_ | refine Ug ⟨by kernel_rfl, ?_⟩ | refine Ug ?_ | refine Uh ?_ | refine Ui ?_ | refine Uj ?_ | refine Uk rfl ?_ | refine Ul rfl ?_ | refine Um ?_ | refine Un ?_ | refine Uo ?_ | refine Up rfl ?_ | refine Uq ?_ | refine Ur ?_ | refine Us ?_ | refine Ut ?_ | refine Uu ?_ | refine Ux ?_ | refine Af (h := ?_) | refine At (h := ?_) | refine Uv rfl rfl rfl rfl ?_ | refine Uw rfl rfl rfl ?_ | refine U0 (by first | (apply st_b2s1 tabOk; iterate 12 exact rfl) | exact z0 | fail) ?_ | refine U1 (by first | (apply st_lit1_b tabOk; iterate 8 exact rfl) | exact z1 | fail) ?_ | refine U9 zs ?_ | refine Kf (h := ?_) | refine Kt (h := ?_)
  rw [show (48 + (n : Int)).toNat = 48 + n by omega]
  exact ⟨.inl rfl, Rx⟩
set_option maxHeartbeats 1000000 in
theorem l1Number_hi (n : Nat) (h0 : 10 ≤ n) (hn : n < 100) : FnS Tryd.prog 86 [.int (n : Int)] (.txt [UInt8.ofNat (48 + n / 10), UInt8.ofNat (48 + n % 10)]) := by
  have hL := l1Number_lo (n / 10) (by omega)
  rw [show ((n / 10 : Nat) : Int) = (n : Int) / 10 by omega] at hL
  refine fn_go1 tabOk Tryd.func86 rfl (by kernel_rfl) Tryd.ntmps86 Tryd.results86 (by decide) ?_
  repeat first | refine Ua ?_ | refine Ub ?_ | refine Uc ?_ | refine Ud ?_ | refine Ue ?_ | refine Ug ⟨by kernel_rfl, ?_⟩ | refine Ug ?_ | refine Uh ?_ | refine Ui ?_ | refine Uj ?_ | refine Uk rfl ?_ | refine Ul rfl ?_ | refine Um ?_ | refine Un ?_ | refine Uo ?_ | refine Up rfl ?_ | refine Uq ?_ | refine Ur ?_ | refine Us ?_ | refine Ut ?_ | refine Uu ?_ | refine Ux ?_ | refine Af (h := ?_) | refine At (h := ?_) | refine Uv rfl rfl rfl rfl ?_ | refine Uw rfl rfl rfl ?_ | refine U0 (by first | (apply st_call (hfn := hL ); exact rfl; exact fz) | (apply st_b2s1 tabOk; iterate 12 exact rfl) | (apply st_stadd; (iterate 3 exact rfl); (show 1 + 1 ≤ 4294967296; omega)) | exact z0 | fail) ?_ | refine U1 (by first | (apply st_lit1_b tabOk; iterate 8 exact rfl) | exact z1 | fail) ?_ | refine U9 zs ?_ | refine Kf (h := ?_) | refine Kt (h := ?_)
  rw [show (48 + (n : Int) % 10).toNat = 48 + n % 10 by omega]
  exact ⟨.inl rfl, Rx⟩
theorem l1Number_fn (n : Nat) (hn : n < 100) : FnS Tryd.prog 86 [.int (n : Int)] (.txt (Lib.decDigits n)) := by
  by_cases h : n < 10
  · rw [Lib.decDigits_one h]; exact l1Number_lo n h
  · rw [Lib.decDigits_two h hn]; exact l1Number_hi n (by omega) hn
set_option maxHeartbeats 4000000 in
theorem specHallText_fn (h : PHall) (hl : h.cells.length ≤ lim) : FnS Tryd.prog 39 [hallV h] (.str (textF h)) := by
  have hl' : h.cells.length ≤ 1073741824 := hl
  have hV := specHallValid_fn h hl
  cases hv : validB h
  · rw [hv] at hV
    rw [text_not hv]
    refine fn_go1 tabOk Tryd.func39 rfl (by kernel_rfl) Tryd.ntmps39 Tryd.results39 (by decide) ?_
    repeat first | refine Ua ?_ | refine Ub ?_ | refine Uc ?_ | refine Ud ?_ | refine Ue ?_ | refine Ug ⟨by kernel_rfl, ?_⟩ | refine Ug ?_ | refine Uh ?_ | refine Ui ?_ | refine Uj ?_ | refine Uk rfl ?_ | refine Ul rfl ?_ | refine Um ?_ | refine Un ?_ | refine Uo ?_ | refine Up rfl ?_ | refine Uq ?_ | refine Ur ?_ | refine Us ?_ | refine Ut ?_ | refine Uu ?_ | refine Ux ?_ | refine Uv rfl rfl rfl rfl ?_ | refine Uw rfl rfl rfl ?_ | refine U0 z0 ?_ | refine U1 z1 ?_ | refine U9 zs ?_
    refine ax_loop (fun _ : Unit => mkS [(4, .int 0), (3, .txt []), (1, .ptr 1 0 0)] ⟨2, [(1, some (hallRow h))]⟩) (fun _ => True) (fun _ => 0) (()) (trivial) (Lw (ρ := [])) ?_
    rintro _ _
    repeat first | refine Ua ?_ | refine Ub ?_ | refine Uc ?_ | refine Ud ?_ | refine Ue ?_ | refine Ug ⟨by kernel_rfl, ?_⟩ | refine Ug ?_ | refine Uh ?_ | refine Ui ?_ | refine Uj ?_ | refine Uk rfl ?_ | refine Ul rfl ?_ | refine Um ?_ | refine Un ?_ | refine Uo ?_ | refine Up rfl ?_ | refine Uq ?_ | refine Ur ?_ | refine Us ?_ | refine Ut ?_ | refine Uu ?_ | refine Ux ?_ | refine Uv rfl rfl rfl rfl ?_ | refine Uw rfl rfl rfl ?_ | refine U0 z0 ?_ | refine U1 z1 ?_ | refine U9 zs ?_
    refine rh_split rfl rfl (fun hb => ?_) (fun hb => ?_)
    · repeat first | refine Ua ?_ | refine Ub ?_ | refine Uc ?_ | refine Ud ?_ | refine Ue ?_ | refine Ug ⟨by kernel_rfl, ?_⟩ | refine Ug ?_ | refine Uh ?_ | refine Ui ?_ | refine Uj ?_ | refine Uk rfl ?_ | refine Ul rfl ?_ | refine Um ?_ | refine Un ?_ | refine Uo ?_ | refine Up rfl ?_ | refine Uq ?_ | refine Ur ?_ | refine Us ?_ | refine Ut ?_ | refine Uu ?_ | refine Ux ?_ | refine Uv rfl rfl rfl rfl ?_ | refine Uw rfl rfl rfl ?_ | refine U0 (by first | (apply st_call (hfn := hV ); exact rfl; exact fz) | exact z0 | fail) ?_ | refine U1 z1 ?_ | refine U9 zs ?_
      exact ⟨.inl rfl, Rx⟩
    · repeat first | refine Ua ?_ | refine Ub ?_ | refine Uc ?_ | refine Ud ?_ | refine Ue ?_ | refine Ug ⟨by kernel_rfl, ?_⟩ | refine Ug ?_ | refine Uh ?_ | refine Ui ?_ | refine Uj ?_ | refine Uk rfl ?_ | refine Ul rfl ?_ | refine Um ?_ | refine Un ?_ | refine Uo ?_ | refine Up rfl ?_ | refine Uq ?_ | refine Ur ?_ | refine Us ?_ | refine Ut ?_ | refine Uu ?_ | refine Ux ?_ | refine Uv rfl rfl rfl rfl ?_ | refine Uw rfl rfl rfl ?_ | refine U0 (by first | (apply st_call (hfn := hV ); exact rfl; exact fz) | exact z0 | fail) ?_ | refine U1 z1 ?_ | refine U9 zs ?_
      exact ⟨.inl rfl, Rx⟩
  rw [hv] at hV
  obtain ⟨hw, hd, hlen⟩ := valid_size hv
  have hln := (valid_len hv).2
  rw [text_bytes hv]
  refine fn_go1 tabOk Tryd.func39 rfl (by kernel_rfl) Tryd.ntmps39 Tryd.results39 (by decide) ?_
  repeat first | refine Ua ?_ | refine Ub ?_ | refine Uc ?_ | refine Ud ?_ | refine Ue ?_ | refine Ug ⟨by kernel_rfl, ?_⟩ | refine Ug ?_ | refine Uh ?_ | refine Ui ?_ | refine Uj ?_ | refine Uk rfl ?_ | refine Ul rfl ?_ | refine Um ?_ | refine Un ?_ | refine Uo ?_ | refine Up rfl ?_ | refine Uq ?_ | refine Ur ?_ | refine Us ?_ | refine Ut ?_ | refine Uu ?_ | refine Ux ?_ | refine Uv rfl rfl rfl rfl ?_ | refine Uw rfl rfl rfl ?_ | refine U0 z0 ?_ | refine U1 z1 ?_ | refine U9 zs ?_
  refine ax_loop (fun k : Nat => mkS [(4, .int (k : Int)), (3, .txt (textTo h k)), (1, .ptr 1 0 0)] ⟨2, [(1, some (hallRow h))]⟩) (fun k => k ≤ h.cells.length) (fun k => h.cells.length - k) (0) (Nat.zero_le _) (Lw (ρ := [])) ?_
  intro k hk
  have htl := textTo_len hv k hk
  rcases Nat.lt_or_ge k h.cells.length with hlt | hge
  · have hc := valid_cell hv hlt
    have hsep : (k = 0 ∧ sepB h.wide k = []) ∨ (0 < k ∧ (k : Int) % h.wide = 0 ∧ sepB h.wide k = [47]) ∨ (0 < k ∧ (k : Int) % h.wide ≠ 0 ∧ sepB h.wide k = [44]) := by
      unfold sepB
      by_cases h0 : k = 0
      · exact .inl ⟨h0, by rw [if_pos h0]⟩
      · by_cases h1 : (k : Int) % h.wide = 0
        · exact .inr (.inl ⟨by omega, h1, by rw [if_neg h0, if_pos h1]⟩)
        · exact .inr (.inr ⟨by omega, h1, by rw [if_neg h0, if_neg h1]⟩)
    by_cases hz : gi h.cells k = 0
    · have hcb : cellB (gi h.cells k) = [46] := by rw [hz]; rfl
      rcases hsep with ⟨a, e⟩ | ⟨a, b, e⟩ | ⟨a, b, e⟩
      all_goals
        have hT : textTo h (k + 1) = textTo h k ++ (sepB h.wide k ++ cellB (gi h.cells k)) := rfl
        rw [e, hcb] at hT
        repeat first | refine Ua ?_ | refine Ub ?_ | refine Uc ?_ | refine Ud ?_ | refine Ue ?_ | refine Ug ⟨by kernel_rfl, ?_⟩ | refine Ug ?_ | refine Uh ?_ | refine Ui ?_ | refine Uj ?_ | refine Uk rfl ?_ | refine Ul rfl ?_ | refine Um ?_ | refine Un ?_ | refine Uo ?_ | refine Up rfl ?_ | refine Uq ?_ | refine Ur ?_ | refine Us ?_ | refine Ut ?_ | refine Uu ?_ | refine Ux ?_ | refine Af (h := ?_) | refine At (h := ?_) | refine Uv rfl rfl rfl rfl ?_ | refine Uw rfl rfl rfl ?_ | refine U0 (by first | (apply st_call (hfn := hV ); exact rfl; exact fz) | exact x0 | exact z0 | fail) ?_ | refine U1 (by first | exact x1 | exact z1 | fail) ?_ | refine U9 zs ?_ | refine Kf (h := ?_) | refine Kt (h := ?_)
        refine round_next (k + 1) (hlt) ((by show h.cells.length - (k + 1) < h.cells.length - k; omega)) (weak_of [] (by repeat first | exact .nil | refine LeEs.cons ?_ ?_ | exact .v (by first | rfl | (rw [hT]; simp)) | exact .own rfl rfl rfl rfl rfl | exact .ptr rfl rfl rfl rfl rfl rfl | exact .nil rfl rfl rfl | exact .sl (by first | rfl | (rw [hT]; simp)) | exact .both rfl rfl | exact .frz rfl rfl rfl rfl rfl (by first | rfl | (rw [hT]; simp)) rfl | exact .tab rfl | exact .any _) (by repeat first | exact .nil | refine LeHs.keep rfl ⟨rfl, rfl, rfl, .inl ⟨rfl, by first | rfl | (rw [hT]; simp)⟩⟩ ?_ | refine LeHs.keep rfl ⟨rfl, rfl, rfl, .inr ⟨(by first | exact .inl rfl | exact .inr rfl), by repeat first | exact .nil | refine LeVL.cons ?_ ?_ | exact .v (by first | rfl | (rw [hT]; simp)) | exact .own rfl rfl rfl rfl rfl | exact .sl (by first | rfl | (rw [hT]; simp)) | exact .both rfl rfl | exact .frz rfl rfl rfl rfl rfl (by first | rfl | (rw [hT]; simp)) rfl⟩⟩ ?_ | refine LeHs.fresh rfl rfl rfl (Nat.succ_pos _) rfl ?_) rfl rfl)
    · obtain ⟨z, hzz⟩ : ∃ z : Nat, gi h.cells k = z := ⟨(gi h.cells k).toNat, by omega⟩
      have hN := l1Number_fn z (by omega)
      rw [← hzz] at hN
      have hcb : cellB (gi h.cells k) = Lib.decDigits z := by rw [cellB, if_neg hz, hzz]; rfl
      have hdl : (Lib.decDigits z).length ≤ 100 := by have := cellB_len hc.1 hc.2; rwa [hcb] at this
      rcases hsep with ⟨a, e⟩ | ⟨a, b, e⟩ | ⟨a, b, e⟩
      all_goals
        have hT : textTo h (k + 1) = textTo h k ++ (sepB h.wide k ++ cellB (gi h.cells k)) := rfl
        rw [e, hcb] at hT
        repeat first | refine Ua ?_ | refine Ub ?_ | refine Uc ?_ | refine Ud ?_ | refine Ue ?_ | refine Ug ⟨by kernel_rfl, ?_⟩ | refine Ug ?_ | refine Uh ?_ | refine Ui ?_ | refine Uj ?_ | refine Uk rfl ?_ | refine Ul rfl ?_ | refine Um ?_ | refine Un ?_ | refine Uo ?_ | refine Up rfl ?_ | refine Uq ?_ | refine Ur ?_ | refine Us ?_ | refine Ut ?_ | refine Uu ?_ | refine Ux ?_ | refine Af (h := ?_) | refine At (h := ?_) | refine Uv rfl rfl rfl rfl ?_ | refine Uw rfl rfl rfl ?_ | refine U0 (by first | (apply st_call (hfn := hV ); exact rfl; exact fz) | (apply st_call (hfn := hN ); exact rfl; exact fz) | exact x0 | exact z0 | fail) ?_ | refine U1 (by first | exact x1 | exact z1 | fail) ?_ | refine U9 zs ?_ | refine Kf (h := ?_) | refine Kt (h := ?_)
        refine round_next (k + 1) (hlt) ((by show h.cells.length - (k + 1) < h.cells.length - k; omega)) (weak_of [] (by repeat first | exact .nil | refine LeEs.cons ?_ ?_ | exact .v (by first | rfl | (rw [hT]; simp)) | exact .own rfl rfl rfl rfl rfl | exact .ptr rfl rfl rfl rfl rfl rfl | exact .nil rfl rfl rfl | exact .sl (by first | rfl | (rw [hT]; simp)) | exact .both rfl rfl | exact .frz rfl rfl rfl rfl rfl (by first | rfl | (rw [hT]; simp)) rfl | exact .tab rfl | exact .any _) (by repeat first | exact .nil | refine LeHs.keep rfl ⟨rfl, rfl, rfl, .inl ⟨rfl, by first | rfl | (rw [hT]; simp)⟩⟩ ?_ | refine LeHs.keep rfl ⟨rfl, rfl, rfl, .inr ⟨(by first | exact .inl rfl | exact .inr rfl), by repeat first | exact .nil | refine LeVL.cons ?_ ?_ | exact .v (by first | rfl | (rw [hT]; simp)) | exact .own rfl rfl rfl rfl rfl | exact .sl (by first | rfl | (rw [hT]; simp)) | exact .both rfl rfl | exact .frz rfl rfl rfl rfl rfl (by first | rfl | (rw [hT]; simp)) rfl⟩⟩ ?_ | refine LeHs.fresh rfl rfl rfl (Nat.succ_pos _) rfl ?_) rfl rfl)
  · have hk2 : k = h.cells.length := by omega
    subst hk2
    repeat first | refine Ua ?_ | refine Ub ?_ | refine Uc ?_ | refine Ud ?_ | refine Ue ?_ | refine Ug ⟨by kernel_rfl, ?_⟩ | refine Ug ?_ | refine Uh ?_ | refine Ui ?_ | refine Uj ?_ | refine Uk rfl ?_ | refine Ul rfl ?_ | refine Um ?_ | refine Un ?_ | refine Uo ?_ | refine Up rfl ?_ | refine Uq ?_ | refine Ur ?_ | refine Us ?_ | refine Ut ?_ | refine Uu ?_ | refine Ux ?_ | refine Af (h := ?_) | refine At (h := ?_) | refine Uv rfl rfl rfl rfl ?_ | refine Uw rfl rfl rfl ?_ | refine U0 (by first | (apply st_call (hfn := hV ); exact rfl; exact fz) | exact x0 | exact z0 | fail) ?_ | refine U1 (by first | exact x1 | exact z1 | fail) ?_ | refine U9 zs ?_ | refine Kf (h := ?_) | refine Kt (h := ?_)
    exact ⟨.inl rfl, Rx⟩
end Go.Proofs.YtnfjmcenjpoloaaDoor
