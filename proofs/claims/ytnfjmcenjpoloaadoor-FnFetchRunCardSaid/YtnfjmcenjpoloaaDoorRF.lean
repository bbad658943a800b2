/-
  The search of the reference: l2Bits, l2Free, l2Beside, l2Left, BringLeast, BringBest.
-/
import Derived.Test.YtnfjmcenjpoloaaDoorRE
import Derived.Test.YtnfjmcenjpoloaaDoorU6
set_option linter.unusedVariables false
set_option linter.unusedSimpArgs false
set_option maxRecDepth 100000
namespace Go.Proofs.YtnfjmcenjpoloaaDoor
open Go Go.RowKit Go.Park Go.Sym Go.Graph

theorem st_call_ffE {P : Program} {nt : Nat} {E : List (Nat × AV)} {H : Hp} {dst : Option Nat} {ty : Nat} {pos : String} {aft : Array Edge} {gd : Option (Nat × Bool)} {f : Nat} {args : List Operand} {at' : Array TypeId} {ts : List AV} {res : AV} {u es : List Nat} (hd : dstOk nt dst = true) (hfn : FnF P f ts res) (hfz : FrzA (mkS E H) args ts u es) (hu : u = []) :
    Does P nt ⟨dst, .call ⟨.value (.func f), args.toArray, at'⟩, ty, pos, aft, gd⟩ ⟨es, []⟩ res [] (mkS E H) := by subst hu; exact does_call_ff hd hfn hfz
set_option maxHeartbeats 1000000 in
theorem l2Bits_fn (x : Nat) (hx : x ≤ 100000) : FnS Tryd.prog 107 [.int (x : Int)] (.int ((bitsF x : Nat) : Int)) := by
  refine fn_go1 tabOk Tryd.func107 rfl (by kernel_rfl) Tryd.ntmps107 Tryd.results107 (by decide) ?_
  repeat first | refine Ua ?_ | refine Ub ?_ | refine Uc ?_ | refine Ud ?_ | refine Ue ?_ | refine Ug ⟨by kernel_rfl, ?_⟩ | refine Ug ?_ | refine Uh ?_ | refine Ui ?_ | refine Uj ?_ | refine Uk rfl ?_ | refine Ul rfl ?_ | refine Um ?_ | refine Un ?_ | refine Uo ?_ | refine Up rfl ?_ | refine Uq ?_ | refine Ur ?_ | refine Us ?_ | refine Ut ?_ | refine Uu ?_ | refine Ux ?_ | refine Uv rfl rfl rfl rfl ?_ | refine Uw rfl rfl rfl ?_ | refine U0 z0 ?_ | refine U1 z1 ?_ | refine U9 zs ?_
  refine ax_loop (fun i : Nat × Nat => mkS [(0, .int (i.1 : Int)), (3, .int (i.2 : Int))] ⟨1, []⟩) (fun i => i.1 ≤ x ∧ i.2 + i.1 ≤ x ∧ i.2 + bitsF i.1 = bitsF x) (fun i => i.1) ((x, 0)) (⟨Nat.le_refl _, by show 0 + x ≤ x; omega, by show 0 + bitsF x = bitsF x; omega⟩) (Lw (ρ := [])) ?_
  rintro ⟨y, a⟩ ⟨hy, ha, hb⟩
  dsimp only at hy ha hb ⊢
  repeat first | refine Ua ?_ | refine Ub ?_ | refine Uc ?_ | refine Ud ?_ | refine Ue ?_ | refine Ug ⟨by kernel_rfl, ?_⟩ | refine Ug ?_ | refine Uh ?_ | refine Ui ?_ | refine Uj ?_ | refine Uk rfl ?_ | refine Ul rfl ?_ | refine Um ?_ | refine Un ?_ | refine Uo ?_ | refine Up rfl ?_ | refine Uq ?_ | refine Ur ?_ | refine Us ?_ | refine Ut ?_ | refine Uu ?_ | refine Ux ?_ | refine Uv rfl rfl rfl rfl ?_ | refine Uw rfl rfl rfl ?_ | refine U0 z0 ?_ | refine U1 z1 ?_ | refine U9 zs ?_
  refine ax_cond rfl (fun h1 => ?_) (fun h1 => ?_)
  · have hp : 0 < y := by simpa using h1
    have hs := bitsF_step y
    repeat first | refine Ua ?_ | refine Ub ?_ | refine Uc ?_ | refine Ud ?_ | refine Ue ?_ | refine Ug ⟨by kernel_rfl, ?_⟩ | refine Ug ?_ | refine Uh ?_ | refine Ui ?_ | refine Uj ?_ | refine Uk rfl ?_ | refine Ul rfl ?_ | refine Um ?_ | refine Un ?_ | refine Uo ?_ | refine Up rfl ?_ | refine Uq ?_ | refine Ur ?_ | refine Us ?_ | refine Ut ?_ | refine Uu ?_ | refine Ux ?_ | refine Uv rfl rfl rfl rfl ?_ | refine Uw rfl rfl rfl ?_ | refine U0 z0 ?_ | refine U1 z1 ?_ | refine U9 zs ?_
    refine round_next ((y / 2, a + y % 2)) (⟨by show y / 2 ≤ x; omega, by show a + y % 2 + y / 2 ≤ x; omega, by show a + y % 2 + bitsF (y / 2) = bitsF x; omega⟩) ((by show y / 2 < y; omega)) (weak_of [] (by repeat first | exact .nil | refine LeEs.cons ?_ ?_ | exact .v (by first | rfl | ((congr 1; omega))) | exact .own rfl rfl rfl rfl rfl | exact .ptr rfl rfl rfl rfl rfl rfl | exact .nil rfl rfl rfl | exact .sl (by first | rfl | ((congr 1; omega))) | exact .both rfl rfl | exact .frz rfl rfl rfl rfl rfl (by first | rfl | ((congr 1; omega))) rfl | exact .tab rfl | exact .any _) (by repeat first | exact .nil | refine LeHs.keep rfl ⟨rfl, rfl, rfl, .inl ⟨rfl, by first | rfl | ((congr 1; omega))⟩⟩ ?_ | refine LeHs.keep rfl ⟨rfl, rfl, rfl, .inr ⟨(by first | exact .inl rfl | exact .inr rfl), by repeat first | exact .nil | refine LeVL.cons ?_ ?_ | exact .v (by first | rfl | ((congr 1; omega))) | exact .own rfl rfl rfl rfl rfl | exact .sl (by first | rfl | ((congr 1; omega))) | exact .both rfl rfl | exact .frz rfl rfl rfl rfl rfl (by first | rfl | ((congr 1; omega))) rfl⟩⟩ ?_ | refine LeHs.fresh rfl rfl rfl (Nat.succ_pos _) rfl ?_) rfl rfl)
  · have hy0 : y = 0 := by simp at h1; omega
    subst hy0
    have hab : a = bitsF x := by rw [bitsF_zero] at hb; omega
    rw [← hab]
    repeat first | refine Ua ?_ | refine Ub ?_ | refine Uc ?_ | refine Ud ?_ | refine Ue ?_ | refine Ug ⟨by kernel_rfl, ?_⟩ | refine Ug ?_ | refine Uh ?_ | refine Ui ?_ | refine Uj ?_ | refine Uk rfl ?_ | refine Ul rfl ?_ | refine Um ?_ | refine Un ?_ | refine Uo ?_ | refine Up rfl ?_ | refine Uq ?_ | refine Ur ?_ | refine Us ?_ | refine Ut ?_ | refine Uu ?_ | refine Ux ?_ | refine Uv rfl rfl rfl rfl ?_ | refine Uw rfl rfl rfl ?_ | refine U0 z0 ?_ | refine U1 z1 ?_ | refine U9 zs ?_
    exact ⟨.inl rfl, Rx⟩
/-! the free cells' number -/
def pwF (l : List Int) : Nat := (l.map fun x => 2 ^ x.toNat).sum
theorem pwF_append (l : List Int) (x : Int) : pwF (l ++ [x]) = pwF l + 2 ^ x.toNat := by simp [pwF]
theorem pwF_sel (l : List Int) : ∀ k, pwF (selTo (fun j => decide (gi l j = 0)) k) = setTo l k
  | 0 => by simp [pwF, selTo, setTo]
  | k+1 => by
    simp only [setTo]
    by_cases h0 : gi l k = 0
    · rw [selTo_yes (by simpa using h0), pwF_append, pwF_sel l k, if_pos h0]; simp
    · rw [selTo_no (by simpa using h0), pwF_sel l k, if_neg h0]; rfl
theorem pwF_free {h : PHall} (hv : validB h = true) : pwF (hallFreeF h) = setN h := by
  unfold hallFreeF
  rw [if_pos hv]; exact pwF_sel _ _
theorem take_succ_gi {l : List Int} {k : Nat} (hk : k < l.length) : l.take (k + 1) = l.take k ++ [gi l k] := by
  rw [List.take_add_one, List.getElem?_eq_getElem hk]; simp [gi, List.getD, hk]
theorem pwF_le {l : List Int} (h : ∀ x, x ∈ l → x.toNat ≤ 11) : ∀ k, k ≤ l.length → pwF (l.take k) ≤ k * 2048
  | 0, _ => by simp [pwF]
  | k+1, hk => by
    have ih := pwF_le h k (by omega)
    rw [take_succ_gi (by omega), pwF_append]
    have h1 : 2 ^ (gi l k).toNat ≤ 2 ^ 11 := Nat.pow_le_pow_right (by omega) (h _ (gi_mem (by omega)))
    omega
set_option maxHeartbeats 1000000 in
theorem l2Free_fn (h : PHall) (hl : h.cells.length ≤ lim) (hv : validB h = true) : FnS Tryd.prog 75 [hallV h] (.int ((setN h : Nat) : Int)) := by
  have h12 := (valid_len hv).2
  have hfl := free_len h
  have hmem : ∀ x, x ∈ hallFreeF h → 0 ≤ x ∧ x.toNat ≤ 11 := fun x hx => by
    unfold hallFreeF at hx
    rw [if_pos hv] at hx
    obtain ⟨j, h1, _, rfl⟩ := selTo_mem.1 hx
    omega
  have hle := pwF_le (fun x hx => (hmem x hx).2)
  refine fn_go1 tabOk Tryd.func75 rfl (by kernel_rfl) Tryd.ntmps75 Tryd.results75 (by decide) ?_
  repeat first | refine Ua ?_ | refine Ub ?_ | refine Uc ?_ | refine Ud ?_ | refine Ue ?_ | refine Ug ⟨by kernel_rfl, ?_⟩ | refine Ug ?_ | refine Uh ?_ | refine Ui ?_ | refine Uj ?_ | refine Uk rfl ?_ | refine Ul rfl ?_ | refine Um ?_ | refine Un ?_ | refine Uo ?_ | refine Up rfl ?_ | refine Uq ?_ | refine Ur ?_ | refine Us ?_ | refine Ut ?_ | refine Uu ?_ | refine Ux ?_ | refine Uv rfl rfl rfl rfl ?_ | refine Uw rfl rfl rfl ?_ | refine U0 z0 ?_ | refine U1 (by first | (apply st_call_s (hfn := specHallFree_fn h hl ); exact rfl; exact fz; iterate 2 exact rfl) | exact z1 | fail) ?_ | refine U9 zs ?_
  refine ax_loop (fun k : Nat => mkS [(5, .int (k : Int)), (4, .own 2 0), (3, .int ((pwF ((hallFreeF h).take k) : Nat) : Int))] ⟨3, [(2, some (intsRow (hallFreeF h)))]⟩) (fun k => k ≤ (hallFreeF h).length) (fun k => (hallFreeF h).length - k) (0) (Nat.zero_le _) (Lw (ρ := [])) ?_
  intro k hk
  have hlk := hle k hk
  repeat first | refine Ua ?_ | refine Ub ?_ | refine Uc ?_ | refine Ud ?_ | refine Ue ?_ | refine Ug ⟨by kernel_rfl, ?_⟩ | refine Ug ?_ | refine Uh ?_ | refine Ui ?_ | refine Uj ?_ | refine Uk rfl ?_ | refine Ul rfl ?_ | refine Um ?_ | refine Un ?_ | refine Uo ?_ | refine Up rfl ?_ | refine Uq ?_ | refine Ur ?_ | refine Us ?_ | refine Ut ?_ | refine Uu ?_ | refine Ux ?_ | refine Uv rfl rfl rfl rfl ?_ | refine Uw rfl rfl rfl ?_ | refine U0 z0 ?_ | refine U1 z1 ?_ | refine U9 zs ?_
  refine ax_cond rfl (fun hb => ?_) (fun hb => ?_)
  · have hlt : k < (hallFreeF h).length := by simpa using hb
    have hx := hmem _ (gi_mem hlt)
    obtain ⟨x, hxe⟩ : ∃ x : Nat, gi (hallFreeF h) k = x := ⟨(gi (hallFreeF h) k).toNat, by omega⟩
    have hsh := shl_one (a := x) (by omega)
    have hp : 2 ^ x ≤ 2 ^ 11 := Nat.pow_le_pow_right (by omega) (by omega)
    have hnx : pwF ((hallFreeF h).take (k + 1)) = pwF ((hallFreeF h).take k) + 2 ^ x := by rw [take_succ_gi hlt, pwF_append, hxe]; simp
    obtain ⟨A, hA⟩ : ∃ A, A = 2 ^ x := ⟨_, rfl⟩
    rw [← hA] at hsh hp hnx
    repeat first | refine Ua ?_ | refine Ub ?_ | refine Uc ?_ | refine Ud ?_ | refine Ue ?_ | refine Ug ⟨by kernel_rfl, ?_⟩ | refine Ug ?_ | refine Uh ?_ | refine Ui ?_ | refine Uj ?_ | refine Uk rfl ?_ | refine Ul rfl ?_ | refine Um ?_ | refine Un ?_ | refine Uo ?_ | refine Up rfl ?_ | refine Uq ?_ | refine Ur ?_ | refine Us ?_ | refine Ut ?_ | refine Uu ?_ | refine Ux ?_ | refine Uv rfl rfl rfl rfl ?_ | refine Uw rfl rfl rfl ?_ | refine U0 (by first | (apply st_ld_intsE tabOk; (iterate 7 exact rfl); omega; exact hxe) | (apply st_shlE; (iterate 3 exact rfl); exact hsh) | exact z0 | fail) ?_ | refine U1 z1 ?_ | refine U9 zs ?_
    refine round_next (k + 1) (hlt) (by omega) (weak_of [] (by repeat first | exact .nil | refine LeEs.cons ?_ ?_ | exact .v (by first | rfl | ((congr 1; omega))) | exact .own rfl rfl rfl rfl rfl | exact .ptr rfl rfl rfl rfl rfl rfl | exact .nil rfl rfl rfl | exact .sl (by first | rfl | ((congr 1; omega))) | exact .both rfl rfl | exact .frz rfl rfl rfl rfl rfl (by first | rfl | ((congr 1; omega))) rfl | exact .tab rfl | exact .any _) (by repeat first | exact .nil | refine LeHs.keep rfl ⟨rfl, rfl, rfl, .inl ⟨rfl, by first | rfl | ((congr 1; omega))⟩⟩ ?_ | refine LeHs.keep rfl ⟨rfl, rfl, rfl, .inr ⟨(by first | exact .inl rfl | exact .inr rfl), by repeat first | exact .nil | refine LeVL.cons ?_ ?_ | exact .v (by first | rfl | ((congr 1; omega))) | exact .own rfl rfl rfl rfl rfl | exact .sl (by first | rfl | ((congr 1; omega))) | exact .both rfl rfl | exact .frz rfl rfl rfl rfl rfl (by first | rfl | ((congr 1; omega))) rfl⟩⟩ ?_ | refine LeHs.fresh rfl rfl rfl (Nat.succ_pos _) rfl ?_) rfl rfl)
  · have hkn : k = (hallFreeF h).length := by simp at hb; omega
    subst hkn
    have hF : pwF ((hallFreeF h).take (hallFreeF h).length) = setN h := by rw [List.take_length, pwF_free hv]
    rw [← hF]
    repeat first | refine Ua ?_ | refine Ub ?_ | refine Uc ?_ | refine Ud ?_ | refine Ue ?_ | refine Ug ⟨by kernel_rfl, ?_⟩ | refine Ug ?_ | refine Uh ?_ | refine Ui ?_ | refine Uj ?_ | refine Uk rfl ?_ | refine Ul rfl ?_ | refine Um ?_ | refine Un ?_ | refine Uo ?_ | refine Up rfl ?_ | refine Uq ?_ | refine Ur ?_ | refine Us ?_ | refine Ut ?_ | refine Uu ?_ | refine Ux ?_ | refine Uv rfl rfl rfl rfl ?_ | refine Uw rfl rfl rfl ?_ | refine U0 z0 ?_ | refine U1 z1 ?_ | refine U9 zs ?_
    exact ⟨.inl rfl, Rx⟩
set_option maxHeartbeats 1000000 in
theorem l2Beside_ff (h : PHall) (hl : h.cells.length ≤ lim) : FnF Tryd.prog 108 [hallV h] (.sl 23 1 (lists 3 (nbTo h h.cells.length))) := by
  have hl' : h.cells.length ≤ 1073741824 := hl
  refine fnf_of_ax tabOk Tryd.func108 rfl (by kernel_rfl) Tryd.ntmps108 Tryd.results108 (Nat.le_of_ble_eq_true rfl) ?_
  show AX _ _ _ (mkS [(0, hallV h)] ⟨1, []⟩) _
  repeat first | refine Ua ?_ | refine Ub ?_ | refine Uc ?_ | refine Ud ?_ | refine Ue ?_ | refine Ug ⟨by kernel_rfl, ?_⟩ | refine Ug ?_ | refine Uh ?_ | refine Ui ?_ | refine Uj ?_ | refine Uk rfl ?_ | refine Ul rfl ?_ | refine Um ?_ | refine Un ?_ | refine Uo ?_ | refine Up rfl ?_ | refine Uq ?_ | refine Ur ?_ | refine Us ?_ | refine Ut ?_ | refine Uu ?_ | refine Ux ?_ | refine Uv rfl rfl rfl rfl ?_ | refine Uw rfl rfl rfl ?_ | refine U0 (by first | (apply st_ix_own_l tabOk; (iterate 11 exact rfl); (first | with_reducible exact to0 | with_reducible exact to1 | with_reducible exact to2 | with_reducible exact toC _ | exact rfl); omega) | (apply st_ld_l tabOk; (iterate 7 exact rfl); omega) | (apply st_ix_sl_l tabOk; (iterate 8 exact rfl); (first | with_reducible exact to0 | with_reducible exact to1 | with_reducible exact to2 | with_reducible exact toC _ | exact rfl); omega) | (apply st_ld_ip_l tabOk; (iterate 4 exact rfl); omega) | (apply st_ix_bes tabOk; (iterate 11 exact rfl); (first | with_reducible exact to0 | with_reducible exact to1 | with_reducible exact to2 | with_reducible exact toC _ | exact rfl); omega) | exact z0 | fail) ?_ | refine U1 (by first | (apply st_lit1_l tabOk; (iterate 8 exact rfl)) | (apply st_app_l tabOk; (iterate 22 exact rfl); (first | omega | (simp only [List.length_cons, List.length_nil, List.length_append]; omega))) | exact z1 | fail) ?_ | refine U9 (by first | (apply st_st_bes tabOk; (iterate 8 exact rfl); omega) | exact zs | fail) ?_
  refine ax_loop (fun k : Nat => mkS [(4, .int (k : Int)), (3, .own 2 0), (1, .ptr 1 0 0)] ⟨3, [(1, some (hallRow h)), (2, some ⟨23, 1, 0, true, false, lists 3 (nbTo h k)⟩)]⟩) (fun k => k ≤ h.cells.length) (fun k => h.cells.length - k) (0) (Nat.zero_le _) (Lw (ρ := [])) ?_
  intro k hk
  have hnl := nbTo_len h k
  repeat first | refine Ua ?_ | refine Ub ?_ | refine Uc ?_ | refine Ud ?_ | refine Ue ?_ | refine Ug ⟨by kernel_rfl, ?_⟩ | refine Ug ?_ | refine Uh ?_ | refine Ui ?_ | refine Uj ?_ | refine Uk rfl ?_ | refine Ul rfl ?_ | refine Um ?_ | refine Un ?_ | refine Uo ?_ | refine Up rfl ?_ | refine Uq ?_ | refine Ur ?_ | refine Us ?_ | refine Ut ?_ | refine Uu ?_ | refine Ux ?_ | refine Uv rfl rfl rfl rfl ?_ | refine Uw rfl rfl rfl ?_ | refine U0 z0 ?_ | refine U1 z1 ?_ | refine U9 zs ?_
  refine ax_cond rfl (fun hb => ?_) (fun hb => ?_)
  · have hlt : k < h.cells.length := by simpa using hb
    have e0 : lists 3 (nbTo h (k + 1)) = lists 3 (nbTo h k ++ [besideF h (k : Int)]) := by rw [nbTo_succ]
    repeat first | refine Ua ?_ | refine Ub ?_ | refine Uc ?_ | refine Ud ?_ | refine Ue ?_ | refine Ug ⟨by kernel_rfl, ?_⟩ | refine Ug ?_ | refine Uh ?_ | refine Ui ?_ | refine Uj ?_ | refine Uk rfl ?_ | refine Ul rfl ?_ | refine Um ?_ | refine Un ?_ | refine Uo ?_ | refine Up rfl ?_ | refine Uq ?_ | refine Ur ?_ | refine Us ?_ | refine Ut ?_ | refine Uu ?_ | refine Ux ?_ | refine Uv rfl rfl rfl rfl ?_ | refine Uw rfl rfl rfl ?_ | refine U0 (by first | (apply st_call_f (hfn := specCellsBeside_fn h hl (k : Int) ); exact rfl; exact fz) | (apply st_ix_own_l tabOk; (iterate 11 exact rfl); (first | with_reducible exact to0 | with_reducible exact to1 | with_reducible exact to2 | with_reducible exact toC _ | exact rfl); omega) | (apply st_ld_l tabOk; (iterate 7 exact rfl); omega) | (apply st_ix_sl_l tabOk; (iterate 8 exact rfl); (first | with_reducible exact to0 | with_reducible exact to1 | with_reducible exact to2 | with_reducible exact toC _ | exact rfl); omega) | (apply st_ld_ip_l tabOk; (iterate 4 exact rfl); omega) | (apply st_ix_bes tabOk; (iterate 11 exact rfl); (first | with_reducible exact to0 | with_reducible exact to1 | with_reducible exact to2 | with_reducible exact toC _ | exact rfl); omega) | exact z0 | fail) ?_ | refine U1 (by first | (apply st_lit1_l tabOk; (iterate 8 exact rfl)) | (apply st_app_l tabOk; (iterate 22 exact rfl); (first | omega | (simp only [List.length_cons, List.length_nil, List.length_append]; omega))) | exact z1 | fail) ?_ | refine U9 (by first | (apply st_st_bes tabOk; (iterate 8 exact rfl); omega) | exact zs | fail) ?_
    refine round_next (k + 1) (hlt) (by omega) (weak_of [] (by repeat first | exact .nil | refine LeEs.cons ?_ ?_ | exact .v (by first | rfl | (exact e0)) | exact .own rfl rfl rfl rfl rfl | exact .ptr rfl rfl rfl rfl rfl rfl | exact .nil rfl rfl rfl | exact .sl (by first | rfl | (exact e0)) | exact .both rfl rfl | exact .frz rfl rfl rfl rfl rfl (by first | rfl | (exact e0)) rfl | exact .tab rfl | exact .any _) (by repeat first | exact .nil | refine LeHs.keep rfl ⟨rfl, rfl, rfl, .inl ⟨rfl, by first | rfl | (exact e0)⟩⟩ ?_ | refine LeHs.keep rfl ⟨rfl, rfl, rfl, .inr ⟨(by first | exact .inl rfl | exact .inr rfl), by repeat first | exact .nil | refine LeVL.cons ?_ ?_ | exact .v (by first | rfl | (exact e0)) | exact .own rfl rfl rfl rfl rfl | exact .sl (by first | rfl | (exact e0)) | exact .both rfl rfl | exact .frz rfl rfl rfl rfl rfl (by first | rfl | (exact e0)) rfl⟩⟩ ?_ | refine LeHs.fresh rfl rfl rfl (Nat.succ_pos _) rfl ?_) rfl rfl)
  · have hkn : k = h.cells.length := by simp at hb; omega
    subst hkn
    repeat first | refine Ua ?_ | refine Ub ?_ | refine Uc ?_ | refine Ud ?_ | refine Ue ?_ | refine Ug ⟨by kernel_rfl, ?_⟩ | refine Ug ?_ | refine Uh ?_ | refine Ui ?_ | refine Uj ?_ | refine Uk rfl ?_ | refine Ul rfl ?_ | refine Um ?_ | refine Un ?_ | refine Uo ?_ | refine Up rfl ?_ | refine Uq ?_ | refine Ur ?_ | refine Us ?_ | refine Ut ?_ | refine Uu ?_ | refine Ux ?_ | refine Uv rfl rfl rfl rfl ?_ | refine Uw rfl rfl rfl ?_ | refine U0 z0 ?_ | refine U1 z1 ?_ | refine U9 zs ?_
    exact ⟨.inl rfl, .own 2 0, _, .cons (.tmp rfl) .nil, .one (.own rfl rfl rfl rfl rfl)⟩
section
variable {h : PHall} {many : Nat} {Q : List St2} {L : List Int} {i a j K b : Nat}
theorem midR_none (hv : validB h = true) (ha : a < h.cells.length) (m : Mid h a j K) {K' : Nat} (hK : K' ≤ a * 16 + 16) (hj : ∀ t, j ≤ t → t < (besideF h (a : Int)).length → K' ≤ a * 16 + (gi (besideF h (a : Int)) t).toNat) : ∀ s c u, (c, u) ∈ mvR h.cells.length many (nbN h) s → K ≤ c → c < K' → False := by
  intro s c u hm h1 h2
  have hB := nb_ok hv
  obtain ⟨_, b', a', mm, rfl⟩ := (mem_mvR hB).1 hm
  have h12 := (valid_len hv).2
  have hb' := mm.la
  have ha' := (hB.cells b' mm.la a' mm.lb).1
  have hlo := m.lo
  obtain rfl : a' = a := by omega
  obtain ⟨t, ht, e⟩ := nb_idx (hB.sym b' mm.la a' mm.lb)
  rcases Nat.lt_or_ge t j with h3 | h3
  · have := m.below t h3 ht; omega
  · have := hj t h3 ht; omega
theorem dig_to (hv : validB h = true) (ha : a < h.cells.length) (D : Dig h.cells.length many (nbN h) Q L i K) (m : Mid h a j K) (hj : j < (besideF h (a : Int)).length) (hb : NbAt h a j b) : Dig h.cells.length many (nbN h) Q L i (a * 16 + b) := by
  have e : (gi (besideF h (a : Int)) j).toNat = b := by rw [hb.val]; simp
  have h12 := (valid_len hv).2
  have hlt := hb.lt
  refine D.skip (midR_none hv ha m (by omega) (fun t ht htl => ?_) _)
  rcases Nat.lt_or_eq_of_le ht with h2 | h2
  · have := nb_up hv ha h2 htl; omega
  · subst h2; omega
theorem dig_shut (hv : validB h = true) (ha : a < h.cells.length) (D : Dig h.cells.length many (nbN h) Q L i (a * 16 + b)) (hb : (qOf Q i).2.testBit b = true) (hlt : b < h.cells.length) : Dig h.cells.length many (nbN h) Q L i (a * 16 + b + 1) := by
  refine D.skip fun c u hm h1 h2 => ?_
  obtain ⟨_, b', a', mm, e⟩ := (mem_mvR (nb_ok hv)).1 hm
  have h12 := (valid_len hv).2
  have hb' := mm.la
  have ha' := ((nb_ok hv).cells b' mm.la a' mm.lb).1
  obtain rfl : b' = b := by omega
  have := mm.hasCar
  rw [hb] at this; cases this
theorem dig_row (hv : validB h = true) (ha : a < h.cells.length) (D : Dig h.cells.length many (nbN h) Q L i K) (m : Mid h a (besideF h (a : Int)).length K) : Dig h.cells.length many (nbN h) Q L i ((a + 1) * 16) :=
  D.skip (midR_none hv ha m (by omega) (fun t ht htl => by omega) _)
theorem dig_car (hv : validB h = true) (D : Dig h.cells.length many (nbN h) Q L i (a * 16)) (hf : (qOf Q i).2.testBit a = false) : Dig h.cells.length many (nbN h) Q L i ((a + 1) * 16) := by
  refine D.skip fun c u hm h1 h2 => ?_
  obtain ⟨_, b', a', mm, e⟩ := (mem_mvR (nb_ok hv)).1 hm
  have h12 := (valid_len hv).2
  have hb' := mm.la
  have ha' := ((nb_ok hv).cells b' mm.la a' mm.lb).1
  obtain rfl : a' = a := by omega
  have := mm.free
  rw [hf] at this; cases this
theorem dig_done (hv : validB h = true) (hi : i < Q.length) (D : Dig h.cells.length many (nbN h) Q L i (h.cells.length * 16)) : Dig h.cells.length many (nbN h) Q L (i + 1) 0 := by
  refine D.next hi fun c u hm => ?_
  obtain ⟨_, b', a', mm, e⟩ := (mem_mvR (nb_ok hv)).1 hm
  have h12 := (valid_len hv).2
  have hb' := mm.la
  have ha' := ((nb_ok hv).cells b' mm.la a' mm.lb).1
  omega
end
theorem bit_div : ∀ (a x : Nat), x.testBit a = decide (x / 2 ^ a % 2 = 1)
  | 0, x => by simp [Nat.testBit_zero]
  | a+1, x => by rw [Nat.testBit_succ, bit_div a, Nat.div_div_eq_div_mul, ← Nat.pow_succ']
theorem bit_rem (x a : Nat) : ((x / 2 ^ a : Nat) : Int) % 2 = if x.testBit a = true then 1 else 0 := by
  have h := bit_div a x
  have h2 : x / 2 ^ a % 2 < 2 := Nat.mod_lt _ (by omega)
  generalize x / 2 ^ a = y at h h2 ⊢
  by_cases hb : x.testBit a = true
  · rw [if_pos hb]
    rw [hb] at h
    have : y % 2 = 1 := by simpa using h.symm
    omega
  · rw [if_neg hb]
    have hf : x.testBit a = false := by simpa using hb
    rw [hf] at h
    have : ¬ y % 2 = 1 := by simpa using h.symm
    omega
def LowQ (Q : List St2) (L : List Int) : Prop := ∀ j, j < Q.length → gI L (encM 4096 (qOf Q j)) ≤ j
theorem dig_at {n many : Nat} {B : Nat → List Nat} {Q : List St2} {L : List Int} {i K j : Nat} (D : Dig n many B Q L i K) (hj : j < Q.length) : 0 ≤ gI L (encM 4096 (qOf Q j)) := by
  obtain ⟨d, Bk, F⟩ := D.ex
  rw [F.old j hj]; exact Bk.pos j hj
theorem low_push {n many : Nat} {B : Nat → List Nat} {Q : List St2} {L : List Int} {i K : Nat} (hn : n ≤ 12) (D : Dig n many B Q L i K) (hi : i < Q.length) {u : St2} (hu : Wf n many u) (hneg : gI L (encM 4096 u) < 0) (hlow : LowQ Q L) : LowQ (Q ++ [u]) (L.set (encM 4096 u) (gI L (encM 4096 (qOf Q i)) + 1)) := by
  have hlt : encM 4096 u < L.length := by rw [D.len]; exact (wf_4096 hn hu).2
  intro j hj
  by_cases e : j = Q.length
  · subst e
    rw [qOf_last, gI_set hlt, if_pos rfl]
    have := hlow i hi
    omega
  · have hj' : j < Q.length := by simp at hj; omega
    have h0 := dig_at D hj'
    rw [qOf_left hj', gI_set hlt, if_neg (fun e2 => by rw [e2] at hneg; omega)]
    exact hlow j hj'
theorem low_goals {n' many k : Nat} {L : List Int} (F : Lf n' many (goalsTo many k) L (fun _ => 0)) : LowQ (goalsTo many k) L := fun j hj => by rw [F.old j hj]; omega
set_option maxHeartbeats 16000000 in
theorem l2Left_fn (h : PHall) (hl : h.cells.length ≤ lim) (hv : validB h = true) : ∃ L : List Int, (L.length = 49152 ∧ Dist (mvW h.cells.length (hallFreeF h).length (nbN h)) (goalW h.cells.length (hallFreeF h).length) (Go.Graph.leftOf h.cells.length (hallFreeF h).length L)) ∧ FnS Tryd.prog 74 [hallV h] (intsV L) := by
  have hB := nb_ok hv
  have hn := hB.small
  have hn2 := (valid_len hv).1
  obtain ⟨M, hM⟩ : ∃ M, M = 2 ^ h.cells.length := ⟨_, rfl⟩
  have hM4 : M ≤ 4096 := by rw [hM]; exact pow_le hn
  have hME : ∃ M2, M = 2 * M2 := ⟨2 ^ (h.cells.length - 1), by rw [hM, ← Nat.pow_succ']; congr 1; omega⟩
  have hshM : ShlOk 1 (h.cells.length : Int) (M : Int) := by rw [hM]; exact shl_one (by omega)
  have hnl0 := nbTo_len h h.cells.length
  obtain ⟨N, hN⟩ : ∃ N : Nat, N = 49152 := ⟨_, rfl⟩
  have hN1 : (49152 : Int) = (N : Int) := by omega
  refine fnx_go1 (Good := fun L : List Int => L.length = 49152 ∧ Dist (mvW h.cells.length (hallFreeF h).length (nbN h)) (goalW h.cells.length (hallFreeF h).length) (Go.Graph.leftOf h.cells.length (hallFreeF h).length L)) (res := fun L => intsV L) tabOk Tryd.func74 rfl (by kernel_rfl) Tryd.ntmps74 Tryd.results74 (by decide) ?_
  repeat first | refine Ua ?_ | refine Ub ?_ | refine Uc ?_ | refine Ud ?_ | refine Ue ?_ | refine Ug ⟨by kernel_rfl, ?_⟩ | refine Ug ?_ | refine Uh ?_ | refine Ui ?_ | refine Uj ?_ | refine Uk rfl ?_ | refine Ul rfl ?_ | refine Um ?_ | refine Un ?_ | refine Uo ?_ | refine Up rfl ?_ | refine Uq ?_ | refine Ur ?_ | refine Us ?_ | refine Ut ?_ | refine Uu ?_ | refine Ux ?_ | refine Uv rfl rfl rfl rfl ?_ | refine Uw rfl rfl rfl ?_ | refine U0 z0 ?_ | refine U1 (by first | (apply st_make_i (m := N) tabOk; (iterate 3 exact rfl); exact hN1; exact hN1; (iterate 5 exact rfl); (show 8 * _ ≤ _; omega); (unfold maxLen; omega); exact rfl; exact rfl) | exact z1 | fail) ?_ | refine U9 zs ?_
  refine ax_loop (fun k : Nat => mkS [(4, .int (k : Int)), (3, .own 2 0), (1, .ptr 1 0 0)] ⟨3, [(1, some (hallRow h)), (2, some (intsRow (fillN N k)))]⟩) (fun k => k ≤ N) (fun k => N - k) (0) (Nat.zero_le _) (weak_of [] (by repeat first | exact .nil | refine LeEs.cons ?_ ?_ | exact .v (by first | rfl | (rw [fillN_zero])) | exact .own rfl rfl rfl rfl rfl | exact .ptr rfl rfl rfl rfl rfl rfl | exact .nil rfl rfl rfl | exact .sl (by first | rfl | (rw [fillN_zero])) | exact .both rfl rfl | exact .frz rfl rfl rfl rfl rfl (by first | rfl | (rw [fillN_zero])) rfl | exact .tab rfl | exact .any _) (by repeat first | exact .nil | refine LeHs.keep rfl ⟨rfl, rfl, rfl, .inl ⟨rfl, by first | rfl | (rw [fillN_zero])⟩⟩ ?_ | refine LeHs.keep rfl ⟨rfl, rfl, rfl, .inr ⟨(by first | exact .inl rfl | exact .inr rfl), by repeat first | exact .nil | refine LeVL.cons ?_ ?_ | exact .v (by first | rfl | (rw [fillN_zero])) | exact .own rfl rfl rfl rfl rfl | exact .sl (by first | rfl | (rw [fillN_zero])) | exact .both rfl rfl | exact .frz rfl rfl rfl rfl rfl (by first | rfl | (rw [fillN_zero])) rfl⟩⟩ ?_ | refine LeHs.fresh rfl rfl rfl (Nat.succ_pos _) rfl ?_) rfl rfl) ?_
  intro k hk
  have hfl := fillN_len hk
  repeat first | refine Ua ?_ | refine Ub ?_ | refine Uc ?_ | refine Ud ?_ | refine Ue ?_ | refine Ug ⟨by kernel_rfl, ?_⟩ | refine Ug ?_ | refine Uh ?_ | refine Ui ?_ | refine Uj ?_ | refine Uk rfl ?_ | refine Ul rfl ?_ | refine Um ?_ | refine Un ?_ | refine Uo ?_ | refine Up rfl ?_ | refine Uq ?_ | refine Ur ?_ | refine Us ?_ | refine Ut ?_ | refine Uu ?_ | refine Ux ?_ | refine Uv rfl rfl rfl rfl ?_ | refine Uw rfl rfl rfl ?_ | refine U0 z0 ?_ | refine U1 z1 ?_ | refine U9 zs ?_
  refine ax_cond rfl (fun hb => ?_) (fun hb => ?_)
  · have hlt : k < N := by simp at hb; omega
    have hfs : ints ((fillN N k).set k (-1)) = ints (fillN N (k + 1)) := by rw [fillN_set hlt]
    repeat first | refine Ua ?_ | refine Ub ?_ | refine Uc ?_ | refine Ud ?_ | refine Ue ?_ | refine Ug ⟨by kernel_rfl, ?_⟩ | refine Ug ?_ | refine Uh ?_ | refine Ui ?_ | refine Uj ?_ | refine Uk rfl ?_ | refine Ul rfl ?_ | refine Um ?_ | refine Un ?_ | refine Uo ?_ | refine Up rfl ?_ | refine Uq ?_ | refine Ur ?_ | refine Us ?_ | refine Ut ?_ | refine Uu ?_ | refine Ux ?_ | refine Uv rfl rfl rfl rfl ?_ | refine Uw rfl rfl rfl ?_ | refine U0 z0 ?_ | refine U1 z1 ?_ | refine U9 zs ?_
    refine round_next (k + 1) (hlt) (by omega) (weak_of [] (by repeat first | exact .nil | refine LeEs.cons ?_ ?_ | exact .v (by first | rfl | (first | exact hfs | exact hfs.symm)) | exact .own rfl rfl rfl rfl rfl | exact .ptr rfl rfl rfl rfl rfl rfl | exact .nil rfl rfl rfl | exact .sl (by first | rfl | (first | exact hfs | exact hfs.symm)) | exact .both rfl rfl | exact .frz rfl rfl rfl rfl rfl (by first | rfl | (first | exact hfs | exact hfs.symm)) rfl | exact .tab rfl | exact .any _) (by repeat first | exact .nil | refine LeHs.keep rfl ⟨rfl, rfl, rfl, .inl ⟨rfl, by first | rfl | (first | exact hfs | exact hfs.symm)⟩⟩ ?_ | refine LeHs.keep rfl ⟨rfl, rfl, rfl, .inr ⟨(by first | exact .inl rfl | exact .inr rfl), by repeat first | exact .nil | refine LeVL.cons ?_ ?_ | exact .v (by first | rfl | (first | exact hfs | exact hfs.symm)) | exact .own rfl rfl rfl rfl rfl | exact .sl (by first | rfl | (first | exact hfs | exact hfs.symm)) | exact .both rfl rfl | exact .frz rfl rfl rfl rfl rfl (by first | rfl | (first | exact hfs | exact hfs.symm)) rfl⟩⟩ ?_ | refine LeHs.fresh rfl rfl rfl (Nat.succ_pos _) rfl ?_) rfl rfl)
  have hkN : k = N := by simp at hb; omega
  subst hkN
  have F0 : Lf h.cells.length (hallFreeF h).length (goalsTo (hallFreeF h).length 0) (fillN k k) (fun _ => 0) := by rw [fillN_all, hN]; exact lf_start hn
  have hfr := free_len h
  repeat first | refine Ua ?_ | refine Ub ?_ | refine Uc ?_ | refine Ud ?_ | refine Ue ?_ | refine Ug ⟨by kernel_rfl, ?_⟩ | refine Ug ?_ | refine Uh ?_ | refine Ui ?_ | refine Uj ?_ | refine Uk rfl ?_ | refine Ul rfl ?_ | refine Um ?_ | refine Un ?_ | refine Uo ?_ | refine Up rfl ?_ | refine Uq ?_ | refine Ur ?_ | refine Us ?_ | refine Ut ?_ | refine Uu ?_ | refine Ux ?_ | refine Uv rfl rfl rfl rfl ?_ | refine Uw rfl rfl rfl ?_ | refine U0 z0 ?_ | refine U1 (by first | (apply st_call_s (hfn := specHallFree_fn h hl ); exact rfl; exact fz; iterate 2 exact rfl) | exact z1 | fail) ?_ | refine U9 zs ?_
  refine ax_loop (fun i : Nat × List Int => mkS [(7, .int ((2 * i.1 : Nat) : Int)), (6, .int ((hallFreeF h).length : Int)), (5, .own 3 0), (3, .own 2 0), (1, .ptr 1 0 0)] ⟨4, [(1, some (hallRow h)), (2, some (intsRow i.2)), (3, some (intsRow (encs 4096 (goalsTo (hallFreeF h).length i.1))))]⟩) (fun i => 2 * i.1 ≤ M ∧ Lf h.cells.length (hallFreeF h).length (goalsTo (hallFreeF h).length i.1) i.2 (fun _ => 0)) (fun i => M - 2 * i.1) ((0, fillN k k)) (⟨by show 2 * 0 ≤ M; omega, F0⟩) (Lw (ρ := [])) ?_
  rintro ⟨q, L⟩ ⟨hq, F⟩
  dsimp only at hq F ⊢
  have hLl := F.len
  have hgl := goals_len (many := (hallFreeF h).length) (k := q)
  have hel := encs_len 4096 (goalsTo (hallFreeF h).length q)
  repeat first | refine Ua ?_ | refine Ub ?_ | refine Uc ?_ | refine Ud ?_ | refine Ue ?_ | refine Ug ⟨by kernel_rfl, ?_⟩ | refine Ug ?_ | refine Uh ?_ | refine Ui ?_ | refine Uj ?_ | refine Uk rfl ?_ | refine Ul rfl ?_ | refine Um ?_ | refine Un ?_ | refine Uo ?_ | refine Up rfl ?_ | refine Uq ?_ | refine Ur ?_ | refine Us ?_ | refine Ut ?_ | refine Uu ?_ | refine Ux ?_ | refine Uv rfl rfl rfl rfl ?_ | refine Uw rfl rfl rfl ?_ | refine U0 (by first | (apply st_shlE; (iterate 3 exact rfl); exact hshM) | exact z0 | fail) ?_ | refine U1 z1 ?_ | refine U9 zs ?_
  refine ax_cond rfl (fun hb2 => ?_) (fun hb2 => ?_)
  · have hqM : 2 * q < M := by simp at hb2; omega
    obtain ⟨M2, hM2⟩ := hME
    repeat first | refine Ua ?_ | refine Ub ?_ | refine Uc ?_ | refine Ud ?_ | refine Ue ?_ | refine Ug ⟨by kernel_rfl, ?_⟩ | refine Ug ?_ | refine Uh ?_ | refine Ui ?_ | refine Uj ?_ | refine Uk rfl ?_ | refine Ul rfl ?_ | refine Um ?_ | refine Un ?_ | refine Uo ?_ | refine Up rfl ?_ | refine Uq ?_ | refine Ur ?_ | refine Us ?_ | refine Ut ?_ | refine Uu ?_ | refine Ux ?_ | refine Uv rfl rfl rfl rfl ?_ | refine Uw rfl rfl rfl ?_ | refine U0 (by first | (apply st_call (hfn := l2Bits_fn (2 * q) (by omega) ); exact rfl; exact fz) | exact z0 | fail) ?_ | refine U1 z1 ?_ | refine U9 zs ?_
    refine ax_cond rfl (fun hb3 => ?_) (fun hb3 => ?_)
    · have hbm : bitsF (2 * q) = (hallFreeF h).length := by simp at hb3; omega
      have F1 := lf_goal hn (by omega) (by rw [← hM]; omega) F hbm
      have hgs : ints (encs 4096 (goalsTo (hallFreeF h).length (q + 1))) = ints (encs 4096 (goalsTo (hallFreeF h).length q) ++ [((2 * q : Nat) : Int)]) := by rw [goals_next hbm, encs_app]; simp [encM]
      repeat first | refine Ua ?_ | refine Ub ?_ | refine Uc ?_ | refine Ud ?_ | refine Ue ?_ | refine Ug ⟨by kernel_rfl, ?_⟩ | refine Ug ?_ | refine Uh ?_ | refine Ui ?_ | refine Uj ?_ | refine Uk rfl ?_ | refine Ul rfl ?_ | refine Um ?_ | refine Un ?_ | refine Uo ?_ | refine Up rfl ?_ | refine Uq ?_ | refine Ur ?_ | refine Us ?_ | refine Ut ?_ | refine Uu ?_ | refine Ux ?_ | refine Uv rfl rfl rfl rfl ?_ | refine Uw rfl rfl rfl ?_ | refine U0 z0 ?_ | refine U1 z1 ?_ | refine U9 zs ?_
      refine round_next ((q + 1, L.set (2 * q) 0)) (⟨by show 2 * (q + 1) ≤ M; omega, F1⟩) ((by show M - 2 * (q + 1) < M - 2 * q; omega)) (weak_of [] (by repeat first | exact .nil | refine LeEs.cons ?_ ?_ | exact .v (by first | rfl | (first | exact hgs | (congr 1; omega))) | exact .own rfl rfl rfl rfl rfl | exact .ptr rfl rfl rfl rfl rfl rfl | exact .nil rfl rfl rfl | exact .sl (by first | rfl | (first | exact hgs | (congr 1; omega))) | exact .both rfl rfl | exact .frz rfl rfl rfl rfl rfl (by first | rfl | (first | exact hgs | (congr 1; omega))) rfl | exact .tab rfl | exact .any _) (by repeat first | exact .nil | refine LeHs.keep rfl ⟨rfl, rfl, rfl, .inl ⟨rfl, by first | rfl | (first | exact hgs | (congr 1; omega))⟩⟩ ?_ | refine LeHs.keep rfl ⟨rfl, rfl, rfl, .inr ⟨(by first | exact .inl rfl | exact .inr rfl), by repeat first | exact .nil | refine LeVL.cons ?_ ?_ | exact .v (by first | rfl | (first | exact hgs | (congr 1; omega))) | exact .own rfl rfl rfl rfl rfl | exact .sl (by first | rfl | (first | exact hgs | (congr 1; omega))) | exact .both rfl rfl | exact .frz rfl rfl rfl rfl rfl (by first | rfl | (first | exact hgs | (congr 1; omega))) rfl⟩⟩ ?_ | refine LeHs.fresh rfl rfl rfl (Nat.succ_pos _) rfl ?_) rfl rfl)
    · have hbm : ¬ bitsF (2 * q) = (hallFreeF h).length := by simp at hb3; omega
      have hgs := goals_skip hbm
      repeat first | refine Ua ?_ | refine Ub ?_ | refine Uc ?_ | refine Ud ?_ | refine Ue ?_ | refine Ug ⟨by kernel_rfl, ?_⟩ | refine Ug ?_ | refine Uh ?_ | refine Ui ?_ | refine Uj ?_ | refine Uk rfl ?_ | refine Ul rfl ?_ | refine Um ?_ | refine Un ?_ | refine Uo ?_ | refine Up rfl ?_ | refine Uq ?_ | refine Ur ?_ | refine Us ?_ | refine Ut ?_ | refine Uu ?_ | refine Ux ?_ | refine Uv rfl rfl rfl rfl ?_ | refine Uw rfl rfl rfl ?_ | refine U0 z0 ?_ | refine U1 z1 ?_ | refine U9 zs ?_
      refine round_next ((q + 1, L)) (⟨by show 2 * (q + 1) ≤ M; omega, by rw [hgs]; exact F⟩) ((by show M - 2 * (q + 1) < M - 2 * q; omega)) (weak_of [] (by repeat first | exact .nil | refine LeEs.cons ?_ ?_ | exact .v (by first | rfl | (first | rw [hgs] | (congr 1; omega))) | exact .own rfl rfl rfl rfl rfl | exact .ptr rfl rfl rfl rfl rfl rfl | exact .nil rfl rfl rfl | exact .sl (by first | rfl | (first | rw [hgs] | (congr 1; omega))) | exact .both rfl rfl | exact .frz rfl rfl rfl rfl rfl (by first | rfl | (first | rw [hgs] | (congr 1; omega))) rfl | exact .tab rfl | exact .any _) (by repeat first | exact .nil | refine LeHs.keep rfl ⟨rfl, rfl, rfl, .inl ⟨rfl, by first | rfl | (first | rw [hgs] | (congr 1; omega))⟩⟩ ?_ | refine LeHs.keep rfl ⟨rfl, rfl, rfl, .inr ⟨(by first | exact .inl rfl | exact .inr rfl), by repeat first | exact .nil | refine LeVL.cons ?_ ?_ | exact .v (by first | rfl | (first | rw [hgs] | (congr 1; omega))) | exact .own rfl rfl rfl rfl rfl | exact .sl (by first | rfl | (first | rw [hgs] | (congr 1; omega))) | exact .both rfl rfl | exact .frz rfl rfl rfl rfl rfl (by first | rfl | (first | rw [hgs] | (congr 1; omega))) rfl⟩⟩ ?_ | refine LeHs.fresh rfl rfl rfl (Nat.succ_pos _) rfl ?_) rfl rfl)
  have hqM : 2 * q = M := by simp at hb2; omega
  have D0 := dig_start (B := nbN h) (fun s => goals_all (many := (hallFreeF h).length) (by omega) (hqM.trans hM) s) F
  repeat first | refine Ua ?_ | refine Ub ?_ | refine Uc ?_ | refine Ud ?_ | refine Ue ?_ | refine Ug ⟨by kernel_rfl, ?_⟩ | refine Ug ?_ | refine Uh ?_ | refine Ui ?_ | refine Uj ?_ | refine Uk rfl ?_ | refine Ul rfl ?_ | refine Um ?_ | refine Un ?_ | refine Uo ?_ | refine Up rfl ?_ | refine Uq ?_ | refine Ur ?_ | refine Us ?_ | refine Ut ?_ | refine Uu ?_ | refine Ux ?_ | refine Uv rfl rfl rfl rfl ?_ | refine Uw rfl rfl rfl ?_ | refine U0 (by first | (apply st_call_ffE (hfn := l2Beside_ff h hl); exact rfl; exact fz; exact rfl) | exact z0 | fail) ?_ | refine U1 z1 ?_ | refine U9 zs ?_
  refine ax_loop (fun i : List St2 × List Int × Nat => mkS [(9, .int (i.2.2 : Int)), (8, .sl 23 1 (lists 3 (nbTo h h.cells.length))), (5, .own 3 0), (3, .own 2 0), (1, .ptr 1 0 0)] ⟨4, [(1, some (hallRow h)), (2, some (intsRow i.2.1)), (3, some (intsRow (encs 4096 i.1)))]⟩) (fun i => Dig h.cells.length (hallFreeF h).length (nbN h) i.1 i.2.1 i.2.2 0 ∧ LowQ i.1 i.2.1 ∧ i.2.2 ≤ i.1.length) (fun i => 49152 - i.2.2) ((goalsTo (hallFreeF h).length q, L, 0)) (⟨D0, low_goals F, Nat.zero_le _⟩) (Lw (ρ := [])) ?_
  rintro ⟨Q, L1, i⟩ ⟨D, hlow, hi⟩
  dsimp only at D hlow hi ⊢
  have hl1 := D.len
  have hQl := D.le hn
  have hel1 := encs_len 4096 Q
  clear hLl hgl hel F F0 D0 hb2 hb hfl
  repeat first | refine Ua ?_ | refine Ub ?_ | refine Uc ?_ | refine Ud ?_ | refine Ue ?_ | refine Ug ⟨by kernel_rfl, ?_⟩ | refine Ug ?_ | refine Uh ?_ | refine Ui ?_ | refine Uj ?_ | refine Uk rfl ?_ | refine Ul rfl ?_ | refine Um ?_ | refine Un ?_ | refine Uo ?_ | refine Up rfl ?_ | refine Uq ?_ | refine Ur ?_ | refine Us ?_ | refine Ut ?_ | refine Uu ?_ | refine Ux ?_ | refine Uv rfl rfl rfl rfl ?_ | refine Uw rfl rfl rfl ?_ | refine U0 z0 ?_ | refine U1 z1 ?_ | refine U9 zs ?_
  refine ax_cond rfl (fun hb3 => ?_) (fun hb3 => ?_)
  · have hlt : i < Q.length := by simp at hb3; omega
    have hw := D.wf hlt
    obtain ⟨s, hs⟩ : ∃ s, s = qOf Q i := ⟨_, rfl⟩
    rw [← hs] at hw
    obtain ⟨hs2, he⟩ := wf_4096 hn hw
    have hgq : gi (encs 4096 Q) i = ((encM 4096 s : Nat) : Int) := by rw [gi_encs hlt, hs]
    have hq1 : ((encM 4096 s : Nat) : Int) / 4096 = ((s.1 : Nat) : Int) := by have := enc_div hs2; omega
    have hq2 : ((encM 4096 s : Nat) : Int) % 4096 = ((s.2 : Nat) : Int) := by have := enc_mod hs2; omega
    repeat first | refine Ua ?_ | refine Ub ?_ | refine Uc ?_ | refine Ud ?_ | refine Ue ?_ | refine Ug ⟨by kernel_rfl, ?_⟩ | refine Ug ?_ | refine Uh ?_ | refine Ui ?_ | refine Uj ?_ | refine Uk rfl ?_ | refine Ul rfl ?_ | refine Um ?_ | refine Un ?_ | refine Uo ?_ | refine Up rfl ?_ | refine Uq ?_ | refine Ur ?_ | refine Us ?_ | refine Ut ?_ | refine Uu ?_ | refine Ux ?_ | refine Uv rfl rfl rfl rfl ?_ | refine Uw rfl rfl rfl ?_ | refine U0 (by first | (apply st_ld_intsE tabOk; (iterate 7 exact rfl); omega; exact hgq) | (apply st_quoE; (iterate 3 exact rfl); omega; omega; exact hq1) | (apply st_remE; (iterate 3 exact rfl); omega; omega; exact hq2) | exact z0 | fail) ?_ | refine U1 z1 ?_ | refine U9 zs ?_
    refine ax_loop (fun i3 : List St2 × List Int × Nat => mkS [(12, .int (i3.2.2 : Int)), (11, .int ((s.2 : Nat) : Int)), (10, .int ((s.1 : Nat) : Int)), (9, .int (i : Int)), (8, .sl 23 1 (lists 3 (nbTo h h.cells.length))), (5, .own 3 0), (3, .own 2 0), (1, .ptr 1 0 0)] ⟨4, [(1, some (hallRow h)), (2, some (intsRow i3.2.1)), (3, some (intsRow (encs 4096 i3.1)))]⟩) (fun i3 => Dig h.cells.length (hallFreeF h).length (nbN h) i3.1 i3.2.1 i (i3.2.2 * 16) ∧ LowQ i3.1 i3.2.1 ∧ i3.2.2 ≤ h.cells.length ∧ i < i3.1.length ∧ qOf i3.1 i = s) (fun i3 => h.cells.length - i3.2.2) ((Q, L1, 0)) (⟨D, hlow, Nat.zero_le _, hlt, hs.symm⟩) (Lw (ρ := [])) ?_
    rintro ⟨Q1, L2, f⟩ ⟨D1, hlow1, hf1, hi1, hs1⟩
    dsimp only at D1 hlow1 hf1 hi1 hs1 ⊢
    repeat first | refine Ua ?_ | refine Ub ?_ | refine Uc ?_ | refine Ud ?_ | refine Ue ?_ | refine Ug ⟨by kernel_rfl, ?_⟩ | refine Ug ?_ | refine Uh ?_ | refine Ui ?_ | refine Uj ?_ | refine Uk rfl ?_ | refine Ul rfl ?_ | refine Um ?_ | refine Un ?_ | refine Uo ?_ | refine Up rfl ?_ | refine Uq ?_ | refine Ur ?_ | refine Us ?_ | refine Ut ?_ | refine Uu ?_ | refine Ux ?_ | refine Uv rfl rfl rfl rfl ?_ | refine Uw rfl rfl rfl ?_ | refine U0 z0 ?_ | refine U1 z1 ?_ | refine U9 zs ?_
    refine ax_cond rfl (fun hb4 => ?_) (fun hb4 => ?_)
    · have hflt : f < h.cells.length := by simp at hb4; omega
      have hshf : ShrOk ((s.2 : Nat) : Int) (f : Int) ((s.2 / 2 ^ f : Nat) : Int) := shr_nat (by omega)
      have hremf := bit_rem s.2 f
      have hnn : 0 ≤ ((s.2 / 2 ^ f : Nat) : Int) := Int.natCast_nonneg _
      by_cases hbit : s.2.testBit f = true
      · rw [if_pos hbit] at hremf
        have hgl := gl_nbTo (h := h) hflt
        have hbsl := beside_small (h := h) (f : Int)
        obtain ⟨A, hA⟩ : ∃ A, A = 2 ^ f := ⟨_, rfl⟩
        have hshA : ShlOk 1 (f : Int) (A : Int) := by rw [hA]; exact shl_one (by omega)
        have hA4 : A ≤ 4096 := by rw [hA]; exact pow_le (by omega)
        obtain ⟨G, hG⟩ : ∃ G, G = s.2 / 2 ^ f := ⟨_, rfl⟩
        rw [← hG] at hshf hremf hnn
        repeat first | refine Ua ?_ | refine Ub ?_ | refine Uc ?_ | refine Ud ?_ | refine Ue ?_ | refine Ug ⟨by kernel_rfl, ?_⟩ | refine Ug ?_ | refine Uh ?_ | refine Ui ?_ | refine Uj ?_ | refine Uk rfl ?_ | refine Ul rfl ?_ | refine Um ?_ | refine Un ?_ | refine Uo ?_ | refine Up rfl ?_ | refine Uq ?_ | refine Ur ?_ | refine Us ?_ | refine Ut ?_ | refine Uu ?_ | refine Ux ?_ | refine Uv rfl rfl rfl rfl ?_ | refine Uw rfl rfl rfl ?_ | refine U0 z0 ?_ | refine U1 z1 ?_ | refine U9 zs ?_
        refine ax_loop (fun i4 : List St2 × List Int × Nat × Nat => mkS [(13, .int (i4.2.2.1 : Int)), (12, .int (f : Int)), (11, .int ((s.2 : Nat) : Int)), (10, .int ((s.1 : Nat) : Int)), (9, .int (i : Int)), (8, .sl 23 1 (lists 3 (nbTo h h.cells.length))), (5, .own 3 0), (3, .own 2 0), (1, .ptr 1 0 0)] ⟨4, [(1, some (hallRow h)), (2, some (intsRow i4.2.1)), (3, some (intsRow (encs 4096 i4.1)))]⟩) (fun i4 => Dig h.cells.length (hallFreeF h).length (nbN h) i4.1 i4.2.1 i i4.2.2.2 ∧ LowQ i4.1 i4.2.1 ∧ Mid h f i4.2.2.1 i4.2.2.2 ∧ i4.2.2.1 ≤ (besideF h (f : Int)).length ∧ i < i4.1.length ∧ qOf i4.1 i = s) (fun i4 => (besideF h (f : Int)).length - i4.2.2.1) ((Q1, L2, 0, f * 16)) (⟨D1, hlow1, mid_start h f, Nat.zero_le _, hi1, hs1⟩) (Lw (ρ := [])) ?_
        rintro ⟨Q2, L3, j, K⟩ ⟨D2, hlow2, hmid, hj, hi2, hs2'⟩
        dsimp only at D2 hlow2 hmid hj hi2 hs2' ⊢
        have hl3 := D2.len
        have hQl2 := D2.le hn
        have hel2 := encs_len 4096 Q2
        repeat first | refine Ua ?_ | refine Ub ?_ | refine Uc ?_ | refine Ud ?_ | refine Ue ?_ | refine Ug ⟨by kernel_rfl, ?_⟩ | refine Ug ?_ | refine Uh ?_ | refine Ui ?_ | refine Uj ?_ | refine Uk rfl ?_ | refine Ul rfl ?_ | refine Um ?_ | refine Un ?_ | refine Uo ?_ | refine Up rfl ?_ | refine Uq ?_ | refine Ur ?_ | refine Us ?_ | refine Ut ?_ | refine Uu ?_ | refine Ux ?_ | refine Uv rfl rfl rfl rfl ?_ | refine Uw rfl rfl rfl ?_ | refine U0 (by first | (apply st_shrE; (iterate 3 exact rfl); exact hshf) | (apply st_remE; (iterate 3 exact rfl); omega; omega; exact hremf) | (apply st_ld_ip_lE tabOk; (iterate 4 exact rfl); omega; exact hgl) | (apply st_ix_own_l tabOk; (iterate 11 exact rfl); (first | with_reducible exact to0 | with_reducible exact to1 | with_reducible exact to2 | with_reducible exact toC _ | exact rfl); omega) | (apply st_ld_l tabOk; (iterate 7 exact rfl); omega) | (apply st_ix_sl_l tabOk; (iterate 8 exact rfl); (first | with_reducible exact to0 | with_reducible exact to1 | with_reducible exact to2 | with_reducible exact toC _ | exact rfl); omega) | (apply st_ld_ip_l tabOk; (iterate 4 exact rfl); omega) | (apply st_ix_bes tabOk; (iterate 11 exact rfl); (first | with_reducible exact to0 | with_reducible exact to1 | with_reducible exact to2 | with_reducible exact toC _ | exact rfl); omega) | exact z0 | fail) ?_ | refine U1 (by first | (apply st_lit1_l tabOk; (iterate 8 exact rfl)) | (apply st_app_l tabOk; (iterate 22 exact rfl); (first | omega | (simp only [List.length_cons, List.length_nil, List.length_append]; omega))) | exact z1 | fail) ?_ | refine U9 (by first | (apply st_st_bes tabOk; (iterate 8 exact rfl); omega) | exact zs | fail) ?_
        refine ax_cond rfl (fun hb5 => ?_) (fun hb5 => ?_)
        · have hjlt : j < (besideF h (f : Int)).length := by simp at hb5; omega
          obtain ⟨b, hb⟩ := nb_at hv hflt hjlt
          have hblt := hb.lt
          have hval := hb.val
          have Dk := dig_to hv hflt D2 hmid hjlt hb
          have hmn := hmid.next hv hflt hjlt hb
          have hshb : ShrOk ((s.2 : Nat) : Int) (b : Int) ((s.2 / 2 ^ b : Nat) : Int) := shr_nat (by omega)
          have hremb := bit_rem s.2 b
          have hnb : 0 ≤ ((s.2 / 2 ^ b : Nat) : Int) := Int.natCast_nonneg _
          obtain ⟨G', hG'⟩ : ∃ G', G' = s.2 / 2 ^ b := ⟨_, rfl⟩
          rw [← hG'] at hshb hremb hnb
          by_cases hcar : s.2.testBit b = true
          · rw [if_pos hcar] at hremb
            repeat first | refine Ua ?_ | refine Ub ?_ | refine Uc ?_ | refine Ud ?_ | refine Ue ?_ | refine Ug ⟨by kernel_rfl, ?_⟩ | refine Ug ?_ | refine Uh ?_ | refine Ui ?_ | refine Uj ?_ | refine Uk rfl ?_ | refine Ul rfl ?_ | refine Um ?_ | refine Un ?_ | refine Uo ?_ | refine Up rfl ?_ | refine Uq ?_ | refine Ur ?_ | refine Us ?_ | refine Ut ?_ | refine Uu ?_ | refine Ux ?_ | refine Uv rfl rfl rfl rfl ?_ | refine Uw rfl rfl rfl ?_ | refine U0 (by first | (apply st_ld_ip_lE tabOk; (iterate 4 exact rfl); omega; exact hgl) | (apply st_ld_ipE tabOk; (iterate 4 exact rfl); omega; exact hval) | (apply st_shrE; (iterate 3 exact rfl); exact hshb) | (apply st_remE; (iterate 3 exact rfl); omega; omega; exact hremb) | (apply st_ix_own_l tabOk; (iterate 11 exact rfl); (first | with_reducible exact to0 | with_reducible exact to1 | with_reducible exact to2 | with_reducible exact toC _ | exact rfl); omega) | (apply st_ld_l tabOk; (iterate 7 exact rfl); omega) | (apply st_ix_sl_l tabOk; (iterate 8 exact rfl); (first | with_reducible exact to0 | with_reducible exact to1 | with_reducible exact to2 | with_reducible exact toC _ | exact rfl); omega) | (apply st_ld_ip_l tabOk; (iterate 4 exact rfl); omega) | (apply st_ix_bes tabOk; (iterate 11 exact rfl); (first | with_reducible exact to0 | with_reducible exact to1 | with_reducible exact to2 | with_reducible exact toC _ | exact rfl); omega) | exact z0 | fail) ?_ | refine U1 (by first | (apply st_lit1_l tabOk; (iterate 8 exact rfl)) | (apply st_app_l tabOk; (iterate 22 exact rfl); (first | omega | (simp only [List.length_cons, List.length_nil, List.length_append]; omega))) | exact z1 | fail) ?_ | refine U9 (by first | (apply st_st_bes tabOk; (iterate 8 exact rfl); omega) | exact zs | fail) ?_
            refine round_next ((Q2, L3, j + 1, f * 16 + b + 1)) (⟨dig_shut hv hflt Dk (by rw [hs2']; exact hcar) hblt, hlow2, hmn, hjlt, hi2, hs2'⟩) ((by show (besideF h (f : Int)).length - (j + 1) < (besideF h (f : Int)).length - j; omega)) (Lw (ρ := []))
          · rw [if_neg hcar] at hremb
            have hcar' : s.2.testBit b = false := by simpa using hcar
            obtain ⟨u, hu⟩ : ∃ u : St2, u = (if s.1 = b then f else s.1, s.2 + 2 ^ b - 2 ^ f) := ⟨_, rfl⟩
            have mv : IsMv h.cells.length (nbN h) s b f u := ⟨hblt, hB.sym f hflt b hb.mem, hcar', hbit, hu⟩
            have hwu := mv.wf hB hw
            obtain ⟨hu2, heu⟩ := wf_4096 hn hwu
            have hstep := Dk.step hB hi2 (by rw [hs2']; exact mv) rfl
            obtain ⟨y, hy1, hy2, _, _, _, _⟩ := mv.open hB
            have hu1 : u.1 = if s.1 = b then f else s.1 := by rw [hu]
            obtain ⟨A', hA'⟩ : ∃ A', A' = 2 ^ b := ⟨_, rfl⟩
            have hshA' : ShlOk 1 (b : Int) (A' : Int) := by rw [hA']; exact shl_one (by omega)
            have hA4' : A' ≤ 4096 := by rw [hA']; exact pow_le (by omega)
            rw [← hA] at hy1
            rw [← hA'] at hy2
            have hu1n := hwu.1
            have hsum : ((u.1 : Nat) : Int) * 4096 + ((s.2 : Nat) : Int) - (A : Int) + (A' : Int) = ((encM 4096 u : Nat) : Int) := by unfold encM; omega
            have hlowi := hlow2 i hi2
            have hati := dig_at D2 hi2
            rw [hs2'] at hlowi hati hstep
            have hgq2 : gi (encs 4096 Q2) i = ((encM 4096 s : Nat) : Int) := by rw [gi_encs hi2, hs2']
            obtain ⟨z, hz⟩ : ∃ z, z = gI L3 (encM 4096 s) := ⟨_, rfl⟩
            rw [← hz] at hlowi hati hstep
            have hz' : gi L3 (encM 4096 s) = z := hz.symm
            repeat first | refine Ua ?_ | refine Ub ?_ | refine Uc ?_ | refine Ud ?_ | refine Ue ?_ | refine Ug ⟨by kernel_rfl, ?_⟩ | refine Ug ?_ | refine Uh ?_ | refine Ui ?_ | refine Uj ?_ | refine Uk rfl ?_ | refine Ul rfl ?_ | refine Um ?_ | refine Un ?_ | refine Uo ?_ | refine Up rfl ?_ | refine Uq ?_ | refine Ur ?_ | refine Us ?_ | refine Ut ?_ | refine Uu ?_ | refine Ux ?_ | refine Uv rfl rfl rfl rfl ?_ | refine Uw rfl rfl rfl ?_ | refine U0 (by first | (apply st_ld_ip_lE tabOk; (iterate 4 exact rfl); omega; exact hgl) | (apply st_ld_ipE tabOk; (iterate 4 exact rfl); omega; exact hval) | (apply st_shrE; (iterate 3 exact rfl); exact hshb) | (apply st_remE; (iterate 3 exact rfl); omega; omega; exact hremb) | (apply st_ix_own_l tabOk; (iterate 11 exact rfl); (first | with_reducible exact to0 | with_reducible exact to1 | with_reducible exact to2 | with_reducible exact toC _ | exact rfl); omega) | (apply st_ld_l tabOk; (iterate 7 exact rfl); omega) | (apply st_ix_sl_l tabOk; (iterate 8 exact rfl); (first | with_reducible exact to0 | with_reducible exact to1 | with_reducible exact to2 | with_reducible exact toC _ | exact rfl); omega) | (apply st_ld_ip_l tabOk; (iterate 4 exact rfl); omega) | (apply st_ix_bes tabOk; (iterate 11 exact rfl); (first | with_reducible exact to0 | with_reducible exact to1 | with_reducible exact to2 | with_reducible exact toC _ | exact rfl); omega) | exact z0 | fail) ?_ | refine U1 (by first | (apply st_lit1_l tabOk; (iterate 8 exact rfl)) | (apply st_app_l tabOk; (iterate 22 exact rfl); (first | omega | (simp only [List.length_cons, List.length_nil, List.length_append]; omega))) | exact z1 | fail) ?_ | refine U9 (by first | (apply st_st_bes tabOk; (iterate 8 exact rfl); omega) | exact zs | fail) ?_
            refine ax_meet (mkS [(15, .int ((u.1 : Nat) : Int)), (14, .int (b : Int)), (13, .int (j : Int)), (12, .int (f : Int)), (11, .int ((s.2 : Nat) : Int)), (10, .int ((s.1 : Nat) : Int)), (9, .int (i : Int)), (8, .sl 23 1 (lists 3 (nbTo h h.cells.length))), (5, .own 3 0), (3, .own 2 0), (1, .ptr 1 0 0)] ⟨4, [(1, some (hallRow h)), (2, some (intsRow L3)), (3, some (intsRow (encs 4096 Q2)))]⟩) ?_ ?_
            · refine ax_cond rfl (fun hb6 => ?_) (fun hb6 => ?_)
              · have hbs : s.1 = b := by simp at hb6; omega
                have e1 : ((u.1 : Nat) : Int) = (f : Int) := by rw [hu1, if_pos hbs]
                repeat first | refine Ua ?_ | refine Ub ?_ | refine Uc ?_ | refine Ud ?_ | refine Ue ?_ | refine Ug ⟨by kernel_rfl, ?_⟩ | refine Ug ?_ | refine Uh ?_ | refine Ui ?_ | refine Uj ?_ | refine Uk rfl ?_ | refine Ul rfl ?_ | refine Um ?_ | refine Un ?_ | refine Uo ?_ | refine Up rfl ?_ | refine Uq ?_ | refine Ur ?_ | refine Us ?_ | refine Ut ?_ | refine Uu ?_ | refine Ux ?_ | refine Uv rfl rfl rfl rfl ?_ | refine Uw rfl rfl rfl ?_ | refine U0 z0 ?_ | refine U1 z1 ?_ | refine U9 zs ?_
                refine meet_here (weak_of [] (by repeat first | exact .nil | refine LeEs.cons ?_ ?_ | exact .v (by first | rfl | (first | rw [e1] | exact congrArg _ e1)) | exact .own rfl rfl rfl rfl rfl | exact .ptr rfl rfl rfl rfl rfl rfl | exact .nil rfl rfl rfl | exact .sl (by first | rfl | (first | rw [e1] | exact congrArg _ e1)) | exact .both rfl rfl | exact .frz rfl rfl rfl rfl rfl (by first | rfl | (first | rw [e1] | exact congrArg _ e1)) rfl | exact .tab rfl | exact .any _) (by repeat first | exact .nil | refine LeHs.keep rfl ⟨rfl, rfl, rfl, .inl ⟨rfl, by first | rfl | (first | rw [e1] | exact congrArg _ e1)⟩⟩ ?_ | refine LeHs.keep rfl ⟨rfl, rfl, rfl, .inr ⟨(by first | exact .inl rfl | exact .inr rfl), by repeat first | exact .nil | refine LeVL.cons ?_ ?_ | exact .v (by first | rfl | (first | rw [e1] | exact congrArg _ e1)) | exact .own rfl rfl rfl rfl rfl | exact .sl (by first | rfl | (first | rw [e1] | exact congrArg _ e1)) | exact .both rfl rfl | exact .frz rfl rfl rfl rfl rfl (by first | rfl | (first | rw [e1] | exact congrArg _ e1)) rfl⟩⟩ ?_ | refine LeHs.fresh rfl rfl rfl (Nat.succ_pos _) rfl ?_) rfl rfl)
              · have hbs : ¬ s.1 = b := by simp at hb6; omega
                have e1 : ((u.1 : Nat) : Int) = ((s.1 : Nat) : Int) := by rw [hu1, if_neg hbs]
                repeat first | refine Ua ?_ | refine Ub ?_ | refine Uc ?_ | refine Ud ?_ | refine Ue ?_ | refine Ug ⟨by kernel_rfl, ?_⟩ | refine Ug ?_ | refine Uh ?_ | refine Ui ?_ | refine Uj ?_ | refine Uk rfl ?_ | refine Ul rfl ?_ | refine Um ?_ | refine Un ?_ | refine Uo ?_ | refine Up rfl ?_ | refine Uq ?_ | refine Ur ?_ | refine Us ?_ | refine Ut ?_ | refine Uu ?_ | refine Ux ?_ | refine Uv rfl rfl rfl rfl ?_ | refine Uw rfl rfl rfl ?_ | refine U0 z0 ?_ | refine U1 z1 ?_ | refine U9 zs ?_
                refine meet_here (weak_of [] (by repeat first | exact .nil | refine LeEs.cons ?_ ?_ | exact .v (by first | rfl | (first | rw [e1] | exact congrArg _ e1)) | exact .own rfl rfl rfl rfl rfl | exact .ptr rfl rfl rfl rfl rfl rfl | exact .nil rfl rfl rfl | exact .sl (by first | rfl | (first | rw [e1] | exact congrArg _ e1)) | exact .both rfl rfl | exact .frz rfl rfl rfl rfl rfl (by first | rfl | (first | rw [e1] | exact congrArg _ e1)) rfl | exact .tab rfl | exact .any _) (by repeat first | exact .nil | refine LeHs.keep rfl ⟨rfl, rfl, rfl, .inl ⟨rfl, by first | rfl | (first | rw [e1] | exact congrArg _ e1)⟩⟩ ?_ | refine LeHs.keep rfl ⟨rfl, rfl, rfl, .inr ⟨(by first | exact .inl rfl | exact .inr rfl), by repeat first | exact .nil | refine LeVL.cons ?_ ?_ | exact .v (by first | rfl | (first | rw [e1] | exact congrArg _ e1)) | exact .own rfl rfl rfl rfl rfl | exact .sl (by first | rfl | (first | rw [e1] | exact congrArg _ e1)) | exact .both rfl rfl | exact .frz rfl rfl rfl rfl rfl (by first | rfl | (first | rw [e1] | exact congrArg _ e1)) rfl⟩⟩ ?_ | refine LeHs.fresh rfl rfl rfl (Nat.succ_pos _) rfl ?_) rfl rfl)
            repeat first | refine Ua ?_ | refine Ub ?_ | refine Uc ?_ | refine Ud ?_ | refine Ue ?_ | refine Ug ⟨by kernel_rfl, ?_⟩ | refine Ug ?_ | refine Uh ?_ | refine Ui ?_ | refine Uj ?_ | refine Uk rfl ?_ | refine Ul rfl ?_ | refine Um ?_ | refine Un ?_ | refine Uo ?_ | refine Up rfl ?_ | refine Uq ?_ | refine Ur ?_ | refine Us ?_ | refine Ut ?_ | refine Uu ?_ | refine Ux ?_ | refine Uv rfl rfl rfl rfl ?_ | refine Uw rfl rfl rfl ?_ | refine U0 (by first | (apply st_shlE; (iterate 3 exact rfl); first | exact hshA | exact hshA') | (apply st_add; (iterate 3 exact rfl); exact hsum; omega) | exact z0 | fail) ?_ | refine U1 z1 ?_ | refine U9 zs ?_
            refine ax_cond rfl (fun hb7 => ?_) (fun hb7 => ?_)
            · have hnew : gI L3 (encM 4096 u) < 0 := by show gi L3 (encM 4096 u) < 0; simpa using hb7
              have hlp := low_push hn D2 hi2 hwu hnew hlow2
              rw [hs2', ← hz] at hlp
              have hqs : ints (encs 4096 (Q2 ++ [u])) = ints (encs 4096 Q2 ++ [((encM 4096 u : Nat) : Int)]) := by rw [encs_app]
              repeat first | refine Ua ?_ | refine Ub ?_ | refine Uc ?_ | refine Ud ?_ | refine Ue ?_ | refine Ug ⟨by kernel_rfl, ?_⟩ | refine Ug ?_ | refine Uh ?_ | refine Ui ?_ | refine Uj ?_ | refine Uk rfl ?_ | refine Ul rfl ?_ | refine Um ?_ | refine Un ?_ | refine Uo ?_ | refine Up rfl ?_ | refine Uq ?_ | refine Ur ?_ | refine Us ?_ | refine Ut ?_ | refine Uu ?_ | refine Ux ?_ | refine Uv rfl rfl rfl rfl ?_ | refine Uw rfl rfl rfl ?_ | refine U0 (by first | (apply st_ld_intsE tabOk; (iterate 7 exact rfl); omega; first | exact hgq2 | exact hz') | exact z0 | fail) ?_ | refine U1 z1 ?_ | refine U9 zs ?_
              refine round_next ((Q2 ++ [u], L3.set (encM 4096 u) (z + 1), j + 1, f * 16 + b + 1)) (⟨hstep.1 hnew, hlp, hmn, hjlt, by show i < (Q2 ++ [u]).length; simp; omega, by show qOf (Q2 ++ [u]) i = s; rw [qOf_left hi2]; exact hs2'⟩) ((by show (besideF h (f : Int)).length - (j + 1) < (besideF h (f : Int)).length - j; omega)) (weak_of [] (by repeat first | exact .nil | refine LeEs.cons ?_ ?_ | exact .v (by first | rfl | (first | exact hqs | exact hqs.symm)) | exact .own rfl rfl rfl rfl rfl | exact .ptr rfl rfl rfl rfl rfl rfl | exact .nil rfl rfl rfl | exact .sl (by first | rfl | (first | exact hqs | exact hqs.symm)) | exact .both rfl rfl | exact .frz rfl rfl rfl rfl rfl (by first | rfl | (first | exact hqs | exact hqs.symm)) rfl | exact .tab rfl | exact .any _) (by repeat first | exact .nil | refine LeHs.keep rfl ⟨rfl, rfl, rfl, .inl ⟨rfl, by first | rfl | (first | exact hqs | exact hqs.symm)⟩⟩ ?_ | refine LeHs.keep rfl ⟨rfl, rfl, rfl, .inr ⟨(by first | exact .inl rfl | exact .inr rfl), by repeat first | exact .nil | refine LeVL.cons ?_ ?_ | exact .v (by first | rfl | (first | exact hqs | exact hqs.symm)) | exact .own rfl rfl rfl rfl rfl | exact .sl (by first | rfl | (first | exact hqs | exact hqs.symm)) | exact .both rfl rfl | exact .frz rfl rfl rfl rfl rfl (by first | rfl | (first | exact hqs | exact hqs.symm)) rfl⟩⟩ ?_ | refine LeHs.fresh rfl rfl rfl (Nat.succ_pos _) rfl ?_) rfl rfl)
            · have hold : ¬ gI L3 (encM 4096 u) < 0 := by show ¬ gi L3 (encM 4096 u) < 0; simpa using hb7
              repeat first | refine Ua ?_ | refine Ub ?_ | refine Uc ?_ | refine Ud ?_ | refine Ue ?_ | refine Ug ⟨by kernel_rfl, ?_⟩ | refine Ug ?_ | refine Uh ?_ | refine Ui ?_ | refine Uj ?_ | refine Uk rfl ?_ | refine Ul rfl ?_ | refine Um ?_ | refine Un ?_ | refine Uo ?_ | refine Up rfl ?_ | refine Uq ?_ | refine Ur ?_ | refine Us ?_ | refine Ut ?_ | refine Uu ?_ | refine Ux ?_ | refine Uv rfl rfl rfl rfl ?_ | refine Uw rfl rfl rfl ?_ | refine U0 z0 ?_ | refine U1 z1 ?_ | refine U9 zs ?_
              refine round_next ((Q2, L3, j + 1, f * 16 + b + 1)) (⟨hstep.2 hold, hlow2, hmn, hjlt, hi2, hs2'⟩) ((by show (besideF h (f : Int)).length - (j + 1) < (besideF h (f : Int)).length - j; omega)) (Lw (ρ := []))
        · have hjn : j = (besideF h (f : Int)).length := by simp at hb5; omega
          subst hjn
          repeat first | refine Ua ?_ | refine Ub ?_ | refine Uc ?_ | refine Ud ?_ | refine Ue ?_ | refine Ug ⟨by kernel_rfl, ?_⟩ | refine Ug ?_ | refine Uh ?_ | refine Ui ?_ | refine Uj ?_ | refine Uk rfl ?_ | refine Ul rfl ?_ | refine Um ?_ | refine Un ?_ | refine Uo ?_ | refine Up rfl ?_ | refine Uq ?_ | refine Ur ?_ | refine Us ?_ | refine Ut ?_ | refine Uu ?_ | refine Ux ?_ | refine Uv rfl rfl rfl rfl ?_ | refine Uw rfl rfl rfl ?_ | refine U0 z0 ?_ | refine U1 z1 ?_ | refine U9 zs ?_
          refine round_next ((Q2, L3, f + 1)) (⟨dig_row hv hflt D2 hmid, hlow2, hflt, hi2, hs2'⟩) ((by show h.cells.length - (f + 1) < h.cells.length - f; omega)) (Lw (ρ := []))
      · rw [if_neg hbit] at hremf
        have hbit' : s.2.testBit f = false := by simpa using hbit
        obtain ⟨G, hG⟩ : ∃ G, G = s.2 / 2 ^ f := ⟨_, rfl⟩
        rw [← hG] at hshf hremf hnn
        repeat first | refine Ua ?_ | refine Ub ?_ | refine Uc ?_ | refine Ud ?_ | refine Ue ?_ | refine Ug ⟨by kernel_rfl, ?_⟩ | refine Ug ?_ | refine Uh ?_ | refine Ui ?_ | refine Uj ?_ | refine Uk rfl ?_ | refine Ul rfl ?_ | refine Um ?_ | refine Un ?_ | refine Uo ?_ | refine Up rfl ?_ | refine Uq ?_ | refine Ur ?_ | refine Us ?_ | refine Ut ?_ | refine Uu ?_ | refine Ux ?_ | refine Uv rfl rfl rfl rfl ?_ | refine Uw rfl rfl rfl ?_ | refine U0 z0 ?_ | refine U1 z1 ?_ | refine U9 zs ?_
        refine ax_loop (fun i4 : Unit => mkS [(13, .int ((0 : Nat) : Int)), (12, .int (f : Int)), (11, .int ((s.2 : Nat) : Int)), (10, .int ((s.1 : Nat) : Int)), (9, .int (i : Int)), (8, .sl 23 1 (lists 3 (nbTo h h.cells.length))), (5, .own 3 0), (3, .own 2 0), (1, .ptr 1 0 0)] ⟨4, [(1, some (hallRow h)), (2, some (intsRow L2)), (3, some (intsRow (encs 4096 Q1)))]⟩) (fun i4 => True) (fun i4 => 0) (()) (trivial) (Lw (ρ := [])) ?_
        rintro ⟨⟩ -
        repeat first | refine Ua ?_ | refine Ub ?_ | refine Uc ?_ | refine Ud ?_ | refine Ue ?_ | refine Ug ⟨by kernel_rfl, ?_⟩ | refine Ug ?_ | refine Uh ?_ | refine Ui ?_ | refine Uj ?_ | refine Uk rfl ?_ | refine Ul rfl ?_ | refine Um ?_ | refine Un ?_ | refine Uo ?_ | refine Up rfl ?_ | refine Uq ?_ | refine Ur ?_ | refine Us ?_ | refine Ut ?_ | refine Uu ?_ | refine Ux ?_ | refine Uv rfl rfl rfl rfl ?_ | refine Uw rfl rfl rfl ?_ | refine U0 (by first | (apply st_shrE; (iterate 3 exact rfl); exact hshf) | (apply st_remE; (iterate 3 exact rfl); omega; omega; exact hremf) | exact z0 | fail) ?_ | refine U1 z1 ?_ | refine U9 zs ?_
        refine round_next ((Q1, L2, f + 1)) (⟨dig_car hv D1 (by rw [hs1]; exact hbit'), hlow1, hflt, hi1, hs1⟩) ((by show h.cells.length - (f + 1) < h.cells.length - f; omega)) (Lw (ρ := []))
    · have hfn : f = h.cells.length := by simp at hb4; omega
      subst hfn
      repeat first | refine Ua ?_ | refine Ub ?_ | refine Uc ?_ | refine Ud ?_ | refine Ue ?_ | refine Ug ⟨by kernel_rfl, ?_⟩ | refine Ug ?_ | refine Uh ?_ | refine Ui ?_ | refine Uj ?_ | refine Uk rfl ?_ | refine Ul rfl ?_ | refine Um ?_ | refine Un ?_ | refine Uo ?_ | refine Up rfl ?_ | refine Uq ?_ | refine Ur ?_ | refine Us ?_ | refine Ut ?_ | refine Uu ?_ | refine Ux ?_ | refine Uv rfl rfl rfl rfl ?_ | refine Uw rfl rfl rfl ?_ | refine U0 z0 ?_ | refine U1 z1 ?_ | refine U9 zs ?_
      refine round_next ((Q1, L2, i + 1)) (⟨dig_done hv hi1 D1, hlow1, hi1⟩) ((by have := D1.le hn; show 49152 - (i + 1) < 49152 - i; omega)) (Lw (ρ := []))
  · have hiQ : i = Q.length := by simp at hb3; omega
    have hDist := D.dist hB (by omega)
    repeat first | refine Ua ?_ | refine Ub ?_ | refine Uc ?_ | refine Ud ?_ | refine Ue ?_ | refine Ug ⟨by kernel_rfl, ?_⟩ | refine Ug ?_ | refine Uh ?_ | refine Ui ?_ | refine Uj ?_ | refine Uk rfl ?_ | refine Ul rfl ?_ | refine Um ?_ | refine Un ?_ | refine Uo ?_ | refine Up rfl ?_ | refine Uq ?_ | refine Ur ?_ | refine Us ?_ | refine Ut ?_ | refine Uu ?_ | refine Ux ?_ | refine Uv rfl rfl rfl rfl ?_ | refine Uw rfl rfl rfl ?_ | refine U0 z0 ?_ | refine U1 z1 ?_ | refine U9 zs ?_
    exact ⟨⟨L1, ⟨hl1, hDist⟩, .inl rfl, Rx⟩⟩
end Go.Proofs.YtnfjmcenjpoloaaDoor
