/-
  Proved: FnSlideDo returns true for every argument, and its argument reads afterwards as it read before (the card). No condition.
-/
import Derived.Test.YtjdgbdakkdljmaaDoorRow3
import Derived.Test.YtjdgbdakkdljmaaDoorMain
import Derived.Test.YtjdgbdakkdljmaaDoorW4
set_option linter.unusedVariables false
set_option linter.unusedSimpArgs false
set_option maxRecDepth 100000
namespace Go.Proofs.YtjdgbdakkdljmaaDoor
open Go Go.RowKit Go.Park Go.Sym
open Go.ChangeShapes Go.WideShapes Go.ChangeAt

theorem slid_gi {h : PHall} {a b : Nat} (ha : a < h.cells.length) (hb : b < h.cells.length) (k : Nat) : gi (slidH h a b).cells k = if a = k then 0 else if b = k then gi h.cells a else gi h.cells k := by
  show gi ((h.cells.set b (gi h.cells a)).set a 0) k = _
  rw [gi_upd (by rw [List.length_set]; exact ha), gi_upd hb]
theorem slid_back {h : PHall} {a b : Nat} (ha : a < h.cells.length) (hb : b < h.cells.length) (hab : a ≠ b) (h0 : gi h.cells b = 0) : slidH (slidH h a b) b a = h := by
  have hl := slid_len h a b
  have e : (slidH (slidH h a b) b a).cells = h.cells := by
    refine gi_ext (by simp [slidH]) fun j hj => ?_
    rw [slid_gi (by omega) (by omega), slid_gi ha hb, slid_gi ha hb]
    by_cases e1 : b = j
    · subst e1; rw [if_pos rfl, h0]
    · rw [if_neg e1]
      by_cases e2 : a = j
      · subst e2; rw [if_pos rfl, if_neg hab, if_pos rfl]
      · rw [if_neg e2, if_neg e2, if_neg e1]
  cases h with
  | mk w d c => show (⟨w, d, (slidH (slidH ⟨w, d, c⟩ a b) b a).cells⟩ : PHall) = _; rw [e]
theorem cars_eq {g h : PHall} (hg : validB g = true) (hh : validB h = true) (he : ∀ x, 0 < x → (x ∈ g.cells ↔ x ∈ h.cells)) : carsF g = carsF h := by
  have s1 := upB_iff.1 (up_cars g)
  have s2 := upB_iff.1 (up_cars h)
  have n1 : (carsF g).Nodup := s1.imp (fun h => by omega)
  have n2 : (carsF h).Nodup := s2.imp (fun h => by omega)
  refine perm_sorted ((List.perm_ext_iff_of_nodup n1 n2).2 fun x => ?_) (s1.imp (fun h => by omega)) (s2.imp (fun h => by omega))
  rw [mem_cars, mem_cars]
  simp only [hg, hh, true_and]
  exact ⟨fun ⟨p, q⟩ => ⟨p, (he x p).1 q⟩, fun ⟨p, q⟩ => ⟨p, (he x p).2 q⟩⟩
theorem slid_mem {h : PHall} {a b : Nat} (ha : a < h.cells.length) (hb : b < h.cells.length) (hab : a ≠ b) (h0 : gi h.cells b = 0) {x : Int} (hx : 0 < x) : x ∈ (slidH h a b).cells ↔ x ∈ h.cells := by
  have hl := slid_len h a b
  rw [mem_gi, mem_gi]
  constructor
  · rintro ⟨j, hj, e⟩
    rw [slid_gi ha hb] at e
    split at e
    · omega
    · split at e
      · exact ⟨a, ha, e⟩
      · exact ⟨j, by omega, e⟩
  · rintro ⟨j, hj, e⟩
    by_cases e1 : a = j
    · exact ⟨b, by omega, by rw [slid_gi ha hb, if_neg hab, if_pos rfl, e1]; exact e⟩
    · refine ⟨j, by omega, ?_⟩
      rw [slid_gi ha hb, if_neg e1, if_neg (by rintro rfl; omega)]
      exact e
theorem do_cases (h : PHall) (a b : Int) : (validB h = false ∧ slideDoF h a b = (zeroHall, false)) ∨ (validB h = true ∧ slideDoF h a b = (h, false)) ∨ (validB h = true ∧ slideMayB h a b = true ∧ slideDoF h a b = (slidH h a.toNat b.toNat, true)) := by
  unfold slideDoF
  by_cases hv : validB h = true
  · rw [if_pos hv]
    right
    split
    · rename_i h1; exact .inr ⟨hv, h1, rfl⟩
    · exact .inl ⟨hv, rfl⟩
  · rw [if_neg hv]; exact .inl ⟨by simpa using hv, rfl⟩
theorem do_back {h : PHall} {a b : Int} (hv : validB h = true) (hm : slideMayB h a b = true) : validB (slidH h a.toNat b.toNat) = true ∧ carsF (slidH h a.toNat b.toNat) = carsF h ∧ slideDoF (slidH h a.toNat b.toNat) b a = (h, true) := by
  obtain ⟨h1, h2, h3, h4, h5⟩ := may_cells hm
  have ha := hasCell_iff.1 h1
  have hb := hasCell_iff.1 h2
  have ha' : a.toNat < h.cells.length := by omega
  have hb' : b.toNat < h.cells.length := by omega
  have hab : a.toNat ≠ b.toNat := by intro e; rw [e] at h3; exact h3 h4
  have hvs := valid_slid hv ha' hb' hab h4
  have hl := slid_len h a.toNat b.toNat
  refine ⟨hvs, cars_eq hvs hv fun x hx => slid_mem ha' hb' hab h4 hx, ?_⟩
  have hm2 : slideMayB (slidH h a.toNat b.toNat) b a = true := by
    unfold slideMayB
    rw [hvs, hasCell_iff.2 (by rw [hl]; exact hb), hasCell_iff.2 (by rw [hl]; exact ha), slid_gi ha' hb', slid_gi ha' hb', if_neg hab, if_pos rfl, if_pos rfl]
    have h6 : apartF (slidH h a.toNat b.toNat).wide b a = 1 := by rw [apartF_comm]; exact h5
    simp [h3, h6]
  unfold slideDoF
  rw [if_pos hvs, if_pos hm2, slid_back ha' hb' hab h4]
set_option maxHeartbeats 4000000 in
theorem fnSlideDo_fn (v0 : Value) (bs : List Int) (hB : OkB bs) : FnS Tryd.prog 6 [codeV v0 bs] (.bool true) := by
  obtain ⟨⟨h, a, b⟩, g1, hH⟩ := drawSlideDo_fn v0 bs hB
  dsimp only at g1 hH
  have hlim := lim_eq
  have hl : h.cells.length ≤ lim := by omega
  have hP := slideDo_fn h hl a b
  have hP2 := specSlideDo_fn h hl a b
  have hV := hallValid_fn h hl
  rcases do_cases h a b with ⟨hv, he⟩ | ⟨hv, he⟩ | ⟨hv, hm, he⟩
  · rw [he] at hP hP2
    rw [hv] at hV
    dsimp only at hP hP2
    have hz : zeroHall.cells.length ≤ lim := by simp [zeroHall, hlim]
    have hS := sameHall_fn zeroHall zeroHall hz hz
    rw [sameH_self] at hS
    have hS2 : FnS Tryd.prog 26 [hallV zeroHall, hallV h] (.bool (sameH zeroHall h)) := sameHall_fn zeroHall h hz hl
    cases hq : sameH zeroHall h
    · rw [hq] at hS2
      refine fn_go1 tabOk Tryd.func6 rfl (by kernel_rfl) Tryd.ntmps6 Tryd.results6 (by decide) ?_
      repeat first | refine ax_seq ?_ | refine ax_next ?_ | refine rg_text ?_ | refine rg_any mixed ?_ | refine ax_block ?_ | refine rh_nil ⟨(by kernel_rfl), ?_⟩ | refine rh_nil ?_ | refine ax_ret ?_ | refine ax_skip ?_ | refine ax_exit ?_ | refine ax_true rfl ?_ | refine ax_false rfl ?_ | refine then_ret ?_ | refine then_exit ?_ | refine out_here ?_ | refine out_away rfl ?_ | refine out_normal ?_ | refine out_ret ?_ | refine round_exit ?_ | refine round_ret ?_ | refine meet_ret ?_ | refine meet_exit ?_ | (apply rh_no; iterate 4 exact rfl) | (apply rh_un; iterate 3 exact rfl) | (apply rh0; (case h => exact z0); (case hw => exact wt)) | (apply rh1; (case h => exact z1); (case hw => exact wt)) | (apply rhs; (case h => exact zs); (case hw => exact wt))
      refine ax_cond rfl (fun hb0 => ?_) (fun hb0 => ?_)
      · repeat first | refine ax_seq ?_ | refine ax_next ?_ | refine rg_text ?_ | refine rg_any mixed ?_ | refine ax_block ?_ | refine rh_nil ⟨(by kernel_rfl), ?_⟩ | refine rh_nil ?_ | refine ax_ret ?_ | refine ax_skip ?_ | refine ax_exit ?_ | refine ax_true rfl ?_ | refine ax_false rfl ?_ | refine then_ret ?_ | refine then_exit ?_ | refine out_here ?_ | refine out_away rfl ?_ | refine out_normal ?_ | refine out_ret ?_ | refine round_exit ?_ | refine round_ret ?_ | refine meet_ret ?_ | refine meet_exit ?_ | (apply rh_no; iterate 4 exact rfl) | (apply rh_un; iterate 3 exact rfl) | (apply rh0; (case h => exact z0); (case hw => exact wt)) | (apply rh1; (case h => exact z1); (case hw => exact wt)) | (apply rhs; (case h => exact zs); (case hw => exact wt))
        refine ⟨.inl rfl, _, _, (by repeat first | exact .nil | apply ResL.cons | exact .tmp rfl | exact .agg rfl rfl rfl rfl rfl (Nat.le_of_ble_eq_true rfl) rfl | exact .cell rfl rfl rfl rfl rfl (Nat.le_of_ble_eq_true rfl) rfl), (by first | exact .one (by first | exact .one (.v rfl) | exact .one (.own rfl rfl rfl rfl rfl rfl rfl (by first | exact scal_ints _ | exact scal_slc _)) | exact .one (.nil (by decide) rfl) | exact .agg (.cons (.v rfl) (.cons (.v rfl) (.cons (.own rfl rfl rfl rfl rfl rfl rfl (scal_ints _)) .nil))) | exact .agg (.cons (.v rfl) (.cons (.v rfl) (.cons (.nil (by decide) rfl) .nil))) | exact .agg (.cons (.v rfl) (.cons (.v rfl) .nil))) | exact .two (by repeat first | exact .nil | apply ExpL.cons | exact (by first | exact .one (.v rfl) | exact .one (.own rfl rfl rfl rfl rfl rfl rfl (by first | exact scal_ints _ | exact scal_slc _)) | exact .one (.nil (by decide) rfl) | exact .agg (.cons (.v rfl) (.cons (.v rfl) (.cons (.own rfl rfl rfl rfl rfl rfl rfl (scal_ints _)) .nil))) | exact .agg (.cons (.v rfl) (.cons (.v rfl) (.cons (.nil (by decide) rfl) .nil))) | exact .agg (.cons (.v rfl) (.cons (.v rfl) .nil))))), (by decide)⟩
      repeat first | refine ax_seq ?_ | refine ax_next ?_ | refine rg_text ?_ | refine rg_any mixed ?_ | refine ax_block ?_ | refine rh_nil ⟨(by kernel_rfl), ?_⟩ | refine rh_nil ?_ | refine ax_ret ?_ | refine ax_skip ?_ | refine ax_exit ?_ | refine ax_true rfl ?_ | refine ax_false rfl ?_ | refine then_ret ?_ | refine then_exit ?_ | refine out_here ?_ | refine out_away rfl ?_ | refine out_normal ?_ | refine out_ret ?_ | refine round_exit ?_ | refine round_ret ?_ | refine meet_ret ?_ | refine meet_exit ?_ | refine Af (h := ?_) | refine At (h := ?_) | (apply rh_no; iterate 4 exact rfl) | (apply rh_un; iterate 3 exact rfl) | (apply rh0; (case h => first | (apply st_call (hfn := hS ); exact rfl; exact fz) | (apply st_call (hfn := hS2 ); exact rfl; exact fz) | (apply st_call (hfn := hV ); exact rfl; exact fz) | (apply st_call (hfn := alive_fn ); exact rfl; exact fz) | exact z0); (case hw => exact wt)) | (apply rh1; (case h => first | (apply st_call_ha (hfn := hH ); exact rfl; exact fz; iterate 2 exact rfl) | (apply st_call_hv (hfn := hP ); exact rfl; exact fz; iterate 2 exact rfl) | (apply st_call_hv (hfn := hP2 ); exact rfl; exact fz; iterate 2 exact rfl) | exact z1); (case hw => exact wt)) | (apply rhs; (case h => exact zs); (case hw => exact wt)) | refine Kf (h := ?_) | refine Kt (h := ?_)
      refine ⟨.inl rfl, _, _, (by repeat first | exact .nil | apply ResL.cons | exact .tmp rfl | exact .agg rfl rfl rfl rfl rfl (Nat.le_of_ble_eq_true rfl) rfl | exact .cell rfl rfl rfl rfl rfl (Nat.le_of_ble_eq_true rfl) rfl), (by first | exact .one (by first | exact .one (.v rfl) | exact .one (.own rfl rfl rfl rfl rfl rfl rfl (by first | exact scal_ints _ | exact scal_slc _)) | exact .one (.nil (by decide) rfl) | exact .agg (.cons (.v rfl) (.cons (.v rfl) (.cons (.own rfl rfl rfl rfl rfl rfl rfl (scal_ints _)) .nil))) | exact .agg (.cons (.v rfl) (.cons (.v rfl) (.cons (.nil (by decide) rfl) .nil))) | exact .agg (.cons (.v rfl) (.cons (.v rfl) .nil))) | exact .two (by repeat first | exact .nil | apply ExpL.cons | exact (by first | exact .one (.v rfl) | exact .one (.own rfl rfl rfl rfl rfl rfl rfl (by first | exact scal_ints _ | exact scal_slc _)) | exact .one (.nil (by decide) rfl) | exact .agg (.cons (.v rfl) (.cons (.v rfl) (.cons (.own rfl rfl rfl rfl rfl rfl rfl (scal_ints _)) .nil))) | exact .agg (.cons (.v rfl) (.cons (.v rfl) (.cons (.nil (by decide) rfl) .nil))) | exact .agg (.cons (.v rfl) (.cons (.v rfl) .nil))))), (by decide)⟩
    · rw [hq] at hS2
      refine fn_go1 tabOk Tryd.func6 rfl (by kernel_rfl) Tryd.ntmps6 Tryd.results6 (by decide) ?_
      repeat first | refine ax_seq ?_ | refine ax_next ?_ | refine rg_text ?_ | refine rg_any mixed ?_ | refine ax_block ?_ | refine rh_nil ⟨(by kernel_rfl), ?_⟩ | refine rh_nil ?_ | refine ax_ret ?_ | refine ax_skip ?_ | refine ax_exit ?_ | refine ax_true rfl ?_ | refine ax_false rfl ?_ | refine then_ret ?_ | refine then_exit ?_ | refine out_here ?_ | refine out_away rfl ?_ | refine out_normal ?_ | refine out_ret ?_ | refine round_exit ?_ | refine round_ret ?_ | refine meet_ret ?_ | refine meet_exit ?_ | (apply rh_no; iterate 4 exact rfl) | (apply rh_un; iterate 3 exact rfl) | (apply rh0; (case h => exact z0); (case hw => exact wt)) | (apply rh1; (case h => exact z1); (case hw => exact wt)) | (apply rhs; (case h => exact zs); (case hw => exact wt))
      refine ax_cond rfl (fun hb0 => ?_) (fun hb0 => ?_)
      · repeat first | refine ax_seq ?_ | refine ax_next ?_ | refine rg_text ?_ | refine rg_any mixed ?_ | refine ax_block ?_ | refine rh_nil ⟨(by kernel_rfl), ?_⟩ | refine rh_nil ?_ | refine ax_ret ?_ | refine ax_skip ?_ | refine ax_exit ?_ | refine ax_true rfl ?_ | refine ax_false rfl ?_ | refine then_ret ?_ | refine then_exit ?_ | refine out_here ?_ | refine out_away rfl ?_ | refine out_normal ?_ | refine out_ret ?_ | refine round_exit ?_ | refine round_ret ?_ | refine meet_ret ?_ | refine meet_exit ?_ | (apply rh_no; iterate 4 exact rfl) | (apply rh_un; iterate 3 exact rfl) | (apply rh0; (case h => exact z0); (case hw => exact wt)) | (apply rh1; (case h => exact z1); (case hw => exact wt)) | (apply rhs; (case h => exact zs); (case hw => exact wt))
        refine ⟨.inl rfl, _, _, (by repeat first | exact .nil | apply ResL.cons | exact .tmp rfl | exact .agg rfl rfl rfl rfl rfl (Nat.le_of_ble_eq_true rfl) rfl | exact .cell rfl rfl rfl rfl rfl (Nat.le_of_ble_eq_true rfl) rfl), (by first | exact .one (by first | exact .one (.v rfl) | exact .one (.own rfl rfl rfl rfl rfl rfl rfl (by first | exact scal_ints _ | exact scal_slc _)) | exact .one (.nil (by decide) rfl) | exact .agg (.cons (.v rfl) (.cons (.v rfl) (.cons (.own rfl rfl rfl rfl rfl rfl rfl (scal_ints _)) .nil))) | exact .agg (.cons (.v rfl) (.cons (.v rfl) (.cons (.nil (by decide) rfl) .nil))) | exact .agg (.cons (.v rfl) (.cons (.v rfl) .nil))) | exact .two (by repeat first | exact .nil | apply ExpL.cons | exact (by first | exact .one (.v rfl) | exact .one (.own rfl rfl rfl rfl rfl rfl rfl (by first | exact scal_ints _ | exact scal_slc _)) | exact .one (.nil (by decide) rfl) | exact .agg (.cons (.v rfl) (.cons (.v rfl) (.cons (.own rfl rfl rfl rfl rfl rfl rfl (scal_ints _)) .nil))) | exact .agg (.cons (.v rfl) (.cons (.v rfl) (.cons (.nil (by decide) rfl) .nil))) | exact .agg (.cons (.v rfl) (.cons (.v rfl) .nil))))), (by decide)⟩
      repeat first | refine ax_seq ?_ | refine ax_next ?_ | refine rg_text ?_ | refine rg_any mixed ?_ | refine ax_block ?_ | refine rh_nil ⟨(by kernel_rfl), ?_⟩ | refine rh_nil ?_ | refine ax_ret ?_ | refine ax_skip ?_ | refine ax_exit ?_ | refine ax_true rfl ?_ | refine ax_false rfl ?_ | refine then_ret ?_ | refine then_exit ?_ | refine out_here ?_ | refine out_away rfl ?_ | refine out_normal ?_ | refine out_ret ?_ | refine round_exit ?_ | refine round_ret ?_ | refine meet_ret ?_ | refine meet_exit ?_ | refine Af (h := ?_) | refine At (h := ?_) | (apply rh_no; iterate 4 exact rfl) | (apply rh_un; iterate 3 exact rfl) | (apply rh0; (case h => first | (apply st_call (hfn := hS ); exact rfl; exact fz) | (apply st_call (hfn := hS2 ); exact rfl; exact fz) | (apply st_call (hfn := hV ); exact rfl; exact fz) | (apply st_call (hfn := alive_fn ); exact rfl; exact fz) | exact z0); (case hw => exact wt)) | (apply rh1; (case h => first | (apply st_call_ha (hfn := hH ); exact rfl; exact fz; iterate 2 exact rfl) | (apply st_call_hv (hfn := hP ); exact rfl; exact fz; iterate 2 exact rfl) | (apply st_call_hv (hfn := hP2 ); exact rfl; exact fz; iterate 2 exact rfl) | exact z1); (case hw => exact wt)) | (apply rhs; (case h => exact zs); (case hw => exact wt)) | refine Kf (h := ?_) | refine Kt (h := ?_)
      refine ⟨.inl rfl, _, _, (by repeat first | exact .nil | apply ResL.cons | exact .tmp rfl | exact .agg rfl rfl rfl rfl rfl (Nat.le_of_ble_eq_true rfl) rfl | exact .cell rfl rfl rfl rfl rfl (Nat.le_of_ble_eq_true rfl) rfl), (by first | exact .one (by first | exact .one (.v rfl) | exact .one (.own rfl rfl rfl rfl rfl rfl rfl (by first | exact scal_ints _ | exact scal_slc _)) | exact .one (.nil (by decide) rfl) | exact .agg (.cons (.v rfl) (.cons (.v rfl) (.cons (.own rfl rfl rfl rfl rfl rfl rfl (scal_ints _)) .nil))) | exact .agg (.cons (.v rfl) (.cons (.v rfl) (.cons (.nil (by decide) rfl) .nil))) | exact .agg (.cons (.v rfl) (.cons (.v rfl) .nil))) | exact .two (by repeat first | exact .nil | apply ExpL.cons | exact (by first | exact .one (.v rfl) | exact .one (.own rfl rfl rfl rfl rfl rfl rfl (by first | exact scal_ints _ | exact scal_slc _)) | exact .one (.nil (by decide) rfl) | exact .agg (.cons (.v rfl) (.cons (.v rfl) (.cons (.own rfl rfl rfl rfl rfl rfl rfl (scal_ints _)) .nil))) | exact .agg (.cons (.v rfl) (.cons (.v rfl) (.cons (.nil (by decide) rfl) .nil))) | exact .agg (.cons (.v rfl) (.cons (.v rfl) .nil))))), (by decide)⟩
  · rw [he] at hP hP2
    dsimp only at hP hP2
    have hS := sameHall_fn h h hl hl
    rw [sameH_self] at hS
    refine fn_go1 tabOk Tryd.func6 rfl (by kernel_rfl) Tryd.ntmps6 Tryd.results6 (by decide) ?_
    repeat first | refine ax_seq ?_ | refine ax_next ?_ | refine rg_text ?_ | refine rg_any mixed ?_ | refine ax_block ?_ | refine rh_nil ⟨(by kernel_rfl), ?_⟩ | refine rh_nil ?_ | refine ax_ret ?_ | refine ax_skip ?_ | refine ax_exit ?_ | refine ax_true rfl ?_ | refine ax_false rfl ?_ | refine then_ret ?_ | refine then_exit ?_ | refine out_here ?_ | refine out_away rfl ?_ | refine out_normal ?_ | refine out_ret ?_ | refine round_exit ?_ | refine round_ret ?_ | refine meet_ret ?_ | refine meet_exit ?_ | (apply rh_no; iterate 4 exact rfl) | (apply rh_un; iterate 3 exact rfl) | (apply rh0; (case h => exact z0); (case hw => exact wt)) | (apply rh1; (case h => exact z1); (case hw => exact wt)) | (apply rhs; (case h => exact zs); (case hw => exact wt))
    refine ax_cond rfl (fun hb0 => ?_) (fun hb0 => ?_)
    · repeat first | refine ax_seq ?_ | refine ax_next ?_ | refine rg_text ?_ | refine rg_any mixed ?_ | refine ax_block ?_ | refine rh_nil ⟨(by kernel_rfl), ?_⟩ | refine rh_nil ?_ | refine ax_ret ?_ | refine ax_skip ?_ | refine ax_exit ?_ | refine ax_true rfl ?_ | refine ax_false rfl ?_ | refine then_ret ?_ | refine then_exit ?_ | refine out_here ?_ | refine out_away rfl ?_ | refine out_normal ?_ | refine out_ret ?_ | refine round_exit ?_ | refine round_ret ?_ | refine meet_ret ?_ | refine meet_exit ?_ | (apply rh_no; iterate 4 exact rfl) | (apply rh_un; iterate 3 exact rfl) | (apply rh0; (case h => exact z0); (case hw => exact wt)) | (apply rh1; (case h => exact z1); (case hw => exact wt)) | (apply rhs; (case h => exact zs); (case hw => exact wt))
      refine ⟨.inl rfl, _, _, (by repeat first | exact .nil | apply ResL.cons | exact .tmp rfl | exact .agg rfl rfl rfl rfl rfl (Nat.le_of_ble_eq_true rfl) rfl | exact .cell rfl rfl rfl rfl rfl (Nat.le_of_ble_eq_true rfl) rfl), (by first | exact .one (by first | exact .one (.v rfl) | exact .one (.own rfl rfl rfl rfl rfl rfl rfl (by first | exact scal_ints _ | exact scal_slc _)) | exact .one (.nil (by decide) rfl) | exact .agg (.cons (.v rfl) (.cons (.v rfl) (.cons (.own rfl rfl rfl rfl rfl rfl rfl (scal_ints _)) .nil))) | exact .agg (.cons (.v rfl) (.cons (.v rfl) (.cons (.nil (by decide) rfl) .nil))) | exact .agg (.cons (.v rfl) (.cons (.v rfl) .nil))) | exact .two (by repeat first | exact .nil | apply ExpL.cons | exact (by first | exact .one (.v rfl) | exact .one (.own rfl rfl rfl rfl rfl rfl rfl (by first | exact scal_ints _ | exact scal_slc _)) | exact .one (.nil (by decide) rfl) | exact .agg (.cons (.v rfl) (.cons (.v rfl) (.cons (.own rfl rfl rfl rfl rfl rfl rfl (scal_ints _)) .nil))) | exact .agg (.cons (.v rfl) (.cons (.v rfl) (.cons (.nil (by decide) rfl) .nil))) | exact .agg (.cons (.v rfl) (.cons (.v rfl) .nil))))), (by decide)⟩
    repeat first | refine ax_seq ?_ | refine ax_next ?_ | refine rg_text ?_ | refine rg_any mixed ?_ | refine ax_block ?_ | refine rh_nil ⟨(by kernel_rfl), ?_⟩ | refine rh_nil ?_ | refine ax_ret ?_ | refine ax_skip ?_ | refine ax_exit ?_ | refine ax_true rfl ?_ | refine ax_false rfl ?_ | refine then_ret ?_ | refine then_exit ?_ | refine out_here ?_ | refine out_away rfl ?_ | refine out_normal ?_ | refine out_ret ?_ | refine round_exit ?_ | refine round_ret ?_ | refine meet_ret ?_ | refine meet_exit ?_ | refine Af (h := ?_) | refine At (h := ?_) | (apply rh_no; iterate 4 exact rfl) | (apply rh_un; iterate 3 exact rfl) | (apply rh0; (case h => first | (apply st_call (hfn := hS ); exact rfl; exact fz) | (apply st_call (hfn := alive_fn ); exact rfl; exact fz) | exact z0); (case hw => exact wt)) | (apply rh1; (case h => first | (apply st_call_ha (hfn := hH ); exact rfl; exact fz; iterate 2 exact rfl) | (apply st_call_hv (hfn := hP ); exact rfl; exact fz; iterate 2 exact rfl) | (apply st_call_hv (hfn := hP2 ); exact rfl; exact fz; iterate 2 exact rfl) | exact z1); (case hw => exact wt)) | (apply rhs; (case h => exact zs); (case hw => exact wt)) | refine Kf (h := ?_) | refine Kt (h := ?_)
    refine ⟨.inl rfl, _, _, (by repeat first | exact .nil | apply ResL.cons | exact .tmp rfl | exact .agg rfl rfl rfl rfl rfl (Nat.le_of_ble_eq_true rfl) rfl | exact .cell rfl rfl rfl rfl rfl (Nat.le_of_ble_eq_true rfl) rfl), (by first | exact .one (by first | exact .one (.v rfl) | exact .one (.own rfl rfl rfl rfl rfl rfl rfl (by first | exact scal_ints _ | exact scal_slc _)) | exact .one (.nil (by decide) rfl) | exact .agg (.cons (.v rfl) (.cons (.v rfl) (.cons (.own rfl rfl rfl rfl rfl rfl rfl (scal_ints _)) .nil))) | exact .agg (.cons (.v rfl) (.cons (.v rfl) (.cons (.nil (by decide) rfl) .nil))) | exact .agg (.cons (.v rfl) (.cons (.v rfl) .nil))) | exact .two (by repeat first | exact .nil | apply ExpL.cons | exact (by first | exact .one (.v rfl) | exact .one (.own rfl rfl rfl rfl rfl rfl rfl (by first | exact scal_ints _ | exact scal_slc _)) | exact .one (.nil (by decide) rfl) | exact .agg (.cons (.v rfl) (.cons (.v rfl) (.cons (.own rfl rfl rfl rfl rfl rfl rfl (scal_ints _)) .nil))) | exact .agg (.cons (.v rfl) (.cons (.v rfl) (.cons (.nil (by decide) rfl) .nil))) | exact .agg (.cons (.v rfl) (.cons (.v rfl) .nil))))), (by decide)⟩
  · rw [he] at hP hP2
    dsimp only at hP hP2
    obtain ⟨h4, h5, h6⟩ := do_back hv hm
    have hlp : (slidH h a.toNat b.toNat).cells.length ≤ lim := by rw [slid_len]; exact hl
    have hcl := carsF_len h
    have hS := sameHall_fn (slidH h a.toNat b.toNat) (slidH h a.toNat b.toNat) hlp hlp
    rw [sameH_self] at hS
    have hS2 := sameHall_fn h h hl hl
    rw [sameH_self] at hS2
    have hT := slideDo_fn (slidH h a.toNat b.toNat) hlp b a
    rw [h6] at hT
    dsimp only at hT
    have hV2 := hallValid_fn (slidH h a.toNat b.toNat) hlp
    rw [h4] at hV2
    have hC := hallCars_fn (slidH h a.toNat b.toNat) hlp
    rw [h5] at hC
    have hI := sameInts_fn (carsF h) (carsF h) (by omega) (by omega)
    rw [decide_eq_true rfl] at hI
    refine fn_go1 tabOk Tryd.func6 rfl (by kernel_rfl) Tryd.ntmps6 Tryd.results6 (by decide) ?_
    repeat first | refine ax_seq ?_ | refine ax_next ?_ | refine rg_text ?_ | refine rg_any mixed ?_ | refine ax_block ?_ | refine rh_nil ⟨(by kernel_rfl), ?_⟩ | refine rh_nil ?_ | refine ax_ret ?_ | refine ax_skip ?_ | refine ax_exit ?_ | refine ax_true rfl ?_ | refine ax_false rfl ?_ | refine then_ret ?_ | refine then_exit ?_ | refine out_here ?_ | refine out_away rfl ?_ | refine out_normal ?_ | refine out_ret ?_ | refine round_exit ?_ | refine round_ret ?_ | refine meet_ret ?_ | refine meet_exit ?_ | (apply rh_no; iterate 4 exact rfl) | (apply rh_un; iterate 3 exact rfl) | (apply rh0; (case h => exact z0); (case hw => exact wt)) | (apply rh1; (case h => exact z1); (case hw => exact wt)) | (apply rhs; (case h => exact zs); (case hw => exact wt))
    refine ax_cond rfl (fun hb0 => ?_) (fun hb0 => ?_)
    · repeat first | refine ax_seq ?_ | refine ax_next ?_ | refine rg_text ?_ | refine rg_any mixed ?_ | refine ax_block ?_ | refine rh_nil ⟨(by kernel_rfl), ?_⟩ | refine rh_nil ?_ | refine ax_ret ?_ | refine ax_skip ?_ | refine ax_exit ?_ | refine ax_true rfl ?_ | refine ax_false rfl ?_ | refine then_ret ?_ | refine then_exit ?_ | refine out_here ?_ | refine out_away rfl ?_ | refine out_normal ?_ | refine out_ret ?_ | refine round_exit ?_ | refine round_ret ?_ | refine meet_ret ?_ | refine meet_exit ?_ | (apply rh_no; iterate 4 exact rfl) | (apply rh_un; iterate 3 exact rfl) | (apply rh0; (case h => exact z0); (case hw => exact wt)) | (apply rh1; (case h => exact z1); (case hw => exact wt)) | (apply rhs; (case h => exact zs); (case hw => exact wt))
      refine ⟨.inl rfl, _, _, (by repeat first | exact .nil | apply ResL.cons | exact .tmp rfl | exact .agg rfl rfl rfl rfl rfl (Nat.le_of_ble_eq_true rfl) rfl | exact .cell rfl rfl rfl rfl rfl (Nat.le_of_ble_eq_true rfl) rfl), (by first | exact .one (by first | exact .one (.v rfl) | exact .one (.own rfl rfl rfl rfl rfl rfl rfl (by first | exact scal_ints _ | exact scal_slc _)) | exact .one (.nil (by decide) rfl) | exact .agg (.cons (.v rfl) (.cons (.v rfl) (.cons (.own rfl rfl rfl rfl rfl rfl rfl (scal_ints _)) .nil))) | exact .agg (.cons (.v rfl) (.cons (.v rfl) (.cons (.nil (by decide) rfl) .nil))) | exact .agg (.cons (.v rfl) (.cons (.v rfl) .nil))) | exact .two (by repeat first | exact .nil | apply ExpL.cons | exact (by first | exact .one (.v rfl) | exact .one (.own rfl rfl rfl rfl rfl rfl rfl (by first | exact scal_ints _ | exact scal_slc _)) | exact .one (.nil (by decide) rfl) | exact .agg (.cons (.v rfl) (.cons (.v rfl) (.cons (.own rfl rfl rfl rfl rfl rfl rfl (scal_ints _)) .nil))) | exact .agg (.cons (.v rfl) (.cons (.v rfl) (.cons (.nil (by decide) rfl) .nil))) | exact .agg (.cons (.v rfl) (.cons (.v rfl) .nil))))), (by decide)⟩
    repeat first | refine ax_seq ?_ | refine ax_next ?_ | refine rg_text ?_ | refine rg_any mixed ?_ | refine ax_block ?_ | refine rh_nil ⟨(by kernel_rfl), ?_⟩ | refine rh_nil ?_ | refine ax_ret ?_ | refine ax_skip ?_ | refine ax_exit ?_ | refine ax_true rfl ?_ | refine ax_false rfl ?_ | refine then_ret ?_ | refine then_exit ?_ | refine out_here ?_ | refine out_away rfl ?_ | refine out_normal ?_ | refine out_ret ?_ | refine round_exit ?_ | refine round_ret ?_ | refine meet_ret ?_ | refine meet_exit ?_ | refine Af (h := ?_) | refine At (h := ?_) | (apply rh_no; iterate 4 exact rfl) | (apply rh_un; iterate 3 exact rfl) | (apply rh0; (case h => first | (apply st_call (hfn := hS ); exact rfl; exact fz) | (apply st_call (hfn := hV2 ); exact rfl; exact fz) | (apply st_call (hfn := hS2 ); exact rfl; exact fz) | (apply st_call (hfn := hI ); exact rfl; exact fz) | exact z0); (case hw => exact wt)) | (apply rh1; (case h => first | (apply st_call_ha (hfn := hH ); exact rfl; exact fz; iterate 2 exact rfl) | (apply st_call_hv (hfn := hP ); exact rfl; exact fz; iterate 2 exact rfl) | (apply st_call_hv (hfn := hP2 ); exact rfl; exact fz; iterate 2 exact rfl) | (apply st_call_hv (hfn := hT ); exact rfl; exact fz; iterate 2 exact rfl) | (apply st_call_s (hfn := hC ); exact rfl; exact fz; iterate 2 exact rfl) | (apply st_call_s (hfn := hallCars_fn h hl ); exact rfl; exact fz; iterate 2 exact rfl) | exact z1); (case hw => exact wt)) | (apply rhs; (case h => exact zs); (case hw => exact wt)) | refine Kf (h := ?_) | refine Kt (h := ?_)
    refine ⟨.inl rfl, _, _, (by repeat first | exact .nil | apply ResL.cons | exact .tmp rfl | exact .agg rfl rfl rfl rfl rfl (Nat.le_of_ble_eq_true rfl) rfl | exact .cell rfl rfl rfl rfl rfl (Nat.le_of_ble_eq_true rfl) rfl), (by first | exact .one (by first | exact .one (.v rfl) | exact .one (.own rfl rfl rfl rfl rfl rfl rfl (by first | exact scal_ints _ | exact scal_slc _)) | exact .one (.nil (by decide) rfl) | exact .agg (.cons (.v rfl) (.cons (.v rfl) (.cons (.own rfl rfl rfl rfl rfl rfl rfl (scal_ints _)) .nil))) | exact .agg (.cons (.v rfl) (.cons (.v rfl) (.cons (.nil (by decide) rfl) .nil))) | exact .agg (.cons (.v rfl) (.cons (.v rfl) .nil))) | exact .two (by repeat first | exact .nil | apply ExpL.cons | exact (by first | exact .one (.v rfl) | exact .one (.own rfl rfl rfl rfl rfl rfl rfl (by first | exact scal_ints _ | exact scal_slc _)) | exact .one (.nil (by decide) rfl) | exact .agg (.cons (.v rfl) (.cons (.v rfl) (.cons (.own rfl rfl rfl rfl rfl rfl rfl (scal_ints _)) .nil))) | exact .agg (.cons (.v rfl) (.cons (.v rfl) (.cons (.nil (by decide) rfl) .nil))) | exact .agg (.cons (.v rfl) (.cons (.v rfl) .nil))))), (by decide)⟩

theorem fnSlideDo_walk (w : World) (v0 : Value) (b0 : List Int) (q0 : RawBytes w v0 b0) : Calls Tryd.prog 6 #[v0] w (Gives (.bool true) w) := by
  refine ((fnSlideDo_fn v0 b0 q0.choose_spec.choose_spec.2.2.2.2).2 w [v0] (by simp only [pureL, pureV]; exact ⟨pure_byts b0, trivial⟩) (by simp only [relL]; exact ⟨_, _, rfl, rel_of_rawBytes q0, rfl⟩)).mono fun e w' hh => gives_v_of hh

set_option maxRecDepth 100000 in
theorem fnSlideDo_lifted (os : Os) (started : os.Started) (H : Type) (enc : TypeId × Value → H) :
    ReturnsInHanded {} Tryd.checked os 6 .any (fun w args => (Rows.fnSlideDoSpec.pre enc Tryd.prog Tryd.f6 Rows.fnSlideDoRow.domain false w args ∧ laidMetH Tryd.prog laidL w) ∧ sizedMet enc Tryd.prog Tryd.f6 (OpenSpec.ofChange Rows.fnSlideDoSpec) false w args)
      (Rows.fnSlideDoSpec.post enc Tryd.prog Tryd.f6 false true false false) := by
  refine returnsInHanded_of_change_and (C := Tryd.checked) (X := fun w _ => laidMetH Tryd.prog laidL w) (fun _ _ _ hh h => h.of_heap hh) Tryd.own started (by kernel_rfl) Tryd.func6
    (ChangeSpec.witness_shaped (enc := enc) (C := Tryd.checked) (os := os) (X := fun w _ => laidMetH Tryd.prog laidL w) false (World.doorLaid Tryd.prog 400 os) #[.slice none 0 0] 8 rfl (World.shaped_of_RefB (by kernel_rfl) (by kernel_rfl)) (by kernel_rfl) (by kernel_rfl) (by kernel_rfl) (door_met os _)) ?_
  intro W base args ds gs before hval0 hW _ _ _ _
  have hval : ∀ (j : Nat) t v, Tryd.f6.params[j]? = some t → args[j]? = some v → Value.okWide Tryd.prog W .any base t v := hval0
  have hW' := hW
  obtain ⟨p, q, hA0, hV, rfl, hfz, hnd⟩ := hW
  have hA : DataW.TrodAll enc Tryd.prog W 0 (fun _ => true) true Tryd.f6.params.toList args.toList ds p := hA0
  rw [Tryd.params6] at hA hval
  obtain ⟨v0, vs0, d0, ds0, p0, q0, hargs, rfl, rfl, h0, r0⟩ := trodAll_cons hA
  obtain ⟨rfl, rfl, rfl⟩ := trodAll_nil r0
  obtain rfl : args = #[v0] := by cases args; simp_all
  obtain ⟨rfl, rfl⟩ := trodVars_none hV
  have lt0 := lt_of_trod h0
  obtain ⟨b0, w0⟩ := open_raw_bytes_arg (fun _ => rfl) (hval 0 22 v0 rfl rfl) h0
  clear hA0 hval0
  refine (fnSlideDo_walk W v0 b0 w0).mono fun e W' ⟨he, bel⟩ => ?_
  subst he
  exact ⟨_, rfl, _, _, _, [], _, [], hW', trodAll_mk1 (shut_bool Tryd.underlying4 _), (trodAll_cons_mk (Below.trod Tryd.laidOut (by kernel_rfl) (of_decide_eq_true (by kernel_rfl)) h0 bel lt0) trodAll_mk0), rfl, bel.frame _, fun h => by cases h⟩

theorem fnSlideDo_over : Rows.fnSlideDoRow.holds Tryd.pinned (OpenSpec.ofChange Rows.fnSlideDoSpec) :=
  OpenClaim.holds_of_wide 6 Tryd.f6 rfl rfl rfl rfl rfl rfl rfl ⟨rfl, rfl, rfl, rfl, rfl⟩ rfl rfl rfl rfl rfl (by kernel_rfl) Tryd.func6 (by kernel_rfl)
    (of_decide_eq_true (by kernel_rfl)) (by unfold Func.isWrapper; rw [if_neg (of_decide_eq_false (by kernel_rfl))]; exact ⟨rfl, rfl⟩)
    (fun os started H enc _ => fnSlideDo_lifted os started H enc)

theorem fnSlideDo_holds : Rows.FnSlideDoCardSaid :=
  Claim7.holds_tied_plain_at .later [] [.data, .data, .data] true mainIsB false
    fnSlideDo_over (fun _ h => by cases h) (by kernel_rfl) (fun _ h => by cases h) fnSlideDo_row_tie rfl ⟨rfl, rfl⟩ mainFact rfl
    (fun f fn hf hfn => by
      obtain rfl : f = 6 := Option.some.inj ((show Tryd.prog.funcNamed "loop.example/parkinghouse/laws.FnSlideDo" = some 6 by kernel_rfl).symm.trans hf) |>.symm
      obtain rfl : fn = Tryd.f6 := (Option.some.inj (Tryd.func6.symm.trans hfn)).symm
      exact ⟨noLooks, fun j t ht => by
        rw [Tryd.params6] at ht
        have hm : t ∈ [22] := by simpa using Array.mem_of_getElem? ht
        have hall : ([22].all fun u => !Tryd.prog.wantsStandIn u) = true := by kernel_rfl
        exact (show Tryd.prog.wantsStandIn t = false by simpa using List.all_eq_true.1 hall t hm)⟩)
    (by kernel_rfl)

#print axioms fnSlideDo_holds

end Go.Proofs.YtjdgbdakkdljmaaDoor
