/-
  Proved: FnHallEmpty returns true for every argument, and its argument reads afterwards as it read before (the card). No condition.
-/
import Derived.Test.YtmkdafgcggpahaaDoorRow3
import Derived.Test.YtmkdafgcggpahaaDoorMain
import Derived.Test.YtmkdafgcggpahaaDoorW4
set_option linter.unusedVariables false
set_option linter.unusedSimpArgs false
set_option maxRecDepth 100000
namespace Go.Proofs.YtmkdafgcggpahaaDoor
open Go Go.RowKit Go.Park Go.Sym
open Go.ChangeShapes Go.WideShapes Go.ChangeAt

theorem empty_cases (x y : Int) : hallEmptyF x y = ⟨0, 0, []⟩ ∨ ((2 ≤ x ∧ x ≤ 4) ∧ (2 ≤ y ∧ y ≤ 3) ∧ hallEmptyF x y = ⟨x, y, List.replicate (x * y).toNat 0⟩) := by
  unfold hallEmptyF
  split
  · rename_i h
    simp only [inR_true] at h
    exact .inr ⟨h.1, h.2, rfl⟩
  · exact .inl rfl
theorem prod_le {x y : Int} (hx : 2 ≤ x ∧ x ≤ 4) (hy : 2 ≤ y ∧ y ≤ 3) : 4 ≤ x * y ∧ x * y ≤ 12 :=
  ⟨by have := Int.mul_le_mul hx.1 hy.1 (by omega) (by omega); omega, by have := Int.mul_le_mul hx.2 hy.2 (by omega) (by omega); omega⟩
theorem empty_len (x y : Int) : (hallEmptyF x y).cells.length ≤ 12 := by
  rcases empty_cases x y with h | ⟨h1, h2, h⟩
  · rw [h]; simp
  · rw [h]; have := prod_le h1 h2; simp; omega
theorem gi_rep (n k : Nat) : gi (List.replicate n 0) k = 0 := by
  simp [gi, List.getD, List.getElem?_replicate]
  split <;> rfl
theorem empty_valid {x y : Int} (hx : 2 ≤ x ∧ x ≤ 4) (hy : 2 ≤ y ∧ y ≤ 3) : validB ⟨x, y, List.replicate (x * y).toNat 0⟩ = true := by
  have := prod_le hx hy
  refine valid_iff.2 ⟨⟨hx, hy, by show ((List.replicate (x * y).toNat (0 : Int)).length : Int) = x * y; rw [List.length_replicate]; omega⟩, fun k hk => ?_, fun i j hi hj hp e => ?_⟩
  · show 0 ≤ gi (List.replicate (x * y).toNat 0) k ∧ gi (List.replicate (x * y).toNat 0) k ≤ 99
    rw [gi_rep]; omega
  · exfalso
    have : 0 < gi (List.replicate (x * y).toNat 0) i := hp
    rw [gi_rep] at this; omega
theorem empty_cars {x y : Int} : carsF ⟨x, y, List.replicate (x * y).toNat 0⟩ = [] := by
  refine List.eq_nil_iff_forall_not_mem.2 fun z hz => ?_
  have h := mem_cars.1 hz
  have h1 : z ∈ List.replicate (x * y).toNat (0 : Int) := h.2.2
  have := List.eq_of_mem_replicate h1
  omega
set_option maxHeartbeats 4000000 in
theorem fnHallEmpty_fn (v0 : Value) (bs : List Int) (hB : OkB bs) : FnS Tryd.prog 13 [codeV v0 bs] (.bool true) := by
  obtain ⟨⟨x, y⟩, g1, hH⟩ := drawHallEmpty_fn v0 bs hB
  dsimp only at g1 hH
  have hlim := lim_eq
  have hE := hallEmpty_fn x y
  have hE2 := specHallEmpty_fn x y
  rcases empty_cases x y with hh | ⟨hx, hy, hh⟩
  · rw [hh] at hE hE2
    have hS := sameHall_fn ⟨0, 0, []⟩ ⟨0, 0, []⟩ (by simp [hlim]) (by simp [hlim])
    rw [sameH_self] at hS
    refine fn_go1 tabOk Tryd.func13 rfl (by kernel_rfl) Tryd.ntmps13 Tryd.results13 (by decide) ?_
    repeat first | refine ax_seq ?_ | refine ax_next ?_ | refine rg_text ?_ | refine rg_any mixed ?_ | refine ax_block ?_ | refine rh_nil ⟨(by kernel_rfl), ?_⟩ | refine rh_nil ?_ | refine ax_ret ?_ | refine ax_skip ?_ | refine ax_exit ?_ | refine ax_true rfl ?_ | refine ax_false rfl ?_ | refine then_ret ?_ | refine then_exit ?_ | refine out_here ?_ | refine out_away rfl ?_ | refine out_normal ?_ | refine out_ret ?_ | refine round_exit ?_ | refine round_ret ?_ | refine meet_ret ?_ | refine meet_exit ?_ | (apply rh_no; iterate 4 exact rfl) | (apply rh_un; iterate 3 exact rfl) | (apply rh0; (case h => exact z0); (case hw => exact wt)) | (apply rh1; (case h => exact z1); (case hw => exact wt)) | (apply rhs; (case h => exact zs); (case hw => exact wt))
    refine ax_cond rfl (fun hb0 => ?_) (fun hb0 => ?_)
    · repeat first | refine ax_seq ?_ | refine ax_next ?_ | refine rg_text ?_ | refine rg_any mixed ?_ | refine ax_block ?_ | refine rh_nil ⟨(by kernel_rfl), ?_⟩ | refine rh_nil ?_ | refine ax_ret ?_ | refine ax_skip ?_ | refine ax_exit ?_ | refine ax_true rfl ?_ | refine ax_false rfl ?_ | refine then_ret ?_ | refine then_exit ?_ | refine out_here ?_ | refine out_away rfl ?_ | refine out_normal ?_ | refine out_ret ?_ | refine round_exit ?_ | refine round_ret ?_ | refine meet_ret ?_ | refine meet_exit ?_ | (apply rh_no; iterate 4 exact rfl) | (apply rh_un; iterate 3 exact rfl) | (apply rh0; (case h => exact z0); (case hw => exact wt)) | (apply rh1; (case h => exact z1); (case hw => exact wt)) | (apply rhs; (case h => exact zs); (case hw => exact wt))
      refine ⟨.inl rfl, _, _, (by repeat first | exact .nil | apply ResL.cons | exact .tmp rfl | exact .agg rfl rfl rfl rfl rfl (Nat.le_of_ble_eq_true rfl) rfl | exact .cell rfl rfl rfl rfl rfl (Nat.le_of_ble_eq_true rfl) rfl), (by first | exact .one (by first | exact .one (.v rfl) | exact .one (.own rfl rfl rfl rfl rfl rfl rfl (by first | exact scal_ints _ | exact scal_slc _)) | exact .one (.nil (by decide) rfl) | exact .agg (.cons (.v rfl) (.cons (.v rfl) (.cons (.own rfl rfl rfl rfl rfl rfl rfl (scal_ints _)) .nil))) | exact .agg (.cons (.v rfl) (.cons (.v rfl) (.cons (.nil (by decide) rfl) .nil))) | exact .agg (.cons (.v rfl) (.cons (.v rfl) .nil))) | exact .two (by repeat first | exact .nil | apply ExpL.cons | exact (by first | exact .one (.v rfl) | exact .one (.own rfl rfl rfl rfl rfl rfl rfl (by first | exact scal_ints _ | exact scal_slc _)) | exact .one (.nil (by decide) rfl) | exact .agg (.cons (.v rfl) (.cons (.v rfl) (.cons (.own rfl rfl rfl rfl rfl rfl rfl (scal_ints _)) .nil))) | exact .agg (.cons (.v rfl) (.cons (.v rfl) (.cons (.nil (by decide) rfl) .nil))) | exact .agg (.cons (.v rfl) (.cons (.v rfl) .nil))))), (by decide)⟩
    repeat first | refine ax_seq ?_ | refine ax_next ?_ | refine rg_text ?_ | refine rg_any mixed ?_ | refine ax_block ?_ | refine rh_nil ⟨(by kernel_rfl), ?_⟩ | refine rh_nil ?_ | refine ax_ret ?_ | refine ax_skip ?_ | refine ax_exit ?_ | refine ax_true rfl ?_ | refine ax_false rfl ?_ | refine then_ret ?_ | refine then_exit ?_ | refine out_here ?_ | refine out_away rfl ?_ | refine out_normal ?_ | refine out_ret ?_ | refine round_exit ?_ | refine round_ret ?_ | refine meet_ret ?_ | refine meet_exit ?_ | refine Af (h := ?_) | refine At (h := ?_) | (apply rh_no; iterate 4 exact rfl) | (apply rh_un; iterate 3 exact rfl) | (apply rh0; (case h => first | (apply st_call_vv (hfn := hH ); exact rfl; exact fz) | (apply st_call (hfn := hS ); exact rfl; exact fz) | (apply st_call (hfn := alive_fn ); exact rfl; exact fz) | exact z0); (case hw => exact wt)) | (apply rh1; (case h => first | (apply st_call_h (hfn := hE ); exact rfl; exact fz; iterate 2 exact rfl) | (apply st_call_h (hfn := hE2 ); exact rfl; exact fz; iterate 2 exact rfl) | exact z1); (case hw => exact wt)) | (apply rhs; (case h => exact zs); (case hw => exact wt)) | refine Kf (h := ?_) | refine Kt (h := ?_)
    refine ⟨.inl rfl, _, _, (by repeat first | exact .nil | apply ResL.cons | exact .tmp rfl | exact .agg rfl rfl rfl rfl rfl (Nat.le_of_ble_eq_true rfl) rfl | exact .cell rfl rfl rfl rfl rfl (Nat.le_of_ble_eq_true rfl) rfl), (by first | exact .one (by first | exact .one (.v rfl) | exact .one (.own rfl rfl rfl rfl rfl rfl rfl (by first | exact scal_ints _ | exact scal_slc _)) | exact .one (.nil (by decide) rfl) | exact .agg (.cons (.v rfl) (.cons (.v rfl) (.cons (.own rfl rfl rfl rfl rfl rfl rfl (scal_ints _)) .nil))) | exact .agg (.cons (.v rfl) (.cons (.v rfl) (.cons (.nil (by decide) rfl) .nil))) | exact .agg (.cons (.v rfl) (.cons (.v rfl) .nil))) | exact .two (by repeat first | exact .nil | apply ExpL.cons | exact (by first | exact .one (.v rfl) | exact .one (.own rfl rfl rfl rfl rfl rfl rfl (by first | exact scal_ints _ | exact scal_slc _)) | exact .one (.nil (by decide) rfl) | exact .agg (.cons (.v rfl) (.cons (.v rfl) (.cons (.own rfl rfl rfl rfl rfl rfl rfl (scal_ints _)) .nil))) | exact .agg (.cons (.v rfl) (.cons (.v rfl) (.cons (.nil (by decide) rfl) .nil))) | exact .agg (.cons (.v rfl) (.cons (.v rfl) .nil))))), (by decide)⟩
  · obtain ⟨h, he⟩ : ∃ h : PHall, h = ⟨x, y, List.replicate (x * y).toNat 0⟩ := ⟨_, rfl⟩
    have hv : validB h = true := by rw [he]; exact empty_valid hx hy
    have hc : carsF h = [] := by rw [he]; exact empty_cars
    have hcz : (carsF h).length = 0 := by rw [hc]; rfl
    have hw : h.wide = x := by rw [he]
    have hd : h.deep = y := by rw [he]
    have hp := prod_le hx hy
    have hlen : (h.cells.length : Int) = x * y := by rw [he]; simp; omega
    have hfc := free_cars hv
    have hl : h.cells.length ≤ lim := by omega
    rw [hh, ← he] at hE hE2
    have hS := sameHall_fn h h hl hl
    rw [sameH_self] at hS
    have hV := hallValid_fn h hl
    rw [hv] at hV
    have hxy : ((hallFreeF h).length : Int) = x * y := by omega
    refine fn_go1 tabOk Tryd.func13 rfl (by kernel_rfl) Tryd.ntmps13 Tryd.results13 (by decide) ?_
    repeat first | refine ax_seq ?_ | refine ax_next ?_ | refine rg_text ?_ | refine rg_any mixed ?_ | refine ax_block ?_ | refine rh_nil ⟨(by kernel_rfl), ?_⟩ | refine rh_nil ?_ | refine ax_ret ?_ | refine ax_skip ?_ | refine ax_exit ?_ | refine ax_true rfl ?_ | refine ax_false rfl ?_ | refine then_ret ?_ | refine then_exit ?_ | refine out_here ?_ | refine out_away rfl ?_ | refine out_normal ?_ | refine out_ret ?_ | refine round_exit ?_ | refine round_ret ?_ | refine meet_ret ?_ | refine meet_exit ?_ | (apply rh_no; iterate 4 exact rfl) | (apply rh_un; iterate 3 exact rfl) | (apply rh0; (case h => exact z0); (case hw => exact wt)) | (apply rh1; (case h => exact z1); (case hw => exact wt)) | (apply rhs; (case h => exact zs); (case hw => exact wt))
    refine ax_cond rfl (fun hb0 => ?_) (fun hb0 => ?_)
    · repeat first | refine ax_seq ?_ | refine ax_next ?_ | refine rg_text ?_ | refine rg_any mixed ?_ | refine ax_block ?_ | refine rh_nil ⟨(by kernel_rfl), ?_⟩ | refine rh_nil ?_ | refine ax_ret ?_ | refine ax_skip ?_ | refine ax_exit ?_ | refine ax_true rfl ?_ | refine ax_false rfl ?_ | refine then_ret ?_ | refine then_exit ?_ | refine out_here ?_ | refine out_away rfl ?_ | refine out_normal ?_ | refine out_ret ?_ | refine round_exit ?_ | refine round_ret ?_ | refine meet_ret ?_ | refine meet_exit ?_ | (apply rh_no; iterate 4 exact rfl) | (apply rh_un; iterate 3 exact rfl) | (apply rh0; (case h => exact z0); (case hw => exact wt)) | (apply rh1; (case h => exact z1); (case hw => exact wt)) | (apply rhs; (case h => exact zs); (case hw => exact wt))
      refine ⟨.inl rfl, _, _, (by repeat first | exact .nil | apply ResL.cons | exact .tmp rfl | exact .agg rfl rfl rfl rfl rfl (Nat.le_of_ble_eq_true rfl) rfl | exact .cell rfl rfl rfl rfl rfl (Nat.le_of_ble_eq_true rfl) rfl), (by first | exact .one (by first | exact .one (.v rfl) | exact .one (.own rfl rfl rfl rfl rfl rfl rfl (by first | exact scal_ints _ | exact scal_slc _)) | exact .one (.nil (by decide) rfl) | exact .agg (.cons (.v rfl) (.cons (.v rfl) (.cons (.own rfl rfl rfl rfl rfl rfl rfl (scal_ints _)) .nil))) | exact .agg (.cons (.v rfl) (.cons (.v rfl) (.cons (.nil (by decide) rfl) .nil))) | exact .agg (.cons (.v rfl) (.cons (.v rfl) .nil))) | exact .two (by repeat first | exact .nil | apply ExpL.cons | exact (by first | exact .one (.v rfl) | exact .one (.own rfl rfl rfl rfl rfl rfl rfl (by first | exact scal_ints _ | exact scal_slc _)) | exact .one (.nil (by decide) rfl) | exact .agg (.cons (.v rfl) (.cons (.v rfl) (.cons (.own rfl rfl rfl rfl rfl rfl rfl (scal_ints _)) .nil))) | exact .agg (.cons (.v rfl) (.cons (.v rfl) (.cons (.nil (by decide) rfl) .nil))) | exact .agg (.cons (.v rfl) (.cons (.v rfl) .nil))))), (by decide)⟩
    repeat first | refine ax_seq ?_ | refine ax_next ?_ | refine rg_text ?_ | refine rg_any mixed ?_ | refine ax_block ?_ | refine rh_nil ⟨(by kernel_rfl), ?_⟩ | refine rh_nil ?_ | refine ax_ret ?_ | refine ax_skip ?_ | refine ax_exit ?_ | refine ax_true rfl ?_ | refine ax_false rfl ?_ | refine then_ret ?_ | refine then_exit ?_ | refine out_here ?_ | refine out_away rfl ?_ | refine out_normal ?_ | refine out_ret ?_ | refine round_exit ?_ | refine round_ret ?_ | refine meet_ret ?_ | refine meet_exit ?_ | refine Af (h := ?_) | refine At (h := ?_) | (apply rh_no; iterate 4 exact rfl) | (apply rh_un; iterate 3 exact rfl) | (apply rh0; (case h => first | (apply st_call_vv (hfn := hH ); exact rfl; exact fz) | (apply st_call (hfn := hS ); exact rfl; exact fz) | (apply st_call (hfn := hV ); exact rfl; exact fz) | exact z0); (case hw => exact wt)) | (apply rh1; (case h => first | (apply st_call_h (hfn := hE ); exact rfl; exact fz; iterate 2 exact rfl) | (apply st_call_h (hfn := hE2 ); exact rfl; exact fz; iterate 2 exact rfl) | (apply st_call_s (hfn := hallFree_fn h hl ); exact rfl; exact fz; iterate 2 exact rfl) | (apply st_call_s (hfn := hallCars_fn h hl ); exact rfl; exact fz; iterate 2 exact rfl) | exact z1); (case hw => exact wt)) | (apply rhs; (case h => exact zs); (case hw => exact wt)) | refine Kf (h := ?_) | refine Kt (h := ?_)
    refine ⟨.inl rfl, _, _, (by repeat first | exact .nil | apply ResL.cons | exact .tmp rfl | exact .agg rfl rfl rfl rfl rfl (Nat.le_of_ble_eq_true rfl) rfl | exact .cell rfl rfl rfl rfl rfl (Nat.le_of_ble_eq_true rfl) rfl), (by first | exact .one (by first | exact .one (.v (by first | rfl | (simp [hcz]))) | exact .one (.own rfl rfl rfl rfl rfl rfl (by first | rfl | (simp [hcz])) (by first | exact scal_ints _ | exact scal_slc _)) | exact .one (.nil (by decide) (by first | rfl | (simp [hcz]))) | exact .agg (.cons (.v (by first | rfl | (simp [hcz]))) (.cons (.v (by first | rfl | (simp [hcz]))) (.cons (.own rfl rfl rfl rfl rfl rfl (by first | rfl | (simp [hcz])) (scal_ints _)) .nil))) | exact .agg (.cons (.v (by first | rfl | (simp [hcz]))) (.cons (.v (by first | rfl | (simp [hcz]))) (.cons (.nil (by decide) (by first | rfl | (simp [hcz]))) .nil))) | exact .agg (.cons (.v (by first | rfl | (simp [hcz]))) (.cons (.v (by first | rfl | (simp [hcz]))) .nil))) | exact .two (by repeat first | exact .nil | apply ExpL.cons | exact (by first | exact .one (.v (by first | rfl | (simp [hcz]))) | exact .one (.own rfl rfl rfl rfl rfl rfl (by first | rfl | (simp [hcz])) (by first | exact scal_ints _ | exact scal_slc _)) | exact .one (.nil (by decide) (by first | rfl | (simp [hcz]))) | exact .agg (.cons (.v (by first | rfl | (simp [hcz]))) (.cons (.v (by first | rfl | (simp [hcz]))) (.cons (.own rfl rfl rfl rfl rfl rfl (by first | rfl | (simp [hcz])) (scal_ints _)) .nil))) | exact .agg (.cons (.v (by first | rfl | (simp [hcz]))) (.cons (.v (by first | rfl | (simp [hcz]))) (.cons (.nil (by decide) (by first | rfl | (simp [hcz]))) .nil))) | exact .agg (.cons (.v (by first | rfl | (simp [hcz]))) (.cons (.v (by first | rfl | (simp [hcz]))) .nil))))), (by decide)⟩

theorem fnHallEmpty_walk (w : World) (v0 : Value) (b0 : List Int) (q0 : RawBytes w v0 b0) : Calls Tryd.prog 13 #[v0] w (Gives (.bool true) w) := by
  refine ((fnHallEmpty_fn v0 b0 q0.choose_spec.choose_spec.2.2.2.2).2 w [v0] (by simp only [pureL, pureV]; exact ⟨pure_byts b0, trivial⟩) (by simp only [relL]; exact ⟨_, _, rfl, rel_of_rawBytes q0, rfl⟩)).mono fun e w' hh => gives_v_of hh

set_option maxRecDepth 100000 in
theorem fnHallEmpty_lifted (os : Os) (started : os.Started) (H : Type) (enc : TypeId × Value → H) :
    ReturnsInHanded {} Tryd.checked os 13 .any (fun w args => (Rows.fnHallEmptySpec.pre enc Tryd.prog Tryd.f13 Rows.fnHallEmptyRow.domain false w args ∧ laidMetH Tryd.prog laidL w) ∧ sizedMet enc Tryd.prog Tryd.f13 (OpenSpec.ofChange Rows.fnHallEmptySpec) false w args)
      (Rows.fnHallEmptySpec.post enc Tryd.prog Tryd.f13 false true false false) := by
  refine returnsInHanded_of_change_and (C := Tryd.checked) (X := fun w _ => laidMetH Tryd.prog laidL w) (fun _ _ _ hh h => h.of_heap hh) Tryd.own started (by kernel_rfl) Tryd.func13
    (ChangeSpec.witness_shaped (enc := enc) (C := Tryd.checked) (os := os) (X := fun w _ => laidMetH Tryd.prog laidL w) false (World.doorLaid Tryd.prog 400 os) #[.slice none 0 0] 8 rfl (World.shaped_of_RefB (by kernel_rfl) (by kernel_rfl)) (by kernel_rfl) (by kernel_rfl) (by kernel_rfl) (door_met os _)) ?_
  intro W base args ds gs before hval0 hW _ _ _ _
  have hval : ∀ (j : Nat) t v, Tryd.f13.params[j]? = some t → args[j]? = some v → Value.okWide Tryd.prog W .any base t v := hval0
  have hW' := hW
  obtain ⟨p, q, hA0, hV, rfl, hfz, hnd⟩ := hW
  have hA : DataW.TrodAll enc Tryd.prog W 0 (fun _ => true) true Tryd.f13.params.toList args.toList ds p := hA0
  rw [Tryd.params13] at hA hval
  obtain ⟨v0, vs0, d0, ds0, p0, q0, hargs, rfl, rfl, h0, r0⟩ := trodAll_cons hA
  obtain ⟨rfl, rfl, rfl⟩ := trodAll_nil r0
  obtain rfl : args = #[v0] := by cases args; simp_all
  obtain ⟨rfl, rfl⟩ := trodVars_none hV
  have lt0 := lt_of_trod h0
  obtain ⟨b0, w0⟩ := open_raw_bytes_arg (fun _ => rfl) (hval 0 22 v0 rfl rfl) h0
  clear hA0 hval0
  refine (fnHallEmpty_walk W v0 b0 w0).mono fun e W' ⟨he, bel⟩ => ?_
  subst he
  exact ⟨_, rfl, _, _, _, [], _, [], hW', trodAll_mk1 (shut_bool Tryd.underlying4 _), (trodAll_cons_mk (Below.trod Tryd.laidOut (by kernel_rfl) (of_decide_eq_true (by kernel_rfl)) h0 bel lt0) trodAll_mk0), rfl, bel.frame _, fun h => by cases h⟩

theorem fnHallEmpty_over : Rows.fnHallEmptyRow.holds Tryd.pinned (OpenSpec.ofChange Rows.fnHallEmptySpec) :=
  OpenClaim.holds_of_wide 13 Tryd.f13 rfl rfl rfl rfl rfl rfl rfl ⟨rfl, rfl, rfl, rfl, rfl⟩ rfl rfl rfl rfl rfl (by kernel_rfl) Tryd.func13 (by kernel_rfl)
    (of_decide_eq_true (by kernel_rfl)) (by unfold Func.isWrapper; rw [if_neg (of_decide_eq_false (by kernel_rfl))]; exact ⟨rfl, rfl⟩)
    (fun os started H enc _ => fnHallEmpty_lifted os started H enc)

theorem fnHallEmpty_holds : Rows.FnHallEmptyCardSaid :=
  Claim7.holds_tied_plain_at .later [] [.data, .data, .data] true mainIsB false
    fnHallEmpty_over (fun _ h => by cases h) (by kernel_rfl) (fun _ h => by cases h) fnHallEmpty_row_tie rfl ⟨rfl, rfl⟩ mainFact rfl
    (fun f fn hf hfn => by
      obtain rfl : f = 13 := Option.some.inj ((show Tryd.prog.funcNamed "loop.example/parkinghouse/laws.FnHallEmpty" = some 13 by kernel_rfl).symm.trans hf) |>.symm
      obtain rfl : fn = Tryd.f13 := (Option.some.inj (Tryd.func13.symm.trans hfn)).symm
      exact ⟨noLooks, fun j t ht => by
        rw [Tryd.params13] at ht
        have hm : t ∈ [22] := by simpa using Array.mem_of_getElem? ht
        have hall : ([22].all fun u => !Tryd.prog.wantsStandIn u) = true := by kernel_rfl
        exact (show Tryd.prog.wantsStandIn t = false by simpa using List.all_eq_true.1 hall t hm)⟩)
    (by kernel_rfl)

#print axioms fnHallEmpty_holds

end Go.Proofs.YtmkdafgcggpahaaDoor
