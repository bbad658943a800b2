/-
  Proved: FnExactReadHall returns true for every argument, and its argument reads afterwards as it read before (the card). No condition.
-/
import Derived.Test.YtnfjmcenjpoloaaDoorTZ
import Derived.Test.YtnfjmcenjpoloaaDoorQD
set_option linter.unusedVariables false
set_option linter.unusedSimpArgs false
set_option maxRecDepth 100000
namespace Go.Proofs.YtnfjmcenjpoloaaDoor
open Go Go.RowKit Go.Park Go.Sym
open Go.ChangeShapes Go.WideShapes Go.ChangeAt

set_option maxHeartbeats 4000000 in
theorem fnExactReadHall_fn (m : Int) (s : List UInt8) : FnG Tryd.prog 1 [.v (.int .i64 m)] 10 [.txt s] (.bool true) := by
  refine fng_go1 tabOk Tryd.func10 rfl (by kernel_rfl) Tryd.ntmps10 Tryd.results10 (by decide) ?_
  repeat first | refine Ua ?_ | refine Ub ?_ | refine Uc ?_ | refine Ud ?_ | refine Ue ?_ | refine Ug ⟨by kernel_rfl, ?_⟩ | refine Ug ?_ | refine Uh ?_ | refine Ui ?_ | refine Uj ?_ | refine Uk rfl ?_ | refine Ul rfl ?_ | refine Um ?_ | refine Un ?_ | refine Uo ?_ | refine Up rfl ?_ | refine Uq ?_ | refine Ur ?_ | refine Us ?_ | refine Ut ?_ | refine Uu ?_ | refine Ux ?_ | refine Uv rfl rfl rfl rfl ?_ | refine Uw rfl rfl rfl ?_ | refine U0 (by first | exact x0 | exact z0 | fail) ?_ | refine U1 (by first | exact x1 | exact z1 | fail) ?_ | refine U9 zs ?_
  refine ax_cond rfl (fun hb1 => ?_) (fun hb1 => ?_)
  · repeat first | refine Ua ?_ | refine Ub ?_ | refine Uc ?_ | refine Ud ?_ | refine Ue ?_ | refine Ug ⟨by kernel_rfl, ?_⟩ | refine Ug ?_ | refine Uh ?_ | refine Ui ?_ | refine Uj ?_ | refine Uk rfl ?_ | refine Ul rfl ?_ | refine Um ?_ | refine Un ?_ | refine Uo ?_ | refine Up rfl ?_ | refine Uq ?_ | refine Ur ?_ | refine Us ?_ | refine Ut ?_ | refine Uu ?_ | refine Ux ?_ | refine Uv rfl rfl rfl rfl ?_ | refine Uw rfl rfl rfl ?_ | refine U0 z0 ?_ | refine U1 z1 ?_ | refine U9 zs ?_
    exact ⟨.inl rfl, Rx⟩
  have hs : s.length ≤ 2000000 := by simp at hb1; omega
  have hR := readHall_fn m s hs
  have hR2 := specReadHall_fn s hs
  obtain ⟨r, hr⟩ : ∃ r, r = readF s := ⟨_, rfl⟩
  rw [← hr] at hR hR2
  have hlim := lim_eq
  have hl0 : r.1.cells.length ≤ lim := by rw [hr]; exact readF_len
  have hl1 : r.1.cells.length ≤ 1073741824 := by omega
  repeat first | refine Ua ?_ | refine Ub ?_ | refine Uc ?_ | refine Ud ?_ | refine Ue ?_ | refine Ug ⟨by kernel_rfl, ?_⟩ | refine Ug ?_ | refine Uh ?_ | refine Ui ?_ | refine Uj ?_ | refine Uk rfl ?_ | refine Ul rfl ?_ | refine Um ?_ | refine Un ?_ | refine Uo ?_ | refine Up rfl ?_ | refine Uq ?_ | refine Ur ?_ | refine Us ?_ | refine Ut ?_ | refine Uu ?_ | refine Ux ?_ | refine Af (h := ?_) | refine At (h := ?_) | refine Uv rfl rfl rfl rfl ?_ | refine Uw rfl rfl rfl ?_ | refine U0 (by first | (apply st_call (hfn := eqHall_fn r.1 hl0 ); exact rfl; exact fz) | (apply st_call (hfn := heldHall_fn r.1.wide r.1.deep r.1.cells.length hl0 (1) (by omega) (by omega) ); exact rfl; exact fz) | exact z0 | fail) ?_ | refine U1 (by first | (apply st_callg_hv (hfn := hR ); exact rfl; exact fz; iterate 3 exact rfl) | (apply st_call_hv (hfn := hR2 ); exact rfl; exact fz; iterate 2 exact rfl) | (apply st_mark (hfn := markHall_m r.1.wide r.1.deep r.1.cells hl0 (1) (by omega) (by omega) ); exact rfl; exact rfl; exact mz; iterate 6 exact rfl) | exact z1 | fail) ?_ | refine U9 zs ?_ | refine Kf (h := ?_) | refine Kt (h := ?_)
  exact ⟨.inl rfl, Rx⟩

theorem fnExactReadHall_walk (w : World) (m : Int) (htab : TabW 1 [.v (.int .i64 m)] w) (s : ByteArray) : Calls Tryd.prog 10 #[.string s] w (Gives (.bool true) w) := by
  refine ((fnExactReadHall_fn m s.data.toList).2 w [.string s] htab (by simp only [pureL]; exact ⟨trivial, trivial⟩) (by simp only [relL]; exact ⟨_, _, rfl, by rw [relV], rfl⟩)).mono fun e w' hh => gives_v_of hh

set_option maxRecDepth 100000 in
theorem fnExactReadHall_lifted (os : Os) (started : os.Started) (H : Type) (enc : TypeId × Value → H) :
    ReturnsInHanded {} Tryd.checked os 10 .any (fun w args => (Rows.fnExactReadHallSpec.pre enc Tryd.prog Tryd.f10 Rows.fnExactReadHallRow.domain false w args ∧ laidMetH Tryd.prog laidR w) ∧ sizedMet enc Tryd.prog Tryd.f10 (OpenSpec.ofChange Rows.fnExactReadHallSpec) false w args)
      (Rows.fnExactReadHallSpec.post enc Tryd.prog Tryd.f10 false true false false) := by
  refine handed_shaped (C := Tryd.checked) (X := fun w _ => laidMetH Tryd.prog laidR w) (fun _ _ _ hh h => h.of_heap hh) Tryd.own started (by kernel_rfl) Tryd.func10
    (ChangeSpec.witness_shaped (enc := enc) (C := Tryd.checked) (os := os) (X := fun w _ => laidMetH Tryd.prog laidR w) false (World.laidAll Tryd.prog os laidR) #[.string ByteArray.empty] 8 (World.laidAll_os _ _ _) (World.shaped_of_ZipB (by kernel_rfl) (by kernel_rfl)) (by kernel_rfl) (by kernel_rfl) (by kernel_rfl) (laidR_met os _)) ?_
  intro W base args ds gs before hval0 hW hSh
  obtain ⟨m, htab⟩ := maxLen_tab hSh
  have hval : ∀ (j : Nat) t v, Tryd.f10.params[j]? = some t → args[j]? = some v → Value.okWide Tryd.prog W .any base t v := hval0
  have hW' := hW
  obtain ⟨p, q, hA0, hV, rfl, hfz, hnd⟩ := hW
  have hA : DataW.TrodAll enc Tryd.prog W 0 (fun _ => true) true Tryd.f10.params.toList args.toList ds p := hA0
  rw [Tryd.params10] at hA hval
  obtain ⟨v0, vs0, d0, ds0, p0, q0, hargs, rfl, rfl, h0, r0⟩ := trodAll_cons hA
  obtain ⟨rfl, rfl, rfl⟩ := trodAll_nil r0
  obtain rfl : args = #[v0] := by cases args; simp_all
  obtain ⟨rfl, rfl⟩ := trodVars_none hV
  have lt0 := lt_of_trod h0
  obtain ⟨s, rfl, _, _, w0⟩ := Go.ChangeMaps.open_string Tryd.underlying9 (hval 0 9 v0 rfl rfl) h0
  clear hA0 hval0
  refine (fnExactReadHall_walk W m htab s).mono fun e W' ⟨he, bel⟩ => ?_
  subst he
  exact ⟨_, rfl, _, _, _, [], _, [], hW', trodAll_mk1 (shut_bool Tryd.underlying4 _), (trodAll_cons_mk (Below.trod Tryd.laidOut (by kernel_rfl) (of_decide_eq_true (by kernel_rfl)) h0 bel lt0) trodAll_mk0), rfl, bel.frame _, fun h => by cases h⟩

theorem fnExactReadHall_over : Rows.fnExactReadHallRow.holds Tryd.pinned (OpenSpec.ofChange Rows.fnExactReadHallSpec) :=
  OpenClaim.holds_of_wide 10 Tryd.f10 rfl rfl rfl rfl rfl rfl rfl ⟨rfl, rfl, rfl, rfl, rfl⟩ rfl rfl rfl rfl rfl (by kernel_rfl) Tryd.func10 (by kernel_rfl)
    (of_decide_eq_true (by kernel_rfl)) (by unfold Func.isWrapper; rw [if_neg (of_decide_eq_false (by kernel_rfl))]; exact ⟨rfl, rfl⟩)
    (fun os started H enc _ => fnExactReadHall_lifted os started H enc)

theorem fnExactReadHall_holds : Rows.FnExactReadHallCardSaid :=
  Claim7.holds_tied_plain_at .later [] [.data, .data, .data, .data, .pinned] true mainIsB false
    fnExactReadHall_over (fun _ h => by cases h) (by kernel_rfl) (fun _ h => by cases h) fnExactReadHall_row_tie rfl ⟨rfl, rfl⟩ mainFact rfl
    (fun f fn hf hfn => by
      obtain rfl : f = 10 := Option.some.inj ((show Tryd.prog.funcNamed "loop.example/parkinghouse/laws.FnExactReadHall" = some 10 by kernel_rfl).symm.trans hf) |>.symm
      obtain rfl : fn = Tryd.f10 := (Option.some.inj (Tryd.func10.symm.trans hfn)).symm
      exact ⟨noLooks, fun j t ht => by
        rw [Tryd.params10] at ht
        have hm : t ∈ [9] := by simpa using Array.mem_of_getElem? ht
        have hall : ([9].all fun u => !Tryd.prog.wantsStandIn u) = true := by kernel_rfl
        exact (show Tryd.prog.wantsStandIn t = false by simpa using List.all_eq_true.1 hall t hm)⟩)
    (by kernel_rfl)

#print axioms fnExactReadHall_holds

end Go.Proofs.YtnfjmcenjpoloaaDoor
