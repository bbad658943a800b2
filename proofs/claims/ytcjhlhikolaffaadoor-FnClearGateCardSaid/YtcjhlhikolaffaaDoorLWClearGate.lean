/-
  Proved: FnClearGate returns true for every argument, and its argument reads afterwards as it read before (the card). No condition.
-/
import Derived.Test.YtcjhlhikolaffaaDoorRow3
import Derived.Test.YtcjhlhikolaffaaDoorMain
import Derived.Test.YtcjhlhikolaffaaDoorRS
import Derived.Test.YtcjhlhikolaffaaDoorWE
import Derived.Test.YtcjhlhikolaffaaDoorW5
import Derived.Test.YtcjhlhikolaffaaDoorWF
set_option linter.unusedVariables false
set_option linter.unusedSimpArgs false
set_option maxRecDepth 100000
namespace Go.Proofs.YtcjhlhikolaffaaDoor
open Go Go.RowKit Go.Park Go.Sym
open Go.ChangeShapes Go.WideShapes Go.ChangeAt

set_option maxHeartbeats 4000000 in
theorem drawClearGate_fn (v0 : Value) (bs : List Int) (hB : OkB bs) : ∃ h : PHall, h.cells.length ≤ 13 ∧ FnS Tryd.prog 34 [codeV v0 bs] (hallV h) := by
  have hC := cut_bytes hB
  obtain ⟨⟨h, id, q⟩, ⟨g1, g2, g3⟩, hH⟩ := l20Crowd_fn (rdV v0) _ hC 0 (by omega) 6 (by omega)
  dsimp only at g1 g2 g3 hH
  have hlim := lim_eq
  refine fnx_go1 (Good := fun h : PHall => h.cells.length ≤ 13) (res := fun h => hallV h) tabOk Tryd.func34 rfl (by kernel_rfl) Tryd.ntmps34 Tryd.results34 (by decide) ?_
  repeat first | refine Ua ?_ | refine Ub ?_ | refine Uc ?_ | refine Ud ?_ | refine Ue ?_ | refine Ug ⟨by kernel_rfl, ?_⟩ | refine Ug ?_ | refine Uh ?_ | refine Ui ?_ | refine Uj ?_ | refine Uk rfl ?_ | refine Ul rfl ?_ | refine Um ?_ | refine Un ?_ | refine Uo ?_ | refine Up rfl ?_ | refine Uq ?_ | refine Ur ?_ | refine Us ?_ | refine Ut ?_ | refine Uu ?_ | refine Ux ?_ | refine Uv rfl rfl rfl rfl ?_ | refine Uw rfl rfl rfl ?_ | refine U0 z0 ?_ | refine U1 (by first | (apply st_open; iterate 4 exact rfl) | exact z1 | fail) ?_ | refine U9 zs ?_ | refine U2 (by first | (apply st_recv_hv (hfn := hH ); (iterate 4 exact rfl); exact fz; iterate 3 exact rfl) | fail) ?_
  exact ⟨⟨h, g1, .inl rfl, Rx⟩⟩
/-- the least of 99 and the distances of the first k free cells -/
def nearN (h : PHall) : Nat → Int
  | 0 => 99
  | k+1 => min (nearN h k) (apartF h.wide (gi (hallFreeF h) k) 0)
theorem nearN_le (h : PHall) : ∀ k, nearN h k ≤ 99
  | 0 => Int.le_refl _
  | k+1 => by have := nearN_le h k; simp only [nearN]; omega
theorem nearN_ge {h : PHall} {d : Int} (hd : d ≤ 99) (hp : ∀ j, j < (hallFreeF h).length → d ≤ apartF h.wide (gi (hallFreeF h) j) 0) : ∀ k, k ≤ (hallFreeF h).length → d ≤ nearN h k
  | 0, _ => hd
  | k+1, hk => by have := nearN_ge hd hp k (by omega); have := hp k (by omega); simp only [nearN]; omega
theorem nearN_at {h : PHall} : ∀ k, k ≤ (hallFreeF h).length → ∀ j, j < k → nearN h k ≤ apartF h.wide (gi (hallFreeF h) j) 0
  | 0, _, j, hj => by omega
  | k+1, hk, j, hj => by
    simp only [nearN]
    by_cases e : j = k
    · subst e; omega
    · have := nearN_at (h := h) k (by omega) j (by omega); omega
set_option maxHeartbeats 4000000 in
theorem fnClearGate_fn (v0 : Value) (bs : List Int) (hB : OkB bs) : FnS Tryd.prog 6 [codeV v0 bs] (.bool true) := by
  obtain ⟨h, g1, hH⟩ := drawClearGate_fn v0 bs hB
  have hlim := lim_eq
  have hl : h.cells.length ≤ lim := by omega
  have hcl := clearF_len h
  have hP := clearGate_fn h hl
  have hP2 := specClearGate_fn h hl
  have hF := hallFree_fn h hl
  have hfl := free_len h
  by_cases hf : hallFreeF h = []
  · rw [clear_none hf] at hP hP2
    rw [hf] at hF
    dsimp only at hP hP2
    have hS := sameSlides_fn [] [] (by simp [hlim]) (by simp [hlim])
    rw [decide_eq_true rfl] at hS
    refine fn_go1 tabOk Tryd.func6 rfl (by kernel_rfl) Tryd.ntmps6 Tryd.results6 (by decide) ?_
    repeat first | refine Ua ?_ | refine Ub ?_ | refine Uc ?_ | refine Ud ?_ | refine Ue ?_ | refine Ug ⟨by kernel_rfl, ?_⟩ | refine Ug ?_ | refine Uh ?_ | refine Ui ?_ | refine Uj ?_ | refine Uk rfl ?_ | refine Ul rfl ?_ | refine Um ?_ | refine Un ?_ | refine Uo ?_ | refine Up rfl ?_ | refine Uq ?_ | refine Ur ?_ | refine Us ?_ | refine Ut ?_ | refine Uu ?_ | refine Ux ?_ | refine Uv rfl rfl rfl rfl ?_ | refine Uw rfl rfl rfl ?_ | refine U0 z0 ?_ | refine U1 z1 ?_ | refine U9 zs ?_
    refine ax_cond rfl (fun hb0 => ?_) (fun hb0 => ?_)
    · repeat first | refine Ua ?_ | refine Ub ?_ | refine Uc ?_ | refine Ud ?_ | refine Ue ?_ | refine Ug ⟨by kernel_rfl, ?_⟩ | refine Ug ?_ | refine Uh ?_ | refine Ui ?_ | refine Uj ?_ | refine Uk rfl ?_ | refine Ul rfl ?_ | refine Um ?_ | refine Un ?_ | refine Uo ?_ | refine Up rfl ?_ | refine Uq ?_ | refine Ur ?_ | refine Us ?_ | refine Ut ?_ | refine Uu ?_ | refine Ux ?_ | refine Uv rfl rfl rfl rfl ?_ | refine Uw rfl rfl rfl ?_ | refine U0 z0 ?_ | refine U1 z1 ?_ | refine U9 zs ?_
      exact ⟨.inl rfl, Rx⟩
    repeat first | refine Ua ?_ | refine Ub ?_ | refine Uc ?_ | refine Ud ?_ | refine Ue ?_ | refine Ug ⟨by kernel_rfl, ?_⟩ | refine Ug ?_ | refine Uh ?_ | refine Ui ?_ | refine Uj ?_ | refine Uk rfl ?_ | refine Ul rfl ?_ | refine Um ?_ | refine Un ?_ | refine Uo ?_ | refine Up rfl ?_ | refine Uq ?_ | refine Ur ?_ | refine Us ?_ | refine Ut ?_ | refine Uu ?_ | refine Ux ?_ | refine Af (h := ?_) | refine At (h := ?_) | refine Uv rfl rfl rfl rfl ?_ | refine Uw rfl rfl rfl ?_ | refine U0 (by first | (apply st_call (hfn := hS ); exact rfl; exact fz) | (apply st_call (hfn := alive_fn ); exact rfl; exact fz) | exact z0 | fail) ?_ | refine U1 (by first | (apply st_call_h (hfn := hH ); exact rfl; exact fz; iterate 2 exact rfl) | (apply st_call_sv (hfn := hP ); exact rfl; exact fz; iterate 2 exact rfl) | (apply st_call_sv (hfn := hP2 ); exact rfl; exact fz; iterate 2 exact rfl) | (apply st_call_s (hfn := hF ); exact rfl; exact fz; iterate 2 exact rfl) | exact z1 | fail) ?_ | refine U9 zs ?_ | refine Kf (h := ?_) | refine Kt (h := ?_)
    exact ⟨.inl rfl, Rx⟩
  · obtain ⟨l, d, he, hG⟩ := clear_good hf
    rw [he] at hP hP2 hcl
    dsimp only at hP hP2 hcl
    have hS := sameSlides_fn l l (by omega) (by omega)
    rw [decide_eq_true rfl] at hS
    have hpos : 0 < (hallFreeF h).length := List.length_pos_iff.2 hf
    obtain ⟨hv, _⟩ := free_cell hpos
    obtain ⟨s1, s2, _⟩ := stS_ok (l := l) hv l.length
    have hR := slideRun_fn h hl l (by omega)
    rw [slideRun_done hv (by omega) hG.done] at hR
    dsimp only at hR
    have hF2 := hallFree_fn (stS h l l.length) (by omega)
    have hfl2 := free_len (stS h l l.length)
    have hI := hasInt_fn (hallFreeF (stS h l l.length)) (by omega) 0
    have h4 := (valid_len s1).1
    rw [show decide ((0 : Int) ∈ hallFreeF (stS h l l.length)) = true from decide_eq_true ((free_mem s1).2 ⟨0, by omega, hG.gate, rfl⟩)] at hI
    have hld : l.length = d := hG.len
    obtain ⟨j0, hj0, hd0⟩ := hG.some
    have hNe : nearN h (hallFreeF h).length = (l.length : Int) := by
      have h1 := nearN_at (h := h) (hallFreeF h).length (Nat.le_refl _) j0 hj0
      have h2 := nearN_ge (h := h) (d := (d : Int)) (by omega) hG.least (hallFreeF h).length (Nat.le_refl _)
      omega
    refine fn_go1 tabOk Tryd.func6 rfl (by kernel_rfl) Tryd.ntmps6 Tryd.results6 (by decide) ?_
    repeat first | refine Ua ?_ | refine Ub ?_ | refine Uc ?_ | refine Ud ?_ | refine Ue ?_ | refine Ug ⟨by kernel_rfl, ?_⟩ | refine Ug ?_ | refine Uh ?_ | refine Ui ?_ | refine Uj ?_ | refine Uk rfl ?_ | refine Ul rfl ?_ | refine Um ?_ | refine Un ?_ | refine Uo ?_ | refine Up rfl ?_ | refine Uq ?_ | refine Ur ?_ | refine Us ?_ | refine Ut ?_ | refine Uu ?_ | refine Ux ?_ | refine Uv rfl rfl rfl rfl ?_ | refine Uw rfl rfl rfl ?_ | refine U0 z0 ?_ | refine U1 z1 ?_ | refine U9 zs ?_
    refine ax_cond rfl (fun hb0 => ?_) (fun hb0 => ?_)
    · repeat first | refine Ua ?_ | refine Ub ?_ | refine Uc ?_ | refine Ud ?_ | refine Ue ?_ | refine Ug ⟨by kernel_rfl, ?_⟩ | refine Ug ?_ | refine Uh ?_ | refine Ui ?_ | refine Uj ?_ | refine Uk rfl ?_ | refine Ul rfl ?_ | refine Um ?_ | refine Un ?_ | refine Uo ?_ | refine Up rfl ?_ | refine Uq ?_ | refine Ur ?_ | refine Us ?_ | refine Ut ?_ | refine Uu ?_ | refine Ux ?_ | refine Uv rfl rfl rfl rfl ?_ | refine Uw rfl rfl rfl ?_ | refine U0 z0 ?_ | refine U1 z1 ?_ | refine U9 zs ?_
      exact ⟨.inl rfl, Rx⟩
    repeat first | refine Ua ?_ | refine Ub ?_ | refine Uc ?_ | refine Ud ?_ | refine Ue ?_ | refine Ug ⟨by kernel_rfl, ?_⟩ | refine Ug ?_ | refine Uh ?_ | refine Ui ?_ | refine Uj ?_ | refine Uk rfl ?_ | refine Ul rfl ?_ | refine Um ?_ | refine Un ?_ | refine Uo ?_ | refine Up rfl ?_ | refine Uq ?_ | refine Ur ?_ | refine Us ?_ | refine Ut ?_ | refine Uu ?_ | refine Ux ?_ | refine Af (h := ?_) | refine At (h := ?_) | refine Uv rfl rfl rfl rfl ?_ | refine Uw rfl rfl rfl ?_ | refine U0 (by first | (apply st_call (hfn := hS ); exact rfl; exact fz) | exact z0 | fail) ?_ | refine U1 (by first | (apply st_call_h (hfn := hH ); exact rfl; exact fz; iterate 2 exact rfl) | (apply st_call_sv (hfn := hP ); exact rfl; exact fz; iterate 2 exact rfl) | (apply st_call_sv (hfn := hP2 ); exact rfl; exact fz; iterate 2 exact rfl) | (apply st_call_s (hfn := hF ); exact rfl; exact fz; iterate 2 exact rfl) | exact z1 | fail) ?_ | refine U9 zs ?_ | refine Kf (h := ?_) | refine Kt (h := ?_)
    refine ax_loop (fun k : Nat => mkS [(10, .int (k : Int)), (9, .int (nearN h k)), (8, .own 5 0), (4, .own 3 0), (3, .ptr 2 0 0)] ⟨6, [(1, some (intsRow h.cells)), (2, some (boxRow h.wide h.deep 1 0)), (3, some (slcRow l)), (5, some (intsRow (hallFreeF h)))]⟩) (fun k => k ≤ (hallFreeF h).length) (fun k => (hallFreeF h).length - k) (0) (Nat.zero_le _) (Lw (ρ := [])) ?_
    intro k hk
    repeat first | refine Ua ?_ | refine Ub ?_ | refine Uc ?_ | refine Ud ?_ | refine Ue ?_ | refine Ug ⟨by kernel_rfl, ?_⟩ | refine Ug ?_ | refine Uh ?_ | refine Ui ?_ | refine Uj ?_ | refine Uk rfl ?_ | refine Ul rfl ?_ | refine Um ?_ | refine Un ?_ | refine Uo ?_ | refine Up rfl ?_ | refine Uq ?_ | refine Ur ?_ | refine Us ?_ | refine Ut ?_ | refine Uu ?_ | refine Ux ?_ | refine Uv rfl rfl rfl rfl ?_ | refine Uw rfl rfl rfl ?_ | refine U0 z0 ?_ | refine U1 z1 ?_ | refine U9 zs ?_
    refine ax_cond rfl (fun hb2 => ?_) (fun hb2 => ?_)
    · have hlt : k < (hallFreeF h).length := by simpa using hb2
      obtain ⟨_, c0, c1, c2⟩ := free_cell hlt
      have hD := cellsApart_fn h hl (gi (hallFreeF h) k) 0
      have hap : apartAt h (gi (hallFreeF h) k) 0 = apartF h.wide (gi (hallFreeF h) k) 0 := by
        unfold apartAt
        rw [if_pos ⟨hv, hasCell_iff.2 (by omega), hasCell_iff.2 (by omega)⟩]
      rw [hap] at hD
      repeat first | refine Ua ?_ | refine Ub ?_ | refine Uc ?_ | refine Ud ?_ | refine Ue ?_ | refine Ug ⟨by kernel_rfl, ?_⟩ | refine Ug ?_ | refine Uh ?_ | refine Ui ?_ | refine Uj ?_ | refine Uk rfl ?_ | refine Ul rfl ?_ | refine Um ?_ | refine Un ?_ | refine Uo ?_ | refine Up rfl ?_ | refine Uq ?_ | refine Ur ?_ | refine Us ?_ | refine Ut ?_ | refine Uu ?_ | refine Ux ?_ | refine Af (h := ?_) | refine At (h := ?_) | refine Uv rfl rfl rfl rfl ?_ | refine Uw rfl rfl rfl ?_ | refine U0 (by first | (apply st_call (hfn := hD ); exact rfl; exact fz) | (apply does_min; iterate 3 exact rfl) | exact z0 | fail) ?_ | refine U1 z1 ?_ | refine U9 zs ?_ | refine Kf (h := ?_) | refine Kt (h := ?_)
      refine round_next (k + 1) (hlt) (by omega) (Lw (ρ := []))
    · have hkn : k = (hallFreeF h).length := by simp at hb2; omega
      subst hkn
      rw [hNe]
      repeat first | refine Ua ?_ | refine Ub ?_ | refine Uc ?_ | refine Ud ?_ | refine Ue ?_ | refine Ug ⟨by kernel_rfl, ?_⟩ | refine Ug ?_ | refine Uh ?_ | refine Ui ?_ | refine Uj ?_ | refine Uk rfl ?_ | refine Ul rfl ?_ | refine Um ?_ | refine Un ?_ | refine Uo ?_ | refine Up rfl ?_ | refine Uq ?_ | refine Ur ?_ | refine Us ?_ | refine Ut ?_ | refine Uu ?_ | refine Ux ?_ | refine Af (h := ?_) | refine At (h := ?_) | refine Uv rfl rfl rfl rfl ?_ | refine Uw rfl rfl rfl ?_ | refine U0 (by first | (apply st_call (hfn := hI ); exact rfl; exact fz) | exact z0 | fail) ?_ | refine U1 (by first | (apply st_call_hv (hfn := hR ); exact rfl; exact fz; iterate 2 exact rfl) | (apply st_call_s (hfn := hF2 ); exact rfl; exact fz; iterate 2 exact rfl) | exact z1 | fail) ?_ | refine U9 zs ?_ | refine Kf (h := ?_) | refine Kt (h := ?_)
      exact ⟨.inl rfl, Rx⟩

theorem fnClearGate_walk (w : World) (v0 : Value) (b0 : List Int) (q0 : RawBytes w v0 b0) : Calls Tryd.prog 6 #[v0] w (Gives (.bool true) w) := by
  refine ((fnClearGate_fn v0 b0 q0.choose_spec.choose_spec.2.2.2.2).2 w [v0] (by simp only [pureL, pureV]; exact ⟨pure_byts b0, trivial⟩) (by simp only [relL]; exact ⟨_, _, rfl, rel_of_rawBytes q0, rfl⟩)).mono fun e w' hh => gives_v_of hh

set_option maxRecDepth 100000 in
theorem fnClearGate_lifted (os : Os) (started : os.Started) (H : Type) (enc : TypeId × Value → H) :
    ReturnsInHanded {} Tryd.checked os 6 .any (fun w args => (Rows.fnClearGateSpec.pre enc Tryd.prog Tryd.f6 Rows.fnClearGateRow.domain false w args ∧ laidMetH Tryd.prog laidL w) ∧ sizedMet enc Tryd.prog Tryd.f6 (OpenSpec.ofChange Rows.fnClearGateSpec) false w args)
      (Rows.fnClearGateSpec.post enc Tryd.prog Tryd.f6 false true false false) := by
  refine returnsInHanded_of_change_and (C := Tryd.checked) (X := fun w _ => laidMetH Tryd.prog laidL w) (fun _ _ _ hh h => h.of_heap hh) Tryd.own started (by kernel_rfl) Tryd.func6
    (ChangeSpec.witness_shaped (enc := enc) (C := Tryd.checked) (os := os) (X := fun w _ => laidMetH Tryd.prog laidL w) false (World.doorLaid Tryd.prog 400 os) #[.slice none 0 0] 8 rfl (World.shaped_of_RefB (by kernel_rfl) (by kernel_rfl)) (by kernel_rfl) (by kernel_rfl) (by kernel_rfl) (door_met os _)) ?_
  intro W base args ds gs before hval0 hW _ _ _ _
  have hval : ∀ (j : Nat) t v, Tryd.f6.params[j]? = some t → args[j]? = some v → Value.okWide Tryd.prog W .any base t v := hval0
  have hW' := hW
  obtain ⟨p, q, hA0, hV, rfl, hfz, hnd⟩ := hW
  have hA : DataW.TrodAll enc Tryd.prog W 0 (fun _ => true) true Tryd.f6.params.toList args.toList ds p := hA0
  rw [Tryd.params6] at hA hval
  obtain ⟨v0, vs0, d0, ds0, p0, q0, hargs, rfl, rfl, h0, r0⟩ := trodAll_cons hA
  obtain ⟨rfl, rfl, rfl⟩ := trodAll_nil r0
  obtain rfl : args = #[v0] := by cases args; simp_all
  obtain ⟨rfl, rfl⟩ := trodVars_none hV
  have lt0 := lt_of_trod h0
  obtain ⟨b0, w0⟩ := open_raw_bytes_arg (fun _ => rfl) (hval 0 22 v0 rfl rfl) h0
  clear hA0 hval0
  refine (fnClearGate_walk W v0 b0 w0).mono fun e W' ⟨he, bel⟩ => ?_
  subst he
  exact ⟨_, rfl, _, _, _, [], _, [], hW', trodAll_mk1 (shut_bool Tryd.underlying4 _), (trodAll_cons_mk (Below.trod Tryd.laidOut (by kernel_rfl) (of_decide_eq_true (by kernel_rfl)) h0 bel lt0) trodAll_mk0), rfl, bel.frame _, fun h => by cases h⟩

theorem fnClearGate_over : Rows.fnClearGateRow.holds Tryd.pinned (OpenSpec.ofChange Rows.fnClearGateSpec) :=
  OpenClaim.holds_of_wide 6 Tryd.f6 rfl rfl rfl rfl rfl rfl rfl ⟨rfl, rfl, rfl, rfl, rfl⟩ rfl rfl rfl rfl rfl (by kernel_rfl) Tryd.func6 (by kernel_rfl)
    (of_decide_eq_true (by kernel_rfl)) (by unfold Func.isWrapper; rw [if_neg (of_decide_eq_false (by kernel_rfl))]; exact ⟨rfl, rfl⟩)
    (fun os started H enc _ => fnClearGate_lifted os started H enc)

theorem fnClearGate_holds : Rows.FnClearGateCardSaid :=
  Claim7.holds_tied_plain_at .later [] [.data, .data, .data] true mainIsB false
    fnClearGate_over (fun _ h => by cases h) (by kernel_rfl) (fun _ h => by cases h) fnClearGate_row_tie rfl ⟨rfl, rfl⟩ mainFact rfl
    (fun f fn hf hfn => by
      obtain rfl : f = 6 := Option.some.inj ((show Tryd.prog.funcNamed "loop.example/parkinghouse/laws.FnClearGate" = some 6 by kernel_rfl).symm.trans hf) |>.symm
      obtain rfl : fn = Tryd.f6 := (Option.some.inj (Tryd.func6.symm.trans hfn)).symm
      exact ⟨noLooks, fun j t ht => by
        rw [Tryd.params6] at ht
        have hm : t ∈ [22] := by simpa using Array.mem_of_getElem? ht
        have hall : ([22].all fun u => !Tryd.prog.wantsStandIn u) = true := by kernel_rfl
        exact (show Tryd.prog.wantsStandIn t = false by simpa using List.all_eq_true.1 hall t hm)⟩)
    (by kernel_rfl)

#print axioms fnClearGate_holds

end Go.Proofs.YtcjhlhikolaffaaDoor
