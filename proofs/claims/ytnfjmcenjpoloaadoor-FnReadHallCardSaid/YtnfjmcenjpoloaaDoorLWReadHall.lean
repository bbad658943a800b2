/-
  Proved: FnReadHall returns true for every argument, and its argument reads afterwards as it read before (the card). No condition.
-/
import Derived.Test.YtnfjmcenjpoloaaDoorTZ
import Derived.Test.YtnfjmcenjpoloaaDoorTD
set_option linter.unusedVariables false
set_option linter.unusedSimpArgs false
set_option maxRecDepth 100000
namespace Go.Proofs.YtnfjmcenjpoloaaDoor
open Go Go.RowKit Go.Park Go.Sym
open Go.ChangeShapes Go.WideShapes Go.ChangeAt

theorem six_len {l : List (List UInt8)} (h : ∀ x, x ∈ l → x.length ≤ 1) (j : Nat) : (gt l j).length ≤ 1 := by
  by_cases hj : j < l.length
  · rw [gt_is hj]; exact h _ (List.getElem_mem hj)
  · simp [gt, List.getD_eq_getElem?_getD, List.getElem?_eq_none (show l.length ≤ j by omega)]
set_option maxHeartbeats 4000000 in
theorem drawReadHall_fn (v0 : Value) (bs : List Int) (hB : OkB bs) : ∃ s : List UInt8, s.length ≤ 2000 ∧ FnS Tryd.prog 41 [codeV v0 bs] (.txt s) := by
  have hC := cut_bytes hB
  obtain ⟨⟨h, q⟩, ⟨g1, g2, g3, g4⟩, hH⟩ := l20Hall_fn2 (rdV v0) _ hC 0 (by omega) 0 (by omega)
  dsimp only at g1 g2 g3 g4 hH
  have hlim := lim_eq
  have hv := g4 rfl
  have hT := specHallText_fn h (by omega)
  rw [text_bytes hv] at hT
  have htl := textTo_len hv h.cells.length (Nat.le_refl _)
  have hvl := (valid_len hv).2
  have htn := text_ne hv
  rw [text_bytes hv] at htn
  obtain ⟨t, ht⟩ : ∃ t, t = textTo h h.cells.length := ⟨_, rfl⟩
  rw [← ht] at hT htl htn
  have htp : 0 < t.length := by
    rcases Nat.eq_zero_or_pos t.length with e | e
    · exact absurd (by rw [List.eq_nil_of_length_eq_zero e]) htn
    · exact e
  refine fnx_go1 (Good := fun s : List UInt8 => s.length ≤ 2000) (res := fun s => .txt s) tabOk Tryd.func41 rfl (by kernel_rfl) Tryd.ntmps41 Tryd.results41 (by decide) ?_
  have p0 := pick_range hC (p := q) (n := 3) (by omega)
  have p1 := pick_range hC (p := q + 1) (n := (t.length : Int)) (by omega)
  have p1' := p1.2 (by omega)
  have p2 := pick_range hC (p := q + 1 + 1) (n := 6) (by omega)
  have p2' := p2.2 (by omega)
  have P1 := pick_fn (rdV v0) _ hC (q + 1) (by omega) (t.length : Int)
  have P2 := pick_fn (rdV v0) _ hC (q + 1 + 1) (by omega) 6
  obtain ⟨K, hK⟩ : ∃ K : Nat, pickF _ (q + 1) (t.length : Int) = (K : Int) := ⟨_, (Int.toNat_of_nonneg p1.1).symm⟩
  obtain ⟨J, hJ⟩ : ∃ J : Nat, pickF _ (q + 1 + 1) 6 = (J : Int) := ⟨_, (Int.toNat_of_nonneg p2.1).symm⟩
  rw [hK] at P1 p1'
  rw [hJ] at P2 p2'
  have h6 : ∀ x, x ∈ ([[], [48], [44], [47], [46], [55]] : List (List UInt8)) → x.length ≤ 1 := by decide
  have h6' := six_len h6 J
  have l6 : ([[], [48], [44], [47], [46], [55]] : List (List UInt8)).length = 6 := rfl
  repeat first | refine Ua ?_ | refine Ub ?_ | refine Uc ?_ | refine Ud ?_ | refine Ue ?_ | refine Ug ⟨by kernel_rfl, ?_⟩ | refine Ug ?_ | refine Uh ?_ | refine Ui ?_ | refine Uj ?_ | refine Uk rfl ?_ | refine Ul rfl ?_ | refine Um ?_ | refine Un ?_ | refine Uo ?_ | refine Up rfl ?_ | refine Uq ?_ | refine Ur ?_ | refine Us ?_ | refine Ut ?_ | refine Uu ?_ | refine Ux ?_ | refine Uv rfl rfl rfl rfl ?_ | refine Uw rfl rfl rfl ?_ | refine U0 (by first | (apply st_call (hfn := hT ); exact rfl; exact fz) | exact x0 | exact z0 | fail) ?_ | refine U1 (by first | (apply st_open; iterate 4 exact rfl) | (apply st_recv_v (hfn := pick_fn (rdV v0) _ hC q (by omega) 3 ); (iterate 4 exact rfl); exact fz; iterate 2 exact rfl) | exact x1 | exact z1 | fail) ?_ | refine U9 zs ?_ | refine U2 (by first | (apply st_recv_h (hfn := hH ); (iterate 4 exact rfl); exact fz; iterate 3 exact rfl) | fail) ?_
  refine ax_cond rfl (fun hb => ?_) (fun hb => ?_)
  · have lt1 : (t.take K).length ≤ 2000 := by simp; omega
    have lt2 : (t.drop (K + 1)).length ≤ 2000 := by simp; omega
    repeat first | refine Ua ?_ | refine Ub ?_ | refine Uc ?_ | refine Ud ?_ | refine Ue ?_ | refine Ug ⟨by kernel_rfl, ?_⟩ | refine Ug ?_ | refine Uh ?_ | refine Ui ?_ | refine Uj ?_ | refine Uk rfl ?_ | refine Ul rfl ?_ | refine Um ?_ | refine Un ?_ | refine Uo ?_ | refine Up rfl ?_ | refine Uq ?_ | refine Ur ?_ | refine Us ?_ | refine Ut ?_ | refine Uu ?_ | refine Ux ?_ | refine Uv rfl rfl rfl rfl ?_ | refine Uw rfl rfl rfl ?_ | refine U0 (by first | exact x0 | exact z0 | fail) ?_ | refine U1 (by first | (apply st_recv_v (hfn := P1 ); (iterate 4 exact rfl); exact fz; iterate 2 exact rfl) | (apply st_recv_v (hfn := P2 ); (iterate 4 exact rfl); exact fz; iterate 2 exact rfl) | (apply st_lit6_t tabOk; iterate 13 exact rfl) | exact x1 | exact z1 | fail) ?_ | refine U9 zs ?_
    exact ⟨⟨(t.take K ++ gt [[], [48], [44], [47], [46], [55]] J ++ t.drop (K + 1)), (by show (t.take K ++ gt [[], [48], [44], [47], [46], [55]] J ++ t.drop (K + 1)).length ≤ 2000; simp only [List.length_append, List.length_take, List.length_drop]; omega), .inl rfl, Rx⟩⟩
  · repeat first | refine Ua ?_ | refine Ub ?_ | refine Uc ?_ | refine Ud ?_ | refine Ue ?_ | refine Ug ⟨by kernel_rfl, ?_⟩ | refine Ug ?_ | refine Uh ?_ | refine Ui ?_ | refine Uj ?_ | refine Uk rfl ?_ | refine Ul rfl ?_ | refine Um ?_ | refine Un ?_ | refine Uo ?_ | refine Up rfl ?_ | refine Uq ?_ | refine Ur ?_ | refine Us ?_ | refine Ut ?_ | refine Uu ?_ | refine Ux ?_ | refine Uv rfl rfl rfl rfl ?_ | refine Uw rfl rfl rfl ?_ | refine U0 (by first | exact x0 | exact z0 | fail) ?_ | refine U1 (by first | exact x1 | exact z1 | fail) ?_ | refine U9 zs ?_
    exact ⟨⟨t, (by show t.length ≤ 2000; omega), .inl rfl, Rx⟩⟩
set_option maxHeartbeats 4000000 in
theorem fnReadHall_fn (m : Int) (v0 : Value) (bs : List Int) (hB : OkB bs) : FnG Tryd.prog 1 [.v (.int .i64 m)] 8 [codeV v0 bs] (.bool true) := by
  obtain ⟨s, g1, hH⟩ := drawReadHall_fn v0 bs hB
  have hlim := lim_eq
  have hR := readHall_fn m s (by omega)
  have hR2 := specReadHall_fn s (by omega)
  cases hb : (readF s).2
  · have e : readF s = (⟨0, 0, []⟩, false) := Prod.ext (readF_false hb) hb
    rw [e] at hR hR2
    dsimp only at hR hR2
    have hS := sameHall_fn ⟨0, 0, []⟩ ⟨0, 0, []⟩ (Nat.zero_le _) (Nat.zero_le _)
    rw [sameH_self] at hS
    have h0 : ([] : List Int).length = 0 := rfl
    refine fng_go1 tabOk Tryd.func8 rfl (by kernel_rfl) Tryd.ntmps8 Tryd.results8 (by decide) ?_
    repeat first | refine Ua ?_ | refine Ub ?_ | refine Uc ?_ | refine Ud ?_ | refine Ue ?_ | refine Ug ⟨by kernel_rfl, ?_⟩ | refine Ug ?_ | refine Uh ?_ | refine Ui ?_ | refine Uj ?_ | refine Uk rfl ?_ | refine Ul rfl ?_ | refine Um ?_ | refine Un ?_ | refine Uo ?_ | refine Up rfl ?_ | refine Uq ?_ | refine Ur ?_ | refine Us ?_ | refine Ut ?_ | refine Uu ?_ | refine Ux ?_ | refine Uv rfl rfl rfl rfl ?_ | refine Uw rfl rfl rfl ?_ | refine U0 z0 ?_ | refine U1 z1 ?_ | refine U9 zs ?_
    refine ax_cond rfl (fun hb0 => ?_) (fun hb0 => ?_)
    · repeat first | refine Ua ?_ | refine Ub ?_ | refine Uc ?_ | refine Ud ?_ | refine Ue ?_ | refine Ug ⟨by kernel_rfl, ?_⟩ | refine Ug ?_ | refine Uh ?_ | refine Ui ?_ | refine Uj ?_ | refine Uk rfl ?_ | refine Ul rfl ?_ | refine Um ?_ | refine Un ?_ | refine Uo ?_ | refine Up rfl ?_ | refine Uq ?_ | refine Ur ?_ | refine Us ?_ | refine Ut ?_ | refine Uu ?_ | refine Ux ?_ | refine Uv rfl rfl rfl rfl ?_ | refine Uw rfl rfl rfl ?_ | refine U0 z0 ?_ | refine U1 z1 ?_ | refine U9 zs ?_
      exact ⟨.inl rfl, Rx⟩
    repeat first | refine Ua ?_ | refine Ub ?_ | refine Uc ?_ | refine Ud ?_ | refine Ue ?_ | refine Ug ⟨by kernel_rfl, ?_⟩ | refine Ug ?_ | refine Uh ?_ | refine Ui ?_ | refine Uj ?_ | refine Uk rfl ?_ | refine Ul rfl ?_ | refine Um ?_ | refine Un ?_ | refine Uo ?_ | refine Up rfl ?_ | refine Uq ?_ | refine Ur ?_ | refine Us ?_ | refine Ut ?_ | refine Uu ?_ | refine Ux ?_ | refine Af (h := ?_) | refine At (h := ?_) | refine Uv rfl rfl rfl rfl ?_ | refine Uw rfl rfl rfl ?_ | refine U0 (by first | (apply st_call (hfn := hH ); exact rfl; exact fz) | (apply st_call (hfn := hS ); exact rfl; exact fz) | (apply st_call (hfn := alive_fn ); exact rfl; exact fz) | exact x0 | exact z0 | fail) ?_ | refine U1 (by first | (apply st_callg_hv (hfn := hR ); exact rfl; exact fz; iterate 3 exact rfl) | (apply st_call_hv (hfn := hR2 ); exact rfl; exact fz; iterate 2 exact rfl) | exact x1 | exact z1 | fail) ?_ | refine U9 zs ?_ | refine Kf (h := ?_) | refine Kt (h := ?_)
    exact ⟨.inl rfl, Rx⟩
  · have H := readF_true hb
    have hl := readF_len (s := s)
    obtain ⟨X, hX⟩ : ∃ X, X = (readF s).1 := ⟨_, rfl⟩
    rw [← hX] at H hl
    have e : readF s = (X, true) := Prod.ext hX.symm hb
    rw [e] at hR hR2
    dsimp only at hR hR2
    have hS := sameHall_fn X X hl hl
    rw [sameH_self] at hS
    have hV := hallValid_fn X hl
    rw [H.1] at hV
    have hT := hallText_fn X hl
    rw [H.2] at hT
    have hR3 := readHall_fn m (s ++ [47]) (by simp; omega)
    rw [readF_no fun h hh => isText_slash hh] at hR3
    dsimp only at hR3
    refine fng_go1 tabOk Tryd.func8 rfl (by kernel_rfl) Tryd.ntmps8 Tryd.results8 (by decide) ?_
    repeat first | refine Ua ?_ | refine Ub ?_ | refine Uc ?_ | refine Ud ?_ | refine Ue ?_ | refine Ug ⟨by kernel_rfl, ?_⟩ | refine Ug ?_ | refine Uh ?_ | refine Ui ?_ | refine Uj ?_ | refine Uk rfl ?_ | refine Ul rfl ?_ | refine Um ?_ | refine Un ?_ | refine Uo ?_ | refine Up rfl ?_ | refine Uq ?_ | refine Ur ?_ | refine Us ?_ | refine Ut ?_ | refine Uu ?_ | refine Ux ?_ | refine Uv rfl rfl rfl rfl ?_ | refine Uw rfl rfl rfl ?_ | refine U0 z0 ?_ | refine U1 z1 ?_ | refine U9 zs ?_
    refine ax_cond rfl (fun hb0 => ?_) (fun hb0 => ?_)
    · repeat first | refine Ua ?_ | refine Ub ?_ | refine Uc ?_ | refine Ud ?_ | refine Ue ?_ | refine Ug ⟨by kernel_rfl, ?_⟩ | refine Ug ?_ | refine Uh ?_ | refine Ui ?_ | refine Uj ?_ | refine Uk rfl ?_ | refine Ul rfl ?_ | refine Um ?_ | refine Un ?_ | refine Uo ?_ | refine Up rfl ?_ | refine Uq ?_ | refine Ur ?_ | refine Us ?_ | refine Ut ?_ | refine Uu ?_ | refine Ux ?_ | refine Uv rfl rfl rfl rfl ?_ | refine Uw rfl rfl rfl ?_ | refine U0 z0 ?_ | refine U1 z1 ?_ | refine U9 zs ?_
      exact ⟨.inl rfl, Rx⟩
    repeat first | refine Ua ?_ | refine Ub ?_ | refine Uc ?_ | refine Ud ?_ | refine Ue ?_ | refine Ug ⟨by kernel_rfl, ?_⟩ | refine Ug ?_ | refine Uh ?_ | refine Ui ?_ | refine Uj ?_ | refine Uk rfl ?_ | refine Ul rfl ?_ | refine Um ?_ | refine Un ?_ | refine Uo ?_ | refine Up rfl ?_ | refine Uq ?_ | refine Ur ?_ | refine Us ?_ | refine Ut ?_ | refine Uu ?_ | refine Ux ?_ | refine Af (h := ?_) | refine At (h := ?_) | refine Uv rfl rfl rfl rfl ?_ | refine Uw rfl rfl rfl ?_ | refine U0 (by first | (apply st_call (hfn := hH ); exact rfl; exact fz) | (apply st_call (hfn := hS ); exact rfl; exact fz) | (apply st_call (hfn := hV ); exact rfl; exact fz) | (apply st_call (hfn := hT ); exact rfl; exact fz) | (apply st_teq0; iterate 3 exact rfl) | exact x0 | exact z0 | fail) ?_ | refine U1 (by first | (apply st_callg_hv (hfn := hR ); exact rfl; exact fz; iterate 3 exact rfl) | (apply st_call_hv (hfn := hR2 ); exact rfl; exact fz; iterate 2 exact rfl) | (apply st_callg_hv (hfn := hR3 ); exact rfl; exact fz; iterate 3 exact rfl) | exact x1 | exact z1 | fail) ?_ | refine U9 zs ?_ | refine Kf (h := ?_) | refine Kt (h := ?_)
    exact ⟨.inl rfl, Rx⟩

theorem fnReadHall_walk (w : World) (m : Int) (htab : TabW 1 [.v (.int .i64 m)] w) (v0 : Value) (b0 : List Int) (q0 : RawBytes w v0 b0) : Calls Tryd.prog 8 #[v0] w (Gives (.bool true) w) := by
  refine ((fnReadHall_fn m v0 b0 q0.choose_spec.choose_spec.2.2.2.2).2 w [v0] htab (by simp only [pureL, pureV]; exact ⟨pure_byts b0, trivial⟩) (by simp only [relL]; exact ⟨_, _, rfl, rel_of_rawBytes q0, rfl⟩)).mono fun e w' hh => gives_v_of hh

set_option maxRecDepth 100000 in
theorem fnReadHall_lifted (os : Os) (started : os.Started) (H : Type) (enc : TypeId × Value → H) :
    ReturnsInHanded {} Tryd.checked os 8 .any (fun w args => (Rows.fnReadHallSpec.pre enc Tryd.prog Tryd.f8 Rows.fnReadHallRow.domain false w args ∧ laidMetH Tryd.prog laidR w) ∧ sizedMet enc Tryd.prog Tryd.f8 (OpenSpec.ofChange Rows.fnReadHallSpec) false w args)
      (Rows.fnReadHallSpec.post enc Tryd.prog Tryd.f8 false true false false) := by
  refine handed_shaped (C := Tryd.checked) (X := fun w _ => laidMetH Tryd.prog laidR w) (fun _ _ _ hh h => h.of_heap hh) Tryd.own started (by kernel_rfl) Tryd.func8
    (ChangeSpec.witness_shaped (enc := enc) (C := Tryd.checked) (os := os) (X := fun w _ => laidMetH Tryd.prog laidR w) false (World.laidAll Tryd.prog os laidR) #[.slice none 0 0] 8 (World.laidAll_os _ _ _) (World.shaped_of_ZipB (by kernel_rfl) (by kernel_rfl)) (by kernel_rfl) (by kernel_rfl) (by kernel_rfl) (laidR_met os _)) ?_
  intro W base args ds gs before hval0 hW hSh
  obtain ⟨m, htab⟩ := maxLen_tab hSh
  have hval : ∀ (j : Nat) t v, Tryd.f8.params[j]? = some t → args[j]? = some v → Value.okWide Tryd.prog W .any base t v := hval0
  have hW' := hW
  obtain ⟨p, q, hA0, hV, rfl, hfz, hnd⟩ := hW
  have hA : DataW.TrodAll enc Tryd.prog W 0 (fun _ => true) true Tryd.f8.params.toList args.toList ds p := hA0
  rw [Tryd.params8] at hA hval
  obtain ⟨v0, vs0, d0, ds0, p0, q0, hargs, rfl, rfl, h0, r0⟩ := trodAll_cons hA
  obtain ⟨rfl, rfl, rfl⟩ := trodAll_nil r0
  obtain rfl : args = #[v0] := by cases args; simp_all
  obtain ⟨rfl, rfl⟩ := trodVars_none hV
  have lt0 := lt_of_trod h0
  obtain ⟨b0, w0⟩ := open_raw_bytes_arg (fun _ => rfl) (hval 0 22 v0 rfl rfl) h0
  clear hA0 hval0
  refine (fnReadHall_walk W m htab v0 b0 w0).mono fun e W' ⟨he, bel⟩ => ?_
  subst he
  exact ⟨_, rfl, _, _, _, [], _, [], hW', trodAll_mk1 (shut_bool Tryd.underlying4 _), (trodAll_cons_mk (Below.trod Tryd.laidOut (by kernel_rfl) (of_decide_eq_true (by kernel_rfl)) h0 bel lt0) trodAll_mk0), rfl, bel.frame _, fun h => by cases h⟩

theorem fnReadHall_over : Rows.fnReadHallRow.holds Tryd.pinned (OpenSpec.ofChange Rows.fnReadHallSpec) :=
  OpenClaim.holds_of_wide 8 Tryd.f8 rfl rfl rfl rfl rfl rfl rfl ⟨rfl, rfl, rfl, rfl, rfl⟩ rfl rfl rfl rfl rfl (by kernel_rfl) Tryd.func8 (by kernel_rfl)
    (of_decide_eq_true (by kernel_rfl)) (by unfold Func.isWrapper; rw [if_neg (of_decide_eq_false (by kernel_rfl))]; exact ⟨rfl, rfl⟩)
    (fun os started H enc _ => fnReadHall_lifted os started H enc)

theorem fnReadHall_holds : Rows.FnReadHallCardSaid :=
  Claim7.holds_tied_plain_at .later [] [.data, .data, .data, .data, .pinned] true mainIsB false
    fnReadHall_over (fun _ h => by cases h) (by kernel_rfl) (fun _ h => by cases h) fnReadHall_row_tie rfl ⟨rfl, rfl⟩ mainFact rfl
    (fun f fn hf hfn => by
      obtain rfl : f = 8 := Option.some.inj ((show Tryd.prog.funcNamed "loop.example/parkinghouse/laws.FnReadHall" = some 8 by kernel_rfl).symm.trans hf) |>.symm
      obtain rfl : fn = Tryd.f8 := (Option.some.inj (Tryd.func8.symm.trans hfn)).symm
      exact ⟨noLooks, fun j t ht => by
        rw [Tryd.params8] at ht
        have hm : t ∈ [22] := by simpa using Array.mem_of_getElem? ht
        have hall : ([22].all fun u => !Tryd.prog.wantsStandIn u) = true := by kernel_rfl
        exact (show Tryd.prog.wantsStandIn t = false by simpa using List.all_eq_true.1 hall t hm)⟩)
    (by kernel_rfl)

#print axioms fnReadHall_holds

end Go.Proofs.YtnfjmcenjpoloaaDoor
