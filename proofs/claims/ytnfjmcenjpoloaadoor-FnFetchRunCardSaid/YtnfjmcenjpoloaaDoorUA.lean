/-
  BringPlan of the reference and of the program.
-/
import Derived.Test.YtnfjmcenjpoloaaDoorU9
import Derived.Test.YtnfjmcenjpoloaaDoorU8
set_option linter.unusedVariables false
set_option linter.unusedSimpArgs false
set_option maxRecDepth 100000
namespace Go.Proofs.YtnfjmcenjpoloaaDoor
open Go Go.RowKit Go.Park Go.Sym

theorem find_ok {h : PHall} {id : Int} (hf : ¬ hallFindF h id < 0) : validB h = true ∧ 1 ≤ id ∧ hallFindF h id < h.cells.length ∧ gi h.cells (hallFindF h id).toNat = id := by
  unfold hallFindF at hf ⊢
  by_cases hc : validB h = true ∧ 1 ≤ id
  · rw [if_pos hc] at hf ⊢
    have key : ∀ n, idxTo h.cells id n ≠ -1 → 0 ≤ idxTo h.cells id n ∧ idxTo h.cells id n < n ∧ gi h.cells (idxTo h.cells id n).toNat = id := by
      intro n
      induction n with
      | zero => intro h; simp [idxTo] at h
      | succ n ih =>
        intro hn
        by_cases h1 : idxTo h.cells id n = -1
        · by_cases h2 : gi h.cells n = id
          · have : idxTo h.cells id (n+1) = n := by simp [idxTo, h1, h2]
            rw [this]
            exact ⟨by omega, by omega, by simpa using h2⟩
          · exact absurd (idxTo_no h1 h2) hn
        · have : idxTo h.cells id (n+1) = idxTo h.cells id n := by simp [idxTo, h1]
          rw [this]
          obtain ⟨a, b, c⟩ := ih h1
          exact ⟨a, by omega, c⟩
    obtain ⟨a, b, c⟩ := key h.cells.length (by omega)
    exact ⟨hc.1, hc.2, b, c⟩
  · rw [if_neg hc] at hf; omega
theorem planned_start {h : PHall} {id : Int} (hf : ¬ hallFindF h id < 0) (hfr : 0 < hallFindF h id → hallFreeF h ≠ []) : Planned h (hallFindF h id) 12 h (hallFindF h id) [] := by
  obtain ⟨hv, h1, h2, h3⟩ := find_ok hf
  have := (valid_len hv).2
  exact ⟨hv, rfl, rfl, rfl, by omega, by omega, by omega, h2, fun _ => by rw [h3]; omega, hfr, rfl, by simp⟩
set_option maxHeartbeats 4000000 in
theorem bringPlan_fn (h : PHall) (hl : h.cells.length ≤ lim) (id : Int) : FnS Tryd.prog 33 [hallV h, .int id] (.tup [slcV (bringPlanF h id).1, .bool (bringPlanF h id).2]) := by
  have hl' : h.cells.length ≤ 1073741824 := hl
  refine fn_go2 tabOk Tryd.func33 rfl (by kernel_rfl) Tryd.ntmps33 Tryd.results33 (by decide) ?_
  repeat first | refine Ua ?_ | refine Ub ?_ | refine Uc ?_ | refine Ud ?_ | refine Ue ?_ | refine Ug ⟨by kernel_rfl, ?_⟩ | refine Ug ?_ | refine Uh ?_ | refine Ui ?_ | refine Uj ?_ | refine Uk rfl ?_ | refine Ul rfl ?_ | refine Um ?_ | refine Un ?_ | refine Uo ?_ | refine Up rfl ?_ | refine Uq ?_ | refine Ur ?_ | refine Us ?_ | refine Ut ?_ | refine Uu ?_ | refine Ux ?_ | refine Uv rfl rfl rfl rfl ?_ | refine Uw rfl rfl rfl ?_ | refine U0 (by first | (apply st_call (hfn := hallFind_fn h hl id ); exact rfl; exact fz) | exact z0 | fail) ?_ | refine U1 z1 ?_ | refine U9 zs ?_
  refine rh_split rfl rfl (fun hb => ?_) (fun hb => ?_)
  · have hF : bringPlanF h id = ([], false) := by simp at hb; simp [bringPlanF, hb]
    rw [hF]
    repeat first | refine Ua ?_ | refine Ub ?_ | refine Uc ?_ | refine Ud ?_ | refine Ue ?_ | refine Ug ⟨by kernel_rfl, ?_⟩ | refine Ug ?_ | refine Uh ?_ | refine Ui ?_ | refine Uj ?_ | refine Uk rfl ?_ | refine Ul rfl ?_ | refine Um ?_ | refine Un ?_ | refine Uo ?_ | refine Up rfl ?_ | refine Uq ?_ | refine Ur ?_ | refine Us ?_ | refine Ut ?_ | refine Uu ?_ | refine Ux ?_ | refine Uv rfl rfl rfl rfl ?_ | refine Uw rfl rfl rfl ?_ | refine U0 z0 ?_ | refine U1 z1 ?_ | refine U9 zs ?_
    exact ⟨.inl rfl, Rx⟩
  have hf : ¬ hallFindF h id < 0 := by simpa using hb
  repeat first | refine Ua ?_ | refine Ub ?_ | refine Uc ?_ | refine Ud ?_ | refine Ue ?_ | refine Ug ⟨by kernel_rfl, ?_⟩ | refine Ug ?_ | refine Uh ?_ | refine Ui ?_ | refine Uj ?_ | refine Uk rfl ?_ | refine Ul rfl ?_ | refine Um ?_ | refine Un ?_ | refine Uo ?_ | refine Up rfl ?_ | refine Uq ?_ | refine Ur ?_ | refine Us ?_ | refine Ut ?_ | refine Uu ?_ | refine Ux ?_ | refine Uv rfl rfl rfl rfl ?_ | refine Uw rfl rfl rfl ?_ | refine U0 z0 ?_ | refine U1 z1 ?_ | refine U9 zs ?_
  refine rh_split rfl rfl (fun hb1 => ?_) (fun hb1 => ?_)
  · have ha0 : 0 < hallFindF h id := by simpa using hb1
    repeat first | refine Ua ?_ | refine Ub ?_ | refine Uc ?_ | refine Ud ?_ | refine Ue ?_ | refine Ug ⟨by kernel_rfl, ?_⟩ | refine Ug ?_ | refine Uh ?_ | refine Ui ?_ | refine Uj ?_ | refine Uk rfl ?_ | refine Ul rfl ?_ | refine Um ?_ | refine Un ?_ | refine Uo ?_ | refine Up rfl ?_ | refine Uq ?_ | refine Ur ?_ | refine Us ?_ | refine Ut ?_ | refine Uu ?_ | refine Ux ?_ | refine Uv rfl rfl rfl rfl ?_ | refine Uw rfl rfl rfl ?_ | refine U0 z0 ?_ | refine U1 (by first | (apply st_call_s (hfn := hallFree_fn h hl ); exact rfl; exact fz; iterate 2 exact rfl) | exact z1 | fail) ?_ | refine U9 zs ?_
    refine ax_cond rfl (fun hb2 => ?_) (fun hb2 => ?_)
    · have hF : bringPlanF h id = ([], false) := by simp at hb2; simp [bringPlanF, ha0, hb2]
      rw [hF]
      repeat first | refine Ua ?_ | refine Ub ?_ | refine Uc ?_ | refine Ud ?_ | refine Ue ?_ | refine Ug ⟨by kernel_rfl, ?_⟩ | refine Ug ?_ | refine Uh ?_ | refine Ui ?_ | refine Uj ?_ | refine Uk rfl ?_ | refine Ul rfl ?_ | refine Um ?_ | refine Un ?_ | refine Uo ?_ | refine Up rfl ?_ | refine Uq ?_ | refine Ur ?_ | refine Us ?_ | refine Ut ?_ | refine Uu ?_ | refine Ux ?_ | refine Uv rfl rfl rfl rfl ?_ | refine Uw rfl rfl rfl ?_ | refine U0 z0 ?_ | refine U1 z1 ?_ | refine U9 zs ?_
      exact ⟨.inl rfl, Rx⟩
    have hfr : hallFreeF h ≠ [] := by simpa using hb2
    have hF : bringPlanF h id = (planG 12 h (hallFindF h id), true) := by unfold bringPlanF; rw [if_neg (by rintro (e | e); exact hf e; exact hfr e.2)]
    have hv := (find_ok hf).1
    have h12 := (valid_len hv).2
    have hsz := valid_size hv
    rw [hF]
    repeat first | refine Ua ?_ | refine Ub ?_ | refine Uc ?_ | refine Ud ?_ | refine Ue ?_ | refine Ug ⟨by kernel_rfl, ?_⟩ | refine Ug ?_ | refine Uh ?_ | refine Ui ?_ | refine Uj ?_ | refine Uk rfl ?_ | refine Ul rfl ?_ | refine Um ?_ | refine Un ?_ | refine Uo ?_ | refine Up rfl ?_ | refine Uq ?_ | refine Ur ?_ | refine Us ?_ | refine Ut ?_ | refine Uu ?_ | refine Ux ?_ | refine Uv rfl rfl rfl rfl ?_ | refine Uw rfl rfl rfl ?_ | refine U0 z0 ?_ | refine U1 (by first | (apply st_call_h (hfn := copyHall_fn h hl (valid_ne hv) ); exact rfl; exact fz; iterate 2 exact rfl) | exact z1 | fail) ?_ | refine U9 zs ?_
    refine ax_loop (fun i : Nat × PHall × Int × List (Int × Int) => mkS [(6, .int i.2.2.1), (7, .own 5 0), (8, .ptr 4 0 0), (2, .ptr 1 0 0)] ⟨6, [(1, some (hallRow h)), (3, some (intsRow i.2.1.cells)), (4, some (boxRow i.2.1.wide i.2.1.deep 3 0)), (5, some (slcRow i.2.2.2))]⟩) (fun i => Planned h (hallFindF h id) i.1 i.2.1 i.2.2.1 i.2.2.2) (fun i => i.1) ((12, h, hallFindF h id, [])) (planned_start hf fun _ => hfr) (Lw (ρ := [])) ?_
    rintro ⟨F, now, a, plan⟩ p
    replace p : Planned h (hallFindF h id) F now a plan := p
    dsimp only
    have pl := p.len
    have pv := p.valid
    have nl : now.cells.length ≤ lim := by omega
    have psh := p.short
    have ph := p.high
    have pw := p.wide
    have plo := p.low
    repeat first | refine Ua ?_ | refine Ub ?_ | refine Uc ?_ | refine Ud ?_ | refine Ue ?_ | refine Ug ⟨by kernel_rfl, ?_⟩ | refine Ug ?_ | refine Uh ?_ | refine Ui ?_ | refine Uj ?_ | refine Uk rfl ?_ | refine Ul rfl ?_ | refine Um ?_ | refine Un ?_ | refine Uo ?_ | refine Up rfl ?_ | refine Uq ?_ | refine Ur ?_ | refine Us ?_ | refine Ut ?_ | refine Uu ?_ | refine Ux ?_ | refine Uv rfl rfl rfl rfl ?_ | refine Uw rfl rfl rfl ?_ | refine U0 z0 ?_ | refine U1 z1 ?_ | refine U9 zs ?_
    refine ax_cond rfl (fun hb3 => ?_) (fun hb3 => ?_)
    · have ha : 0 < a := by simpa using hb3
      obtain ⟨F, rfl⟩ : ∃ F', F = F' + 1 := ⟨F - 1, by have := p.few; omega⟩
      have hT := tgt_good pv ha (by omega)
      have hS := step_ok pv ha (by omega) (p.car ha) (p.free ha)
      have hss := hS.short
      repeat first | refine Ua ?_ | refine Ub ?_ | refine Uc ?_ | refine Ud ?_ | refine Ue ?_ | refine Ug ⟨by kernel_rfl, ?_⟩ | refine Ug ?_ | refine Uh ?_ | refine Ui ?_ | refine Uj ?_ | refine Uk rfl ?_ | refine Ul rfl ?_ | refine Um ?_ | refine Un ?_ | refine Uo ?_ | refine Up rfl ?_ | refine Uq ?_ | refine Ur ?_ | refine Us ?_ | refine Ut ?_ | refine Uu ?_ | refine Ux ?_ | refine Uv rfl rfl rfl rfl ?_ | refine Uw rfl rfl rfl ?_ | refine U0 z0 ?_ | refine U1 z1 ?_ | refine U9 zs ?_
      refine ax_meet (mkS [(9, .int (tgtG now.wide a)), (6, .int a), (7, .own 5 0), (8, .ptr 4 0 0), (2, .ptr 1 0 0)] ⟨6, [(1, some (hallRow h)), (3, some (intsRow now.cells)), (4, some (boxRow now.wide now.deep 3 0)), (5, some (slcRow plan))]⟩) ?_ ?_
      · refine ax_cond rfl (fun hb4 => ?_) (fun hb4 => ?_)
        · have e1 : tgtG now.wide a = a - 1 := by simp at hb4; unfold tgtG; rw [pw, if_pos (by omega)]
          repeat first | refine Ua ?_ | refine Ub ?_ | refine Uc ?_ | refine Ud ?_ | refine Ue ?_ | refine Ug ⟨by kernel_rfl, ?_⟩ | refine Ug ?_ | refine Uh ?_ | refine Ui ?_ | refine Uj ?_ | refine Uk rfl ?_ | refine Ul rfl ?_ | refine Um ?_ | refine Un ?_ | refine Uo ?_ | refine Up rfl ?_ | refine Uq ?_ | refine Ur ?_ | refine Us ?_ | refine Ut ?_ | refine Uu ?_ | refine Ux ?_ | refine Uv rfl rfl rfl rfl ?_ | refine Uw rfl rfl rfl ?_ | refine U0 z0 ?_ | refine U1 z1 ?_ | refine U9 zs ?_
          refine meet_here (weak_of [] (by repeat first | exact .nil | refine LeEs.cons ?_ ?_ | exact .v (by first | rfl | (rw [e1])) | exact .own rfl rfl rfl rfl rfl | exact .ptr rfl rfl rfl rfl rfl rfl | exact .nil rfl rfl rfl | exact .sl (by first | rfl | (rw [e1])) | exact .both rfl rfl | exact .frz rfl rfl rfl rfl rfl (by first | rfl | (rw [e1])) rfl | exact .tab rfl | exact .any _) (by repeat first | exact .nil | refine LeHs.keep rfl ⟨rfl, rfl, rfl, .inl ⟨rfl, by first | rfl | (rw [e1])⟩⟩ ?_ | refine LeHs.keep rfl ⟨rfl, rfl, rfl, .inr ⟨(by first | exact .inl rfl | exact .inr rfl), by repeat first | exact .nil | refine LeVL.cons ?_ ?_ | exact .v (by first | rfl | (rw [e1])) | exact .own rfl rfl rfl rfl rfl | exact .sl (by first | rfl | (rw [e1])) | exact .both rfl rfl | exact .frz rfl rfl rfl rfl rfl (by first | rfl | (rw [e1])) rfl⟩⟩ ?_ | refine LeHs.fresh rfl rfl rfl (Nat.succ_pos _) rfl ?_) rfl rfl)
        · have e1 : tgtG now.wide a = a - h.wide := by simp at hb4; unfold tgtG; rw [pw, if_neg (by omega)]
          repeat first | refine Ua ?_ | refine Ub ?_ | refine Uc ?_ | refine Ud ?_ | refine Ue ?_ | refine Ug ⟨by kernel_rfl, ?_⟩ | refine Ug ?_ | refine Uh ?_ | refine Ui ?_ | refine Uj ?_ | refine Uk rfl ?_ | refine Ul rfl ?_ | refine Um ?_ | refine Un ?_ | refine Uo ?_ | refine Up rfl ?_ | refine Uq ?_ | refine Ur ?_ | refine Us ?_ | refine Ut ?_ | refine Uu ?_ | refine Ux ?_ | refine Uv rfl rfl rfl rfl ?_ | refine Uw rfl rfl rfl ?_ | refine U0 z0 ?_ | refine U1 z1 ?_ | refine U9 zs ?_
          refine meet_here (weak_of [] (by repeat first | exact .nil | refine LeEs.cons ?_ ?_ | exact .v (by first | rfl | (rw [e1])) | exact .own rfl rfl rfl rfl rfl | exact .ptr rfl rfl rfl rfl rfl rfl | exact .nil rfl rfl rfl | exact .sl (by first | rfl | (rw [e1])) | exact .both rfl rfl | exact .frz rfl rfl rfl rfl rfl (by first | rfl | (rw [e1])) rfl | exact .tab rfl | exact .any _) (by repeat first | exact .nil | refine LeHs.keep rfl ⟨rfl, rfl, rfl, .inl ⟨rfl, by first | rfl | (rw [e1])⟩⟩ ?_ | refine LeHs.keep rfl ⟨rfl, rfl, rfl, .inr ⟨(by first | exact .inl rfl | exact .inr rfl), by repeat first | exact .nil | refine LeVL.cons ?_ ?_ | exact .v (by first | rfl | (rw [e1])) | exact .own rfl rfl rfl rfl rfl | exact .sl (by first | rfl | (rw [e1])) | exact .both rfl rfl | exact .frz rfl rfl rfl rfl rfl (by first | rfl | (rw [e1])) rfl⟩⟩ ?_ | refine LeHs.fresh rfl rfl rfl (Nat.succ_pos _) rfl ?_) rfl rfl)
      have hfn := p.free ha
      have hfl := free_len now
      have hways : ∀ j, j < (hallFreeF now).length → wayOk now (gi (hallFreeF now) j) (tgtG now.wide a) a = true := fun j hj => by
        obtain ⟨_, c0, c1, c2⟩ := free_cell hj
        have := hT.low
        have := hT.less
        refine wayOk_iff.2 ⟨pv, ⟨c0, c1⟩, ⟨by omega, by omega⟩, ⟨by omega, by omega⟩, fun e => p.car ha (by rw [e]; exact c2), by omega⟩
      have hnp : ∀ k, k < (hallFreeF now).length → 0 < (nearS now (tgtG now.wide a) a (hallFreeF now) (k+1)).length := fun k hk => List.length_pos_iff.2 (near_some (fun j hj => List.length_pos_iff.1 (way_good (hways j hj)).pos) k hk)
      have hf0 : 0 < (hallFreeF now).length := List.length_pos_iff.2 hfn
      repeat first | refine Ua ?_ | refine Ub ?_ | refine Uc ?_ | refine Ud ?_ | refine Ue ?_ | refine Ug ⟨by kernel_rfl, ?_⟩ | refine Ug ?_ | refine Uh ?_ | refine Ui ?_ | refine Uj ?_ | refine Uk rfl ?_ | refine Ul rfl ?_ | refine Um ?_ | refine Un ?_ | refine Uo ?_ | refine Up rfl ?_ | refine Uq ?_ | refine Ur ?_ | refine Us ?_ | refine Ut ?_ | refine Uu ?_ | refine Ux ?_ | refine Uv rfl rfl rfl rfl ?_ | refine Uw rfl rfl rfl ?_ | refine U0 z0 ?_ | refine U1 (by first | (apply st_call_s (hfn := hallFree_fn now nl ); exact rfl; exact fz; iterate 2 exact rfl) | exact z1 | fail) ?_ | refine U9 zs ?_
      refine ax_loop (fun k : Nat => match k with | 0 => mkS [(47, .int ((0 : Nat) : Int)), (10, .v (.slice none 0 0)), (46, .int ((hallFreeF now).length : Int)), (45, .own 6 0), (9, .int (tgtG now.wide a)), (6, .int a), (7, .own 5 0), (8, .ptr 4 0 0), (2, .ptr 1 0 0)] ⟨7, [(1, some (hallRow h)), (3, some (intsRow now.cells)), (4, some (boxRow now.wide now.deep 3 0)), (5, some (slcRow plan)), (6, some (intsRow (hallFreeF now)))]⟩ | k+1 => mkS [(47, .int ((k + 1 : Nat) : Int)), (10, .own 7 0), (46, .int ((hallFreeF now).length : Int)), (45, .own 6 0), (9, .int (tgtG now.wide a)), (6, .int a), (7, .own 5 0), (8, .ptr 4 0 0), (2, .ptr 1 0 0)] ⟨8, [(1, some (hallRow h)), (3, some (intsRow now.cells)), (4, some (boxRow now.wide now.deep 3 0)), (5, some (slcRow plan)), (6, some (intsRow (hallFreeF now))), (7, some (intsRow (nearS now (tgtG now.wide a) a (hallFreeF now) (k+1))))]⟩) (fun k => k ≤ (hallFreeF now).length) (fun k => (hallFreeF now).length - k) (0) (Nat.zero_le _) (Lw (ρ := [])) ?_
      rintro k hk
      cases k with
      | zero =>
        repeat first | refine Ua ?_ | refine Ub ?_ | refine Uc ?_ | refine Ud ?_ | refine Ue ?_ | refine Ug ⟨by kernel_rfl, ?_⟩ | refine Ug ?_ | refine Uh ?_ | refine Ui ?_ | refine Uj ?_ | refine Uk rfl ?_ | refine Ul rfl ?_ | refine Um ?_ | refine Un ?_ | refine Uo ?_ | refine Up rfl ?_ | refine Uq ?_ | refine Ur ?_ | refine Us ?_ | refine Ut ?_ | refine Uu ?_ | refine Ux ?_ | refine Uv rfl rfl rfl rfl ?_ | refine Uw rfl rfl rfl ?_ | refine U0 z0 ?_ | refine U1 z1 ?_ | refine U9 zs ?_
        refine ax_cond rfl (fun hb5 => ?_) (fun hb5 => ?_)
        · have hw := (way_good (hways 0 hf0)).pos
          have e1 : nearS now (tgtG now.wide a) a (hallFreeF now) (0 + 1) = wayF now (gi (hallFreeF now) 0) (tgtG now.wide a) a := near_yes hw (.inl rfl)
          repeat first | refine Ua ?_ | refine Ub ?_ | refine Uc ?_ | refine Ud ?_ | refine Ue ?_ | refine Ug ⟨by kernel_rfl, ?_⟩ | refine Ug ?_ | refine Uh ?_ | refine Ui ?_ | refine Uj ?_ | refine Uk rfl ?_ | refine Ul rfl ?_ | refine Um ?_ | refine Un ?_ | refine Uo ?_ | refine Up rfl ?_ | refine Uq ?_ | refine Ur ?_ | refine Us ?_ | refine Ut ?_ | refine Uu ?_ | refine Ux ?_ | refine Af (h := ?_) | refine At (h := ?_) | refine Uv rfl rfl rfl rfl ?_ | refine Uw rfl rfl rfl ?_ | refine U0 z0 ?_ | refine U1 (by first | (apply st_call_s (hfn := wayCells_fn now nl (gi (hallFreeF now) 0) (tgtG now.wide a) a ); exact rfl; exact fz; iterate 2 exact rfl) | exact z1 | fail) ?_ | refine U9 zs ?_ | refine Kf (h := ?_) | refine Kt (h := ?_)
          refine round_next (0 + 1) (hf0) (by omega) (weak_of [] (by repeat first | exact .nil | refine LeEs.cons ?_ ?_ | exact .v (by first | rfl | (rw [e1])) | exact .own rfl rfl rfl rfl rfl | exact .ptr rfl rfl rfl rfl rfl rfl | exact .nil rfl rfl rfl | exact .sl (by first | rfl | (rw [e1])) | exact .both rfl rfl | exact .frz rfl rfl rfl rfl rfl (by first | rfl | (rw [e1])) rfl | exact .tab rfl | exact .any _) (by repeat first | exact .nil | refine LeHs.keep rfl ⟨rfl, rfl, rfl, .inl ⟨rfl, by first | rfl | (rw [e1])⟩⟩ ?_ | refine LeHs.keep rfl ⟨rfl, rfl, rfl, .inr ⟨(by first | exact .inl rfl | exact .inr rfl), by repeat first | exact .nil | refine LeVL.cons ?_ ?_ | exact .v (by first | rfl | (rw [e1])) | exact .own rfl rfl rfl rfl rfl | exact .sl (by first | rfl | (rw [e1])) | exact .both rfl rfl | exact .frz rfl rfl rfl rfl rfl (by first | rfl | (rw [e1])) rfl⟩⟩ ?_ | refine LeHs.fresh rfl rfl rfl (Nat.succ_pos _) rfl ?_) rfl rfl)
        · simp at hb5; exact absurd hb5 hfn
      | succ k =>
        have hp := hnp k hk
        have hnl := near_len now (tgtG now.wide a) a (hallFreeF now) (k + 1)
        repeat first | refine Ua ?_ | refine Ub ?_ | refine Uc ?_ | refine Ud ?_ | refine Ue ?_ | refine Ug ⟨by kernel_rfl, ?_⟩ | refine Ug ?_ | refine Uh ?_ | refine Ui ?_ | refine Uj ?_ | refine Uk rfl ?_ | refine Ul rfl ?_ | refine Um ?_ | refine Un ?_ | refine Uo ?_ | refine Up rfl ?_ | refine Uq ?_ | refine Ur ?_ | refine Us ?_ | refine Ut ?_ | refine Uu ?_ | refine Ux ?_ | refine Uv rfl rfl rfl rfl ?_ | refine Uw rfl rfl rfl ?_ | refine U0 z0 ?_ | refine U1 z1 ?_ | refine U9 zs ?_
        refine ax_cond rfl (fun hb5 => ?_) (fun hb5 => ?_)
        · have hlt : k + 1 < (hallFreeF now).length := by simp at hb5; omega
          have hw := (way_good (hways (k+1) hlt)).pos
          have hw12 := way_len now (gi (hallFreeF now) (k+1)) (tgtG now.wide a) a
          repeat first | refine Ua ?_ | refine Ub ?_ | refine Uc ?_ | refine Ud ?_ | refine Ue ?_ | refine Ug ⟨by kernel_rfl, ?_⟩ | refine Ug ?_ | refine Uh ?_ | refine Ui ?_ | refine Uj ?_ | refine Uk rfl ?_ | refine Ul rfl ?_ | refine Um ?_ | refine Un ?_ | refine Uo ?_ | refine Up rfl ?_ | refine Uq ?_ | refine Ur ?_ | refine Us ?_ | refine Ut ?_ | refine Uu ?_ | refine Ux ?_ | refine Uv rfl rfl rfl rfl ?_ | refine Uw rfl rfl rfl ?_ | refine U0 z0 ?_ | refine U1 (by first | (apply st_call_s (hfn := wayCells_fn now nl (gi (hallFreeF now) (k+1)) (tgtG now.wide a) a ); exact rfl; exact fz; iterate 2 exact rfl) | exact z1 | fail) ?_ | refine U9 zs ?_
          refine rh_split rfl rfl (fun hb6 => ?_) (fun hb6 => ?_)
          · repeat first | refine Ua ?_ | refine Ub ?_ | refine Uc ?_ | refine Ud ?_ | refine Ue ?_ | refine Ug ⟨by kernel_rfl, ?_⟩ | refine Ug ?_ | refine Uh ?_ | refine Ui ?_ | refine Uj ?_ | refine Uk rfl ?_ | refine Ul rfl ?_ | refine Um ?_ | refine Un ?_ | refine Uo ?_ | refine Up rfl ?_ | refine Uq ?_ | refine Ur ?_ | refine Us ?_ | refine Ut ?_ | refine Uu ?_ | refine Ux ?_ | refine Uv rfl rfl rfl rfl ?_ | refine Uw rfl rfl rfl ?_ | refine U0 z0 ?_ | refine U1 z1 ?_ | refine U9 zs ?_
            refine ax_cond rfl (fun hb7 => ?_) (fun hb7 => ?_)
            · have h1 : (wayF now (gi (hallFreeF now) (k+1)) (tgtG now.wide a) a).length < (nearS now (tgtG now.wide a) a (hallFreeF now) (k+1)).length := by simp at hb7; exact hb7
              repeat first | refine Ua ?_ | refine Ub ?_ | refine Uc ?_ | refine Ud ?_ | refine Ue ?_ | refine Ug ⟨by kernel_rfl, ?_⟩ | refine Ug ?_ | refine Uh ?_ | refine Ui ?_ | refine Uj ?_ | refine Uk rfl ?_ | refine Ul rfl ?_ | refine Um ?_ | refine Un ?_ | refine Uo ?_ | refine Up rfl ?_ | refine Uq ?_ | refine Ur ?_ | refine Us ?_ | refine Ut ?_ | refine Uu ?_ | refine Ux ?_ | refine Uv rfl rfl rfl rfl ?_ | refine Uw rfl rfl rfl ?_ | refine U0 z0 ?_ | refine U1 z1 ?_ | refine U9 zs ?_
              refine round_next (k + 1 + 1) (hlt) (by omega) (weak_of [(7, 8)] (by repeat first | exact .nil | refine LeEs.cons ?_ ?_ | exact .v (by first | rfl | (rw [near_yes hw (.inr h1)])) | exact .own rfl rfl rfl rfl rfl | exact .ptr rfl rfl rfl rfl rfl rfl | exact .nil rfl rfl rfl | exact .sl (by first | rfl | (rw [near_yes hw (.inr h1)])) | exact .both rfl rfl | exact .frz rfl rfl rfl rfl rfl (by first | rfl | (rw [near_yes hw (.inr h1)])) rfl | exact .tab rfl | exact .any _) (by repeat first | exact .nil | refine LeHs.keep rfl ⟨rfl, rfl, rfl, .inl ⟨rfl, by first | rfl | (rw [near_yes hw (.inr h1)])⟩⟩ ?_ | refine LeHs.keep rfl ⟨rfl, rfl, rfl, .inr ⟨(by first | exact .inl rfl | exact .inr rfl), by repeat first | exact .nil | refine LeVL.cons ?_ ?_ | exact .v (by first | rfl | (rw [near_yes hw (.inr h1)])) | exact .own rfl rfl rfl rfl rfl | exact .sl (by first | rfl | (rw [near_yes hw (.inr h1)])) | exact .both rfl rfl | exact .frz rfl rfl rfl rfl rfl (by first | rfl | (rw [near_yes hw (.inr h1)])) rfl⟩⟩ ?_ | refine LeHs.fresh rfl rfl rfl (Nat.succ_pos _) rfl ?_) rfl rfl)
            · have h1 : ¬ (nearS now (tgtG now.wide a) a (hallFreeF now) (k+1)).length = 0 := by omega
              have h2 : ¬ (wayF now (gi (hallFreeF now) (k+1)) (tgtG now.wide a) a).length < (nearS now (tgtG now.wide a) a (hallFreeF now) (k+1)).length := by simp at hb7; omega
              repeat first | refine Ua ?_ | refine Ub ?_ | refine Uc ?_ | refine Ud ?_ | refine Ue ?_ | refine Ug ⟨by kernel_rfl, ?_⟩ | refine Ug ?_ | refine Uh ?_ | refine Ui ?_ | refine Uj ?_ | refine Uk rfl ?_ | refine Ul rfl ?_ | refine Um ?_ | refine Un ?_ | refine Uo ?_ | refine Up rfl ?_ | refine Uq ?_ | refine Ur ?_ | refine Us ?_ | refine Ut ?_ | refine Uu ?_ | refine Ux ?_ | refine Uv rfl rfl rfl rfl ?_ | refine Uw rfl rfl rfl ?_ | refine U0 z0 ?_ | refine U1 z1 ?_ | refine U9 zs ?_
              refine round_next (k + 1 + 1) (hlt) (by omega) (weak_of [] (by repeat first | exact .nil | refine LeEs.cons ?_ ?_ | exact .v (by first | rfl | (rw [near_no (fun e => e.2.elim h1 h2)])) | exact .own rfl rfl rfl rfl rfl | exact .ptr rfl rfl rfl rfl rfl rfl | exact .nil rfl rfl rfl | exact .sl (by first | rfl | (rw [near_no (fun e => e.2.elim h1 h2)])) | exact .both rfl rfl | exact .frz rfl rfl rfl rfl rfl (by first | rfl | (rw [near_no (fun e => e.2.elim h1 h2)])) rfl | exact .tab rfl | exact .any _) (by repeat first | exact .nil | refine LeHs.keep rfl ⟨rfl, rfl, rfl, .inl ⟨rfl, by first | rfl | (rw [near_no (fun e => e.2.elim h1 h2)])⟩⟩ ?_ | refine LeHs.keep rfl ⟨rfl, rfl, rfl, .inr ⟨(by first | exact .inl rfl | exact .inr rfl), by repeat first | exact .nil | refine LeVL.cons ?_ ?_ | exact .v (by first | rfl | (rw [near_no (fun e => e.2.elim h1 h2)])) | exact .own rfl rfl rfl rfl rfl | exact .sl (by first | rfl | (rw [near_no (fun e => e.2.elim h1 h2)])) | exact .both rfl rfl | exact .frz rfl rfl rfl rfl rfl (by first | rfl | (rw [near_no (fun e => e.2.elim h1 h2)])) rfl⟩⟩ ?_ | refine LeHs.fresh rfl rfl rfl (Nat.succ_pos _) rfl ?_) rfl rfl)
          · simp at hb6; rw [hb6] at hw; simp at hw
        · have hkn : k + 1 = (hallFreeF now).length := by simp at hb5; omega
          have en : nearS now (tgtG now.wide a) a (hallFreeF now) (k+1) = nearF now (tgtG now.wide a) a := by unfold nearF; rw [hkn]
          have hst : holeF now (nearS now (tgtG now.wide a) a (hallFreeF now) (k+1)) ++ [(a, tgtG now.wide a)] = stepL now a := by rw [en]; rfl
          have hhl := holeF_len (h := now) (way := nearS now (tgtG now.wide a) a (hallFreeF now) (k+1))
          repeat first | refine Ua ?_ | refine Ub ?_ | refine Uc ?_ | refine Ud ?_ | refine Ue ?_ | refine Ug ⟨by kernel_rfl, ?_⟩ | refine Ug ?_ | refine Uh ?_ | refine Ui ?_ | refine Uj ?_ | refine Uk rfl ?_ | refine Ul rfl ?_ | refine Um ?_ | refine Un ?_ | refine Uo ?_ | refine Up rfl ?_ | refine Uq ?_ | refine Ur ?_ | refine Us ?_ | refine Ut ?_ | refine Uu ?_ | refine Ux ?_ | refine Uv rfl rfl rfl rfl ?_ | refine Uw rfl rfl rfl ?_ | refine U0 z0 ?_ | refine U1 (by first | (apply st_call_s (hfn := holeSlides_fn now nl (nearS now (tgtG now.wide a) a (hallFreeF now) (k+1)) (by have := lim_eq; omega) ); exact rfl; exact fz; iterate 2 exact rfl) | exact z1 | fail) ?_ | refine U9 zs ?_
          have e2 : slc (stepL now a) = slc (holeF now (nearS now (tgtG now.wide a) a (hallFreeF now) (k + 1)) ++ [(a, tgtG now.wide a)]) := by rw [hst]
          have e3 : Value.int .i64 (((holeF now (nearS now (tgtG now.wide a) a (hallFreeF now) (k + 1)) ++ [(a, tgtG now.wide a)]).length : Nat) : Int) = Value.int .i64 (((stepL now a).length : Nat) : Int) := by rw [hst]
          refine ax_loop (fun m : Nat => mkS [(82, .int (m : Int)), (81, .int ((stepL now a).length : Int)), (80, .own 8 0), (14, .own 8 0), (9, .int (tgtG now.wide a)), (7, .own 5 0), (8, .ptr 4 0 0), (2, .ptr 1 0 0)] ⟨9, [(1, some (hallRow h)), (3, some (intsRow (stS now (stepL now a) m).cells)), (4, some (boxRow (stS now (stepL now a) m).wide (stS now (stepL now a) m).deep 3 0)), (5, some (slcRow plan)), (8, some (slcRow (stepL now a)))]⟩) (fun m => m ≤ (stepL now a).length) (fun m => (stepL now a).length - m) (0) (Nat.zero_le _) (weak_of [] (by repeat first | exact .nil | refine LeEs.cons ?_ ?_ | exact .v (by first | rfl | (first | exact e2 | exact e3)) | exact .own rfl rfl rfl rfl rfl | exact .ptr rfl rfl rfl rfl rfl rfl | exact .nil rfl rfl rfl | exact .sl (by first | rfl | (first | exact e2 | exact e3)) | exact .both rfl rfl | exact .frz rfl rfl rfl rfl rfl (by first | rfl | (first | exact e2 | exact e3)) rfl | exact .tab rfl | exact .any _) (by repeat first | exact .nil | refine LeHs.keep rfl ⟨rfl, rfl, rfl, .inl ⟨rfl, by first | rfl | (first | exact e2 | exact e3)⟩⟩ ?_ | refine LeHs.keep rfl ⟨rfl, rfl, rfl, .inr ⟨(by first | exact .inl rfl | exact .inr rfl), by repeat first | exact .nil | refine LeVL.cons ?_ ?_ | exact .v (by first | rfl | (first | exact e2 | exact e3)) | exact .own rfl rfl rfl rfl rfl | exact .sl (by first | rfl | (first | exact e2 | exact e3)) | exact .both rfl rfl | exact .frz rfl rfl rfl rfl rfl (by first | rfl | (first | exact e2 | exact e3)) rfl⟩⟩ ?_ | refine LeHs.fresh rfl rfl rfl (Nat.succ_pos _) rfl ?_) rfl rfl) ?_
          intro m hm
          obtain ⟨s1, s2, _⟩ := stS_ok (l := stepL now a) pv m
          repeat first | refine Ua ?_ | refine Ub ?_ | refine Uc ?_ | refine Ud ?_ | refine Ue ?_ | refine Ug ⟨by kernel_rfl, ?_⟩ | refine Ug ?_ | refine Uh ?_ | refine Ui ?_ | refine Uj ?_ | refine Uk rfl ?_ | refine Ul rfl ?_ | refine Um ?_ | refine Un ?_ | refine Uo ?_ | refine Up rfl ?_ | refine Uq ?_ | refine Ur ?_ | refine Us ?_ | refine Ut ?_ | refine Uu ?_ | refine Ux ?_ | refine Uv rfl rfl rfl rfl ?_ | refine Uw rfl rfl rfl ?_ | refine U0 z0 ?_ | refine U1 z1 ?_ | refine U9 zs ?_
          refine ax_cond rfl (fun hb8 => ?_) (fun hb8 => ?_)
          · have hlt : m < (stepL now a).length := by simp at hb8; exact hb8
            repeat first | refine Ua ?_ | refine Ub ?_ | refine Uc ?_ | refine Ud ?_ | refine Ue ?_ | refine Ug ⟨by kernel_rfl, ?_⟩ | refine Ug ?_ | refine Uh ?_ | refine Ui ?_ | refine Uj ?_ | refine Uk rfl ?_ | refine Ul rfl ?_ | refine Um ?_ | refine Un ?_ | refine Uo ?_ | refine Up rfl ?_ | refine Uq ?_ | refine Ur ?_ | refine Us ?_ | refine Ut ?_ | refine Uu ?_ | refine Ux ?_ | refine Uv rfl rfl rfl rfl ?_ | refine Uw rfl rfl rfl ?_ | refine U0 z0 ?_ | refine U1 (by first | (apply st_call_hv (hfn := slideDo_fn (stS now (stepL now a) m) (by omega) (gs (stepL now a) m).1 (gs (stepL now a) m).2 ); exact rfl; exact fz; iterate 2 exact rfl) | exact z1 | fail) ?_ | refine U9 zs ?_
            refine round_next (m + 1) (hlt) (by omega) (Lw (ρ := [(3, 10)]))
          · have hmn : m = (stepL now a).length := by simp at hb8; omega
            subst hmn
            repeat first | refine Ua ?_ | refine Ub ?_ | refine Uc ?_ | refine Ud ?_ | refine Ue ?_ | refine Ug ⟨by kernel_rfl, ?_⟩ | refine Ug ?_ | refine Uh ?_ | refine Ui ?_ | refine Uj ?_ | refine Uk rfl ?_ | refine Ul rfl ?_ | refine Um ?_ | refine Un ?_ | refine Uo ?_ | refine Up rfl ?_ | refine Uq ?_ | refine Ur ?_ | refine Us ?_ | refine Ut ?_ | refine Uu ?_ | refine Ux ?_ | refine Uv rfl rfl rfl rfl ?_ | refine Uw rfl rfl rfl ?_ | refine U0 z0 ?_ | refine U1 z1 ?_ | refine U9 zs ?_
            refine round_next ((F, stS now (stepL now a) (stepL now a).length, tgtG now.wide a, plan ++ stepL now a)) (p.next ha) (Nat.lt_succ_self F) (Lw (ρ := []))
    · have hp0 := planG_zero F now (a := a) (by simpa using hb3)
      have hw := p.whole
      rw [hp0, List.append_nil] at hw
      rw [← hw]
      repeat first | refine Ua ?_ | refine Ub ?_ | refine Uc ?_ | refine Ud ?_ | refine Ue ?_ | refine Ug ⟨by kernel_rfl, ?_⟩ | refine Ug ?_ | refine Uh ?_ | refine Ui ?_ | refine Uj ?_ | refine Uk rfl ?_ | refine Ul rfl ?_ | refine Um ?_ | refine Un ?_ | refine Uo ?_ | refine Up rfl ?_ | refine Uq ?_ | refine Ur ?_ | refine Us ?_ | refine Ut ?_ | refine Uu ?_ | refine Ux ?_ | refine Uv rfl rfl rfl rfl ?_ | refine Uw rfl rfl rfl ?_ | refine U0 z0 ?_ | refine U1 z1 ?_ | refine U9 zs ?_
      exact ⟨.inl rfl, Rx⟩
  · have ha0 : ¬ 0 < hallFindF h id := by simpa using hb1
    have hF : bringPlanF h id = ([], true) := by unfold bringPlanF; rw [if_neg (by rintro (e | e); exact hf e; exact ha0 e.1), planG_zero _ _ (by omega)]
    have hv := (find_ok hf).1
    rw [hF]
    repeat first | refine Ua ?_ | refine Ub ?_ | refine Uc ?_ | refine Ud ?_ | refine Ue ?_ | refine Ug ⟨by kernel_rfl, ?_⟩ | refine Ug ?_ | refine Uh ?_ | refine Ui ?_ | refine Uj ?_ | refine Uk rfl ?_ | refine Ul rfl ?_ | refine Um ?_ | refine Un ?_ | refine Uo ?_ | refine Up rfl ?_ | refine Uq ?_ | refine Ur ?_ | refine Us ?_ | refine Ut ?_ | refine Uu ?_ | refine Ux ?_ | refine Uv rfl rfl rfl rfl ?_ | refine Uw rfl rfl rfl ?_ | refine U0 z0 ?_ | refine U1 (by first | (apply st_call_h (hfn := copyHall_fn h hl (valid_ne hv) ); exact rfl; exact fz; iterate 2 exact rfl) | exact z1 | fail) ?_ | refine U9 zs ?_
    refine ax_loop (fun i : Unit => mkS [(6, .int (hallFindF h id)), (7, .v (.slice none 0 0))] ⟨5, []⟩) (fun i => True) (fun i => 0) (()) (trivial) (Lw (ρ := [])) ?_
    rintro ⟨⟩ -
    repeat first | refine Ua ?_ | refine Ub ?_ | refine Uc ?_ | refine Ud ?_ | refine Ue ?_ | refine Ug ⟨by kernel_rfl, ?_⟩ | refine Ug ?_ | refine Uh ?_ | refine Ui ?_ | refine Uj ?_ | refine Uk rfl ?_ | refine Ul rfl ?_ | refine Um ?_ | refine Un ?_ | refine Uo ?_ | refine Up rfl ?_ | refine Uq ?_ | refine Ur ?_ | refine Us ?_ | refine Ut ?_ | refine Uu ?_ | refine Ux ?_ | refine Af (h := ?_) | refine At (h := ?_) | refine Uv rfl rfl rfl rfl ?_ | refine Uw rfl rfl rfl ?_ | refine U0 z0 ?_ | refine U1 z1 ?_ | refine U9 zs ?_ | refine Kf (h := ?_) | refine Kt (h := ?_)
    exact ⟨.inl rfl, Rx⟩
end Go.Proofs.YtnfjmcenjpoloaaDoor
