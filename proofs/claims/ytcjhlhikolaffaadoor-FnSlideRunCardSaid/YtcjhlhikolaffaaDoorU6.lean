/-
  The nearest free cell's way; ClearGate.
-/
import Derived.Test.YtcjhlhikolaffaaDoorU4
import Derived.Test.YtcjhlhikolaffaaDoorU5
set_option linter.unusedVariables false
set_option linter.unusedSimpArgs false
set_option maxRecDepth 100000
namespace Go.Proofs.YtcjhlhikolaffaaDoor
open Go Go.RowKit Go.Park Go.Sym

/-- the best of the ways from the first k free cells -/
def nearS (h : PHall) (tgt but : Int) (free : List Int) : Nat → List Int
  | 0 => []
  | k+1 => if 0 < (wayF h (gi free k) tgt but).length ∧ ((nearS h tgt but free k).length = 0 ∨ (wayF h (gi free k) tgt but).length < (nearS h tgt but free k).length) then wayF h (gi free k) tgt but else nearS h tgt but free k
def nearF (h : PHall) (tgt but : Int) : List Int := nearS h tgt but (hallFreeF h) (hallFreeF h).length
theorem near_yes {h : PHall} {tgt but : Int} {free : List Int} {k : Nat} (h1 : 0 < (wayF h (gi free k) tgt but).length) (h2 : (nearS h tgt but free k).length = 0 ∨ (wayF h (gi free k) tgt but).length < (nearS h tgt but free k).length) : nearS h tgt but free (k+1) = wayF h (gi free k) tgt but := by
  simp only [nearS]; rw [if_pos ⟨h1, h2⟩]
theorem near_no {h : PHall} {tgt but : Int} {free : List Int} {k : Nat} (hn : ¬ (0 < (wayF h (gi free k) tgt but).length ∧ ((nearS h tgt but free k).length = 0 ∨ (wayF h (gi free k) tgt but).length < (nearS h tgt but free k).length))) : nearS h tgt but free (k+1) = nearS h tgt but free k := by
  simp only [nearS]; rw [if_neg hn]
theorem near_len (h : PHall) (tgt but : Int) (free : List Int) : ∀ k, (nearS h tgt but free k).length ≤ 12
  | 0 => by simp [nearS]
  | k+1 => by
    simp only [nearS]
    split
    · exact way_len _ _ _ _
    · exact near_len h tgt but free k
theorem free_len (h : PHall) : (hallFreeF h).length ≤ h.cells.length := by
  unfold hallFreeF
  split
  · exact selTo_length _ _
  · simp
set_option maxHeartbeats 2000000 in
theorem l2Nearest_fn (h : PHall) (hl : h.cells.length ≤ lim) (tgt but : Int) : FnS Tryd.prog 86 [hallV h, .int tgt, .int but] (intsV (nearF h tgt but)) := by
  have hl' : h.cells.length ≤ 1073741824 := hl
  have hf := free_len h
  refine fn_go3 tabOk Tryd.func86 rfl (by kernel_rfl) Tryd.ntmps86 Tryd.results86 (by decide) ?_
  repeat first | refine Ua ?_ | refine Ub ?_ | refine Uc ?_ | refine Ud ?_ | refine Ue ?_ | refine Ug ⟨by kernel_rfl, ?_⟩ | refine Ug ?_ | refine Uh ?_ | refine Ui ?_ | refine Uj ?_ | refine Uk rfl ?_ | refine Ul rfl ?_ | refine Um ?_ | refine Un ?_ | refine Uo ?_ | refine Up rfl ?_ | refine Uq ?_ | refine Ur ?_ | refine Us ?_ | refine Ut ?_ | refine Uu ?_ | refine Ux ?_ | refine Uv rfl rfl rfl rfl ?_ | refine Uw rfl rfl rfl ?_ | refine U0 z0 ?_ | refine U1 (by first | (apply st_call_s (hfn := specHallFree_fn h hl ); exact rfl; exact fz; iterate 2 exact rfl) | exact z1 | fail) ?_ | refine U9 zs ?_
  refine ax_loop (fun k : Nat => mkS [(9, .int (k : Int)), (8, .own 3 0), (7, .own 2 0), (3, .ptr 1 0 0), (1, .int tgt), (2, .int but)] ⟨4, [(1, some (hallRow h)), (2, some (intsRow (nearS h tgt but (hallFreeF h) k))), (3, some (intsRow (hallFreeF h)))]⟩) (fun k => k ≤ (hallFreeF h).length) (fun k => (hallFreeF h).length - k) (0) (Nat.zero_le _) (Lw (ρ := [])) ?_
  rintro k hk
  have hb := near_len h tgt but (hallFreeF h) k
  repeat first | refine Ua ?_ | refine Ub ?_ | refine Uc ?_ | refine Ud ?_ | refine Ue ?_ | refine Ug ⟨by kernel_rfl, ?_⟩ | refine Ug ?_ | refine Uh ?_ | refine Ui ?_ | refine Uj ?_ | refine Uk rfl ?_ | refine Ul rfl ?_ | refine Um ?_ | refine Un ?_ | refine Uo ?_ | refine Up rfl ?_ | refine Uq ?_ | refine Ur ?_ | refine Us ?_ | refine Ut ?_ | refine Uu ?_ | refine Ux ?_ | refine Uv rfl rfl rfl rfl ?_ | refine Uw rfl rfl rfl ?_ | refine U0 z0 ?_ | refine U1 z1 ?_ | refine U9 zs ?_
  refine ax_cond rfl (fun hb1 => ?_) (fun hb1 => ?_)
  · have hlt : k < (hallFreeF h).length := by simp at hb1; exact hb1
    have hw := way_len h (gi (hallFreeF h) k) tgt but
    repeat first | refine Ua ?_ | refine Ub ?_ | refine Uc ?_ | refine Ud ?_ | refine Ue ?_ | refine Ug ⟨by kernel_rfl, ?_⟩ | refine Ug ?_ | refine Uh ?_ | refine Ui ?_ | refine Uj ?_ | refine Uk rfl ?_ | refine Ul rfl ?_ | refine Um ?_ | refine Un ?_ | refine Uo ?_ | refine Up rfl ?_ | refine Uq ?_ | refine Ur ?_ | refine Us ?_ | refine Ut ?_ | refine Uu ?_ | refine Ux ?_ | refine Uv rfl rfl rfl rfl ?_ | refine Uw rfl rfl rfl ?_ | refine U0 z0 ?_ | refine U1 (by first | (apply st_call_s (hfn := specWayCells_fn h hl (gi (hallFreeF h) k) tgt but ); exact rfl; exact fz; iterate 2 exact rfl) | exact z1 | fail) ?_ | refine U9 zs ?_
    refine rh_split rfl rfl (fun hb2 => ?_) (fun hb2 => ?_)
    · have hp : 0 < (wayF h (gi (hallFreeF h) k) tgt but).length := by simpa using hb2
      repeat first | refine Ua ?_ | refine Ub ?_ | refine Uc ?_ | refine Ud ?_ | refine Ue ?_ | refine Ug ⟨by kernel_rfl, ?_⟩ | refine Ug ?_ | refine Uh ?_ | refine Ui ?_ | refine Uj ?_ | refine Uk rfl ?_ | refine Ul rfl ?_ | refine Um ?_ | refine Un ?_ | refine Uo ?_ | refine Up rfl ?_ | refine Uq ?_ | refine Ur ?_ | refine Us ?_ | refine Ut ?_ | refine Uu ?_ | refine Ux ?_ | refine Uv rfl rfl rfl rfl ?_ | refine Uw rfl rfl rfl ?_ | refine U0 z0 ?_ | refine U1 z1 ?_ | refine U9 zs ?_
      refine rh_split rfl rfl (fun hb3 => ?_) (fun hb3 => ?_)
      · have h0 : (nearS h tgt but (hallFreeF h) k).length = 0 := by simp at hb3; simp [hb3]
        repeat first | refine Ua ?_ | refine Ub ?_ | refine Uc ?_ | refine Ud ?_ | refine Ue ?_ | refine Ug ⟨by kernel_rfl, ?_⟩ | refine Ug ?_ | refine Uh ?_ | refine Ui ?_ | refine Uj ?_ | refine Uk rfl ?_ | refine Ul rfl ?_ | refine Um ?_ | refine Un ?_ | refine Uo ?_ | refine Up rfl ?_ | refine Uq ?_ | refine Ur ?_ | refine Us ?_ | refine Ut ?_ | refine Uu ?_ | refine Ux ?_ | refine Uv rfl rfl rfl rfl ?_ | refine Uw rfl rfl rfl ?_ | refine U0 z0 ?_ | refine U1 z1 ?_ | refine U9 zs ?_
        refine round_next (k + 1) (hlt) (by omega) (weak_of [(2, 4)] (by repeat first | exact .nil | refine LeEs.cons ?_ ?_ | exact .v (by first | rfl | (rw [near_yes hp (.inl h0)])) | exact .own rfl rfl rfl rfl rfl | exact .ptr rfl rfl rfl rfl rfl rfl | exact .nil rfl rfl rfl | exact .sl (by first | rfl | (rw [near_yes hp (.inl h0)])) | exact .both rfl rfl | exact .frz rfl rfl rfl rfl rfl (by first | rfl | (rw [near_yes hp (.inl h0)])) rfl | exact .tab rfl | exact .any _) (by repeat first | exact .nil | refine LeHs.keep rfl ⟨rfl, rfl, rfl, .inl ⟨rfl, by first | rfl | (rw [near_yes hp (.inl h0)])⟩⟩ ?_ | refine LeHs.keep rfl ⟨rfl, rfl, rfl, .inr ⟨(by first | exact .inl rfl | exact .inr rfl), by repeat first | exact .nil | refine LeVL.cons ?_ ?_ | exact .v (by first | rfl | (rw [near_yes hp (.inl h0)])) | exact .own rfl rfl rfl rfl rfl | exact .sl (by first | rfl | (rw [near_yes hp (.inl h0)])) | exact .both rfl rfl | exact .frz rfl rfl rfl rfl rfl (by first | rfl | (rw [near_yes hp (.inl h0)])) rfl⟩⟩ ?_ | refine LeHs.fresh rfl rfl rfl (Nat.succ_pos _) rfl ?_) rfl rfl)
      · repeat first | refine Ua ?_ | refine Ub ?_ | refine Uc ?_ | refine Ud ?_ | refine Ue ?_ | refine Ug ⟨by kernel_rfl, ?_⟩ | refine Ug ?_ | refine Uh ?_ | refine Ui ?_ | refine Uj ?_ | refine Uk rfl ?_ | refine Ul rfl ?_ | refine Um ?_ | refine Un ?_ | refine Uo ?_ | refine Up rfl ?_ | refine Uq ?_ | refine Ur ?_ | refine Us ?_ | refine Ut ?_ | refine Uu ?_ | refine Ux ?_ | refine Uv rfl rfl rfl rfl ?_ | refine Uw rfl rfl rfl ?_ | refine U0 z0 ?_ | refine U1 z1 ?_ | refine U9 zs ?_
        refine ax_cond rfl (fun hb4 => ?_) (fun hb4 => ?_)
        · have h1 : (wayF h (gi (hallFreeF h) k) tgt but).length < (nearS h tgt but (hallFreeF h) k).length := by simp at hb4; exact hb4
          repeat first | refine Ua ?_ | refine Ub ?_ | refine Uc ?_ | refine Ud ?_ | refine Ue ?_ | refine Ug ⟨by kernel_rfl, ?_⟩ | refine Ug ?_ | refine Uh ?_ | refine Ui ?_ | refine Uj ?_ | refine Uk rfl ?_ | refine Ul rfl ?_ | refine Um ?_ | refine Un ?_ | refine Uo ?_ | refine Up rfl ?_ | refine Uq ?_ | refine Ur ?_ | refine Us ?_ | refine Ut ?_ | refine Uu ?_ | refine Ux ?_ | refine Uv rfl rfl rfl rfl ?_ | refine Uw rfl rfl rfl ?_ | refine U0 z0 ?_ | refine U1 z1 ?_ | refine U9 zs ?_
          refine round_next (k + 1) (hlt) (by omega) (weak_of [(2, 4)] (by repeat first | exact .nil | refine LeEs.cons ?_ ?_ | exact .v (by first | rfl | (rw [near_yes hp (.inr h1)])) | exact .own rfl rfl rfl rfl rfl | exact .ptr rfl rfl rfl rfl rfl rfl | exact .nil rfl rfl rfl | exact .sl (by first | rfl | (rw [near_yes hp (.inr h1)])) | exact .both rfl rfl | exact .frz rfl rfl rfl rfl rfl (by first | rfl | (rw [near_yes hp (.inr h1)])) rfl | exact .tab rfl | exact .any _) (by repeat first | exact .nil | refine LeHs.keep rfl ⟨rfl, rfl, rfl, .inl ⟨rfl, by first | rfl | (rw [near_yes hp (.inr h1)])⟩⟩ ?_ | refine LeHs.keep rfl ⟨rfl, rfl, rfl, .inr ⟨(by first | exact .inl rfl | exact .inr rfl), by repeat first | exact .nil | refine LeVL.cons ?_ ?_ | exact .v (by first | rfl | (rw [near_yes hp (.inr h1)])) | exact .own rfl rfl rfl rfl rfl | exact .sl (by first | rfl | (rw [near_yes hp (.inr h1)])) | exact .both rfl rfl | exact .frz rfl rfl rfl rfl rfl (by first | rfl | (rw [near_yes hp (.inr h1)])) rfl⟩⟩ ?_ | refine LeHs.fresh rfl rfl rfl (Nat.succ_pos _) rfl ?_) rfl rfl)
        · have h1 : ¬ (nearS h tgt but (hallFreeF h) k).length = 0 := by simp at hb3; simp [hb3]
          have h2 : ¬ (wayF h (gi (hallFreeF h) k) tgt but).length < (nearS h tgt but (hallFreeF h) k).length := by simp at hb4; omega
          repeat first | refine Ua ?_ | refine Ub ?_ | refine Uc ?_ | refine Ud ?_ | refine Ue ?_ | refine Ug ⟨by kernel_rfl, ?_⟩ | refine Ug ?_ | refine Uh ?_ | refine Ui ?_ | refine Uj ?_ | refine Uk rfl ?_ | refine Ul rfl ?_ | refine Um ?_ | refine Un ?_ | refine Uo ?_ | refine Up rfl ?_ | refine Uq ?_ | refine Ur ?_ | refine Us ?_ | refine Ut ?_ | refine Uu ?_ | refine Ux ?_ | refine Uv rfl rfl rfl rfl ?_ | refine Uw rfl rfl rfl ?_ | refine U0 z0 ?_ | refine U1 z1 ?_ | refine U9 zs ?_
          refine round_next (k + 1) (hlt) (by omega) (weak_of [] (by repeat first | exact .nil | refine LeEs.cons ?_ ?_ | exact .v (by first | rfl | (rw [near_no (fun e => e.2.elim h1 h2)])) | exact .own rfl rfl rfl rfl rfl | exact .ptr rfl rfl rfl rfl rfl rfl | exact .nil rfl rfl rfl | exact .sl (by first | rfl | (rw [near_no (fun e => e.2.elim h1 h2)])) | exact .both rfl rfl | exact .frz rfl rfl rfl rfl rfl (by first | rfl | (rw [near_no (fun e => e.2.elim h1 h2)])) rfl | exact .tab rfl | exact .any _) (by repeat first | exact .nil | refine LeHs.keep rfl ⟨rfl, rfl, rfl, .inl ⟨rfl, by first | rfl | (rw [near_no (fun e => e.2.elim h1 h2)])⟩⟩ ?_ | refine LeHs.keep rfl ⟨rfl, rfl, rfl, .inr ⟨(by first | exact .inl rfl | exact .inr rfl), by repeat first | exact .nil | refine LeVL.cons ?_ ?_ | exact .v (by first | rfl | (rw [near_no (fun e => e.2.elim h1 h2)])) | exact .own rfl rfl rfl rfl rfl | exact .sl (by first | rfl | (rw [near_no (fun e => e.2.elim h1 h2)])) | exact .both rfl rfl | exact .frz rfl rfl rfl rfl rfl (by first | rfl | (rw [near_no (fun e => e.2.elim h1 h2)])) rfl⟩⟩ ?_ | refine LeHs.fresh rfl rfl rfl (Nat.succ_pos _) rfl ?_) rfl rfl)
    · have h1 : ¬ 0 < (wayF h (gi (hallFreeF h) k) tgt but).length := by simp at hb2; simp [hb2]
      repeat first | refine Ua ?_ | refine Ub ?_ | refine Uc ?_ | refine Ud ?_ | refine Ue ?_ | refine Ug ⟨by kernel_rfl, ?_⟩ | refine Ug ?_ | refine Uh ?_ | refine Ui ?_ | refine Uj ?_ | refine Uk rfl ?_ | refine Ul rfl ?_ | refine Um ?_ | refine Un ?_ | refine Uo ?_ | refine Up rfl ?_ | refine Uq ?_ | refine Ur ?_ | refine Us ?_ | refine Ut ?_ | refine Uu ?_ | refine Ux ?_ | refine Uv rfl rfl rfl rfl ?_ | refine Uw rfl rfl rfl ?_ | refine U0 z0 ?_ | refine U1 z1 ?_ | refine U9 zs ?_
      refine round_next (k + 1) (hlt) (by omega) (weak_of [] (by repeat first | exact .nil | refine LeEs.cons ?_ ?_ | exact .v (by first | rfl | (rw [near_no (fun e => h1 e.1)])) | exact .own rfl rfl rfl rfl rfl | exact .ptr rfl rfl rfl rfl rfl rfl | exact .nil rfl rfl rfl | exact .sl (by first | rfl | (rw [near_no (fun e => h1 e.1)])) | exact .both rfl rfl | exact .frz rfl rfl rfl rfl rfl (by first | rfl | (rw [near_no (fun e => h1 e.1)])) rfl | exact .tab rfl | exact .any _) (by repeat first | exact .nil | refine LeHs.keep rfl ⟨rfl, rfl, rfl, .inl ⟨rfl, by first | rfl | (rw [near_no (fun e => h1 e.1)])⟩⟩ ?_ | refine LeHs.keep rfl ⟨rfl, rfl, rfl, .inr ⟨(by first | exact .inl rfl | exact .inr rfl), by repeat first | exact .nil | refine LeVL.cons ?_ ?_ | exact .v (by first | rfl | (rw [near_no (fun e => h1 e.1)])) | exact .own rfl rfl rfl rfl rfl | exact .sl (by first | rfl | (rw [near_no (fun e => h1 e.1)])) | exact .both rfl rfl | exact .frz rfl rfl rfl rfl rfl (by first | rfl | (rw [near_no (fun e => h1 e.1)])) rfl⟩⟩ ?_ | refine LeHs.fresh rfl rfl rfl (Nat.succ_pos _) rfl ?_) rfl rfl)
  · have hkn : k = (hallFreeF h).length := by simp at hb1; omega
    subst hkn
    repeat first | refine Ua ?_ | refine Ub ?_ | refine Uc ?_ | refine Ud ?_ | refine Ue ?_ | refine Ug ⟨by kernel_rfl, ?_⟩ | refine Ug ?_ | refine Uh ?_ | refine Ui ?_ | refine Uj ?_ | refine Uk rfl ?_ | refine Ul rfl ?_ | refine Um ?_ | refine Un ?_ | refine Uo ?_ | refine Up rfl ?_ | refine Uq ?_ | refine Ur ?_ | refine Us ?_ | refine Ut ?_ | refine Uu ?_ | refine Ux ?_ | refine Uv rfl rfl rfl rfl ?_ | refine Uw rfl rfl rfl ?_ | refine U0 z0 ?_ | refine U1 z1 ?_ | refine U9 zs ?_
    exact ⟨.inl rfl, Rx⟩
/-! ClearGate -/
def clearF (h : PHall) : List (Int × Int) × Bool := if validB h = true ∧ 0 < (nearF h 0 (-1)).length then (holeF h (nearF h 0 (-1)), true) else ([], false)
theorem near_clear_len (h : PHall) (tgt but : Int) : (nearF h tgt but).length ≤ 12 := near_len _ _ _ _ _
theorem clearF_len (h : PHall) : (clearF h).1.length ≤ 12 := by
  unfold clearF
  split
  · exact Nat.le_trans holeF_len (near_clear_len _ _ _)
  · simp
theorem clearF_lim (h : PHall) : (clearF h).1.length ≤ lim := by
  have := clearF_len h
  have := lim_eq
  omega
set_option maxHeartbeats 2000000 in
theorem specClearGate_fn (h : PHall) (hl : h.cells.length ≤ lim) : FnS Tryd.prog 36 [hallV h] (.tup [slcV (clearF h).1, .bool (clearF h).2]) := by
  have hl' : h.cells.length ≤ 1073741824 := hl
  have hn := near_clear_len h 0 (-1)
  have hn' : (nearF h 0 (-1)).length ≤ lim := by have := lim_eq; omega
  refine fn_go1 tabOk Tryd.func36 rfl (by kernel_rfl) Tryd.ntmps36 Tryd.results36 (by decide) ?_
  repeat first | refine Ua ?_ | refine Ub ?_ | refine Uc ?_ | refine Ud ?_ | refine Ue ?_ | refine Ug ⟨by kernel_rfl, ?_⟩ | refine Ug ?_ | refine Uh ?_ | refine Ui ?_ | refine Uj ?_ | refine Uk rfl ?_ | refine Ul rfl ?_ | refine Um ?_ | refine Un ?_ | refine Uo ?_ | refine Up rfl ?_ | refine Uq ?_ | refine Ur ?_ | refine Us ?_ | refine Ut ?_ | refine Uu ?_ | refine Ux ?_ | refine Uv rfl rfl rfl rfl ?_ | refine Uw rfl rfl rfl ?_ | refine U0 (by first | (apply st_call (hfn := specHallValid_fn h hl ); exact rfl; exact fz) | exact z0 | fail) ?_ | refine U1 z1 ?_ | refine U9 zs ?_
  refine ax_cond rfl (fun hb => ?_) (fun hb => ?_)
  · have hv : validB h = true := by simpa using hb
    repeat first | refine Ua ?_ | refine Ub ?_ | refine Uc ?_ | refine Ud ?_ | refine Ue ?_ | refine Ug ⟨by kernel_rfl, ?_⟩ | refine Ug ?_ | refine Uh ?_ | refine Ui ?_ | refine Uj ?_ | refine Uk rfl ?_ | refine Ul rfl ?_ | refine Um ?_ | refine Un ?_ | refine Uo ?_ | refine Up rfl ?_ | refine Uq ?_ | refine Ur ?_ | refine Us ?_ | refine Ut ?_ | refine Uu ?_ | refine Ux ?_ | refine Uv rfl rfl rfl rfl ?_ | refine Uw rfl rfl rfl ?_ | refine U0 z0 ?_ | refine U1 (by first | (apply st_call_s (hfn := l2Nearest_fn h hl 0 (-1) ); exact rfl; exact fz; iterate 2 exact rfl) | exact z1 | fail) ?_ | refine U9 zs ?_
    refine ax_cond rfl (fun hb1 => ?_) (fun hb1 => ?_)
    · have hF : clearF h = ([], false) := by simp at hb1; simp [clearF, hb1]
      rw [hF]
      repeat first | refine Ua ?_ | refine Ub ?_ | refine Uc ?_ | refine Ud ?_ | refine Ue ?_ | refine Ug ⟨by kernel_rfl, ?_⟩ | refine Ug ?_ | refine Uh ?_ | refine Ui ?_ | refine Uj ?_ | refine Uk rfl ?_ | refine Ul rfl ?_ | refine Um ?_ | refine Un ?_ | refine Uo ?_ | refine Up rfl ?_ | refine Uq ?_ | refine Ur ?_ | refine Us ?_ | refine Ut ?_ | refine Uu ?_ | refine Ux ?_ | refine Uv rfl rfl rfl rfl ?_ | refine Uw rfl rfl rfl ?_ | refine U0 z0 ?_ | refine U1 z1 ?_ | refine U9 zs ?_
      exact ⟨.inl rfl, Rx⟩
    · have hp : 0 < (nearF h 0 (-1)).length := by
        simp at hb1
        exact List.length_pos_iff.2 hb1
      have hF : clearF h = (holeF h (nearF h 0 (-1)), true) := by unfold clearF; rw [if_pos ⟨hv, hp⟩]
      rw [hF]
      repeat first | refine Ua ?_ | refine Ub ?_ | refine Uc ?_ | refine Ud ?_ | refine Ue ?_ | refine Ug ⟨by kernel_rfl, ?_⟩ | refine Ug ?_ | refine Uh ?_ | refine Ui ?_ | refine Uj ?_ | refine Uk rfl ?_ | refine Ul rfl ?_ | refine Um ?_ | refine Un ?_ | refine Uo ?_ | refine Up rfl ?_ | refine Uq ?_ | refine Ur ?_ | refine Us ?_ | refine Ut ?_ | refine Uu ?_ | refine Ux ?_ | refine Uv rfl rfl rfl rfl ?_ | refine Uw rfl rfl rfl ?_ | refine U0 z0 ?_ | refine U1 (by first | (apply st_call_s (hfn := specHoleSlides_fn h hl _ hn' ); exact rfl; exact fz; iterate 2 exact rfl) | exact z1 | fail) ?_ | refine U9 zs ?_
      exact ⟨.inl rfl, Rx⟩
  · have hF : clearF h = ([], false) := by simp [clearF, hb]
    rw [hF]
    repeat first | refine Ua ?_ | refine Ub ?_ | refine Uc ?_ | refine Ud ?_ | refine Ue ?_ | refine Ug ⟨by kernel_rfl, ?_⟩ | refine Ug ?_ | refine Uh ?_ | refine Ui ?_ | refine Uj ?_ | refine Uk rfl ?_ | refine Ul rfl ?_ | refine Um ?_ | refine Un ?_ | refine Uo ?_ | refine Up rfl ?_ | refine Uq ?_ | refine Ur ?_ | refine Us ?_ | refine Ut ?_ | refine Uu ?_ | refine Ux ?_ | refine Uv rfl rfl rfl rfl ?_ | refine Uw rfl rfl rfl ?_ | refine U0 z0 ?_ | refine U1 z1 ?_ | refine U9 zs ?_
    exact ⟨.inl rfl, Rx⟩
theorem free_cell {h : PHall} {k : Nat} (hk : k < (hallFreeF h).length) : validB h = true ∧ 0 ≤ gi (hallFreeF h) k ∧ gi (hallFreeF h) k < h.cells.length ∧ gi h.cells (gi (hallFreeF h) k).toNat = 0 := by
  unfold hallFreeF at hk ⊢
  by_cases hv : validB h = true
  · rw [if_pos hv] at hk ⊢
    obtain ⟨j, h1, h2, h3⟩ := selTo_mem.1 (gi_mem hk)
    rw [h3]
    exact ⟨hv, by omega, by omega, by simpa using h2⟩
  · rw [if_neg hv] at hk; simp at hk
theorem near_pos {h : PHall} {k : Nat} (hk : k < (hallFreeF h).length) : 0 < (nearS h 0 (-1) (hallFreeF h) (k+1)).length := by
  obtain ⟨hv, h0, h1, _⟩ := free_cell hk
  have hw := (way_good (h := h) (a := gi (hallFreeF h) k) (b := 0) (but := -1) (wayOk_iff.2 ⟨hv, ⟨h0, h1⟩, ⟨by omega, by omega⟩, ⟨by omega, by omega⟩, by omega, by omega⟩)).pos
  simp only [nearS]
  split
  · exact hw
  · rename_i hn
    have : ¬ (nearS h 0 (-1) (hallFreeF h) k).length = 0 := fun e => hn ⟨hw, .inl e⟩
    omega
set_option maxHeartbeats 2000000 in
theorem clearGate_fn (h : PHall) (hl : h.cells.length ≤ lim) : FnS Tryd.prog 35 [hallV h] (.tup [slcV (clearF h).1, .bool (clearF h).2]) := by
  have hl' : h.cells.length ≤ 1073741824 := hl
  have hn := near_clear_len h 0 (-1)
  have hn' : (nearF h 0 (-1)).length ≤ lim := by have := lim_eq; omega
  have hf := free_len h
  refine fn_go1 tabOk Tryd.func35 rfl (by kernel_rfl) Tryd.ntmps35 Tryd.results35 (by decide) ?_
  repeat first | refine Ua ?_ | refine Ub ?_ | refine Uc ?_ | refine Ud ?_ | refine Ue ?_ | refine Ug ⟨by kernel_rfl, ?_⟩ | refine Ug ?_ | refine Uh ?_ | refine Ui ?_ | refine Uj ?_ | refine Uk rfl ?_ | refine Ul rfl ?_ | refine Um ?_ | refine Un ?_ | refine Uo ?_ | refine Up rfl ?_ | refine Uq ?_ | refine Ur ?_ | refine Us ?_ | refine Ut ?_ | refine Uu ?_ | refine Ux ?_ | refine Uv rfl rfl rfl rfl ?_ | refine Uw rfl rfl rfl ?_ | refine U0 z0 ?_ | refine U1 (by first | (apply st_call_s (hfn := hallFree_fn h hl ); exact rfl; exact fz; iterate 2 exact rfl) | exact z1 | fail) ?_ | refine U9 zs ?_
  refine ax_loop (fun k : Nat => match k with | 0 => mkS [(11, .int ((0 : Nat) : Int)), (10, .int ((hallFreeF h).length : Int)), (9, .own 2 0), (4, .v (.slice none 0 0)), (1, .ptr 1 0 0)] ⟨3, [(1, some (hallRow h)), (2, some (intsRow (hallFreeF h)))]⟩ | k+1 => mkS [(11, .int ((k + 1 : Nat) : Int)), (10, .int ((hallFreeF h).length : Int)), (9, .own 2 0), (4, .own 3 0), (1, .ptr 1 0 0)] ⟨4, [(1, some (hallRow h)), (2, some (intsRow (hallFreeF h))), (3, some (intsRow (nearS h 0 (-1) (hallFreeF h) (k+1))))]⟩) (fun k => k ≤ (hallFreeF h).length) (fun k => (hallFreeF h).length - k) (0) (Nat.zero_le _) (Lw (ρ := [])) ?_
  rintro k hk
  cases k with
  | zero =>
    repeat first | refine Ua ?_ | refine Ub ?_ | refine Uc ?_ | refine Ud ?_ | refine Ue ?_ | refine Ug ⟨by kernel_rfl, ?_⟩ | refine Ug ?_ | refine Uh ?_ | refine Ui ?_ | refine Uj ?_ | refine Uk rfl ?_ | refine Ul rfl ?_ | refine Um ?_ | refine Un ?_ | refine Uo ?_ | refine Up rfl ?_ | refine Uq ?_ | refine Ur ?_ | refine Us ?_ | refine Ut ?_ | refine Uu ?_ | refine Ux ?_ | refine Uv rfl rfl rfl rfl ?_ | refine Uw rfl rfl rfl ?_ | refine U0 z0 ?_ | refine U1 z1 ?_ | refine U9 zs ?_
    refine ax_cond rfl (fun hb1 => ?_) (fun hb1 => ?_)
    · have hlt : 0 < (hallFreeF h).length := by simpa using hb1
      obtain ⟨hv, c0, c1, _⟩ := free_cell hlt
      have hw := (way_good (h := h) (a := gi (hallFreeF h) 0) (b := 0) (but := -1) (wayOk_iff.2 ⟨hv, ⟨c0, c1⟩, ⟨by omega, by omega⟩, ⟨by omega, by omega⟩, by omega, by omega⟩)).pos
      have e1 : nearS h 0 (-1) (hallFreeF h) (0 + 1) = wayF h (gi (hallFreeF h) 0) 0 (-1) := near_yes hw (.inl rfl)
      repeat first | refine Ua ?_ | refine Ub ?_ | refine Uc ?_ | refine Ud ?_ | refine Ue ?_ | refine Ug ⟨by kernel_rfl, ?_⟩ | refine Ug ?_ | refine Uh ?_ | refine Ui ?_ | refine Uj ?_ | refine Uk rfl ?_ | refine Ul rfl ?_ | refine Um ?_ | refine Un ?_ | refine Uo ?_ | refine Up rfl ?_ | refine Uq ?_ | refine Ur ?_ | refine Us ?_ | refine Ut ?_ | refine Uu ?_ | refine Ux ?_ | refine Uv rfl rfl rfl rfl ?_ | refine Uw rfl rfl rfl ?_ | refine U0 z0 ?_ | refine U1 (by first | (apply st_call_s (hfn := wayCells_fn h hl (gi (hallFreeF h) 0) 0 (-1) ); exact rfl; exact fz; iterate 2 exact rfl) | exact z1 | fail) ?_ | refine U9 zs ?_
      refine round_next (0 + 1) (hlt) (by omega) (weak_of [] (by repeat first | exact .nil | refine LeEs.cons ?_ ?_ | exact .v (by first | rfl | (rw [e1])) | exact .own rfl rfl rfl rfl rfl | exact .ptr rfl rfl rfl rfl rfl rfl | exact .nil rfl rfl rfl | exact .sl (by first | rfl | (rw [e1])) | exact .both rfl rfl | exact .frz rfl rfl rfl rfl rfl (by first | rfl | (rw [e1])) rfl | exact .tab rfl | exact .any _) (by repeat first | exact .nil | refine LeHs.keep rfl ⟨rfl, rfl, rfl, .inl ⟨rfl, by first | rfl | (rw [e1])⟩⟩ ?_ | refine LeHs.keep rfl ⟨rfl, rfl, rfl, .inr ⟨(by first | exact .inl rfl | exact .inr rfl), by repeat first | exact .nil | refine LeVL.cons ?_ ?_ | exact .v (by first | rfl | (rw [e1])) | exact .own rfl rfl rfl rfl rfl | exact .sl (by first | rfl | (rw [e1])) | exact .both rfl rfl | exact .frz rfl rfl rfl rfl rfl (by first | rfl | (rw [e1])) rfl⟩⟩ ?_ | refine LeHs.fresh rfl rfl rfl (Nat.succ_pos _) rfl ?_) rfl rfl)
    · have h0 : (hallFreeF h).length = 0 := by simp at hb1; simp [hb1]
      have hF : clearF h = ([], false) := by
        have : nearF h 0 (-1) = [] := by unfold nearF; rw [h0]; rfl
        simp [clearF, this]
      rw [hF]
      repeat first | refine Ua ?_ | refine Ub ?_ | refine Uc ?_ | refine Ud ?_ | refine Ue ?_ | refine Ug ⟨by kernel_rfl, ?_⟩ | refine Ug ?_ | refine Uh ?_ | refine Ui ?_ | refine Uj ?_ | refine Uk rfl ?_ | refine Ul rfl ?_ | refine Um ?_ | refine Un ?_ | refine Uo ?_ | refine Up rfl ?_ | refine Uq ?_ | refine Ur ?_ | refine Us ?_ | refine Ut ?_ | refine Uu ?_ | refine Ux ?_ | refine Uv rfl rfl rfl rfl ?_ | refine Uw rfl rfl rfl ?_ | refine U0 z0 ?_ | refine U1 z1 ?_ | refine U9 zs ?_
      exact ⟨.inl rfl, Rx⟩
  | succ k =>
    have hp := near_pos (h := h) (k := k) hk
    have hnl := near_len h 0 (-1) (hallFreeF h) (k + 1)
    repeat first | refine Ua ?_ | refine Ub ?_ | refine Uc ?_ | refine Ud ?_ | refine Ue ?_ | refine Ug ⟨by kernel_rfl, ?_⟩ | refine Ug ?_ | refine Uh ?_ | refine Ui ?_ | refine Uj ?_ | refine Uk rfl ?_ | refine Ul rfl ?_ | refine Um ?_ | refine Un ?_ | refine Uo ?_ | refine Up rfl ?_ | refine Uq ?_ | refine Ur ?_ | refine Us ?_ | refine Ut ?_ | refine Uu ?_ | refine Ux ?_ | refine Uv rfl rfl rfl rfl ?_ | refine Uw rfl rfl rfl ?_ | refine U0 z0 ?_ | refine U1 z1 ?_ | refine U9 zs ?_
    refine ax_cond rfl (fun hb1 => ?_) (fun hb1 => ?_)
    · have hlt : k + 1 < (hallFreeF h).length := by simp at hb1; omega
      obtain ⟨hv, c0, c1, _⟩ := free_cell hlt
      have hw := (way_good (h := h) (a := gi (hallFreeF h) (k+1)) (b := 0) (but := -1) (wayOk_iff.2 ⟨hv, ⟨c0, c1⟩, ⟨by omega, by omega⟩, ⟨by omega, by omega⟩, by omega, by omega⟩)).pos
      have hw12 := way_len h (gi (hallFreeF h) (k+1)) 0 (-1)
      repeat first | refine Ua ?_ | refine Ub ?_ | refine Uc ?_ | refine Ud ?_ | refine Ue ?_ | refine Ug ⟨by kernel_rfl, ?_⟩ | refine Ug ?_ | refine Uh ?_ | refine Ui ?_ | refine Uj ?_ | refine Uk rfl ?_ | refine Ul rfl ?_ | refine Um ?_ | refine Un ?_ | refine Uo ?_ | refine Up rfl ?_ | refine Uq ?_ | refine Ur ?_ | refine Us ?_ | refine Ut ?_ | refine Uu ?_ | refine Ux ?_ | refine Uv rfl rfl rfl rfl ?_ | refine Uw rfl rfl rfl ?_ | refine U0 z0 ?_ | refine U1 (by first | (apply st_call_s (hfn := wayCells_fn h hl (gi (hallFreeF h) (k+1)) 0 (-1) ); exact rfl; exact fz; iterate 2 exact rfl) | exact z1 | fail) ?_ | refine U9 zs ?_
      refine ax_cond rfl (fun hb2 => ?_) (fun hb2 => ?_)
      · have h1 : (wayF h (gi (hallFreeF h) (k+1)) 0 (-1)).length < (nearS h 0 (-1) (hallFreeF h) (k+1)).length := by simp at hb2; exact hb2
        repeat first | refine Ua ?_ | refine Ub ?_ | refine Uc ?_ | refine Ud ?_ | refine Ue ?_ | refine Ug ⟨by kernel_rfl, ?_⟩ | refine Ug ?_ | refine Uh ?_ | refine Ui ?_ | refine Uj ?_ | refine Uk rfl ?_ | refine Ul rfl ?_ | refine Um ?_ | refine Un ?_ | refine Uo ?_ | refine Up rfl ?_ | refine Uq ?_ | refine Ur ?_ | refine Us ?_ | refine Ut ?_ | refine Uu ?_ | refine Ux ?_ | refine Uv rfl rfl rfl rfl ?_ | refine Uw rfl rfl rfl ?_ | refine U0 z0 ?_ | refine U1 z1 ?_ | refine U9 zs ?_
        refine round_next (k + 1 + 1) (hlt) (by omega) (weak_of [(3, 4)] (by repeat first | exact .nil | refine LeEs.cons ?_ ?_ | exact .v (by first | rfl | (rw [near_yes hw (.inr h1)])) | exact .own rfl rfl rfl rfl rfl | exact .ptr rfl rfl rfl rfl rfl rfl | exact .nil rfl rfl rfl | exact .sl (by first | rfl | (rw [near_yes hw (.inr h1)])) | exact .both rfl rfl | exact .frz rfl rfl rfl rfl rfl (by first | rfl | (rw [near_yes hw (.inr h1)])) rfl | exact .tab rfl | exact .any _) (by repeat first | exact .nil | refine LeHs.keep rfl ⟨rfl, rfl, rfl, .inl ⟨rfl, by first | rfl | (rw [near_yes hw (.inr h1)])⟩⟩ ?_ | refine LeHs.keep rfl ⟨rfl, rfl, rfl, .inr ⟨(by first | exact .inl rfl | exact .inr rfl), by repeat first | exact .nil | refine LeVL.cons ?_ ?_ | exact .v (by first | rfl | (rw [near_yes hw (.inr h1)])) | exact .own rfl rfl rfl rfl rfl | exact .sl (by first | rfl | (rw [near_yes hw (.inr h1)])) | exact .both rfl rfl | exact .frz rfl rfl rfl rfl rfl (by first | rfl | (rw [near_yes hw (.inr h1)])) rfl⟩⟩ ?_ | refine LeHs.fresh rfl rfl rfl (Nat.succ_pos _) rfl ?_) rfl rfl)
      · have h1 : ¬ (nearS h 0 (-1) (hallFreeF h) (k+1)).length = 0 := by omega
        have h2 : ¬ (wayF h (gi (hallFreeF h) (k+1)) 0 (-1)).length < (nearS h 0 (-1) (hallFreeF h) (k+1)).length := by simp at hb2; omega
        repeat first | refine Ua ?_ | refine Ub ?_ | refine Uc ?_ | refine Ud ?_ | refine Ue ?_ | refine Ug ⟨by kernel_rfl, ?_⟩ | refine Ug ?_ | refine Uh ?_ | refine Ui ?_ | refine Uj ?_ | refine Uk rfl ?_ | refine Ul rfl ?_ | refine Um ?_ | refine Un ?_ | refine Uo ?_ | refine Up rfl ?_ | refine Uq ?_ | refine Ur ?_ | refine Us ?_ | refine Ut ?_ | refine Uu ?_ | refine Ux ?_ | refine Uv rfl rfl rfl rfl ?_ | refine Uw rfl rfl rfl ?_ | refine U0 z0 ?_ | refine U1 z1 ?_ | refine U9 zs ?_
        refine round_next (k + 1 + 1) (hlt) (by omega) (weak_of [] (by repeat first | exact .nil | refine LeEs.cons ?_ ?_ | exact .v (by first | rfl | (rw [near_no (fun e => e.2.elim h1 h2)])) | exact .own rfl rfl rfl rfl rfl | exact .ptr rfl rfl rfl rfl rfl rfl | exact .nil rfl rfl rfl | exact .sl (by first | rfl | (rw [near_no (fun e => e.2.elim h1 h2)])) | exact .both rfl rfl | exact .frz rfl rfl rfl rfl rfl (by first | rfl | (rw [near_no (fun e => e.2.elim h1 h2)])) rfl | exact .tab rfl | exact .any _) (by repeat first | exact .nil | refine LeHs.keep rfl ⟨rfl, rfl, rfl, .inl ⟨rfl, by first | rfl | (rw [near_no (fun e => e.2.elim h1 h2)])⟩⟩ ?_ | refine LeHs.keep rfl ⟨rfl, rfl, rfl, .inr ⟨(by first | exact .inl rfl | exact .inr rfl), by repeat first | exact .nil | refine LeVL.cons ?_ ?_ | exact .v (by first | rfl | (rw [near_no (fun e => e.2.elim h1 h2)])) | exact .own rfl rfl rfl rfl rfl | exact .sl (by first | rfl | (rw [near_no (fun e => e.2.elim h1 h2)])) | exact .both rfl rfl | exact .frz rfl rfl rfl rfl rfl (by first | rfl | (rw [near_no (fun e => e.2.elim h1 h2)])) rfl⟩⟩ ?_ | refine LeHs.fresh rfl rfl rfl (Nat.succ_pos _) rfl ?_) rfl rfl)
    · have hkn : k + 1 = (hallFreeF h).length := by simp at hb1; omega
      have hv := (free_cell (h := h) (k := k) (by omega)).1
      have en : nearF h 0 (-1) = nearS h 0 (-1) (hallFreeF h) (k + 1) := by unfold nearF; rw [← hkn]
      have hF : clearF h = (holeF h (nearS h 0 (-1) (hallFreeF h) (k + 1)), true) := by unfold clearF; rw [en, if_pos ⟨hv, hp⟩]
      rw [hF]
      repeat first | refine Ua ?_ | refine Ub ?_ | refine Uc ?_ | refine Ud ?_ | refine Ue ?_ | refine Ug ⟨by kernel_rfl, ?_⟩ | refine Ug ?_ | refine Uh ?_ | refine Ui ?_ | refine Uj ?_ | refine Uk rfl ?_ | refine Ul rfl ?_ | refine Um ?_ | refine Un ?_ | refine Uo ?_ | refine Up rfl ?_ | refine Uq ?_ | refine Ur ?_ | refine Us ?_ | refine Ut ?_ | refine Uu ?_ | refine Ux ?_ | refine Uv rfl rfl rfl rfl ?_ | refine Uw rfl rfl rfl ?_ | refine U0 z0 ?_ | refine U1 (by first | (apply st_call_s (hfn := holeSlides_fn h hl (nearS h 0 (-1) (hallFreeF h) (k + 1)) (by have := lim_eq; omega) ); exact rfl; exact fz; iterate 2 exact rfl) | exact z1 | fail) ?_ | refine U9 zs ?_
      exact ⟨.inl rfl, Rx⟩
end Go.Proofs.YtcjhlhikolaffaaDoor
