/-
  SlideRun, and doAll.
-/
import Derived.Test.YtnfjmcenjpoloaaDoorU3
import Derived.Test.YtnfjmcenjpoloaaDoorP6
set_option linter.unusedVariables false
set_option linter.unusedSimpArgs false
set_option maxRecDepth 100000
namespace Go.Proofs.YtnfjmcenjpoloaaDoor
open Go Go.RowKit Go.Park Go.Sym

/-- the hall behind the first k slides, where each is done -/
def stS (h : PHall) (l : List (Int × Int)) : Nat → PHall
  | 0 => h
  | k+1 => (slideDoF (stS h l k) (gs l k).1 (gs l k).2).1
def runF : PHall → List (Int × Int) → PHall × Nat
  | h, [] => (h, 0)
  | h, s :: l => if (slideDoF h s.1 s.2).2 = true then ((runF (slideDoF h s.1 s.2).1 l).1, (runF (slideDoF h s.1 s.2).1 l).2 + 1) else (h, 0)
def doneS (h : PHall) (l : List (Int × Int)) (k : Nat) : Prop := ∀ j, j < k → (slideDoF (stS h l j) (gs l j).1 (gs l j).2).2 = true
theorem stS_cons (h : PHall) (s : Int × Int) (l : List (Int × Int)) : ∀ k, stS h (s :: l) (k+1) = stS (slideDoF h s.1 s.2).1 l k
  | 0 => rfl
  | k+1 => by
    show (slideDoF (stS h (s :: l) (k+1)) _ _).1 = (slideDoF (stS (slideDoF h s.1 s.2).1 l k) _ _).1
    rw [stS_cons h s l k]
    rfl
theorem runF_end : ∀ {l : List (Int × Int)} {h : PHall}, doneS h l l.length → runF h l = (stS h l l.length, l.length)
  | [], h, _ => rfl
  | s :: l, h, hd => by
    have h0 : (slideDoF h s.1 s.2).2 = true := hd 0 (by simp)
    have h1 : doneS (slideDoF h s.1 s.2).1 l l.length := fun j hj => by
      have := hd (j+1) (by simp; omega)
      rw [stS_cons] at this
      exact this
    simp only [runF, if_pos h0, runF_end h1, List.length_cons, stS_cons]
theorem runF_stop : ∀ {l : List (Int × Int)} {h : PHall} {k : Nat}, doneS h l k → k < l.length → (slideDoF (stS h l k) (gs l k).1 (gs l k).2).2 = false → runF h l = (stS h l k, k)
  | [], h, k, _, hk, _ => by simp at hk
  | s :: l, h, 0, _, _, hf => by
    have : ¬ (slideDoF h s.1 s.2).2 = true := by
      have e : (slideDoF h s.1 s.2).2 = false := hf
      simp [e]
    simp only [runF, if_neg this]
    rfl
  | s :: l, h, k+1, hd, hk, hf => by
    have h0 : (slideDoF h s.1 s.2).2 = true := hd 0 (by simp)
    have h1 : doneS (slideDoF h s.1 s.2).1 l k := fun j hj => by
      have := hd (j+1) (by omega)
      rw [stS_cons] at this
      exact this
    rw [stS_cons] at hf
    simp only [runF, if_pos h0, runF_stop h1 (by simpa using hk) hf, stS_cons]
theorem stS_ok {h : PHall} {l : List (Int × Int)} (hv : validB h = true) : ∀ k, validB (stS h l k) = true ∧ (stS h l k).cells.length = h.cells.length ∧ (stS h l k).wide = h.wide ∧ (stS h l k).deep = h.deep
  | 0 => ⟨hv, rfl, rfl, rfl⟩
  | k+1 => by
    obtain ⟨h1, h2, h3, h4⟩ := stS_ok (l := l) hv k
    obtain ⟨e1, e2, e3⟩ := slideDo_len h1 (gs l k).1 (gs l k).2
    exact ⟨slideDo_valid h1 _ _, e1.trans h2, e2.trans h3, e3.trans h4⟩
theorem runF_ok : ∀ {l : List (Int × Int)} {h : PHall}, validB h = true → validB (runF h l).1 = true ∧ (runF h l).1.cells.length = h.cells.length ∧ (runF h l).1.wide = h.wide ∧ (runF h l).1.deep = h.deep ∧ (runF h l).2 ≤ l.length
  | [], h, hv => ⟨hv, rfl, rfl, rfl, Nat.le_refl _⟩
  | s :: l, h, hv => by
    simp only [runF]
    split
    · obtain ⟨h1, h2, h3, h4, h5⟩ := runF_ok (l := l) (slideDo_valid hv s.1 s.2)
      obtain ⟨e1, e2, e3⟩ := slideDo_len hv s.1 s.2
      exact ⟨h1, h2.trans e1, h3.trans e2, h4.trans e3, by simpa using h5⟩
    · exact ⟨hv, rfl, rfl, rfl, by simp⟩
def slideRunF (h : PHall) (l : List (Int × Int)) : PHall × Int := if validB h = true ∧ l.length ≤ 60 then ((runF h l).1, ((runF h l).2 : Int)) else (zeroHall, 0)
theorem slideRunF_len {h : PHall} {l : List (Int × Int)} : (slideRunF h l).1.cells.length ≤ h.cells.length := by
  unfold slideRunF
  split
  · rename_i hh
    rw [(runF_ok hh.1).2.1]
    exact Nat.le_refl _
  · simp [zeroHall]

set_option maxHeartbeats 2000000 in
theorem slideRun_fn (h : PHall) (hl : h.cells.length ≤ lim) (l : List (Int × Int)) (hw : l.length ≤ lim) : FnS Tryd.prog 15 [hallV h, slcV l] (.tup [hallV (slideRunF h l).1, .int (slideRunF h l).2]) := by
  have hl' : h.cells.length ≤ 1073741824 := hl
  have hw' : l.length ≤ 1073741824 := hw
  refine fn_go2 tabOk Tryd.func15 rfl (by kernel_rfl) Tryd.ntmps15 Tryd.results15 (by decide) ?_
  repeat first | refine Ua ?_ | refine Ub ?_ | refine Uc ?_ | refine Ud ?_ | refine Ue ?_ | refine Ug ⟨by kernel_rfl, ?_⟩ | refine Ug ?_ | refine Uh ?_ | refine Ui ?_ | refine Uj ?_ | refine Uk rfl ?_ | refine Ul rfl ?_ | refine Um ?_ | refine Un ?_ | refine Uo ?_ | refine Up rfl ?_ | refine Uq ?_ | refine Ur ?_ | refine Us ?_ | refine Ut ?_ | refine Uu ?_ | refine Ux ?_ | refine Uv rfl rfl rfl rfl ?_ | refine Uw rfl rfl rfl ?_ | refine U0 (by first | (apply st_call (hfn := hallValid_fn h hl ); exact rfl; exact fz) | exact z0 | fail) ?_ | refine U1 z1 ?_ | refine U9 zs ?_
  refine rh_split rfl rfl (fun hb => ?_) (fun hb => ?_)
  · have hF : slideRunF h l = (zeroHall, 0) := by simp at hb; simp [slideRunF, hb]
    rw [hF]
    repeat first | refine Ua ?_ | refine Ub ?_ | refine Uc ?_ | refine Ud ?_ | refine Ue ?_ | refine Ug ⟨by kernel_rfl, ?_⟩ | refine Ug ?_ | refine Uh ?_ | refine Ui ?_ | refine Uj ?_ | refine Uk rfl ?_ | refine Ul rfl ?_ | refine Um ?_ | refine Un ?_ | refine Uo ?_ | refine Up rfl ?_ | refine Uq ?_ | refine Ur ?_ | refine Us ?_ | refine Ut ?_ | refine Uu ?_ | refine Ux ?_ | refine Uv rfl rfl rfl rfl ?_ | refine Uw rfl rfl rfl ?_ | refine U0 z0 ?_ | refine U1 z1 ?_ | refine U9 zs ?_
    exact ⟨.inl rfl, Rx⟩
  have hv : validB h = true := by simpa using hb
  repeat first | refine Ua ?_ | refine Ub ?_ | refine Uc ?_ | refine Ud ?_ | refine Ue ?_ | refine Ug ⟨by kernel_rfl, ?_⟩ | refine Ug ?_ | refine Uh ?_ | refine Ui ?_ | refine Uj ?_ | refine Uk rfl ?_ | refine Ul rfl ?_ | refine Um ?_ | refine Un ?_ | refine Uo ?_ | refine Up rfl ?_ | refine Uq ?_ | refine Ur ?_ | refine Us ?_ | refine Ut ?_ | refine Uu ?_ | refine Ux ?_ | refine Uv rfl rfl rfl rfl ?_ | refine Uw rfl rfl rfl ?_ | refine U0 z0 ?_ | refine U1 z1 ?_ | refine U9 zs ?_
  refine ax_cond rfl (fun hb1 => ?_) (fun hb1 => ?_)
  · have hF : slideRunF h l = (zeroHall, 0) := by simp at hb1; have : ¬ l.length ≤ 60 := by omega
                                                  simp [slideRunF, this]
    rw [hF]
    repeat first | refine Ua ?_ | refine Ub ?_ | refine Uc ?_ | refine Ud ?_ | refine Ue ?_ | refine Ug ⟨by kernel_rfl, ?_⟩ | refine Ug ?_ | refine Uh ?_ | refine Ui ?_ | refine Uj ?_ | refine Uk rfl ?_ | refine Ul rfl ?_ | refine Um ?_ | refine Un ?_ | refine Uo ?_ | refine Up rfl ?_ | refine Uq ?_ | refine Ur ?_ | refine Us ?_ | refine Ut ?_ | refine Uu ?_ | refine Ux ?_ | refine Uv rfl rfl rfl rfl ?_ | refine Uw rfl rfl rfl ?_ | refine U0 z0 ?_ | refine U1 z1 ?_ | refine U9 zs ?_
    exact ⟨.inl rfl, Rx⟩
  have h60 : l.length ≤ 60 := by simp at hb1; omega
  have hF : slideRunF h l = ((runF h l).1, ((runF h l).2 : Int)) := by simp [slideRunF, hv, h60]
  rw [hF]
  repeat first | refine Ua ?_ | refine Ub ?_ | refine Uc ?_ | refine Ud ?_ | refine Ue ?_ | refine Ug ⟨by kernel_rfl, ?_⟩ | refine Ug ?_ | refine Uh ?_ | refine Ui ?_ | refine Uj ?_ | refine Uk rfl ?_ | refine Ul rfl ?_ | refine Um ?_ | refine Un ?_ | refine Uo ?_ | refine Up rfl ?_ | refine Uq ?_ | refine Ur ?_ | refine Us ?_ | refine Ut ?_ | refine Uu ?_ | refine Ux ?_ | refine Uv rfl rfl rfl rfl ?_ | refine Uw rfl rfl rfl ?_ | refine U0 z0 ?_ | refine U1 (by first | (apply st_call_h (hfn := copyHall_fn h hl (valid_ne hv) ); exact rfl; exact fz; iterate 2 exact rfl) | exact z1 | fail) ?_ | refine U9 zs ?_
  refine ax_loop (fun k : Nat => mkS [(24, .int (k : Int)), (23, .int (l.length : Int)), (22, slcV l), (1, slcV l), (6, .ptr 4 0 0), (4, .ptr 2 0 0)] ⟨5, [(2, some zeroRow), (3, some (intsRow (stS h l k).cells)), (4, some (boxRow (stS h l k).wide (stS h l k).deep 3 0))]⟩) (fun k => k ≤ l.length ∧ doneS h l k) (fun k => l.length - k) (0) (⟨Nat.zero_le _, fun j hj => by omega⟩) (Lw (ρ := [])) ?_
  rintro k ⟨hk, hd⟩
  obtain ⟨s1, s2, s3, s4⟩ := stS_ok (l := l) hv k
  repeat first | refine Ua ?_ | refine Ub ?_ | refine Uc ?_ | refine Ud ?_ | refine Ue ?_ | refine Ug ⟨by kernel_rfl, ?_⟩ | refine Ug ?_ | refine Uh ?_ | refine Ui ?_ | refine Uj ?_ | refine Uk rfl ?_ | refine Ul rfl ?_ | refine Um ?_ | refine Un ?_ | refine Uo ?_ | refine Up rfl ?_ | refine Uq ?_ | refine Ur ?_ | refine Us ?_ | refine Ut ?_ | refine Uu ?_ | refine Ux ?_ | refine Uv rfl rfl rfl rfl ?_ | refine Uw rfl rfl rfl ?_ | refine U0 z0 ?_ | refine U1 z1 ?_ | refine U9 zs ?_
  refine ax_cond rfl (fun hb2 => ?_) (fun hb2 => ?_)
  · have hlt : k < l.length := by simp at hb2; exact hb2
    repeat first | refine Ua ?_ | refine Ub ?_ | refine Uc ?_ | refine Ud ?_ | refine Ue ?_ | refine Ug ⟨by kernel_rfl, ?_⟩ | refine Ug ?_ | refine Uh ?_ | refine Ui ?_ | refine Uj ?_ | refine Uk rfl ?_ | refine Ul rfl ?_ | refine Um ?_ | refine Un ?_ | refine Uo ?_ | refine Up rfl ?_ | refine Uq ?_ | refine Ur ?_ | refine Us ?_ | refine Ut ?_ | refine Uu ?_ | refine Ux ?_ | refine Uv rfl rfl rfl rfl ?_ | refine Uw rfl rfl rfl ?_ | refine U0 z0 ?_ | refine U1 (by first | (apply st_call_hv (hfn := slideDo_fn (stS h l k) (by omega) (gs l k).1 (gs l k).2 ); exact rfl; exact fz; iterate 2 exact rfl) | exact z1 | fail) ?_ | refine U9 zs ?_
    refine ax_cond rfl (fun hb3 => ?_) (fun hb3 => ?_)
    · have hR := runF_stop hd hlt (by simpa using hb3)
      rw [hR]
      repeat first | refine Ua ?_ | refine Ub ?_ | refine Uc ?_ | refine Ud ?_ | refine Ue ?_ | refine Ug ⟨by kernel_rfl, ?_⟩ | refine Ug ?_ | refine Uh ?_ | refine Ui ?_ | refine Uj ?_ | refine Uk rfl ?_ | refine Ul rfl ?_ | refine Um ?_ | refine Un ?_ | refine Uo ?_ | refine Up rfl ?_ | refine Uq ?_ | refine Ur ?_ | refine Us ?_ | refine Ut ?_ | refine Uu ?_ | refine Ux ?_ | refine Uv rfl rfl rfl rfl ?_ | refine Uw rfl rfl rfl ?_ | refine U0 z0 ?_ | refine U1 z1 ?_ | refine U9 zs ?_
      exact ⟨.inl rfl, Rx⟩
    · have ho : (slideDoF (stS h l k) (gs l k).1 (gs l k).2).2 = true := by simpa using hb3
      repeat first | refine Ua ?_ | refine Ub ?_ | refine Uc ?_ | refine Ud ?_ | refine Ue ?_ | refine Ug ⟨by kernel_rfl, ?_⟩ | refine Ug ?_ | refine Uh ?_ | refine Ui ?_ | refine Uj ?_ | refine Uk rfl ?_ | refine Ul rfl ?_ | refine Um ?_ | refine Un ?_ | refine Uo ?_ | refine Up rfl ?_ | refine Uq ?_ | refine Ur ?_ | refine Us ?_ | refine Ut ?_ | refine Uu ?_ | refine Ux ?_ | refine Uv rfl rfl rfl rfl ?_ | refine Uw rfl rfl rfl ?_ | refine U0 z0 ?_ | refine U1 z1 ?_ | refine U9 zs ?_
      refine round_next (k + 1) (⟨hlt, fun j hj => by by_cases e : j = k; (subst e; exact ho); exact hd j (by omega)⟩) (by omega) (Lw (ρ := [(3, 6)]))
  · have hkn : k = l.length := by simp at hb2; omega
    subst hkn
    rw [runF_end hd]
    repeat first | refine Ua ?_ | refine Ub ?_ | refine Uc ?_ | refine Ud ?_ | refine Ue ?_ | refine Ug ⟨by kernel_rfl, ?_⟩ | refine Ug ?_ | refine Uh ?_ | refine Ui ?_ | refine Uj ?_ | refine Uk rfl ?_ | refine Ul rfl ?_ | refine Um ?_ | refine Un ?_ | refine Uo ?_ | refine Up rfl ?_ | refine Uq ?_ | refine Ur ?_ | refine Us ?_ | refine Ut ?_ | refine Uu ?_ | refine Ux ?_ | refine Uv rfl rfl rfl rfl ?_ | refine Uw rfl rfl rfl ?_ | refine U0 z0 ?_ | refine U1 z1 ?_ | refine U9 zs ?_
    exact ⟨.inl rfl, Rx⟩
set_option maxHeartbeats 2000000 in
theorem specSlideRun_fn (h : PHall) (hl : h.cells.length ≤ lim) (l : List (Int × Int)) (hw : l.length ≤ lim) : FnS Tryd.prog 69 [hallV h, slcV l] (.tup [hallV (slideRunF h l).1, .int (slideRunF h l).2]) := by
  have hl' : h.cells.length ≤ 1073741824 := hl
  have hw' : l.length ≤ 1073741824 := hw
  refine fn_go2 tabOk Tryd.func69 rfl (by kernel_rfl) Tryd.ntmps69 Tryd.results69 (by decide) ?_
  repeat first | refine Ua ?_ | refine Ub ?_ | refine Uc ?_ | refine Ud ?_ | refine Ue ?_ | refine Ug ⟨by kernel_rfl, ?_⟩ | refine Ug ?_ | refine Uh ?_ | refine Ui ?_ | refine Uj ?_ | refine Uk rfl ?_ | refine Ul rfl ?_ | refine Um ?_ | refine Un ?_ | refine Uo ?_ | refine Up rfl ?_ | refine Uq ?_ | refine Ur ?_ | refine Us ?_ | refine Ut ?_ | refine Uu ?_ | refine Ux ?_ | refine Uv rfl rfl rfl rfl ?_ | refine Uw rfl rfl rfl ?_ | refine U0 (by first | (apply st_call (hfn := specHallValid_fn h hl ); exact rfl; exact fz) | exact z0 | fail) ?_ | refine U1 z1 ?_ | refine U9 zs ?_
  refine rh_split rfl rfl (fun hb => ?_) (fun hb => ?_)
  · have hF : slideRunF h l = (zeroHall, 0) := by simp at hb; simp [slideRunF, hb]
    rw [hF]
    repeat first | refine Ua ?_ | refine Ub ?_ | refine Uc ?_ | refine Ud ?_ | refine Ue ?_ | refine Ug ⟨by kernel_rfl, ?_⟩ | refine Ug ?_ | refine Uh ?_ | refine Ui ?_ | refine Uj ?_ | refine Uk rfl ?_ | refine Ul rfl ?_ | refine Um ?_ | refine Un ?_ | refine Uo ?_ | refine Up rfl ?_ | refine Uq ?_ | refine Ur ?_ | refine Us ?_ | refine Ut ?_ | refine Uu ?_ | refine Ux ?_ | refine Uv rfl rfl rfl rfl ?_ | refine Uw rfl rfl rfl ?_ | refine U0 z0 ?_ | refine U1 z1 ?_ | refine U9 zs ?_
    exact ⟨.inl rfl, Rx⟩
  have hv : validB h = true := by simpa using hb
  repeat first | refine Ua ?_ | refine Ub ?_ | refine Uc ?_ | refine Ud ?_ | refine Ue ?_ | refine Ug ⟨by kernel_rfl, ?_⟩ | refine Ug ?_ | refine Uh ?_ | refine Ui ?_ | refine Uj ?_ | refine Uk rfl ?_ | refine Ul rfl ?_ | refine Um ?_ | refine Un ?_ | refine Uo ?_ | refine Up rfl ?_ | refine Uq ?_ | refine Ur ?_ | refine Us ?_ | refine Ut ?_ | refine Uu ?_ | refine Ux ?_ | refine Uv rfl rfl rfl rfl ?_ | refine Uw rfl rfl rfl ?_ | refine U0 z0 ?_ | refine U1 z1 ?_ | refine U9 zs ?_
  refine ax_cond rfl (fun hb1 => ?_) (fun hb1 => ?_)
  · have hF : slideRunF h l = (zeroHall, 0) := by simp at hb1; have : ¬ l.length ≤ 60 := by omega
                                                  simp [slideRunF, this]
    rw [hF]
    repeat first | refine Ua ?_ | refine Ub ?_ | refine Uc ?_ | refine Ud ?_ | refine Ue ?_ | refine Ug ⟨by kernel_rfl, ?_⟩ | refine Ug ?_ | refine Uh ?_ | refine Ui ?_ | refine Uj ?_ | refine Uk rfl ?_ | refine Ul rfl ?_ | refine Um ?_ | refine Un ?_ | refine Uo ?_ | refine Up rfl ?_ | refine Uq ?_ | refine Ur ?_ | refine Us ?_ | refine Ut ?_ | refine Uu ?_ | refine Ux ?_ | refine Uv rfl rfl rfl rfl ?_ | refine Uw rfl rfl rfl ?_ | refine U0 z0 ?_ | refine U1 z1 ?_ | refine U9 zs ?_
    exact ⟨.inl rfl, Rx⟩
  have h60 : l.length ≤ 60 := by simp at hb1; omega
  have hF : slideRunF h l = ((runF h l).1, ((runF h l).2 : Int)) := by simp [slideRunF, hv, h60]
  rw [hF]
  repeat first | refine Ua ?_ | refine Ub ?_ | refine Uc ?_ | refine Ud ?_ | refine Ue ?_ | refine Ug ⟨by kernel_rfl, ?_⟩ | refine Ug ?_ | refine Uh ?_ | refine Ui ?_ | refine Uj ?_ | refine Uk rfl ?_ | refine Ul rfl ?_ | refine Um ?_ | refine Un ?_ | refine Uo ?_ | refine Up rfl ?_ | refine Uq ?_ | refine Ur ?_ | refine Us ?_ | refine Ut ?_ | refine Uu ?_ | refine Ux ?_ | refine Uv rfl rfl rfl rfl ?_ | refine Uw rfl rfl rfl ?_ | refine U0 z0 ?_ | refine U1 (by first | (apply st_call_h (hfn := l1Hall_fn h hl (valid_ne hv) ); exact rfl; exact fz; iterate 2 exact rfl) | exact z1 | fail) ?_ | refine U9 zs ?_
  refine ax_loop (fun k : Nat => mkS [(7, .int (k : Int)), (1, slcV l), (6, .ptr 4 0 0), (4, .ptr 2 0 0)] ⟨5, [(2, some zeroRow), (3, some (intsRow (stS h l k).cells)), (4, some (boxRow (stS h l k).wide (stS h l k).deep 3 0))]⟩) (fun k => k ≤ l.length ∧ doneS h l k) (fun k => l.length - k) (0) (⟨Nat.zero_le _, fun j hj => by omega⟩) (Lw (ρ := [])) ?_
  rintro k ⟨hk, hd⟩
  obtain ⟨s1, s2, s3, s4⟩ := stS_ok (l := l) hv k
  repeat first | refine Ua ?_ | refine Ub ?_ | refine Uc ?_ | refine Ud ?_ | refine Ue ?_ | refine Ug ⟨by kernel_rfl, ?_⟩ | refine Ug ?_ | refine Uh ?_ | refine Ui ?_ | refine Uj ?_ | refine Uk rfl ?_ | refine Ul rfl ?_ | refine Um ?_ | refine Un ?_ | refine Uo ?_ | refine Up rfl ?_ | refine Uq ?_ | refine Ur ?_ | refine Us ?_ | refine Ut ?_ | refine Uu ?_ | refine Ux ?_ | refine Uv rfl rfl rfl rfl ?_ | refine Uw rfl rfl rfl ?_ | refine U0 z0 ?_ | refine U1 z1 ?_ | refine U9 zs ?_
  refine ax_cond rfl (fun hb2 => ?_) (fun hb2 => ?_)
  · have hlt : k < l.length := by simp at hb2; exact hb2
    repeat first | refine Ua ?_ | refine Ub ?_ | refine Uc ?_ | refine Ud ?_ | refine Ue ?_ | refine Ug ⟨by kernel_rfl, ?_⟩ | refine Ug ?_ | refine Uh ?_ | refine Ui ?_ | refine Uj ?_ | refine Uk rfl ?_ | refine Ul rfl ?_ | refine Um ?_ | refine Un ?_ | refine Uo ?_ | refine Up rfl ?_ | refine Uq ?_ | refine Ur ?_ | refine Us ?_ | refine Ut ?_ | refine Uu ?_ | refine Ux ?_ | refine Uv rfl rfl rfl rfl ?_ | refine Uw rfl rfl rfl ?_ | refine U0 z0 ?_ | refine U1 (by first | (apply st_call_hv (hfn := specSlideDo_fn (stS h l k) (by omega) (gs l k).1 (gs l k).2 ); exact rfl; exact fz; iterate 2 exact rfl) | exact z1 | fail) ?_ | refine U9 zs ?_
    refine ax_cond rfl (fun hb3 => ?_) (fun hb3 => ?_)
    · have hR := runF_stop hd hlt (by simpa using hb3)
      rw [hR]
      repeat first | refine Ua ?_ | refine Ub ?_ | refine Uc ?_ | refine Ud ?_ | refine Ue ?_ | refine Ug ⟨by kernel_rfl, ?_⟩ | refine Ug ?_ | refine Uh ?_ | refine Ui ?_ | refine Uj ?_ | refine Uk rfl ?_ | refine Ul rfl ?_ | refine Um ?_ | refine Un ?_ | refine Uo ?_ | refine Up rfl ?_ | refine Uq ?_ | refine Ur ?_ | refine Us ?_ | refine Ut ?_ | refine Uu ?_ | refine Ux ?_ | refine Uv rfl rfl rfl rfl ?_ | refine Uw rfl rfl rfl ?_ | refine U0 z0 ?_ | refine U1 z1 ?_ | refine U9 zs ?_
      exact ⟨.inl rfl, Rx⟩
    · have ho : (slideDoF (stS h l k) (gs l k).1 (gs l k).2).2 = true := by simpa using hb3
      repeat first | refine Ua ?_ | refine Ub ?_ | refine Uc ?_ | refine Ud ?_ | refine Ue ?_ | refine Ug ⟨by kernel_rfl, ?_⟩ | refine Ug ?_ | refine Uh ?_ | refine Ui ?_ | refine Uj ?_ | refine Uk rfl ?_ | refine Ul rfl ?_ | refine Um ?_ | refine Un ?_ | refine Uo ?_ | refine Up rfl ?_ | refine Uq ?_ | refine Ur ?_ | refine Us ?_ | refine Ut ?_ | refine Uu ?_ | refine Ux ?_ | refine Uv rfl rfl rfl rfl ?_ | refine Uw rfl rfl rfl ?_ | refine U0 z0 ?_ | refine U1 z1 ?_ | refine U9 zs ?_
      refine round_next (k + 1) (⟨hlt, fun j hj => by by_cases e : j = k; (subst e; exact ho); exact hd j (by omega)⟩) (by omega) (Lw (ρ := [(3, 5)]))
  · have hkn : k = l.length := by simp at hb2; omega
    subst hkn
    rw [runF_end hd]
    repeat first | refine Ua ?_ | refine Ub ?_ | refine Uc ?_ | refine Ud ?_ | refine Ue ?_ | refine Ug ⟨by kernel_rfl, ?_⟩ | refine Ug ?_ | refine Uh ?_ | refine Ui ?_ | refine Uj ?_ | refine Uk rfl ?_ | refine Ul rfl ?_ | refine Um ?_ | refine Un ?_ | refine Uo ?_ | refine Up rfl ?_ | refine Uq ?_ | refine Ur ?_ | refine Us ?_ | refine Ut ?_ | refine Uu ?_ | refine Ux ?_ | refine Uv rfl rfl rfl rfl ?_ | refine Uw rfl rfl rfl ?_ | refine U0 z0 ?_ | refine U1 z1 ?_ | refine U9 zs ?_
    exact ⟨.inl rfl, Rx⟩
set_option maxHeartbeats 2000000 in
theorem doAll_fn (h : PHall) (hl : h.cells.length ≤ lim) (hv : validB h = true) (l : List (Int × Int)) (hw : l.length ≤ lim) : FnS Tryd.prog 67 [hallV h, slcV l] (hallV (stS h l l.length)) := by
  have hl' : h.cells.length ≤ 1073741824 := hl
  have hw' : l.length ≤ 1073741824 := hw
  refine fn_go2 tabOk Tryd.func67 rfl (by kernel_rfl) Tryd.ntmps67 Tryd.results67 (by decide) ?_
  repeat first | refine Ua ?_ | refine Ub ?_ | refine Uc ?_ | refine Ud ?_ | refine Ue ?_ | refine Ug ⟨by kernel_rfl, ?_⟩ | refine Ug ?_ | refine Uh ?_ | refine Ui ?_ | refine Uj ?_ | refine Uk rfl ?_ | refine Ul rfl ?_ | refine Um ?_ | refine Un ?_ | refine Uo ?_ | refine Up rfl ?_ | refine Uq ?_ | refine Ur ?_ | refine Us ?_ | refine Ut ?_ | refine Uu ?_ | refine Ux ?_ | refine Uv rfl rfl rfl rfl ?_ | refine Uw rfl rfl rfl ?_ | refine U0 z0 ?_ | refine U1 (by first | (apply st_call_h (hfn := copyHall_fn h hl (valid_ne hv) ); exact rfl; exact fz; iterate 2 exact rfl) | exact z1 | fail) ?_ | refine U9 zs ?_
  refine ax_loop (fun k : Nat => mkS [(12, .int (k : Int)), (11, .int (l.length : Int)), (10, slcV l), (5, .ptr 4 0 0), (4, .ptr 2 0 0)] ⟨5, [(2, some zeroRow), (3, some (intsRow (stS h l k).cells)), (4, some (boxRow (stS h l k).wide (stS h l k).deep 3 0))]⟩) (fun k => k ≤ l.length) (fun k => l.length - k) (0) (Nat.zero_le _) (Lw (ρ := [])) ?_
  rintro k hk
  obtain ⟨s1, s2, s3, s4⟩ := stS_ok (l := l) hv k
  repeat first | refine Ua ?_ | refine Ub ?_ | refine Uc ?_ | refine Ud ?_ | refine Ue ?_ | refine Ug ⟨by kernel_rfl, ?_⟩ | refine Ug ?_ | refine Uh ?_ | refine Ui ?_ | refine Uj ?_ | refine Uk rfl ?_ | refine Ul rfl ?_ | refine Um ?_ | refine Un ?_ | refine Uo ?_ | refine Up rfl ?_ | refine Uq ?_ | refine Ur ?_ | refine Us ?_ | refine Ut ?_ | refine Uu ?_ | refine Ux ?_ | refine Uv rfl rfl rfl rfl ?_ | refine Uw rfl rfl rfl ?_ | refine U0 z0 ?_ | refine U1 z1 ?_ | refine U9 zs ?_
  refine ax_cond rfl (fun hb2 => ?_) (fun hb2 => ?_)
  · have hlt : k < l.length := by simp at hb2; exact hb2
    repeat first | refine Ua ?_ | refine Ub ?_ | refine Uc ?_ | refine Ud ?_ | refine Ue ?_ | refine Ug ⟨by kernel_rfl, ?_⟩ | refine Ug ?_ | refine Uh ?_ | refine Ui ?_ | refine Uj ?_ | refine Uk rfl ?_ | refine Ul rfl ?_ | refine Um ?_ | refine Un ?_ | refine Uo ?_ | refine Up rfl ?_ | refine Uq ?_ | refine Ur ?_ | refine Us ?_ | refine Ut ?_ | refine Uu ?_ | refine Ux ?_ | refine Uv rfl rfl rfl rfl ?_ | refine Uw rfl rfl rfl ?_ | refine U0 z0 ?_ | refine U1 (by first | (apply st_call_hv (hfn := slideDo_fn (stS h l k) (by omega) (gs l k).1 (gs l k).2 ); exact rfl; exact fz; iterate 2 exact rfl) | exact z1 | fail) ?_ | refine U9 zs ?_
    refine round_next (k + 1) (hlt) (by omega) (Lw (ρ := [(3, 6)]))
  · have hkn : k = l.length := by simp at hb2; omega
    subst hkn
    repeat first | refine Ua ?_ | refine Ub ?_ | refine Uc ?_ | refine Ud ?_ | refine Ue ?_ | refine Ug ⟨by kernel_rfl, ?_⟩ | refine Ug ?_ | refine Uh ?_ | refine Ui ?_ | refine Uj ?_ | refine Uk rfl ?_ | refine Ul rfl ?_ | refine Um ?_ | refine Un ?_ | refine Uo ?_ | refine Up rfl ?_ | refine Uq ?_ | refine Ur ?_ | refine Us ?_ | refine Ut ?_ | refine Uu ?_ | refine Ux ?_ | refine Uv rfl rfl rfl rfl ?_ | refine Uw rfl rfl rfl ?_ | refine U0 z0 ?_ | refine U1 z1 ?_ | refine U9 zs ?_
    exact ⟨.inl rfl, Rx⟩
end Go.Proofs.YtnfjmcenjpoloaaDoor
