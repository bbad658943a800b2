/-
  Runs of stores (and of fetches).
-/
import Derived.Test.YtjkogihfdnjdhaaU7
set_option linter.unusedVariables false
set_option linter.unusedSimpArgs false
set_option maxRecDepth 100000
namespace Go.Proofs.Ytjkogihfdnjdhaa
open Go Go.RowKit Go.Park Go.Sym

section
variable (f : PHall → Int → PHall × Int)
def stG (h : PHall) (l : List Int) : Nat → PHall
  | 0 => h
  | k+1 => (f (stG h l k) (gi l k)).1
def sumG (h : PHall) (l : List Int) : Nat → Int
  | 0 => 0
  | k+1 => sumG h l k + (f (stG f h l k) (gi l k)).2
def runG : PHall → List Int → PHall × Nat × Int
  | h, [] => (h, 0, 0)
  | h, x :: l => if (f h x).2 < 0 then (h, 0, 0) else ((runG (f h x).1 l).1, (runG (f h x).1 l).2.1 + 1, (f h x).2 + (runG (f h x).1 l).2.2)
end
section
variable {f : PHall → Int → PHall × Int}
def fineG (f : PHall → Int → PHall × Int) (h : PHall) (l : List Int) (k : Nat) : Prop := ∀ j, j < k → ¬ (f (stG f h l j) (gi l j)).2 < 0
theorem gi_cons (x : Int) (l : List Int) (k : Nat) : gi (x :: l) (k+1) = gi l k := by simp [gi]
theorem gi_zero (x : Int) (l : List Int) : gi (x :: l) 0 = x := by simp [gi]
theorem stG_cons (h : PHall) (x : Int) (l : List Int) : ∀ k, stG f h (x :: l) (k+1) = stG f (f h x).1 l k
  | 0 => by simp [stG, gi_zero]
  | k+1 => by
    show (f (stG f h (x :: l) (k+1)) _).1 = (f (stG f (f h x).1 l k) _).1
    rw [stG_cons h x l k, gi_cons]
theorem sumG_cons (h : PHall) (x : Int) (l : List Int) : ∀ k, sumG f h (x :: l) (k+1) = (f h x).2 + sumG f (f h x).1 l k
  | 0 => by simp [sumG, stG, gi_zero]
  | k+1 => by
    show sumG f h (x :: l) (k+1) + (f (stG f h (x :: l) (k+1)) _).2 = (f h x).2 + (sumG f (f h x).1 l k + (f (stG f (f h x).1 l k) _).2)
    rw [sumG_cons h x l k, stG_cons, gi_cons]
    omega
theorem runG_end : ∀ {l : List Int} {h : PHall}, fineG f h l l.length → runG f h l = (stG f h l l.length, l.length, sumG f h l l.length)
  | [], h, _ => rfl
  | x :: l, h, hd => by
    have h0 : ¬ (f h x).2 < 0 := by have := hd 0 (by simp); simpa [stG, gi_zero] using this
    have h1 : fineG f (f h x).1 l l.length := fun j hj => by
      have := hd (j+1) (by simp; omega)
      rw [stG_cons, gi_cons] at this
      exact this
    simp only [runG, if_neg h0, runG_end h1, List.length_cons, stG_cons, sumG_cons]
theorem runG_stop : ∀ {l : List Int} {h : PHall} {k : Nat}, fineG f h l k → k < l.length → (f (stG f h l k) (gi l k)).2 < 0 → runG f h l = (stG f h l k, k, sumG f h l k)
  | [], h, k, _, hk, _ => by simp at hk
  | x :: l, h, 0, _, _, hf => by
    have h0 : (f h x).2 < 0 := by simpa [stG, gi_zero] using hf
    simp only [runG, if_pos h0]
    rfl
  | x :: l, h, k+1, hd, hk, hf => by
    have h0 : ¬ (f h x).2 < 0 := by have := hd 0 (by omega); simpa [stG, gi_zero] using this
    have h1 : fineG f (f h x).1 l k := fun j hj => by
      have := hd (j+1) (by omega)
      rw [stG_cons, gi_cons] at this
      exact this
    rw [stG_cons, gi_cons] at hf
    simp only [runG, if_neg h0, runG_stop h1 (by simpa using hk) hf, stG_cons, sumG_cons]
theorem stG_ok (hf : ∀ h x, validB h = true → validB (f h x).1 = true ∧ (f h x).1.cells.length = h.cells.length) {h : PHall} {l : List Int} (hv : validB h = true) : ∀ k, validB (stG f h l k) = true ∧ (stG f h l k).cells.length = h.cells.length
  | 0 => ⟨hv, rfl⟩
  | k+1 => by
    obtain ⟨h1, h2⟩ := stG_ok hf (l := l) hv k
    obtain ⟨e1, e2⟩ := hf _ (gi l k) h1
    exact ⟨e1, e2.trans h2⟩
theorem runG_ok (hf : ∀ h x, validB h = true → validB (f h x).1 = true ∧ (f h x).1.cells.length = h.cells.length) : ∀ {l : List Int} {h : PHall}, validB h = true → validB (runG f h l).1 = true ∧ (runG f h l).1.cells.length = h.cells.length
  | [], h, hv => ⟨hv, rfl⟩
  | x :: l, h, hv => by
    simp only [runG]
    split
    · exact ⟨hv, rfl⟩
    · obtain ⟨e1, e2⟩ := hf h x hv
      obtain ⟨h1, h2⟩ := runG_ok hf (l := l) e1
      exact ⟨h1, h2.trans e2⟩
end
def storeRunF (h : PHall) (l : List Int) : PHall × Int := if validB h = true then ((runG storeF h l).1, ((runG storeF h l).2.1 : Int)) else (zeroHall, 0)
theorem storeRunF_len (h : PHall) (l : List Int) : (storeRunF h l).1.cells.length ≤ h.cells.length := by
  unfold storeRunF
  split
  · rename_i hv
    rw [(runG_ok (fun h x hv => storeF_ok hv x) hv).2]
    exact Nat.le_refl _
  · simp [zeroHall]
set_option maxHeartbeats 2000000 in
theorem storeRun_fn (h : PHall) (hl : h.cells.length ≤ lim) (l : List Int) (hw : l.length ≤ lim) : FnS Try.prog 37 [hallV h, intsV l] (.tup [hallV (storeRunF h l).1, .int (storeRunF h l).2]) := by
  have hl' : h.cells.length ≤ 1073741824 := hl
  have hw' : l.length ≤ 1073741824 := hw
  refine fn_go2 tabOk Try.func37 rfl (by kernel_rfl) Try.ntmps37 Try.results37 (by decide) ?_
  repeat first | refine ax_seq ?_ | refine ax_next ?_ | refine rg_text ?_ | refine rg_any mixed ?_ | refine ax_block ?_ | refine rh_nil ⟨(by kernel_rfl), ?_⟩ | refine rh_nil ?_ | refine ax_ret ?_ | refine ax_skip ?_ | refine ax_exit ?_ | refine ax_true rfl ?_ | refine ax_false rfl ?_ | refine then_ret ?_ | refine then_exit ?_ | refine out_here ?_ | refine out_away rfl ?_ | refine out_normal ?_ | refine out_ret ?_ | refine round_exit ?_ | refine round_ret ?_ | refine meet_ret ?_ | refine meet_exit ?_ | (apply rh_no; iterate 4 exact rfl) | (apply rh_un; iterate 3 exact rfl) | (apply rh0; (case h => first | (apply st_call (hfn := hallValid_fn h hl); exact rfl; exact fz) | exact z0); (case hw => exact wt)) | (apply rh1; (case h => exact z1); (case hw => exact wt)) | (apply rhs; (case h => exact zs); (case hw => exact wt))
  refine ax_cond rfl (fun hb => ?_) (fun hb => ?_)
  · have hF : storeRunF h l = (zeroHall, 0) := by simp at hb; simp [storeRunF, hb]
    rw [hF]
    repeat first | refine ax_seq ?_ | refine ax_next ?_ | refine rg_text ?_ | refine rg_any mixed ?_ | refine ax_block ?_ | refine rh_nil ⟨(by kernel_rfl), ?_⟩ | refine rh_nil ?_ | refine ax_ret ?_ | refine ax_skip ?_ | refine ax_exit ?_ | refine ax_true rfl ?_ | refine ax_false rfl ?_ | refine then_ret ?_ | refine then_exit ?_ | refine out_here ?_ | refine out_away rfl ?_ | refine out_normal ?_ | refine out_ret ?_ | refine round_exit ?_ | refine round_ret ?_ | refine meet_ret ?_ | refine meet_exit ?_ | (apply rh_no; iterate 4 exact rfl) | (apply rh_un; iterate 3 exact rfl) | (apply rh0; (case h => exact z0); (case hw => exact wt)) | (apply rh1; (case h => exact z1); (case hw => exact wt)) | (apply rhs; (case h => exact zs); (case hw => exact wt))
    refine ⟨.inl rfl, _, _, (by repeat first | exact .nil | apply ResL.cons | exact .tmp rfl | exact .agg rfl rfl rfl rfl rfl (Nat.le_of_ble_eq_true rfl) rfl | exact .cell rfl rfl rfl rfl rfl (Nat.le_of_ble_eq_true rfl) rfl), (by first | exact .one (by first | exact .one (.v rfl) | exact .one (.own rfl rfl rfl rfl rfl rfl rfl (by first | exact scal_ints _ | exact scal_slc _)) | exact .one (.nil (by decide) rfl) | exact .agg (.cons (.v rfl) (.cons (.v rfl) (.cons (.own rfl rfl rfl rfl rfl rfl rfl (scal_ints _)) .nil))) | exact .agg (.cons (.v rfl) (.cons (.v rfl) (.cons (.nil (by decide) rfl) .nil)))) | exact .two (by repeat first | exact .nil | apply ExpL.cons | exact (by first | exact .one (.v rfl) | exact .one (.own rfl rfl rfl rfl rfl rfl rfl (by first | exact scal_ints _ | exact scal_slc _)) | exact .one (.nil (by decide) rfl) | exact .agg (.cons (.v rfl) (.cons (.v rfl) (.cons (.own rfl rfl rfl rfl rfl rfl rfl (scal_ints _)) .nil))) | exact .agg (.cons (.v rfl) (.cons (.v rfl) (.cons (.nil (by decide) rfl) .nil)))))), (by decide)⟩
  have hv : validB h = true := by simpa using hb
  have hF : storeRunF h l = ((runG storeF h l).1, ((runG storeF h l).2.1 : Int)) := by simp [storeRunF, hv]
  rw [hF]
  repeat first | refine ax_seq ?_ | refine ax_next ?_ | refine rg_text ?_ | refine rg_any mixed ?_ | refine ax_block ?_ | refine rh_nil ⟨(by kernel_rfl), ?_⟩ | refine rh_nil ?_ | refine ax_ret ?_ | refine ax_skip ?_ | refine ax_exit ?_ | refine ax_true rfl ?_ | refine ax_false rfl ?_ | refine then_ret ?_ | refine then_exit ?_ | refine out_here ?_ | refine out_away rfl ?_ | refine out_normal ?_ | refine out_ret ?_ | refine round_exit ?_ | refine round_ret ?_ | refine meet_ret ?_ | refine meet_exit ?_ | (apply rh_no; iterate 4 exact rfl) | (apply rh_un; iterate 3 exact rfl) | (apply rh0; (case h => exact z0); (case hw => exact wt)) | (apply rh1; (case h => first | (apply st_call_h (hfn := copyHall_fn h hl (valid_ne hv)); exact rfl; exact fz; iterate 2 exact rfl) | exact z1); (case hw => exact wt)) | (apply rhs; (case h => exact zs); (case hw => exact wt))
  refine ax_loop (fun k : Nat => mkS [(19, .int (k : Int)), (18, .int (l.length : Int)), (17, intsV l), (1, intsV l), (6, .ptr 4 0 0), (4, .ptr 2 0 0)] ⟨5, [(2, some zeroRow), (3, some (intsRow (stG storeF h l k).cells)), (4, some (boxRow (stG storeF h l k).wide (stG storeF h l k).deep 3 0))]⟩) (fun k => k ≤ l.length ∧ fineG storeF h l k) (fun k => l.length - k) (0) (⟨Nat.zero_le _, fun j hj => by omega⟩) (weak_of [] (by repeat first | exact .nil | refine LeEs.cons ?_ ?_ | exact .v (by first | rfl | (rfl)) | exact .own rfl rfl rfl rfl rfl | exact .ptr rfl rfl rfl rfl rfl rfl | exact .nil rfl rfl rfl | exact .sl (by first | rfl | (rfl)) | exact .any _) (by repeat first | exact .nil | refine LeHs.keep rfl ⟨rfl, rfl, rfl, .inl ⟨rfl, by first | rfl | (rfl)⟩⟩ ?_ | refine LeHs.keep rfl ⟨rfl, rfl, rfl, .inr ⟨rfl, by repeat first | exact .nil | refine LeVL.cons ?_ ?_ | exact .v (by first | rfl | (rfl)) | exact .own rfl rfl rfl rfl rfl | exact .sl (by first | rfl | (rfl))⟩⟩ ?_ | refine LeHs.fresh rfl rfl rfl (Nat.succ_pos _) rfl ?_) rfl rfl) ?_
  rintro k ⟨hk, hd⟩
  obtain ⟨s1, s2⟩ := stG_ok (fun h x hv => storeF_ok hv x) (l := l) hv k
  repeat first | refine ax_seq ?_ | refine ax_next ?_ | refine rg_text ?_ | refine rg_any mixed ?_ | refine ax_block ?_ | refine rh_nil ⟨(by kernel_rfl), ?_⟩ | refine rh_nil ?_ | refine ax_ret ?_ | refine ax_skip ?_ | refine ax_exit ?_ | refine ax_true rfl ?_ | refine ax_false rfl ?_ | refine then_ret ?_ | refine then_exit ?_ | refine out_here ?_ | refine out_away rfl ?_ | refine out_normal ?_ | refine out_ret ?_ | refine round_exit ?_ | refine round_ret ?_ | refine meet_ret ?_ | refine meet_exit ?_ | (apply rh_no; iterate 4 exact rfl) | (apply rh_un; iterate 3 exact rfl) | (apply rh0; (case h => exact z0); (case hw => exact wt)) | (apply rh1; (case h => exact z1); (case hw => exact wt)) | (apply rhs; (case h => exact zs); (case hw => exact wt))
  refine ax_cond rfl (fun hb2 => ?_) (fun hb2 => ?_)
  · have hlt : k < l.length := by simp at hb2; exact hb2
    repeat first | refine ax_seq ?_ | refine ax_next ?_ | refine rg_text ?_ | refine rg_any mixed ?_ | refine ax_block ?_ | refine rh_nil ⟨(by kernel_rfl), ?_⟩ | refine rh_nil ?_ | refine ax_ret ?_ | refine ax_skip ?_ | refine ax_exit ?_ | refine ax_true rfl ?_ | refine ax_false rfl ?_ | refine then_ret ?_ | refine then_exit ?_ | refine out_here ?_ | refine out_away rfl ?_ | refine out_normal ?_ | refine out_ret ?_ | refine round_exit ?_ | refine round_ret ?_ | refine meet_ret ?_ | refine meet_exit ?_ | (apply rh_no; iterate 4 exact rfl) | (apply rh_un; iterate 3 exact rfl) | (apply rh0; (case h => exact z0); (case hw => exact wt)) | (apply rh1; (case h => first | (apply st_call_hv (hfn := storeDo_fn (stG storeF h l k) (by omega) (gi l k)); exact rfl; exact fz; iterate 2 exact rfl) | exact z1); (case hw => exact wt)) | (apply rhs; (case h => exact zs); (case hw => exact wt))
    refine ax_cond rfl (fun hb3 => ?_) (fun hb3 => ?_)
    · have hR := runG_stop hd hlt (by simpa using hb3)
      rw [hR]
      repeat first | refine ax_seq ?_ | refine ax_next ?_ | refine rg_text ?_ | refine rg_any mixed ?_ | refine ax_block ?_ | refine rh_nil ⟨(by kernel_rfl), ?_⟩ | refine rh_nil ?_ | refine ax_ret ?_ | refine ax_skip ?_ | refine ax_exit ?_ | refine ax_true rfl ?_ | refine ax_false rfl ?_ | refine then_ret ?_ | refine then_exit ?_ | refine out_here ?_ | refine out_away rfl ?_ | refine out_normal ?_ | refine out_ret ?_ | refine round_exit ?_ | refine round_ret ?_ | refine meet_ret ?_ | refine meet_exit ?_ | (apply rh_no; iterate 4 exact rfl) | (apply rh_un; iterate 3 exact rfl) | (apply rh0; (case h => exact z0); (case hw => exact wt)) | (apply rh1; (case h => exact z1); (case hw => exact wt)) | (apply rhs; (case h => exact zs); (case hw => exact wt))
      refine ⟨.inl rfl, _, _, (by repeat first | exact .nil | apply ResL.cons | exact .tmp rfl | exact .agg rfl rfl rfl rfl rfl (Nat.le_of_ble_eq_true rfl) rfl | exact .cell rfl rfl rfl rfl rfl (Nat.le_of_ble_eq_true rfl) rfl), (by first | exact .one (by first | exact .one (.v rfl) | exact .one (.own rfl rfl rfl rfl rfl rfl rfl (by first | exact scal_ints _ | exact scal_slc _)) | exact .one (.nil (by decide) rfl) | exact .agg (.cons (.v rfl) (.cons (.v rfl) (.cons (.own rfl rfl rfl rfl rfl rfl rfl (scal_ints _)) .nil))) | exact .agg (.cons (.v rfl) (.cons (.v rfl) (.cons (.nil (by decide) rfl) .nil)))) | exact .two (by repeat first | exact .nil | apply ExpL.cons | exact (by first | exact .one (.v rfl) | exact .one (.own rfl rfl rfl rfl rfl rfl rfl (by first | exact scal_ints _ | exact scal_slc _)) | exact .one (.nil (by decide) rfl) | exact .agg (.cons (.v rfl) (.cons (.v rfl) (.cons (.own rfl rfl rfl rfl rfl rfl rfl (scal_ints _)) .nil))) | exact .agg (.cons (.v rfl) (.cons (.v rfl) (.cons (.nil (by decide) rfl) .nil)))))), (by decide)⟩
    · have ho : ¬ (storeF (stG storeF h l k) (gi l k)).2 < 0 := by simpa using hb3
      repeat first | refine ax_seq ?_ | refine ax_next ?_ | refine rg_text ?_ | refine rg_any mixed ?_ | refine ax_block ?_ | refine rh_nil ⟨(by kernel_rfl), ?_⟩ | refine rh_nil ?_ | refine ax_ret ?_ | refine ax_skip ?_ | refine ax_exit ?_ | refine ax_true rfl ?_ | refine ax_false rfl ?_ | refine then_ret ?_ | refine then_exit ?_ | refine out_here ?_ | refine out_away rfl ?_ | refine out_normal ?_ | refine out_ret ?_ | refine round_exit ?_ | refine round_ret ?_ | refine meet_ret ?_ | refine meet_exit ?_ | (apply rh_no; iterate 4 exact rfl) | (apply rh_un; iterate 3 exact rfl) | (apply rh0; (case h => exact z0); (case hw => exact wt)) | (apply rh1; (case h => exact z1); (case hw => exact wt)) | (apply rhs; (case h => exact zs); (case hw => exact wt))
      refine round_next (k + 1) (⟨hlt, fun j hj => by by_cases e : j = k; (subst e; exact ho); exact hd j (by omega)⟩) (by omega) (weak_of [(3, 5)] (by repeat first | exact .nil | refine LeEs.cons ?_ ?_ | exact .v (by first | rfl | (rfl)) | exact .own rfl rfl rfl rfl rfl | exact .ptr rfl rfl rfl rfl rfl rfl | exact .nil rfl rfl rfl | exact .sl (by first | rfl | (rfl)) | exact .any _) (by repeat first | exact .nil | refine LeHs.keep rfl ⟨rfl, rfl, rfl, .inl ⟨rfl, by first | rfl | (rfl)⟩⟩ ?_ | refine LeHs.keep rfl ⟨rfl, rfl, rfl, .inr ⟨rfl, by repeat first | exact .nil | refine LeVL.cons ?_ ?_ | exact .v (by first | rfl | (rfl)) | exact .own rfl rfl rfl rfl rfl | exact .sl (by first | rfl | (rfl))⟩⟩ ?_ | refine LeHs.fresh rfl rfl rfl (Nat.succ_pos _) rfl ?_) rfl rfl)
  · have hkn : k = l.length := by simp at hb2; omega
    subst hkn
    rw [runG_end hd]
    repeat first | refine ax_seq ?_ | refine ax_next ?_ | refine rg_text ?_ | refine rg_any mixed ?_ | refine ax_block ?_ | refine rh_nil ⟨(by kernel_rfl), ?_⟩ | refine rh_nil ?_ | refine ax_ret ?_ | refine ax_skip ?_ | refine ax_exit ?_ | refine ax_true rfl ?_ | refine ax_false rfl ?_ | refine then_ret ?_ | refine then_exit ?_ | refine out_here ?_ | refine out_away rfl ?_ | refine out_normal ?_ | refine out_ret ?_ | refine round_exit ?_ | refine round_ret ?_ | refine meet_ret ?_ | refine meet_exit ?_ | (apply rh_no; iterate 4 exact rfl) | (apply rh_un; iterate 3 exact rfl) | (apply rh0; (case h => exact z0); (case hw => exact wt)) | (apply rh1; (case h => exact z1); (case hw => exact wt)) | (apply rhs; (case h => exact zs); (case hw => exact wt))
    refine ⟨.inl rfl, _, _, (by repeat first | exact .nil | apply ResL.cons | exact .tmp rfl | exact .agg rfl rfl rfl rfl rfl (Nat.le_of_ble_eq_true rfl) rfl | exact .cell rfl rfl rfl rfl rfl (Nat.le_of_ble_eq_true rfl) rfl), (by first | exact .one (by first | exact .one (.v rfl) | exact .one (.own rfl rfl rfl rfl rfl rfl rfl (by first | exact scal_ints _ | exact scal_slc _)) | exact .one (.nil (by decide) rfl) | exact .agg (.cons (.v rfl) (.cons (.v rfl) (.cons (.own rfl rfl rfl rfl rfl rfl rfl (scal_ints _)) .nil))) | exact .agg (.cons (.v rfl) (.cons (.v rfl) (.cons (.nil (by decide) rfl) .nil)))) | exact .two (by repeat first | exact .nil | apply ExpL.cons | exact (by first | exact .one (.v rfl) | exact .one (.own rfl rfl rfl rfl rfl rfl rfl (by first | exact scal_ints _ | exact scal_slc _)) | exact .one (.nil (by decide) rfl) | exact .agg (.cons (.v rfl) (.cons (.v rfl) (.cons (.own rfl rfl rfl rfl rfl rfl rfl (scal_ints _)) .nil))) | exact .agg (.cons (.v rfl) (.cons (.v rfl) (.cons (.nil (by decide) rfl) .nil)))))), (by decide)⟩
set_option maxHeartbeats 2000000 in
theorem specStoreRun_fn (h : PHall) (hl : h.cells.length ≤ lim) (l : List Int) (hw : l.length ≤ lim) : FnS Try.prog 36 [hallV h, intsV l] (.tup [hallV (storeRunF h l).1, .int (storeRunF h l).2]) := by
  have hl' : h.cells.length ≤ 1073741824 := hl
  have hw' : l.length ≤ 1073741824 := hw
  refine fn_go2 tabOk Try.func36 rfl (by kernel_rfl) Try.ntmps36 Try.results36 (by decide) ?_
  repeat first | refine ax_seq ?_ | refine ax_next ?_ | refine rg_text ?_ | refine rg_any mixed ?_ | refine ax_block ?_ | refine rh_nil ⟨(by kernel_rfl), ?_⟩ | refine rh_nil ?_ | refine ax_ret ?_ | refine ax_skip ?_ | refine ax_exit ?_ | refine ax_true rfl ?_ | refine ax_false rfl ?_ | refine then_ret ?_ | refine then_exit ?_ | refine out_here ?_ | refine out_away rfl ?_ | refine out_normal ?_ | refine out_ret ?_ | refine round_exit ?_ | refine round_ret ?_ | refine meet_ret ?_ | refine meet_exit ?_ | (apply rh_no; iterate 4 exact rfl) | (apply rh_un; iterate 3 exact rfl) | (apply rh0; (case h => first | (apply st_call (hfn := specHallValid_fn h hl); exact rfl; exact fz) | exact z0); (case hw => exact wt)) | (apply rh1; (case h => exact z1); (case hw => exact wt)) | (apply rhs; (case h => exact zs); (case hw => exact wt))
  refine ax_cond rfl (fun hb => ?_) (fun hb => ?_)
  · have hF : storeRunF h l = (zeroHall, 0) := by simp at hb; simp [storeRunF, hb]
    rw [hF]
    repeat first | refine ax_seq ?_ | refine ax_next ?_ | refine rg_text ?_ | refine rg_any mixed ?_ | refine ax_block ?_ | refine rh_nil ⟨(by kernel_rfl), ?_⟩ | refine rh_nil ?_ | refine ax_ret ?_ | refine ax_skip ?_ | refine ax_exit ?_ | refine ax_true rfl ?_ | refine ax_false rfl ?_ | refine then_ret ?_ | refine then_exit ?_ | refine out_here ?_ | refine out_away rfl ?_ | refine out_normal ?_ | refine out_ret ?_ | refine round_exit ?_ | refine round_ret ?_ | refine meet_ret ?_ | refine meet_exit ?_ | (apply rh_no; iterate 4 exact rfl) | (apply rh_un; iterate 3 exact rfl) | (apply rh0; (case h => exact z0); (case hw => exact wt)) | (apply rh1; (case h => exact z1); (case hw => exact wt)) | (apply rhs; (case h => exact zs); (case hw => exact wt))
    refine ⟨.inl rfl, _, _, (by repeat first | exact .nil | apply ResL.cons | exact .tmp rfl | exact .agg rfl rfl rfl rfl rfl (Nat.le_of_ble_eq_true rfl) rfl | exact .cell rfl rfl rfl rfl rfl (Nat.le_of_ble_eq_true rfl) rfl), (by first | exact .one (by first | exact .one (.v rfl) | exact .one (.own rfl rfl rfl rfl rfl rfl rfl (by first | exact scal_ints _ | exact scal_slc _)) | exact .one (.nil (by decide) rfl) | exact .agg (.cons (.v rfl) (.cons (.v rfl) (.cons (.own rfl rfl rfl rfl rfl rfl rfl (scal_ints _)) .nil))) | exact .agg (.cons (.v rfl) (.cons (.v rfl) (.cons (.nil (by decide) rfl) .nil)))) | exact .two (by repeat first | exact .nil | apply ExpL.cons | exact (by first | exact .one (.v rfl) | exact .one (.own rfl rfl rfl rfl rfl rfl rfl (by first | exact scal_ints _ | exact scal_slc _)) | exact .one (.nil (by decide) rfl) | exact .agg (.cons (.v rfl) (.cons (.v rfl) (.cons (.own rfl rfl rfl rfl rfl rfl rfl (scal_ints _)) .nil))) | exact .agg (.cons (.v rfl) (.cons (.v rfl) (.cons (.nil (by decide) rfl) .nil)))))), (by decide)⟩
  have hv : validB h = true := by simpa using hb
  have hF : storeRunF h l = ((runG storeF h l).1, ((runG storeF h l).2.1 : Int)) := by simp [storeRunF, hv]
  rw [hF]
  repeat first | refine ax_seq ?_ | refine ax_next ?_ | refine rg_text ?_ | refine rg_any mixed ?_ | refine ax_block ?_ | refine rh_nil ⟨(by kernel_rfl), ?_⟩ | refine rh_nil ?_ | refine ax_ret ?_ | refine ax_skip ?_ | refine ax_exit ?_ | refine ax_true rfl ?_ | refine ax_false rfl ?_ | refine then_ret ?_ | refine then_exit ?_ | refine out_here ?_ | refine out_away rfl ?_ | refine out_normal ?_ | refine out_ret ?_ | refine round_exit ?_ | refine round_ret ?_ | refine meet_ret ?_ | refine meet_exit ?_ | (apply rh_no; iterate 4 exact rfl) | (apply rh_un; iterate 3 exact rfl) | (apply rh0; (case h => exact z0); (case hw => exact wt)) | (apply rh1; (case h => first | (apply st_call_h (hfn := l1Hall_fn h hl (valid_ne hv)); exact rfl; exact fz; iterate 2 exact rfl) | exact z1); (case hw => exact wt)) | (apply rhs; (case h => exact zs); (case hw => exact wt))
  refine ax_loop (fun k : Nat => mkS [(7, .int (k : Int)), (1, intsV l), (6, .ptr 4 0 0), (4, .ptr 2 0 0)] ⟨5, [(2, some zeroRow), (3, some (intsRow (stG storeF h l k).cells)), (4, some (boxRow (stG storeF h l k).wide (stG storeF h l k).deep 3 0))]⟩) (fun k => k ≤ l.length ∧ fineG storeF h l k) (fun k => l.length - k) (0) (⟨Nat.zero_le _, fun j hj => by omega⟩) (weak_of [] (by repeat first | exact .nil | refine LeEs.cons ?_ ?_ | exact .v (by first | rfl | (rfl)) | exact .own rfl rfl rfl rfl rfl | exact .ptr rfl rfl rfl rfl rfl rfl | exact .nil rfl rfl rfl | exact .sl (by first | rfl | (rfl)) | exact .any _) (by repeat first | exact .nil | refine LeHs.keep rfl ⟨rfl, rfl, rfl, .inl ⟨rfl, by first | rfl | (rfl)⟩⟩ ?_ | refine LeHs.keep rfl ⟨rfl, rfl, rfl, .inr ⟨rfl, by repeat first | exact .nil | refine LeVL.cons ?_ ?_ | exact .v (by first | rfl | (rfl)) | exact .own rfl rfl rfl rfl rfl | exact .sl (by first | rfl | (rfl))⟩⟩ ?_ | refine LeHs.fresh rfl rfl rfl (Nat.succ_pos _) rfl ?_) rfl rfl) ?_
  rintro k ⟨hk, hd⟩
  obtain ⟨s1, s2⟩ := stG_ok (fun h x hv => storeF_ok hv x) (l := l) hv k
  repeat first | refine ax_seq ?_ | refine ax_next ?_ | refine rg_text ?_ | refine rg_any mixed ?_ | refine ax_block ?_ | refine rh_nil ⟨(by kernel_rfl), ?_⟩ | refine rh_nil ?_ | refine ax_ret ?_ | refine ax_skip ?_ | refine ax_exit ?_ | refine ax_true rfl ?_ | refine ax_false rfl ?_ | refine then_ret ?_ | refine then_exit ?_ | refine out_here ?_ | refine out_away rfl ?_ | refine out_normal ?_ | refine out_ret ?_ | refine round_exit ?_ | refine round_ret ?_ | refine meet_ret ?_ | refine meet_exit ?_ | (apply rh_no; iterate 4 exact rfl) | (apply rh_un; iterate 3 exact rfl) | (apply rh0; (case h => exact z0); (case hw => exact wt)) | (apply rh1; (case h => exact z1); (case hw => exact wt)) | (apply rhs; (case h => exact zs); (case hw => exact wt))
  refine ax_cond rfl (fun hb2 => ?_) (fun hb2 => ?_)
  · have hlt : k < l.length := by simp at hb2; exact hb2
    repeat first | refine ax_seq ?_ | refine ax_next ?_ | refine rg_text ?_ | refine rg_any mixed ?_ | refine ax_block ?_ | refine rh_nil ⟨(by kernel_rfl), ?_⟩ | refine rh_nil ?_ | refine ax_ret ?_ | refine ax_skip ?_ | refine ax_exit ?_ | refine ax_true rfl ?_ | refine ax_false rfl ?_ | refine then_ret ?_ | refine then_exit ?_ | refine out_here ?_ | refine out_away rfl ?_ | refine out_normal ?_ | refine out_ret ?_ | refine round_exit ?_ | refine round_ret ?_ | refine meet_ret ?_ | refine meet_exit ?_ | (apply rh_no; iterate 4 exact rfl) | (apply rh_un; iterate 3 exact rfl) | (apply rh0; (case h => exact z0); (case hw => exact wt)) | (apply rh1; (case h => first | (apply st_call_hv (hfn := specStoreDo_fn (stG storeF h l k) (by omega) (gi l k)); exact rfl; exact fz; iterate 2 exact rfl) | exact z1); (case hw => exact wt)) | (apply rhs; (case h => exact zs); (case hw => exact wt))
    refine ax_cond rfl (fun hb3 => ?_) (fun hb3 => ?_)
    · have hR := runG_stop hd hlt (by simpa using hb3)
      rw [hR]
      repeat first | refine ax_seq ?_ | refine ax_next ?_ | refine rg_text ?_ | refine rg_any mixed ?_ | refine ax_block ?_ | refine rh_nil ⟨(by kernel_rfl), ?_⟩ | refine rh_nil ?_ | refine ax_ret ?_ | refine ax_skip ?_ | refine ax_exit ?_ | refine ax_true rfl ?_ | refine ax_false rfl ?_ | refine then_ret ?_ | refine then_exit ?_ | refine out_here ?_ | refine out_away rfl ?_ | refine out_normal ?_ | refine out_ret ?_ | refine round_exit ?_ | refine round_ret ?_ | refine meet_ret ?_ | refine meet_exit ?_ | (apply rh_no; iterate 4 exact rfl) | (apply rh_un; iterate 3 exact rfl) | (apply rh0; (case h => exact z0); (case hw => exact wt)) | (apply rh1; (case h => exact z1); (case hw => exact wt)) | (apply rhs; (case h => exact zs); (case hw => exact wt))
      refine ⟨.inl rfl, _, _, (by repeat first | exact .nil | apply ResL.cons | exact .tmp rfl | exact .agg rfl rfl rfl rfl rfl (Nat.le_of_ble_eq_true rfl) rfl | exact .cell rfl rfl rfl rfl rfl (Nat.le_of_ble_eq_true rfl) rfl), (by first | exact .one (by first | exact .one (.v rfl) | exact .one (.own rfl rfl rfl rfl rfl rfl rfl (by first | exact scal_ints _ | exact scal_slc _)) | exact .one (.nil (by decide) rfl) | exact .agg (.cons (.v rfl) (.cons (.v rfl) (.cons (.own rfl rfl rfl rfl rfl rfl rfl (scal_ints _)) .nil))) | exact .agg (.cons (.v rfl) (.cons (.v rfl) (.cons (.nil (by decide) rfl) .nil)))) | exact .two (by repeat first | exact .nil | apply ExpL.cons | exact (by first | exact .one (.v rfl) | exact .one (.own rfl rfl rfl rfl rfl rfl rfl (by first | exact scal_ints _ | exact scal_slc _)) | exact .one (.nil (by decide) rfl) | exact .agg (.cons (.v rfl) (.cons (.v rfl) (.cons (.own rfl rfl rfl rfl rfl rfl rfl (scal_ints _)) .nil))) | exact .agg (.cons (.v rfl) (.cons (.v rfl) (.cons (.nil (by decide) rfl) .nil)))))), (by decide)⟩
    · have ho : ¬ (storeF (stG storeF h l k) (gi l k)).2 < 0 := by simpa using hb3
      repeat first | refine ax_seq ?_ | refine ax_next ?_ | refine rg_text ?_ | refine rg_any mixed ?_ | refine ax_block ?_ | refine rh_nil ⟨(by kernel_rfl), ?_⟩ | refine rh_nil ?_ | refine ax_ret ?_ | refine ax_skip ?_ | refine ax_exit ?_ | refine ax_true rfl ?_ | refine ax_false rfl ?_ | refine then_ret ?_ | refine then_exit ?_ | refine out_here ?_ | refine out_away rfl ?_ | refine out_normal ?_ | refine out_ret ?_ | refine round_exit ?_ | refine round_ret ?_ | refine meet_ret ?_ | refine meet_exit ?_ | (apply rh_no; iterate 4 exact rfl) | (apply rh_un; iterate 3 exact rfl) | (apply rh0; (case h => exact z0); (case hw => exact wt)) | (apply rh1; (case h => exact z1); (case hw => exact wt)) | (apply rhs; (case h => exact zs); (case hw => exact wt))
      refine round_next (k + 1) (⟨hlt, fun j hj => by by_cases e : j = k; (subst e; exact ho); exact hd j (by omega)⟩) (by omega) (weak_of [(3, 5)] (by repeat first | exact .nil | refine LeEs.cons ?_ ?_ | exact .v (by first | rfl | (rfl)) | exact .own rfl rfl rfl rfl rfl | exact .ptr rfl rfl rfl rfl rfl rfl | exact .nil rfl rfl rfl | exact .sl (by first | rfl | (rfl)) | exact .any _) (by repeat first | exact .nil | refine LeHs.keep rfl ⟨rfl, rfl, rfl, .inl ⟨rfl, by first | rfl | (rfl)⟩⟩ ?_ | refine LeHs.keep rfl ⟨rfl, rfl, rfl, .inr ⟨rfl, by repeat first | exact .nil | refine LeVL.cons ?_ ?_ | exact .v (by first | rfl | (rfl)) | exact .own rfl rfl rfl rfl rfl | exact .sl (by first | rfl | (rfl))⟩⟩ ?_ | refine LeHs.fresh rfl rfl rfl (Nat.succ_pos _) rfl ?_) rfl rfl)
  · have hkn : k = l.length := by simp at hb2; omega
    subst hkn
    rw [runG_end hd]
    repeat first | refine ax_seq ?_ | refine ax_next ?_ | refine rg_text ?_ | refine rg_any mixed ?_ | refine ax_block ?_ | refine rh_nil ⟨(by kernel_rfl), ?_⟩ | refine rh_nil ?_ | refine ax_ret ?_ | refine ax_skip ?_ | refine ax_exit ?_ | refine ax_true rfl ?_ | refine ax_false rfl ?_ | refine then_ret ?_ | refine then_exit ?_ | refine out_here ?_ | refine out_away rfl ?_ | refine out_normal ?_ | refine out_ret ?_ | refine round_exit ?_ | refine round_ret ?_ | refine meet_ret ?_ | refine meet_exit ?_ | (apply rh_no; iterate 4 exact rfl) | (apply rh_un; iterate 3 exact rfl) | (apply rh0; (case h => exact z0); (case hw => exact wt)) | (apply rh1; (case h => exact z1); (case hw => exact wt)) | (apply rhs; (case h => exact zs); (case hw => exact wt))
    refine ⟨.inl rfl, _, _, (by repeat first | exact .nil | apply ResL.cons | exact .tmp rfl | exact .agg rfl rfl rfl rfl rfl (Nat.le_of_ble_eq_true rfl) rfl | exact .cell rfl rfl rfl rfl rfl (Nat.le_of_ble_eq_true rfl) rfl), (by first | exact .one (by first | exact .one (.v rfl) | exact .one (.own rfl rfl rfl rfl rfl rfl rfl (by first | exact scal_ints _ | exact scal_slc _)) | exact .one (.nil (by decide) rfl) | exact .agg (.cons (.v rfl) (.cons (.v rfl) (.cons (.own rfl rfl rfl rfl rfl rfl rfl (scal_ints _)) .nil))) | exact .agg (.cons (.v rfl) (.cons (.v rfl) (.cons (.nil (by decide) rfl) .nil)))) | exact .two (by repeat first | exact .nil | apply ExpL.cons | exact (by first | exact .one (.v rfl) | exact .one (.own rfl rfl rfl rfl rfl rfl rfl (by first | exact scal_ints _ | exact scal_slc _)) | exact .one (.nil (by decide) rfl) | exact .agg (.cons (.v rfl) (.cons (.v rfl) (.cons (.own rfl rfl rfl rfl rfl rfl rfl (scal_ints _)) .nil))) | exact .agg (.cons (.v rfl) (.cons (.v rfl) (.cons (.nil (by decide) rfl) .nil)))))), (by decide)⟩
end Go.Proofs.Ytjkogihfdnjdhaa
