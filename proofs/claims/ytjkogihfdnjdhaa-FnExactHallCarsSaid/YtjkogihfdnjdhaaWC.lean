/-
  The sort (the library's contract laid at this program, in plain words); a row of the caller's own that a function turns; the cars of a hall.
-/
import Derived.Shelf.Small.Bits
import Derived.Shelf.Sort.Plain
import Derived.Shelf.Slices.Clone
import Derived.Shelf.Slices.SearchI
import Derived.Shelf.SlicesE.Clone
import Derived.Test.YtjkogihfdnjdhaaProg
import Derived.Test.YtjkogihfdnjdhaaQE
import Derived.Test.YtjkogihfdnjdhaaQD
import Derived.Sort.OwnSortedInts
import Derived.Shelf.Slices.In.SortNone
set_option linter.unusedVariables false
set_option linter.unusedSimpArgs false
set_option maxRecDepth 100000
namespace Go.Proofs
open Go.Shelf
def Try.lays189_ren : Go.Shelf.Ren := ⟨fun | 189 => 51 | 125 => 70 | 257 => 69 | 128 => 85 | 129 => 86 | 294 => 76 | 295 => 77 | 296 => 78 | 297 => 79 | 298 => 80 | 299 => 81 | 216 => 82 | 300 => 83 | 301 => 84 | 328 => 89 | 329 => 90 | 330 => 91 | 331 => 92 | 332 => 93 | 215 => 94 | 343 => 95 | n => n, fun | 28 => 22 | 3 => 3 | 46 => 78 | 0 => 0 | 51 => 89 | 53 => 91 | 4 => 4 | 183 => 81 | 182 => 80 | 131 => 86 | 5 => 5 | 9 => 9 | 218 => 93 | 222 => 97 | 228 => 100 | 229 => 101 | n => n, fun | n => n⟩
theorem Try.lays189 : Go.Proofs.Lays.n189 Try.prog Try.lays189_ren := {
  mixed := by kernel_rfl
  f125 := Try.func70.trans (congrArg some (by kernel_rfl))
  f128 := Try.func85.trans (congrArg some (by kernel_rfl))
  f129 := Try.func86.trans (congrArg some (by kernel_rfl))
  f189 := Try.func51.trans (congrArg some (by kernel_rfl))
  f215 := Try.func94.trans (congrArg some (by kernel_rfl))
  f216 := Try.func82.trans (congrArg some (by kernel_rfl))
  f257 := Try.func69.trans (congrArg some (by kernel_rfl))
  f294 := Try.func76.trans (congrArg some (by kernel_rfl))
  f295 := Try.func77.trans (congrArg some (by kernel_rfl))
  f296 := Try.func78.trans (congrArg some (by kernel_rfl))
  f297 := Try.func79.trans (congrArg some (by kernel_rfl))
  f298 := Try.func80.trans (congrArg some (by kernel_rfl))
  f299 := Try.func81.trans (congrArg some (by kernel_rfl))
  f300 := Try.func83.trans (congrArg some (by kernel_rfl))
  f301 := Try.func84.trans (congrArg some (by kernel_rfl))
  f328 := Try.func89.trans (congrArg some (by kernel_rfl))
  f329 := Try.func90.trans (congrArg some (by kernel_rfl))
  f330 := Try.func91.trans (congrArg some (by kernel_rfl))
  f331 := Try.func92.trans (congrArg some (by kernel_rfl))
  f332 := Try.func93.trans (congrArg some (by kernel_rfl))
  f343 := Try.func95.trans (congrArg some (by kernel_rfl))
  t0 := Try.underlying0
  a0 := Try.isAgg0
  z0 := Try.sizeOf0
  v0 := Try.zeroValue0
  t3 := Try.underlying3
  a3 := Try.isAgg3
  z3 := Try.sizeOf3
  v3 := Try.zeroValue3
  t4 := Try.underlying4
  a4 := Try.isAgg4
  z4 := Try.sizeOf4
  v4 := Try.zeroValue4
  t5 := Try.underlying5
  a5 := Try.isAgg5
  z5 := Try.sizeOf5
  v5 := Try.zeroValue5
  t9 := Try.underlying9
  a9 := Try.isAgg9
  z9 := Try.sizeOf9
  v9 := Try.zeroValue9
  t28 := Try.underlying22
  a28 := Try.isAgg22
  z28 := Try.sizeOf22
  v28 := Try.zeroValue22
  t46 := Try.underlying78
  a46 := Try.isAgg78
  z46 := Try.sizeOf78
  v46 := Try.zeroValue78
  t51 := Try.underlying89
  a51 := Try.isAgg89
  z51 := Try.sizeOf89
  v51 := Try.zeroValue89
  t53 := Try.underlying91
  a53 := Try.isAgg91
  z53 := Try.sizeOf91
  v53 := Try.zeroValue91
  t131 := Try.underlying86
  a131 := Try.isAgg86
  z131 := Try.sizeOf86
  v131 := Try.zeroValue86
  t182 := Try.underlying80
  a182 := Try.isAgg80
  z182 := Try.sizeOf80
  v182 := Try.zeroValue80
  t183 := Try.underlying81
  a183 := Try.isAgg81
  z183 := Try.sizeOf81
  v183 := Try.zeroValue81
  t218 := Try.underlying93
  a218 := Try.isAgg93
  z218 := Try.sizeOf93
  v218 := Try.zeroValue93
  t222 := Try.underlying97
  a222 := Try.isAgg97
  z222 := Try.sizeOf97
  v222 := Try.zeroValue97
  t228 := Try.underlying100
  a228 := Try.isAgg100
  z228 := Try.sizeOf100
  v228 := Try.zeroValue100
  t229 := Try.underlying101
  a229 := Try.isAgg101
  z229 := Try.sizeOf101
  v229 := Try.zeroValue101 }
open Go.Sort Go.RowKit in
theorem Try.slices_Sort_int (blk off cap : Nat) (zs : List Int) (w : World) (hH : Holds (Value.int .i64) w blk off zs.toArray) (hblk : blk < w.heap.size) (hsz : zs.length < 4611686018427387904) :
    Calls Try.prog 51 #[.slice (some ⟨blk, off, none⟩) zs.length cap] w fun e w' =>
      e = .returned (.tuple #[]) ∧ ∃ n os, w' = grow (putRow (Value.int .i64) (Sort.ahead w n) blk off (zs.mergeSort fun x y => decide (x ≤ y)).toArray) os := Any.slices_Sort_int Try.lays189 blk off cap zs w hH hblk hsz
end Go.Proofs
namespace Go.Proofs.Ytjkogihfdnjdhaa
open Go Go.RowKit Go.Park Go.Sym

/-- an ascending list with a number at its place -/
def lowTo (l : List Int) (n : Int) : Nat := l.findIdx fun x => !decide (x < n)
def insF (l : List Int) (n : Int) : List Int := l.take (lowTo l n) ++ [n] ++ l.drop (lowTo l n)
theorem insF_len (l : List Int) (n : Int) : (insF l n).length = l.length + 1 := by
  have : lowTo l n ≤ l.length := List.findIdx_le_length
  simp [insF]; omega
theorem lowTo_stop {l : List Int} {n : Int} {k : Nat} (hk : k ≤ l.length) (h : ∀ j, j < k → gi l j < n) (hs : k = l.length ∨ ¬ gi l k < n) : lowTo l n = k := by
  unfold lowTo
  rcases Nat.lt_trichotomy (l.findIdx fun x => !decide (x < n)) k with h1 | h1 | h1
  · exfalso
    have h2 : (l.findIdx fun x => !decide (x < n)) < l.length := by omega
    have h3 := List.findIdx_getElem (p := fun x => !decide (x < n)) (xs := l) (w := h2)
    have h4 := h _ h1
    simp only [gi, List.getD_eq_getElem?_getD, List.getElem?_eq_getElem h2, Option.getD_some] at h4
    simp at h3
    omega
  · exact h1
  · rcases hs with hs | hs
    · have : (l.findIdx fun x => !decide (x < n)) ≤ l.length := List.findIdx_le_length
      omega
    · exfalso
      have hkl : k < l.length := by
        have : (l.findIdx fun x => !decide (x < n)) ≤ l.length := List.findIdx_le_length
        omega
      have := List.not_of_lt_findIdx h1
      simp at this
      apply hs
      simp only [gi, List.getD_eq_getElem?_getD, List.getElem?_eq_getElem hkl, Option.getD_some]
      exact this
set_option maxHeartbeats 2000000 in
theorem l1Sorted_fn (l : List Int) (hl : l.length ≤ 1000000) (n : Int) : FnS Try.prog 50 [intsV l, .int n] (intsV (insF l n)) := by
  refine fn_go2 tabOk Try.func50 rfl (by kernel_rfl) Try.ntmps50 Try.results50 (by decide) ?_
  repeat first | refine ax_seq ?_ | refine ax_next ?_ | refine rg_text ?_ | refine rg_any mixed ?_ | refine ax_block ?_ | refine rh_nil ⟨(by kernel_rfl), ?_⟩ | refine rh_nil ?_ | refine ax_ret ?_ | refine ax_skip ?_ | refine ax_exit ?_ | refine ax_true rfl ?_ | refine ax_false rfl ?_ | refine then_ret ?_ | refine then_exit ?_ | refine out_here ?_ | refine out_away rfl ?_ | refine out_normal ?_ | refine out_ret ?_ | refine round_exit ?_ | refine round_ret ?_ | refine meet_ret ?_ | refine meet_exit ?_ | (apply rh_no; iterate 4 exact rfl) | (apply rh_un; iterate 3 exact rfl) | (apply rh0; (case h => exact z0); (case hw => exact wt)) | (apply rh1; (case h => exact z1); (case hw => exact wt)) | (apply rhs; (case h => exact zs); (case hw => exact wt))
  refine ax_loop (fun k : Nat => mkS [(6, .int (k : Int)), (5, .own 1 0), (0, intsV l), (1, .int n)] ⟨2, [(1, some (intsRow (l.take k)))]⟩) (fun k => k ≤ l.length ∧ ∀ j, j < k → gi l j < n) (fun k => l.length - k) (0) (⟨Nat.zero_le _, fun j hj => by omega⟩) (weak_of [] (by repeat first | exact .nil | refine LeEs.cons ?_ ?_ | exact .v (by first | rfl | (rfl)) | exact .own rfl rfl rfl rfl rfl | exact .ptr rfl rfl rfl rfl rfl rfl | exact .nil rfl rfl rfl | exact .sl (by first | rfl | (rfl)) | exact .both rfl rfl | exact .frz rfl rfl rfl rfl rfl (by first | rfl | (rfl)) rfl | exact .any _) (by repeat first | exact .nil | refine LeHs.keep rfl ⟨rfl, rfl, rfl, .inl ⟨rfl, by first | rfl | (rfl)⟩⟩ ?_ | refine LeHs.keep rfl ⟨rfl, rfl, rfl, .inr ⟨(by first | exact .inl rfl | exact .inr rfl), by repeat first | exact .nil | refine LeVL.cons ?_ ?_ | exact .v (by first | rfl | (rfl)) | exact .own rfl rfl rfl rfl rfl | exact .sl (by first | rfl | (rfl)) | exact .both rfl rfl | exact .frz rfl rfl rfl rfl rfl (by first | rfl | (rfl)) rfl⟩⟩ ?_ | refine LeHs.fresh rfl rfl rfl (Nat.succ_pos _) rfl ?_) rfl rfl) ?_
  rintro k ⟨hk, hj⟩
  have htl : (l.take k).length = k := by rw [List.length_take]; omega
  have hend : ∀ (h : k = l.length ∨ ¬ gi l k < n), insF l n = l.take k ++ [n] ++ l.drop k := fun h => by unfold insF; rw [lowTo_stop hk hj h]
  have hdl : (l.drop k).length = l.length - k := by simp
  repeat first | refine ax_seq ?_ | refine ax_next ?_ | refine rg_text ?_ | refine rg_any mixed ?_ | refine ax_block ?_ | refine rh_nil ⟨(by kernel_rfl), ?_⟩ | refine rh_nil ?_ | refine ax_ret ?_ | refine ax_skip ?_ | refine ax_exit ?_ | refine ax_true rfl ?_ | refine ax_false rfl ?_ | refine then_ret ?_ | refine then_exit ?_ | refine out_here ?_ | refine out_away rfl ?_ | refine out_normal ?_ | refine out_ret ?_ | refine round_exit ?_ | refine round_ret ?_ | refine meet_ret ?_ | refine meet_exit ?_ | (apply rh_no; iterate 4 exact rfl) | (apply rh_un; iterate 3 exact rfl) | (apply rh0; (case h => exact z0); (case hw => exact wt)) | (apply rh1; (case h => exact z1); (case hw => exact wt)) | (apply rhs; (case h => exact zs); (case hw => exact wt))
  refine rh_split rfl rfl (fun hb => ?_) (fun hb => ?_)
  · have hlt : k < l.length := by simpa using hb
    repeat first | refine ax_seq ?_ | refine ax_next ?_ | refine rg_text ?_ | refine rg_any mixed ?_ | refine ax_block ?_ | refine rh_nil ⟨(by kernel_rfl), ?_⟩ | refine rh_nil ?_ | refine ax_ret ?_ | refine ax_skip ?_ | refine ax_exit ?_ | refine ax_true rfl ?_ | refine ax_false rfl ?_ | refine then_ret ?_ | refine then_exit ?_ | refine out_here ?_ | refine out_away rfl ?_ | refine out_normal ?_ | refine out_ret ?_ | refine round_exit ?_ | refine round_ret ?_ | refine meet_ret ?_ | refine meet_exit ?_ | (apply rh_no; iterate 4 exact rfl) | (apply rh_un; iterate 3 exact rfl) | (apply rh0; (case h => exact z0); (case hw => exact wt)) | (apply rh1; (case h => exact z1); (case hw => exact wt)) | (apply rhs; (case h => exact zs); (case hw => exact wt))
    refine ax_cond rfl (fun hb2 => ?_) (fun hb2 => ?_)
    · have h1 : gi l k < n := by simpa using hb2
      have e1 : l.take (k + 1) = l.take k ++ [gi l k] := by
        rw [List.take_succ_eq_append_getElem hlt]
        simp [gi, List.getD, hlt]
      repeat first | refine ax_seq ?_ | refine ax_next ?_ | refine rg_text ?_ | refine rg_any mixed ?_ | refine ax_block ?_ | refine rh_nil ⟨(by kernel_rfl), ?_⟩ | refine rh_nil ?_ | refine ax_ret ?_ | refine ax_skip ?_ | refine ax_exit ?_ | refine ax_true rfl ?_ | refine ax_false rfl ?_ | refine then_ret ?_ | refine then_exit ?_ | refine out_here ?_ | refine out_away rfl ?_ | refine out_normal ?_ | refine out_ret ?_ | refine round_exit ?_ | refine round_ret ?_ | refine meet_ret ?_ | refine meet_exit ?_ | (apply rh_no; iterate 4 exact rfl) | (apply rh_un; iterate 3 exact rfl) | (apply rh0; (case h => exact z0); (case hw => exact wt)) | (apply rh1; (case h => exact z1); (case hw => exact wt)) | (apply rhs; (case h => exact zs); (case hw => exact wt))
      refine round_next (k + 1) (⟨hlt, fun j hj' => by by_cases e : j = k; (subst e; exact h1); exact hj j (by omega)⟩) (by omega) (weak_of [] (by repeat first | exact .nil | refine LeEs.cons ?_ ?_ | exact .v (by first | rfl | (rw [e1])) | exact .own rfl rfl rfl rfl rfl | exact .ptr rfl rfl rfl rfl rfl rfl | exact .nil rfl rfl rfl | exact .sl (by first | rfl | (rw [e1])) | exact .both rfl rfl | exact .frz rfl rfl rfl rfl rfl (by first | rfl | (rw [e1])) rfl | exact .any _) (by repeat first | exact .nil | refine LeHs.keep rfl ⟨rfl, rfl, rfl, .inl ⟨rfl, by first | rfl | (rw [e1])⟩⟩ ?_ | refine LeHs.keep rfl ⟨rfl, rfl, rfl, .inr ⟨(by first | exact .inl rfl | exact .inr rfl), by repeat first | exact .nil | refine LeVL.cons ?_ ?_ | exact .v (by first | rfl | (rw [e1])) | exact .own rfl rfl rfl rfl rfl | exact .sl (by first | rfl | (rw [e1])) | exact .both rfl rfl | exact .frz rfl rfl rfl rfl rfl (by first | rfl | (rw [e1])) rfl⟩⟩ ?_ | refine LeHs.fresh rfl rfl rfl (Nat.succ_pos _) rfl ?_) rfl rfl)
    · have h1 : ¬ gi l k < n := by simpa using hb2
      have hF := hend (.inr h1)
      repeat first | refine ax_seq ?_ | refine ax_next ?_ | refine rg_text ?_ | refine rg_any mixed ?_ | refine ax_block ?_ | refine rh_nil ⟨(by kernel_rfl), ?_⟩ | refine rh_nil ?_ | refine ax_ret ?_ | refine ax_skip ?_ | refine ax_exit ?_ | refine ax_true rfl ?_ | refine ax_false rfl ?_ | refine then_ret ?_ | refine then_exit ?_ | refine out_here ?_ | refine out_away rfl ?_ | refine out_normal ?_ | refine out_ret ?_ | refine round_exit ?_ | refine round_ret ?_ | refine meet_ret ?_ | refine meet_exit ?_ | (apply rh_no; iterate 4 exact rfl) | (apply rh_un; iterate 3 exact rfl) | (apply rh0; (case h => exact z0); (case hw => exact wt)) | (apply rh1; (case h => exact z1); (case hw => exact wt)) | (apply rhs; (case h => exact zs); (case hw => exact wt))
      refine ⟨.inl rfl, _, _, (by repeat first | exact .nil | apply ResL.cons | exact .tmp rfl | exact .agg rfl rfl rfl rfl rfl (Nat.le_of_ble_eq_true rfl) rfl | exact .cell rfl rfl rfl rfl rfl (Nat.le_of_ble_eq_true rfl) rfl), (by first | exact .one (by first | exact .one (.v (by first | rfl | (rw [hF]))) | exact .one (.own rfl rfl rfl rfl rfl rfl (by first | rfl | (rw [hF])) (by first | exact scal_ints _ | exact scal_slc _)) | exact .one (.nil (by decide) (by first | rfl | (rw [hF]))) | exact .agg (.cons (.v (by first | rfl | (rw [hF]))) (.cons (.v (by first | rfl | (rw [hF]))) (.cons (.own rfl rfl rfl rfl rfl rfl (by first | rfl | (rw [hF])) (scal_ints _)) .nil))) | exact .agg (.cons (.v (by first | rfl | (rw [hF]))) (.cons (.v (by first | rfl | (rw [hF]))) (.cons (.nil (by decide) (by first | rfl | (rw [hF]))) .nil))) | exact .agg (.cons (.v (by first | rfl | (rw [hF]))) (.cons (.v (by first | rfl | (rw [hF]))) .nil))) | exact .two (by repeat first | exact .nil | apply ExpL.cons | exact (by first | exact .one (.v (by first | rfl | (rw [hF]))) | exact .one (.own rfl rfl rfl rfl rfl rfl (by first | rfl | (rw [hF])) (by first | exact scal_ints _ | exact scal_slc _)) | exact .one (.nil (by decide) (by first | rfl | (rw [hF]))) | exact .agg (.cons (.v (by first | rfl | (rw [hF]))) (.cons (.v (by first | rfl | (rw [hF]))) (.cons (.own rfl rfl rfl rfl rfl rfl (by first | rfl | (rw [hF])) (scal_ints _)) .nil))) | exact .agg (.cons (.v (by first | rfl | (rw [hF]))) (.cons (.v (by first | rfl | (rw [hF]))) (.cons (.nil (by decide) (by first | rfl | (rw [hF]))) .nil))) | exact .agg (.cons (.v (by first | rfl | (rw [hF]))) (.cons (.v (by first | rfl | (rw [hF]))) .nil))))), (by decide)⟩
  · have hkn : k = l.length := by simp at hb; omega
    have hF := hend (.inl hkn)
    repeat first | refine ax_seq ?_ | refine ax_next ?_ | refine rg_text ?_ | refine rg_any mixed ?_ | refine ax_block ?_ | refine rh_nil ⟨(by kernel_rfl), ?_⟩ | refine rh_nil ?_ | refine ax_ret ?_ | refine ax_skip ?_ | refine ax_exit ?_ | refine ax_true rfl ?_ | refine ax_false rfl ?_ | refine then_ret ?_ | refine then_exit ?_ | refine out_here ?_ | refine out_away rfl ?_ | refine out_normal ?_ | refine out_ret ?_ | refine round_exit ?_ | refine round_ret ?_ | refine meet_ret ?_ | refine meet_exit ?_ | (apply rh_no; iterate 4 exact rfl) | (apply rh_un; iterate 3 exact rfl) | (apply rh0; (case h => exact z0); (case hw => exact wt)) | (apply rh1; (case h => exact z1); (case hw => exact wt)) | (apply rhs; (case h => exact zs); (case hw => exact wt))
    refine ⟨.inl rfl, _, _, (by repeat first | exact .nil | apply ResL.cons | exact .tmp rfl | exact .agg rfl rfl rfl rfl rfl (Nat.le_of_ble_eq_true rfl) rfl | exact .cell rfl rfl rfl rfl rfl (Nat.le_of_ble_eq_true rfl) rfl), (by first | exact .one (by first | exact .one (.v (by first | rfl | (rw [hF]))) | exact .one (.own rfl rfl rfl rfl rfl rfl (by first | rfl | (rw [hF])) (by first | exact scal_ints _ | exact scal_slc _)) | exact .one (.nil (by decide) (by first | rfl | (rw [hF]))) | exact .agg (.cons (.v (by first | rfl | (rw [hF]))) (.cons (.v (by first | rfl | (rw [hF]))) (.cons (.own rfl rfl rfl rfl rfl rfl (by first | rfl | (rw [hF])) (scal_ints _)) .nil))) | exact .agg (.cons (.v (by first | rfl | (rw [hF]))) (.cons (.v (by first | rfl | (rw [hF]))) (.cons (.nil (by decide) (by first | rfl | (rw [hF]))) .nil))) | exact .agg (.cons (.v (by first | rfl | (rw [hF]))) (.cons (.v (by first | rfl | (rw [hF]))) .nil))) | exact .two (by repeat first | exact .nil | apply ExpL.cons | exact (by first | exact .one (.v (by first | rfl | (rw [hF]))) | exact .one (.own rfl rfl rfl rfl rfl rfl (by first | rfl | (rw [hF])) (by first | exact scal_ints _ | exact scal_slc _)) | exact .one (.nil (by decide) (by first | rfl | (rw [hF]))) | exact .agg (.cons (.v (by first | rfl | (rw [hF]))) (.cons (.v (by first | rfl | (rw [hF]))) (.cons (.own rfl rfl rfl rfl rfl rfl (by first | rfl | (rw [hF])) (scal_ints _)) .nil))) | exact .agg (.cons (.v (by first | rfl | (rw [hF]))) (.cons (.v (by first | rfl | (rw [hF]))) (.cons (.nil (by decide) (by first | rfl | (rw [hF]))) .nil))) | exact .agg (.cons (.v (by first | rfl | (rw [hF]))) (.cons (.v (by first | rfl | (rw [hF]))) .nil))))), (by decide)⟩
/-- the cars of a hall, ascending -/
def carsTo (l : List Int) : Nat → List Int
  | 0 => []
  | k+1 => if 0 < gi l k then insF (carsTo l k) (gi l k) else carsTo l k
def carsF (h : PHall) : List Int := if validB h = true then carsTo h.cells h.cells.length else []
theorem carsTo_len (l : List Int) : ∀ k, (carsTo l k).length ≤ k
  | 0 => by simp [carsTo]
  | k+1 => by
    have := carsTo_len l k
    simp only [carsTo]
    split
    · rw [insF_len]; omega
    · omega
theorem carsF_len (h : PHall) : (carsF h).length ≤ 12 := by
  unfold carsF
  split
  · rename_i hv; have := carsTo_len h.cells h.cells.length; have := (valid_len hv).2; omega
  · simp
set_option maxHeartbeats 2000000 in
theorem specHallCars_fn (h : PHall) (hl : h.cells.length ≤ lim) : FnS Try.prog 27 [hallV h] (intsV (carsF h)) := by
  have hlim := lim_eq
  refine fn_go1 tabOk Try.func27 rfl (by kernel_rfl) Try.ntmps27 Try.results27 (by decide) ?_
  repeat first | refine ax_seq ?_ | refine ax_next ?_ | refine rg_text ?_ | refine rg_any mixed ?_ | refine ax_block ?_ | refine rh_nil ⟨(by kernel_rfl), ?_⟩ | refine rh_nil ?_ | refine ax_ret ?_ | refine ax_skip ?_ | refine ax_exit ?_ | refine ax_true rfl ?_ | refine ax_false rfl ?_ | refine then_ret ?_ | refine then_exit ?_ | refine out_here ?_ | refine out_away rfl ?_ | refine out_normal ?_ | refine out_ret ?_ | refine round_exit ?_ | refine round_ret ?_ | refine meet_ret ?_ | refine meet_exit ?_ | (apply rh_no; iterate 4 exact rfl) | (apply rh_un; iterate 3 exact rfl) | (apply rh0; (case h => first | (apply st_call (hfn := specHallValid_fn h hl ); exact rfl; exact fz) | exact z0); (case hw => exact wt)) | (apply rh1; (case h => exact z1); (case hw => exact wt)) | (apply rhs; (case h => exact zs); (case hw => exact wt))
  refine ax_cond rfl (fun hb => ?_) (fun hb => ?_)
  · have hF : carsF h = [] := by simp at hb; simp [carsF, hb]
    repeat first | refine ax_seq ?_ | refine ax_next ?_ | refine rg_text ?_ | refine rg_any mixed ?_ | refine ax_block ?_ | refine rh_nil ⟨(by kernel_rfl), ?_⟩ | refine rh_nil ?_ | refine ax_ret ?_ | refine ax_skip ?_ | refine ax_exit ?_ | refine ax_true rfl ?_ | refine ax_false rfl ?_ | refine then_ret ?_ | refine then_exit ?_ | refine out_here ?_ | refine out_away rfl ?_ | refine out_normal ?_ | refine out_ret ?_ | refine round_exit ?_ | refine round_ret ?_ | refine meet_ret ?_ | refine meet_exit ?_ | (apply rh_no; iterate 4 exact rfl) | (apply rh_un; iterate 3 exact rfl) | (apply rh0; (case h => exact z0); (case hw => exact wt)) | (apply rh1; (case h => exact z1); (case hw => exact wt)) | (apply rhs; (case h => exact zs); (case hw => exact wt))
    refine ⟨.inl rfl, _, _, (by repeat first | exact .nil | apply ResL.cons | exact .tmp rfl | exact .agg rfl rfl rfl rfl rfl (Nat.le_of_ble_eq_true rfl) rfl | exact .cell rfl rfl rfl rfl rfl (Nat.le_of_ble_eq_true rfl) rfl), (by first | exact .one (by first | exact .one (.v (by first | rfl | (rw [hF]))) | exact .one (.own rfl rfl rfl rfl rfl rfl (by first | rfl | (rw [hF])) (by first | exact scal_ints _ | exact scal_slc _)) | exact .one (.nil (by decide) (by first | rfl | (rw [hF]))) | exact .agg (.cons (.v (by first | rfl | (rw [hF]))) (.cons (.v (by first | rfl | (rw [hF]))) (.cons (.own rfl rfl rfl rfl rfl rfl (by first | rfl | (rw [hF])) (scal_ints _)) .nil))) | exact .agg (.cons (.v (by first | rfl | (rw [hF]))) (.cons (.v (by first | rfl | (rw [hF]))) (.cons (.nil (by decide) (by first | rfl | (rw [hF]))) .nil))) | exact .agg (.cons (.v (by first | rfl | (rw [hF]))) (.cons (.v (by first | rfl | (rw [hF]))) .nil))) | exact .two (by repeat first | exact .nil | apply ExpL.cons | exact (by first | exact .one (.v (by first | rfl | (rw [hF]))) | exact .one (.own rfl rfl rfl rfl rfl rfl (by first | rfl | (rw [hF])) (by first | exact scal_ints _ | exact scal_slc _)) | exact .one (.nil (by decide) (by first | rfl | (rw [hF]))) | exact .agg (.cons (.v (by first | rfl | (rw [hF]))) (.cons (.v (by first | rfl | (rw [hF]))) (.cons (.own rfl rfl rfl rfl rfl rfl (by first | rfl | (rw [hF])) (scal_ints _)) .nil))) | exact .agg (.cons (.v (by first | rfl | (rw [hF]))) (.cons (.v (by first | rfl | (rw [hF]))) (.cons (.nil (by decide) (by first | rfl | (rw [hF]))) .nil))) | exact .agg (.cons (.v (by first | rfl | (rw [hF]))) (.cons (.v (by first | rfl | (rw [hF]))) .nil))))), (by decide)⟩
  have hv : validB h = true := by simpa using hb
  have hl12 := (valid_len hv).2
  have hF : carsF h = carsTo h.cells h.cells.length := by simp [carsF, hv]
  repeat first | refine ax_seq ?_ | refine ax_next ?_ | refine rg_text ?_ | refine rg_any mixed ?_ | refine ax_block ?_ | refine rh_nil ⟨(by kernel_rfl), ?_⟩ | refine rh_nil ?_ | refine ax_ret ?_ | refine ax_skip ?_ | refine ax_exit ?_ | refine ax_true rfl ?_ | refine ax_false rfl ?_ | refine then_ret ?_ | refine then_exit ?_ | refine out_here ?_ | refine out_away rfl ?_ | refine out_normal ?_ | refine out_ret ?_ | refine round_exit ?_ | refine round_ret ?_ | refine meet_ret ?_ | refine meet_exit ?_ | (apply rh_no; iterate 4 exact rfl) | (apply rh_un; iterate 3 exact rfl) | (apply rh0; (case h => exact z0); (case hw => exact wt)) | (apply rh1; (case h => exact z1); (case hw => exact wt)) | (apply rhs; (case h => exact zs); (case hw => exact wt))
  refine ax_loop (fun k : Nat => mkS [(4, .int (k : Int)), (3, .own 2 0), (1, .ptr 1 0 0)] ⟨3, [(1, some (hallRow h)), (2, some (intsRow (carsTo h.cells k)))]⟩) (fun k => k ≤ h.cells.length) (fun k => h.cells.length - k) (0) (Nat.zero_le _) (weak_of [] (by repeat first | exact .nil | refine LeEs.cons ?_ ?_ | exact .v (by first | rfl | (rfl)) | exact .own rfl rfl rfl rfl rfl | exact .ptr rfl rfl rfl rfl rfl rfl | exact .nil rfl rfl rfl | exact .sl (by first | rfl | (rfl)) | exact .both rfl rfl | exact .frz rfl rfl rfl rfl rfl (by first | rfl | (rfl)) rfl | exact .any _) (by repeat first | exact .nil | refine LeHs.keep rfl ⟨rfl, rfl, rfl, .inl ⟨rfl, by first | rfl | (rfl)⟩⟩ ?_ | refine LeHs.keep rfl ⟨rfl, rfl, rfl, .inr ⟨(by first | exact .inl rfl | exact .inr rfl), by repeat first | exact .nil | refine LeVL.cons ?_ ?_ | exact .v (by first | rfl | (rfl)) | exact .own rfl rfl rfl rfl rfl | exact .sl (by first | rfl | (rfl)) | exact .both rfl rfl | exact .frz rfl rfl rfl rfl rfl (by first | rfl | (rfl)) rfl⟩⟩ ?_ | refine LeHs.fresh rfl rfl rfl (Nat.succ_pos _) rfl ?_) rfl rfl) ?_
  intro k hk
  have hcl := carsTo_len h.cells k
  repeat first | refine ax_seq ?_ | refine ax_next ?_ | refine rg_text ?_ | refine rg_any mixed ?_ | refine ax_block ?_ | refine rh_nil ⟨(by kernel_rfl), ?_⟩ | refine rh_nil ?_ | refine ax_ret ?_ | refine ax_skip ?_ | refine ax_exit ?_ | refine ax_true rfl ?_ | refine ax_false rfl ?_ | refine then_ret ?_ | refine then_exit ?_ | refine out_here ?_ | refine out_away rfl ?_ | refine out_normal ?_ | refine out_ret ?_ | refine round_exit ?_ | refine round_ret ?_ | refine meet_ret ?_ | refine meet_exit ?_ | (apply rh_no; iterate 4 exact rfl) | (apply rh_un; iterate 3 exact rfl) | (apply rh0; (case h => exact z0); (case hw => exact wt)) | (apply rh1; (case h => exact z1); (case hw => exact wt)) | (apply rhs; (case h => exact zs); (case hw => exact wt))
  refine ax_cond rfl (fun hb2 => ?_) (fun hb2 => ?_)
  · have hlt : k < h.cells.length := by simpa using hb2
    repeat first | refine ax_seq ?_ | refine ax_next ?_ | refine rg_text ?_ | refine rg_any mixed ?_ | refine ax_block ?_ | refine rh_nil ⟨(by kernel_rfl), ?_⟩ | refine rh_nil ?_ | refine ax_ret ?_ | refine ax_skip ?_ | refine ax_exit ?_ | refine ax_true rfl ?_ | refine ax_false rfl ?_ | refine then_ret ?_ | refine then_exit ?_ | refine out_here ?_ | refine out_away rfl ?_ | refine out_normal ?_ | refine out_ret ?_ | refine round_exit ?_ | refine round_ret ?_ | refine meet_ret ?_ | refine meet_exit ?_ | (apply rh_no; iterate 4 exact rfl) | (apply rh_un; iterate 3 exact rfl) | (apply rh0; (case h => exact z0); (case hw => exact wt)) | (apply rh1; (case h => exact z1); (case hw => exact wt)) | (apply rhs; (case h => exact zs); (case hw => exact wt))
    refine ax_cond rfl (fun hb3 => ?_) (fun hb3 => ?_)
    · have h1 : 0 < gi h.cells k := by simpa using hb3
      have e1 : carsTo h.cells (k + 1) = insF (carsTo h.cells k) (gi h.cells k) := by simp only [carsTo]; rw [if_pos h1]
      repeat first | refine ax_seq ?_ | refine ax_next ?_ | refine rg_text ?_ | refine rg_any mixed ?_ | refine ax_block ?_ | refine rh_nil ⟨(by kernel_rfl), ?_⟩ | refine rh_nil ?_ | refine ax_ret ?_ | refine ax_skip ?_ | refine ax_exit ?_ | refine ax_true rfl ?_ | refine ax_false rfl ?_ | refine then_ret ?_ | refine then_exit ?_ | refine out_here ?_ | refine out_away rfl ?_ | refine out_normal ?_ | refine out_ret ?_ | refine round_exit ?_ | refine round_ret ?_ | refine meet_ret ?_ | refine meet_exit ?_ | (apply rh_no; iterate 4 exact rfl) | (apply rh_un; iterate 3 exact rfl) | (apply rh0; (case h => exact z0); (case hw => exact wt)) | (apply rh1; (case h => first | (apply st_call_s (hfn := l1Sorted_fn (carsTo h.cells k) (by omega) (gi h.cells k) ); exact rfl; exact fz; iterate 2 exact rfl) | exact z1); (case hw => exact wt)) | (apply rhs; (case h => exact zs); (case hw => exact wt))
      refine round_next (k + 1) (hlt) (by omega) (weak_of [(2, 3)] (by repeat first | exact .nil | refine LeEs.cons ?_ ?_ | exact .v (by first | rfl | (rw [e1])) | exact .own rfl rfl rfl rfl rfl | exact .ptr rfl rfl rfl rfl rfl rfl | exact .nil rfl rfl rfl | exact .sl (by first | rfl | (rw [e1])) | exact .both rfl rfl | exact .frz rfl rfl rfl rfl rfl (by first | rfl | (rw [e1])) rfl | exact .any _) (by repeat first | exact .nil | refine LeHs.keep rfl ⟨rfl, rfl, rfl, .inl ⟨rfl, by first | rfl | (rw [e1])⟩⟩ ?_ | refine LeHs.keep rfl ⟨rfl, rfl, rfl, .inr ⟨(by first | exact .inl rfl | exact .inr rfl), by repeat first | exact .nil | refine LeVL.cons ?_ ?_ | exact .v (by first | rfl | (rw [e1])) | exact .own rfl rfl rfl rfl rfl | exact .sl (by first | rfl | (rw [e1])) | exact .both rfl rfl | exact .frz rfl rfl rfl rfl rfl (by first | rfl | (rw [e1])) rfl⟩⟩ ?_ | refine LeHs.fresh rfl rfl rfl (Nat.succ_pos _) rfl ?_) rfl rfl)
    · have h1 : ¬ 0 < gi h.cells k := by simpa using hb3
      have e1 : carsTo h.cells (k + 1) = carsTo h.cells k := by simp only [carsTo]; rw [if_neg h1]
      repeat first | refine ax_seq ?_ | refine ax_next ?_ | refine rg_text ?_ | refine rg_any mixed ?_ | refine ax_block ?_ | refine rh_nil ⟨(by kernel_rfl), ?_⟩ | refine rh_nil ?_ | refine ax_ret ?_ | refine ax_skip ?_ | refine ax_exit ?_ | refine ax_true rfl ?_ | refine ax_false rfl ?_ | refine then_ret ?_ | refine then_exit ?_ | refine out_here ?_ | refine out_away rfl ?_ | refine out_normal ?_ | refine out_ret ?_ | refine round_exit ?_ | refine round_ret ?_ | refine meet_ret ?_ | refine meet_exit ?_ | (apply rh_no; iterate 4 exact rfl) | (apply rh_un; iterate 3 exact rfl) | (apply rh0; (case h => exact z0); (case hw => exact wt)) | (apply rh1; (case h => exact z1); (case hw => exact wt)) | (apply rhs; (case h => exact zs); (case hw => exact wt))
      refine round_next (k + 1) (hlt) (by omega) (weak_of [] (by repeat first | exact .nil | refine LeEs.cons ?_ ?_ | exact .v (by first | rfl | (rw [e1])) | exact .own rfl rfl rfl rfl rfl | exact .ptr rfl rfl rfl rfl rfl rfl | exact .nil rfl rfl rfl | exact .sl (by first | rfl | (rw [e1])) | exact .both rfl rfl | exact .frz rfl rfl rfl rfl rfl (by first | rfl | (rw [e1])) rfl | exact .any _) (by repeat first | exact .nil | refine LeHs.keep rfl ⟨rfl, rfl, rfl, .inl ⟨rfl, by first | rfl | (rw [e1])⟩⟩ ?_ | refine LeHs.keep rfl ⟨rfl, rfl, rfl, .inr ⟨(by first | exact .inl rfl | exact .inr rfl), by repeat first | exact .nil | refine LeVL.cons ?_ ?_ | exact .v (by first | rfl | (rw [e1])) | exact .own rfl rfl rfl rfl rfl | exact .sl (by first | rfl | (rw [e1])) | exact .both rfl rfl | exact .frz rfl rfl rfl rfl rfl (by first | rfl | (rw [e1])) rfl⟩⟩ ?_ | refine LeHs.fresh rfl rfl rfl (Nat.succ_pos _) rfl ?_) rfl rfl)
  · have hkn : k = h.cells.length := by simp at hb2; omega
    repeat first | refine ax_seq ?_ | refine ax_next ?_ | refine rg_text ?_ | refine rg_any mixed ?_ | refine ax_block ?_ | refine rh_nil ⟨(by kernel_rfl), ?_⟩ | refine rh_nil ?_ | refine ax_ret ?_ | refine ax_skip ?_ | refine ax_exit ?_ | refine ax_true rfl ?_ | refine ax_false rfl ?_ | refine then_ret ?_ | refine then_exit ?_ | refine out_here ?_ | refine out_away rfl ?_ | refine out_normal ?_ | refine out_ret ?_ | refine round_exit ?_ | refine round_ret ?_ | refine meet_ret ?_ | refine meet_exit ?_ | (apply rh_no; iterate 4 exact rfl) | (apply rh_un; iterate 3 exact rfl) | (apply rh0; (case h => exact z0); (case hw => exact wt)) | (apply rh1; (case h => exact z1); (case hw => exact wt)) | (apply rhs; (case h => exact zs); (case hw => exact wt))
    refine ⟨.inl rfl, _, _, (by repeat first | exact .nil | apply ResL.cons | exact .tmp rfl | exact .agg rfl rfl rfl rfl rfl (Nat.le_of_ble_eq_true rfl) rfl | exact .cell rfl rfl rfl rfl rfl (Nat.le_of_ble_eq_true rfl) rfl), (by first | exact .one (by first | exact .one (.v (by first | rfl | (rw [hF, ← hkn]))) | exact .one (.own rfl rfl rfl rfl rfl rfl (by first | rfl | (rw [hF, ← hkn])) (by first | exact scal_ints _ | exact scal_slc _)) | exact .one (.nil (by decide) (by first | rfl | (rw [hF, ← hkn]))) | exact .agg (.cons (.v (by first | rfl | (rw [hF, ← hkn]))) (.cons (.v (by first | rfl | (rw [hF, ← hkn]))) (.cons (.own rfl rfl rfl rfl rfl rfl (by first | rfl | (rw [hF, ← hkn])) (scal_ints _)) .nil))) | exact .agg (.cons (.v (by first | rfl | (rw [hF, ← hkn]))) (.cons (.v (by first | rfl | (rw [hF, ← hkn]))) (.cons (.nil (by decide) (by first | rfl | (rw [hF, ← hkn]))) .nil))) | exact .agg (.cons (.v (by first | rfl | (rw [hF, ← hkn]))) (.cons (.v (by first | rfl | (rw [hF, ← hkn]))) .nil))) | exact .two (by repeat first | exact .nil | apply ExpL.cons | exact (by first | exact .one (.v (by first | rfl | (rw [hF, ← hkn]))) | exact .one (.own rfl rfl rfl rfl rfl rfl (by first | rfl | (rw [hF, ← hkn])) (by first | exact scal_ints _ | exact scal_slc _)) | exact .one (.nil (by decide) (by first | rfl | (rw [hF, ← hkn]))) | exact .agg (.cons (.v (by first | rfl | (rw [hF, ← hkn]))) (.cons (.v (by first | rfl | (rw [hF, ← hkn]))) (.cons (.own rfl rfl rfl rfl rfl rfl (by first | rfl | (rw [hF, ← hkn])) (scal_ints _)) .nil))) | exact .agg (.cons (.v (by first | rfl | (rw [hF, ← hkn]))) (.cons (.v (by first | rfl | (rw [hF, ← hkn]))) (.cons (.nil (by decide) (by first | rfl | (rw [hF, ← hkn]))) .nil))) | exact .agg (.cons (.v (by first | rfl | (rw [hF, ← hkn]))) (.cons (.v (by first | rfl | (rw [hF, ← hkn]))) .nil))))), (by decide)⟩
end Go.Proofs.Ytjkogihfdnjdhaa
namespace Go.Sym
open Go Go.RowKit Go.Park Go.Proofs.Ytjkogihfdnjdhaa
/-- f, of a row's slice: turns the row's cells, gives c -/
def FnT (P : Program) (f : Nat) (mk : Value → Value) (ty sz : Nat) (cs cs' : List AV) (c : Value) : Prop :=
  Enters P f ∧ pureL cs' ∧ cs'.length = cs.length ∧ ∀ w n xs t, w.ownsRow 0 ty sz t n xs → cs.length = n * sz → (∃ cx, relL cx cs xs) → Calls P f #[mk t] w fun e w' => e = .returned c ∧ w.grownBy w' t.ownBlock ∧ ∃ xs', w'.ownsRow 0 ty sz t n xs' ∧ (∀ cx, relL cx cs' xs') ∧ ∀ u, u ∈ xs' → u.oneCell' = true
theorem does_turn1 {P : Program} {nt : Nat} {σ : St} {dst : Option Nat} {ty : Nat} {pos : String} {aft : Array Edge} {gd : Option (Nat × Bool)} {f : Nat} {x : Operand} {at' : Array TypeId} {mk : Value → Value} {c : Value} {cs cs' : List AV} {y : AV} {r k rt rz : Nat} {row : Row} (hd : dstOk nt dst = true)
    (hfn : FnT P f mk rt rz cs cs' c) (hy : σ.ev x = y) (hmk : MkV y r k mk) (hr : σ.row r = some row) (hv : row.ver = k) (ht : row.ty = rt) (hz : row.sz = rz) (hc : row.cs = cs) :
    Does P nt ⟨dst, .call ⟨.value (.func f), #[x], at'⟩, ty, pos, aft, gd⟩ ⟨fo x, [r]⟩ (.v c) [(r, some ⟨row.ty, row.sz, row.ver, true, row.box, cs'⟩)] σ := by
  subst ht hz hc
  refine ⟨?_⟩
  intro τ hag F hF a w hS Q K hK
  obtain ⟨φ, Z, hS⟩ := hS
  have hr' : τ.row r = some row := by rw [hag.2 r (by simp)]; exact hr
  have h1 : a.eval x = mk (φ r) := mkV_rel hS hmk hr' hv (by rw [← hy, ← hag.ev (fun t h => by simp [h])]; exact hS.ev x)
  obtain ⟨n, xs, hm⟩ := rowMem hS hr'
  have hcall := hfn.2.2.2 w n xs (φ r) hm.own hm.len ⟨_, hm.rel⟩
  unfold Oper.wp
  have hrun : (execOp a.eval ⟨dst, .call ⟨.value (.func f), #[x], at'⟩, ty, pos, aft, gd⟩).run P w = .ok (.enter f #[mk (φ r)]) w := by
    simp [execOp, resolve, Act.eval, Deferred.ofValue, invoke, run_callFunc hfn.1] at h1 ⊢
    simp [h1, run_callFunc hfn.1]
  rw [hrun, Oper.upon_enter]
  refine hcall.mono ?_
  rintro e w' ⟨rfl, hg, xs', ho, hrel, hone⟩
  show K (a.put dst c) w'
  refine hK c w' ?_
  have hrr := hS.rows r row hr'
  have htn := hS.turn (r := r) (row := row) (row' := ⟨row.ty, row.sz, row.ver, true, row.box, cs'⟩) (t' := φ r) (w' := w') hr' hg (Nat.le_refl _) (fun _ => rfl)
    (fun hcx => ⟨hrr.sz, fun _ => hfn.2.1, hrr.box, hrr.blk, n, xs', ho, by show cs'.length = _; rw [hfn.2.2.1]; exact hm.len, hrel _, hone⟩)
    (fun g' h => .inl h) (fun _ => rfl)
  rw [set_eq_upd] at htn
  cases dst with
  | none => exact ⟨_, Z, htn.1⟩
  | some d =>
    simp [dstOk] at hd
    exact ⟨_, Z, htn.1.put (by omega) (by simp [relV])⟩
section
variable {P : Program} {nt : Nat} {E : List (Nat × AV)} {H : Hp} {dst : Option Nat} {ty : Nat} {pos : String} {aft : Array Edge} {gd : Option (Nat × Bool)} {f : Nat} {at' : Array TypeId}
theorem st_turn1 {x : Operand} {mk : Value → Value} {c : Value} {cs cs' : List AV} {y : AV} {r k rt rz : Nat} {row : Row} (hfn : FnT P f mk rt rz cs cs' c) (hd : dstOk nt dst = true)
    (hy : (mkS E H).ev x = y) (hmk : MkV y r k mk) (hr : (mkS E H).row r = some row) (hv : row.ver = k) (ht : row.ty = rt) (hz : row.sz = rz) (hc : row.cs = cs) :
    Does P nt ⟨dst, .call ⟨.value (.func f), #[x], at'⟩, ty, pos, aft, gd⟩ ⟨fo x, [r]⟩ (.v c) [(r, some ⟨row.ty, row.sz, row.ver, true, row.box, cs'⟩)] (mkS E H) :=
  does_turn1 hd hfn hy hmk hr hv ht hz hc
end
end Go.Sym
namespace Go.Proofs.Ytjkogihfdnjdhaa
open Go Go.RowKit Go.Park Go.Sym
def sortZ (l : List Int) : List Int := l.mergeSort fun x y => decide (x ≤ y)
theorem sortZ_len (l : List Int) : (sortZ l).length = l.length := (List.mergeSort_perm l _).length_eq
theorem sortZ_sorted (l : List Int) : (sortZ l).Pairwise (· ≤ ·) := by
  have := List.pairwise_mergeSort (le := fun x y : Int => decide (x ≤ y)) (fun a b c h1 h2 => by simp at *; omega) (fun a b => by simp; omega) l
  exact this.imp (fun h => by simpa using h)
theorem perm_sorted {a b : List Int} (hp : a.Perm b) (ha : a.Pairwise (· ≤ ·)) (hb : b.Pairwise (· ≤ ·)) : a = b :=
  List.Perm.eq_of_pairwise (fun x y _ _ h1 h2 => Int.le_antisymm h1 h2) ha hb hp
def posTo (l : List Int) (k : Nat) : List Int := (l.take k).filter fun x => decide (0 < x)
theorem posTo_len (l : List Int) (k : Nat) : (posTo l k).length ≤ k := by
  have := List.length_filter_le (fun x => decide (0 < x)) (l.take k)
  have h2 : (l.take k).length ≤ k := by rw [List.length_take]; omega
  unfold posTo
  omega
theorem posTo_succ {l : List Int} {k : Nat} (hk : k < l.length) : posTo l (k + 1) = if 0 < gi l k then posTo l k ++ [gi l k] else posTo l k := by
  have e1 : l.take (k + 1) = l.take k ++ [gi l k] := by
    rw [List.take_succ_eq_append_getElem hk]
    simp [gi, List.getD, hk]
  unfold posTo
  rw [e1, List.filter_append]
  split <;> rename_i h <;> simp [h]
theorem insF_perm (l : List Int) (n : Int) : (insF l n).Perm (n :: l) := by
  have : (insF l n).Perm (n :: (l.take (lowTo l n) ++ l.drop (lowTo l n))) := by
    unfold insF
    rw [List.append_assoc]
    exact List.perm_middle
  rwa [List.take_append_drop] at this
theorem low_lt {l : List Int} {n : Int} {x : Int} (h : x ∈ l.take (lowTo l n)) : x < n := by
  obtain ⟨i, hi, rfl⟩ := List.mem_iff_getElem.1 h
  rw [List.getElem_take]
  rw [List.length_take] at hi
  have := List.not_of_lt_findIdx (p := fun x => !decide (x < n)) (xs := l) (i := i) (by unfold lowTo at hi; omega)
  simpa using this
theorem low_ge {l : List Int} {n : Int} (hs : l.Pairwise (· ≤ ·)) {x : Int} (h : x ∈ l.drop (lowTo l n)) : n ≤ x := by
  by_cases hl : lowTo l n < l.length
  · have h0 := List.findIdx_getElem (p := fun x => !decide (x < n)) (xs := l) (w := hl)
    simp at h0
    have hd : l.drop (lowTo l n) = l[lowTo l n] :: l.drop (lowTo l n + 1) := List.drop_eq_getElem_cons hl
    have hp : (l.drop (lowTo l n)).Pairwise (· ≤ ·) := hs.sublist (List.drop_sublist _ _)
    rw [hd] at h hp
    rcases List.mem_cons.1 h with rfl | h
    · exact h0
    · exact Int.le_trans h0 ((List.pairwise_cons.1 hp).1 x h)
  · rw [List.drop_eq_nil_of_le (by omega)] at h
    simp at h
theorem insF_sorted {l : List Int} (n : Int) (hs : l.Pairwise (· ≤ ·)) : (insF l n).Pairwise (· ≤ ·) := by
  unfold insF
  rw [List.append_assoc]
  refine List.pairwise_append.2 ⟨hs.sublist (List.take_sublist _ _), ?_, fun a ha b hb => ?_⟩
  · show (n :: l.drop (lowTo l n)).Pairwise _
    exact List.pairwise_cons.2 ⟨fun x hx => low_ge hs hx, hs.sublist (List.drop_sublist _ _)⟩
  · have h1 := low_lt ha
    have hb' : b ∈ n :: l.drop (lowTo l n) := hb
    rcases List.mem_cons.1 hb' with rfl | hb'
    · omega
    · have := low_ge hs hb'; omega
theorem carsTo_both (l : List Int) : ∀ k, k ≤ l.length → (carsTo l k).Perm (posTo l k) ∧ (carsTo l k).Pairwise (· ≤ ·)
  | 0, _ => by simp [carsTo, posTo]
  | k+1, hk => by
    obtain ⟨h1, h2⟩ := carsTo_both l k (by omega)
    rw [posTo_succ (by omega), carsTo]
    split
    · refine ⟨(insF_perm _ _).trans ?_, insF_sorted _ h2⟩
      exact (List.Perm.cons _ h1).trans (List.perm_append_singleton _ _).symm
    · exact ⟨h1, h2⟩
theorem sortZ_cars (l : List Int) : sortZ (posTo l l.length) = carsTo l l.length := by
  obtain ⟨h1, h2⟩ := carsTo_both l l.length (Nat.le_refl _)
  exact perm_sorted ((List.mergeSort_perm _ _).trans h1.symm) (sortZ_sorted _) h2
theorem sort_t (l : List Int) (hll : l.length ≤ lim) : FnT Try.prog 51 (fun t => t) 3 1 (ints l) (ints (sortZ l)) (.tuple #[]) := by
  refine ⟨⟨_, Try.func51, by kernel_rfl, rfl⟩, pure_ints _, by simp [ints_length, sortZ_len], fun w n xs t ho hn hx => ?_⟩
  obtain ⟨cx, hx⟩ := hx
  have hxs := rel_vals_ints hx
  rw [ints_length, Nat.mul_one] at hn
  subst hn hxs
  rcases ho.2 with ⟨rfl, h0⟩ | ⟨g, cap, cur, rfl, h1, h2, h3, h4, h5, h6⟩
  · have hl : l = [] := List.length_eq_zero_iff.1 h0
    subst hl
    refine (Any.slices_Sort_int_none Try.lays189 none 0 w).mono ?_
    rintro e w' ⟨rfl, rfl⟩
    exact ⟨rfl, ⟨rfl, rfl, rfl, Nat.le_refl _, fun _ _ _ => rfl⟩, [], ho, fun cx => by simp [sortZ, ints, relL], by simp⟩
  · rw [Nat.mul_one] at h6
    have hg : g < w.heap.size := (Array.getElem?_eq_some_iff.1 h2).1
    refine (Try.slices_Sort_int g 0 cap l w (holds_of_blockI h2 h6) hg (by have := lim_eq; omega)).mono ?_
    rintro e w' ⟨rfl, m, os, rfl⟩
    refine ⟨rfl, grownBy_sortedI _, _, ownsRow_sortedI (ss := l) (ts := sortZ l) (sortZ_len l) h1 h2 h3 h4 h5, fun cx => ints_map_rel cx _, fun u hu => ?_⟩
    obtain ⟨z, _, rfl⟩ := List.mem_map.1 hu
    rfl
set_option maxHeartbeats 2000000 in
theorem hallCars_fn (h : PHall) (hl : h.cells.length ≤ lim) : FnS Try.prog 28 [hallV h] (intsV (carsF h)) := by
  have hlim := lim_eq
  refine fn_go1 tabOk Try.func28 rfl (by kernel_rfl) Try.ntmps28 Try.results28 (by decide) ?_
  repeat first | refine ax_seq ?_ | refine ax_next ?_ | refine rg_text ?_ | refine rg_any mixed ?_ | refine ax_block ?_ | refine rh_nil ⟨(by kernel_rfl), ?_⟩ | refine rh_nil ?_ | refine ax_ret ?_ | refine ax_skip ?_ | refine ax_exit ?_ | refine ax_true rfl ?_ | refine ax_false rfl ?_ | refine then_ret ?_ | refine then_exit ?_ | refine out_here ?_ | refine out_away rfl ?_ | refine out_normal ?_ | refine out_ret ?_ | refine round_exit ?_ | refine round_ret ?_ | refine meet_ret ?_ | refine meet_exit ?_ | (apply rh_no; iterate 4 exact rfl) | (apply rh_un; iterate 3 exact rfl) | (apply rh0; (case h => first | (apply st_call (hfn := hallValid_fn h hl ); exact rfl; exact fz) | exact z0); (case hw => exact wt)) | (apply rh1; (case h => exact z1); (case hw => exact wt)) | (apply rhs; (case h => exact zs); (case hw => exact wt))
  refine ax_cond rfl (fun hb => ?_) (fun hb => ?_)
  · have hF : carsF h = [] := by simp at hb; simp [carsF, hb]
    repeat first | refine ax_seq ?_ | refine ax_next ?_ | refine rg_text ?_ | refine rg_any mixed ?_ | refine ax_block ?_ | refine rh_nil ⟨(by kernel_rfl), ?_⟩ | refine rh_nil ?_ | refine ax_ret ?_ | refine ax_skip ?_ | refine ax_exit ?_ | refine ax_true rfl ?_ | refine ax_false rfl ?_ | refine then_ret ?_ | refine then_exit ?_ | refine out_here ?_ | refine out_away rfl ?_ | refine out_normal ?_ | refine out_ret ?_ | refine round_exit ?_ | refine round_ret ?_ | refine meet_ret ?_ | refine meet_exit ?_ | (apply rh_no; iterate 4 exact rfl) | (apply rh_un; iterate 3 exact rfl) | (apply rh0; (case h => exact z0); (case hw => exact wt)) | (apply rh1; (case h => exact z1); (case hw => exact wt)) | (apply rhs; (case h => exact zs); (case hw => exact wt))
    refine ⟨.inl rfl, _, _, (by repeat first | exact .nil | apply ResL.cons | exact .tmp rfl | exact .agg rfl rfl rfl rfl rfl (Nat.le_of_ble_eq_true rfl) rfl | exact .cell rfl rfl rfl rfl rfl (Nat.le_of_ble_eq_true rfl) rfl), (by first | exact .one (by first | exact .one (.v (by first | rfl | ((rw [hF]; rfl)))) | exact .one (.own rfl rfl rfl rfl rfl rfl (by first | rfl | ((rw [hF]; rfl))) (by first | exact scal_ints _ | exact scal_slc _)) | exact .one (.nil (by decide) (by first | rfl | ((rw [hF]; rfl)))) | exact .agg (.cons (.v (by first | rfl | ((rw [hF]; rfl)))) (.cons (.v (by first | rfl | ((rw [hF]; rfl)))) (.cons (.own rfl rfl rfl rfl rfl rfl (by first | rfl | ((rw [hF]; rfl))) (scal_ints _)) .nil))) | exact .agg (.cons (.v (by first | rfl | ((rw [hF]; rfl)))) (.cons (.v (by first | rfl | ((rw [hF]; rfl)))) (.cons (.nil (by decide) (by first | rfl | ((rw [hF]; rfl)))) .nil))) | exact .agg (.cons (.v (by first | rfl | ((rw [hF]; rfl)))) (.cons (.v (by first | rfl | ((rw [hF]; rfl)))) .nil))) | exact .two (by repeat first | exact .nil | apply ExpL.cons | exact (by first | exact .one (.v (by first | rfl | ((rw [hF]; rfl)))) | exact .one (.own rfl rfl rfl rfl rfl rfl (by first | rfl | ((rw [hF]; rfl))) (by first | exact scal_ints _ | exact scal_slc _)) | exact .one (.nil (by decide) (by first | rfl | ((rw [hF]; rfl)))) | exact .agg (.cons (.v (by first | rfl | ((rw [hF]; rfl)))) (.cons (.v (by first | rfl | ((rw [hF]; rfl)))) (.cons (.own rfl rfl rfl rfl rfl rfl (by first | rfl | ((rw [hF]; rfl))) (scal_ints _)) .nil))) | exact .agg (.cons (.v (by first | rfl | ((rw [hF]; rfl)))) (.cons (.v (by first | rfl | ((rw [hF]; rfl)))) (.cons (.nil (by decide) (by first | rfl | ((rw [hF]; rfl)))) .nil))) | exact .agg (.cons (.v (by first | rfl | ((rw [hF]; rfl)))) (.cons (.v (by first | rfl | ((rw [hF]; rfl)))) .nil))))), (by decide)⟩
  have hv : validB h = true := by simpa using hb
  have hl12 := (valid_len hv).2
  have hF : carsF h = sortZ (posTo h.cells h.cells.length) := by rw [sortZ_cars]; simp [carsF, hv]
  repeat first | refine ax_seq ?_ | refine ax_next ?_ | refine rg_text ?_ | refine rg_any mixed ?_ | refine ax_block ?_ | refine rh_nil ⟨(by kernel_rfl), ?_⟩ | refine rh_nil ?_ | refine ax_ret ?_ | refine ax_skip ?_ | refine ax_exit ?_ | refine ax_true rfl ?_ | refine ax_false rfl ?_ | refine then_ret ?_ | refine then_exit ?_ | refine out_here ?_ | refine out_away rfl ?_ | refine out_normal ?_ | refine out_ret ?_ | refine round_exit ?_ | refine round_ret ?_ | refine meet_ret ?_ | refine meet_exit ?_ | (apply rh_no; iterate 4 exact rfl) | (apply rh_un; iterate 3 exact rfl) | (apply rh0; (case h => exact z0); (case hw => exact wt)) | (apply rh1; (case h => exact z1); (case hw => exact wt)) | (apply rhs; (case h => exact zs); (case hw => exact wt))
  refine ax_loop (fun k : Nat => mkS [(12, .int (k : Int)), (11, .int (h.cells.length : Int)), (10, intsV h.cells), (3, .own 2 0)] ⟨3, [(1, some (hallRow h)), (2, some (intsRow (posTo h.cells k)))]⟩) (fun k => k ≤ h.cells.length) (fun k => h.cells.length - k) (0) (Nat.zero_le _) (weak_of [] (by repeat first | exact .nil | refine LeEs.cons ?_ ?_ | exact .v (by first | rfl | (rfl)) | exact .own rfl rfl rfl rfl rfl | exact .ptr rfl rfl rfl rfl rfl rfl | exact .nil rfl rfl rfl | exact .sl (by first | rfl | (rfl)) | exact .both rfl rfl | exact .frz rfl rfl rfl rfl rfl (by first | rfl | (rfl)) rfl | exact .any _) (by repeat first | exact .nil | refine LeHs.keep rfl ⟨rfl, rfl, rfl, .inl ⟨rfl, by first | rfl | (rfl)⟩⟩ ?_ | refine LeHs.keep rfl ⟨rfl, rfl, rfl, .inr ⟨(by first | exact .inl rfl | exact .inr rfl), by repeat first | exact .nil | refine LeVL.cons ?_ ?_ | exact .v (by first | rfl | (rfl)) | exact .own rfl rfl rfl rfl rfl | exact .sl (by first | rfl | (rfl)) | exact .both rfl rfl | exact .frz rfl rfl rfl rfl rfl (by first | rfl | (rfl)) rfl⟩⟩ ?_ | refine LeHs.fresh rfl rfl rfl (Nat.succ_pos _) rfl ?_) rfl rfl) ?_
  intro k hk
  have hcl := posTo_len h.cells k
  repeat first | refine ax_seq ?_ | refine ax_next ?_ | refine rg_text ?_ | refine rg_any mixed ?_ | refine ax_block ?_ | refine rh_nil ⟨(by kernel_rfl), ?_⟩ | refine rh_nil ?_ | refine ax_ret ?_ | refine ax_skip ?_ | refine ax_exit ?_ | refine ax_true rfl ?_ | refine ax_false rfl ?_ | refine then_ret ?_ | refine then_exit ?_ | refine out_here ?_ | refine out_away rfl ?_ | refine out_normal ?_ | refine out_ret ?_ | refine round_exit ?_ | refine round_ret ?_ | refine meet_ret ?_ | refine meet_exit ?_ | (apply rh_no; iterate 4 exact rfl) | (apply rh_un; iterate 3 exact rfl) | (apply rh0; (case h => exact z0); (case hw => exact wt)) | (apply rh1; (case h => exact z1); (case hw => exact wt)) | (apply rhs; (case h => exact zs); (case hw => exact wt))
  refine ax_cond rfl (fun hb2 => ?_) (fun hb2 => ?_)
  · have hlt : k < h.cells.length := by simpa using hb2
    repeat first | refine ax_seq ?_ | refine ax_next ?_ | refine rg_text ?_ | refine rg_any mixed ?_ | refine ax_block ?_ | refine rh_nil ⟨(by kernel_rfl), ?_⟩ | refine rh_nil ?_ | refine ax_ret ?_ | refine ax_skip ?_ | refine ax_exit ?_ | refine ax_true rfl ?_ | refine ax_false rfl ?_ | refine then_ret ?_ | refine then_exit ?_ | refine out_here ?_ | refine out_away rfl ?_ | refine out_normal ?_ | refine out_ret ?_ | refine round_exit ?_ | refine round_ret ?_ | refine meet_ret ?_ | refine meet_exit ?_ | (apply rh_no; iterate 4 exact rfl) | (apply rh_un; iterate 3 exact rfl) | (apply rh0; (case h => exact z0); (case hw => exact wt)) | (apply rh1; (case h => exact z1); (case hw => exact wt)) | (apply rhs; (case h => exact zs); (case hw => exact wt))
    refine ax_cond rfl (fun hb3 => ?_) (fun hb3 => ?_)
    · have h1 : 0 < gi h.cells k := by simpa using hb3
      have e1 : posTo h.cells (k + 1) = posTo h.cells k ++ [gi h.cells k] := by rw [posTo_succ hlt, if_pos h1]
      repeat first | refine ax_seq ?_ | refine ax_next ?_ | refine rg_text ?_ | refine rg_any mixed ?_ | refine ax_block ?_ | refine rh_nil ⟨(by kernel_rfl), ?_⟩ | refine rh_nil ?_ | refine ax_ret ?_ | refine ax_skip ?_ | refine ax_exit ?_ | refine ax_true rfl ?_ | refine ax_false rfl ?_ | refine then_ret ?_ | refine then_exit ?_ | refine out_here ?_ | refine out_away rfl ?_ | refine out_normal ?_ | refine out_ret ?_ | refine round_exit ?_ | refine round_ret ?_ | refine meet_ret ?_ | refine meet_exit ?_ | (apply rh_no; iterate 4 exact rfl) | (apply rh_un; iterate 3 exact rfl) | (apply rh0; (case h => exact z0); (case hw => exact wt)) | (apply rh1; (case h => exact z1); (case hw => exact wt)) | (apply rhs; (case h => exact zs); (case hw => exact wt))
      refine round_next (k + 1) (hlt) (by omega) (weak_of [] (by repeat first | exact .nil | refine LeEs.cons ?_ ?_ | exact .v (by first | rfl | (rw [e1])) | exact .own rfl rfl rfl rfl rfl | exact .ptr rfl rfl rfl rfl rfl rfl | exact .nil rfl rfl rfl | exact .sl (by first | rfl | (rw [e1])) | exact .both rfl rfl | exact .frz rfl rfl rfl rfl rfl (by first | rfl | (rw [e1])) rfl | exact .any _) (by repeat first | exact .nil | refine LeHs.keep rfl ⟨rfl, rfl, rfl, .inl ⟨rfl, by first | rfl | (rw [e1])⟩⟩ ?_ | refine LeHs.keep rfl ⟨rfl, rfl, rfl, .inr ⟨(by first | exact .inl rfl | exact .inr rfl), by repeat first | exact .nil | refine LeVL.cons ?_ ?_ | exact .v (by first | rfl | (rw [e1])) | exact .own rfl rfl rfl rfl rfl | exact .sl (by first | rfl | (rw [e1])) | exact .both rfl rfl | exact .frz rfl rfl rfl rfl rfl (by first | rfl | (rw [e1])) rfl⟩⟩ ?_ | refine LeHs.fresh rfl rfl rfl (Nat.succ_pos _) rfl ?_) rfl rfl)
    · have h1 : ¬ 0 < gi h.cells k := by simpa using hb3
      have e1 : posTo h.cells (k + 1) = posTo h.cells k := by rw [posTo_succ hlt, if_neg h1]
      repeat first | refine ax_seq ?_ | refine ax_next ?_ | refine rg_text ?_ | refine rg_any mixed ?_ | refine ax_block ?_ | refine rh_nil ⟨(by kernel_rfl), ?_⟩ | refine rh_nil ?_ | refine ax_ret ?_ | refine ax_skip ?_ | refine ax_exit ?_ | refine ax_true rfl ?_ | refine ax_false rfl ?_ | refine then_ret ?_ | refine then_exit ?_ | refine out_here ?_ | refine out_away rfl ?_ | refine out_normal ?_ | refine out_ret ?_ | refine round_exit ?_ | refine round_ret ?_ | refine meet_ret ?_ | refine meet_exit ?_ | (apply rh_no; iterate 4 exact rfl) | (apply rh_un; iterate 3 exact rfl) | (apply rh0; (case h => exact z0); (case hw => exact wt)) | (apply rh1; (case h => exact z1); (case hw => exact wt)) | (apply rhs; (case h => exact zs); (case hw => exact wt))
      refine round_next (k + 1) (hlt) (by omega) (weak_of [] (by repeat first | exact .nil | refine LeEs.cons ?_ ?_ | exact .v (by first | rfl | (rw [e1])) | exact .own rfl rfl rfl rfl rfl | exact .ptr rfl rfl rfl rfl rfl rfl | exact .nil rfl rfl rfl | exact .sl (by first | rfl | (rw [e1])) | exact .both rfl rfl | exact .frz rfl rfl rfl rfl rfl (by first | rfl | (rw [e1])) rfl | exact .any _) (by repeat first | exact .nil | refine LeHs.keep rfl ⟨rfl, rfl, rfl, .inl ⟨rfl, by first | rfl | (rw [e1])⟩⟩ ?_ | refine LeHs.keep rfl ⟨rfl, rfl, rfl, .inr ⟨(by first | exact .inl rfl | exact .inr rfl), by repeat first | exact .nil | refine LeVL.cons ?_ ?_ | exact .v (by first | rfl | (rw [e1])) | exact .own rfl rfl rfl rfl rfl | exact .sl (by first | rfl | (rw [e1])) | exact .both rfl rfl | exact .frz rfl rfl rfl rfl rfl (by first | rfl | (rw [e1])) rfl⟩⟩ ?_ | refine LeHs.fresh rfl rfl rfl (Nat.succ_pos _) rfl ?_) rfl rfl)
  · have hkn : k = h.cells.length := by simp at hb2; omega
    repeat first | refine ax_seq ?_ | refine ax_next ?_ | refine rg_text ?_ | refine rg_any mixed ?_ | refine ax_block ?_ | refine rh_nil ⟨(by kernel_rfl), ?_⟩ | refine rh_nil ?_ | refine ax_ret ?_ | refine ax_skip ?_ | refine ax_exit ?_ | refine ax_true rfl ?_ | refine ax_false rfl ?_ | refine then_ret ?_ | refine then_exit ?_ | refine out_here ?_ | refine out_away rfl ?_ | refine out_normal ?_ | refine out_ret ?_ | refine round_exit ?_ | refine round_ret ?_ | refine meet_ret ?_ | refine meet_exit ?_ | (apply rh_no; iterate 4 exact rfl) | (apply rh_un; iterate 3 exact rfl) | (apply rh0; (case h => exact z0); (case hw => exact wt)) | (apply rh1; (case h => first | (apply st_turn1 (hfn := sort_t (posTo h.cells k) (by omega) ); exact rfl; exact rfl; exact mz; iterate 5 exact rfl) | exact z1); (case hw => exact wt)) | (apply rhs; (case h => exact zs); (case hw => exact wt))
    refine ⟨.inl rfl, _, _, (by repeat first | exact .nil | apply ResL.cons | exact .tmp rfl | exact .agg rfl rfl rfl rfl rfl (Nat.le_of_ble_eq_true rfl) rfl | exact .cell rfl rfl rfl rfl rfl (Nat.le_of_ble_eq_true rfl) rfl), (by first | exact .one (by first | exact .one (.v (by first | rfl | (rw [hF, ← hkn]))) | exact .one (.own rfl rfl rfl rfl rfl rfl (by first | rfl | (rw [hF, ← hkn])) (by first | exact scal_ints _ | exact scal_slc _)) | exact .one (.nil (by decide) (by first | rfl | (rw [hF, ← hkn]))) | exact .agg (.cons (.v (by first | rfl | (rw [hF, ← hkn]))) (.cons (.v (by first | rfl | (rw [hF, ← hkn]))) (.cons (.own rfl rfl rfl rfl rfl rfl (by first | rfl | (rw [hF, ← hkn])) (scal_ints _)) .nil))) | exact .agg (.cons (.v (by first | rfl | (rw [hF, ← hkn]))) (.cons (.v (by first | rfl | (rw [hF, ← hkn]))) (.cons (.nil (by decide) (by first | rfl | (rw [hF, ← hkn]))) .nil))) | exact .agg (.cons (.v (by first | rfl | (rw [hF, ← hkn]))) (.cons (.v (by first | rfl | (rw [hF, ← hkn]))) .nil))) | exact .two (by repeat first | exact .nil | apply ExpL.cons | exact (by first | exact .one (.v (by first | rfl | (rw [hF, ← hkn]))) | exact .one (.own rfl rfl rfl rfl rfl rfl (by first | rfl | (rw [hF, ← hkn])) (by first | exact scal_ints _ | exact scal_slc _)) | exact .one (.nil (by decide) (by first | rfl | (rw [hF, ← hkn]))) | exact .agg (.cons (.v (by first | rfl | (rw [hF, ← hkn]))) (.cons (.v (by first | rfl | (rw [hF, ← hkn]))) (.cons (.own rfl rfl rfl rfl rfl rfl (by first | rfl | (rw [hF, ← hkn])) (scal_ints _)) .nil))) | exact .agg (.cons (.v (by first | rfl | (rw [hF, ← hkn]))) (.cons (.v (by first | rfl | (rw [hF, ← hkn]))) (.cons (.nil (by decide) (by first | rfl | (rw [hF, ← hkn]))) .nil))) | exact .agg (.cons (.v (by first | rfl | (rw [hF, ← hkn]))) (.cons (.v (by first | rfl | (rw [hF, ← hkn]))) .nil))))), (by decide)⟩
end Go.Proofs.Ytjkogihfdnjdhaa
