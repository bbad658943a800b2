/-
  The sort and the cars of a hall; slides compared; hole slides, runs of slides, ways and the gate (the texts W4, W5, U1, U2, U4 to U7 in one).
-/
import Derived.Shelf.Small.Bits
import Derived.Shelf.Sort.Plain
import Derived.Shelf.Slices.Clone
import Derived.Shelf.Slices.SearchI
import Derived.Shelf.SlicesE.Clone
import Derived.Test.YtjdgbdakkdljmaaDoorProg
import Derived.Test.YtjdgbdakkdljmaaDoorW2
import Derived.Sort.OwnSortedInts
import Derived.Shelf.Slices.In.SortNone
import Derived.Laws.StructEq
import Derived.ChangeKeysEq
import Derived.Test.YtjdgbdakkdljmaaDoorQE
import Derived.Test.YtjdgbdakkdljmaaDoorQC
import Derived.Test.YtjdgbdakkdljmaaDoorN
import Derived.Test.YtjdgbdakkdljmaaDoorO
set_option linter.unusedVariables false
set_option linter.unusedSimpArgs false
set_option maxRecDepth 100000
namespace Go.Proofs
open Go.Shelf
def Tryd.lays189_ren : Go.Shelf.Ren := ⟨fun | 189 => 67 | 125 => 105 | 257 => 104 | 128 => 121 | 129 => 122 | 294 => 112 | 295 => 113 | 296 => 114 | 297 => 115 | 298 => 116 | 299 => 117 | 216 => 118 | 300 => 119 | 301 => 120 | 328 => 129 | 329 => 130 | 330 => 131 | 331 => 132 | 332 => 133 | 215 => 134 | 343 => 143 | n => n, fun | 28 => 23 | 3 => 3 | 46 => 105 | 0 => 0 | 51 => 118 | 53 => 120 | 4 => 4 | 183 => 111 | 182 => 110 | 131 => 97 | 5 => 5 | 9 => 9 | 218 => 127 | 222 => 131 | 228 => 140 | 229 => 141 | n => n, fun | n => n⟩
theorem Tryd.lays189 : Go.Proofs.Lays.n189 Tryd.prog Tryd.lays189_ren := {
  mixed := by kernel_rfl
  f125 := Tryd.func105.trans (congrArg some (by kernel_rfl))
  f128 := Tryd.func121.trans (congrArg some (by kernel_rfl))
  f129 := Tryd.func122.trans (congrArg some (by kernel_rfl))
  f189 := Tryd.func67.trans (congrArg some (by kernel_rfl))
  f215 := Tryd.func134.trans (congrArg some (by kernel_rfl))
  f216 := Tryd.func118.trans (congrArg some (by kernel_rfl))
  f257 := Tryd.func104.trans (congrArg some (by kernel_rfl))
  f294 := Tryd.func112.trans (congrArg some (by kernel_rfl))
  f295 := Tryd.func113.trans (congrArg some (by kernel_rfl))
  f296 := Tryd.func114.trans (congrArg some (by kernel_rfl))
  f297 := Tryd.func115.trans (congrArg some (by kernel_rfl))
  f298 := Tryd.func116.trans (congrArg some (by kernel_rfl))
  f299 := Tryd.func117.trans (congrArg some (by kernel_rfl))
  f300 := Tryd.func119.trans (congrArg some (by kernel_rfl))
  f301 := Tryd.func120.trans (congrArg some (by kernel_rfl))
  f328 := Tryd.func129.trans (congrArg some (by kernel_rfl))
  f329 := Tryd.func130.trans (congrArg some (by kernel_rfl))
  f330 := Tryd.func131.trans (congrArg some (by kernel_rfl))
  f331 := Tryd.func132.trans (congrArg some (by kernel_rfl))
  f332 := Tryd.func133.trans (congrArg some (by kernel_rfl))
  f343 := Tryd.func143.trans (congrArg some (by kernel_rfl))
  t0 := Tryd.underlying0
  a0 := Tryd.isAgg0
  z0 := Tryd.sizeOf0
  v0 := Tryd.zeroValue0
  t3 := Tryd.underlying3
  a3 := Tryd.isAgg3
  z3 := Tryd.sizeOf3
  v3 := Tryd.zeroValue3
  t4 := Tryd.underlying4
  a4 := Tryd.isAgg4
  z4 := Tryd.sizeOf4
  v4 := Tryd.zeroValue4
  t5 := Tryd.underlying5
  a5 := Tryd.isAgg5
  z5 := Tryd.sizeOf5
  v5 := Tryd.zeroValue5
  t9 := Tryd.underlying9
  a9 := Tryd.isAgg9
  z9 := Tryd.sizeOf9
  v9 := Tryd.zeroValue9
  t28 := Tryd.underlying23
  a28 := Tryd.isAgg23
  z28 := Tryd.sizeOf23
  v28 := Tryd.zeroValue23
  t46 := Tryd.underlying105
  a46 := Tryd.isAgg105
  z46 := Tryd.sizeOf105
  v46 := Tryd.zeroValue105
  t51 := Tryd.underlying118
  a51 := Tryd.isAgg118
  z51 := Tryd.sizeOf118
  v51 := Tryd.zeroValue118
  t53 := Tryd.underlying120
  a53 := Tryd.isAgg120
  z53 := Tryd.sizeOf120
  v53 := Tryd.zeroValue120
  t131 := Tryd.underlying97
  a131 := Tryd.isAgg97
  z131 := Tryd.sizeOf97
  v131 := Tryd.zeroValue97
  t182 := Tryd.underlying110
  a182 := Tryd.isAgg110
  z182 := Tryd.sizeOf110
  v182 := Tryd.zeroValue110
  t183 := Tryd.underlying111
  a183 := Tryd.isAgg111
  z183 := Tryd.sizeOf111
  v183 := Tryd.zeroValue111
  t218 := Tryd.underlying127
  a218 := Tryd.isAgg127
  z218 := Tryd.sizeOf127
  v218 := Tryd.zeroValue127
  t222 := Tryd.underlying131
  a222 := Tryd.isAgg131
  z222 := Tryd.sizeOf131
  v222 := Tryd.zeroValue131
  t228 := Tryd.underlying140
  a228 := Tryd.isAgg140
  z228 := Tryd.sizeOf140
  v228 := Tryd.zeroValue140
  t229 := Tryd.underlying141
  a229 := Tryd.isAgg141
  z229 := Tryd.sizeOf141
  v229 := Tryd.zeroValue141 }
open Go.Sort Go.RowKit in
theorem Tryd.slices_Sort_int (blk off cap : Nat) (zs : List Int) (w : World) (hH : Holds (Value.int .i64) w blk off zs.toArray) (hblk : blk < w.heap.size) (hsz : zs.length < 4611686018427387904) :
    Calls Tryd.prog 67 #[.slice (some ⟨blk, off, none⟩) zs.length cap] w fun e w' =>
      e = .returned (.tuple #[]) ∧ ∃ n os, w' = grow (putRow (Value.int .i64) (Sort.ahead w n) blk off (zs.mergeSort fun x y => decide (x ≤ y)).toArray) os := Any.slices_Sort_int Tryd.lays189 blk off cap zs w hH hblk hsz
end Go.Proofs
namespace Go.Proofs.YtjdgbdakkdljmaaDoor
open Go Go.RowKit Go.Park Go.Sym

/-- an ascending list with a number at its place -/
def lowTo (l : List Int) (n : Int) : Nat := l.findIdx fun x => !decide (x < n)
def insF (l : List Int) (n : Int) : List Int := l.take (lowTo l n) ++ [n] ++ l.drop (lowTo l n)
theorem insF_len (l : List Int) (n : Int) : (insF l n).length = l.length + 1 := by
  have : lowTo l n ≤ l.length := List.findIdx_le_length
  simp [insF]; omega
theorem lowTo_stop {l : List Int} {n : Int} {k : Nat} (hk : k ≤ l.length) (h : ∀ j, j < k → gi l j < n) (hs : k = l.length ∨ ¬ gi l k < n) : lowTo l n = k := by
  unfold lowTo
  rcases Nat.lt_trichotomy (l.findIdx fun x => !decide (x < n)) k with h1 | h1 | h1
  · exfalso
    have h2 : (l.findIdx fun x => !decide (x < n)) < l.length := by omega
    have h3 := List.findIdx_getElem (p := fun x => !decide (x < n)) (xs := l) (w := h2)
    have h4 := h _ h1
    simp only [gi, List.getD_eq_getElem?_getD, List.getElem?_eq_getElem h2, Option.getD_some] at h4
    simp at h3
    omega
  · exact h1
  · rcases hs with hs | hs
    · have : (l.findIdx fun x => !decide (x < n)) ≤ l.length := List.findIdx_le_length
      omega
    · exfalso
      have hkl : k < l.length := by
        have : (l.findIdx fun x => !decide (x < n)) ≤ l.length := List.findIdx_le_length
        omega
      have := List.not_of_lt_findIdx h1
      simp at this
      apply hs
      simp only [gi, List.getD_eq_getElem?_getD, List.getElem?_eq_getElem hkl, Option.getD_some]
      exact this
set_option maxHeartbeats 2000000 in
theorem l1Sorted_fn (l : List Int) (hl : l.length ≤ 1000000) (n : Int) : FnS Tryd.prog 68 [intsV l, .int n] (intsV (insF l n)) := by
  refine fn_go2 tabOk Tryd.func68 rfl (by kernel_rfl) Tryd.ntmps68 Tryd.results68 (by decide) ?_
  repeat first | refine ax_seq ?_ | refine ax_next ?_ | refine rg_text ?_ | refine rg_any mixed ?_ | refine ax_block ?_ | refine rh_nil ⟨(by kernel_rfl), ?_⟩ | refine rh_nil ?_ | refine ax_ret ?_ | refine ax_skip ?_ | refine ax_exit ?_ | refine ax_true rfl ?_ | refine ax_false rfl ?_ | refine then_ret ?_ | refine then_exit ?_ | refine out_here ?_ | refine out_away rfl ?_ | refine out_normal ?_ | refine out_ret ?_ | refine round_exit ?_ | refine round_ret ?_ | refine meet_ret ?_ | refine meet_exit ?_ | (apply rh_no; iterate 4 exact rfl) | (apply rh_un; iterate 3 exact rfl) | (apply rh0; (case h => exact z0); (case hw => exact wt)) | (apply rh1; (case h => exact z1); (case hw => exact wt)) | (apply rhs; (case h => exact zs); (case hw => exact wt))
  refine ax_loop (fun k : Nat => mkS [(6, .int (k : Int)), (5, .own 1 0), (0, intsV l), (1, .int n)] ⟨2, [(1, some (intsRow (l.take k)))]⟩) (fun k => k ≤ l.length ∧ ∀ j, j < k → gi l j < n) (fun k => l.length - k) (0) (⟨Nat.zero_le _, fun j hj => by omega⟩) (weak_of [] (by repeat first | exact .nil | refine LeEs.cons ?_ ?_ | exact .v (by first | rfl | (rfl)) | exact .own rfl rfl rfl rfl rfl | exact .ptr rfl rfl rfl rfl rfl rfl | exact .nil rfl rfl rfl | exact .sl (by first | rfl | (rfl)) | exact .both rfl rfl | exact .frz rfl rfl rfl rfl rfl (by first | rfl | (rfl)) rfl | exact .any _) (by repeat first | exact .nil | refine LeHs.keep rfl ⟨rfl, rfl, rfl, .inl ⟨rfl, by first | rfl | (rfl)⟩⟩ ?_ | refine LeHs.keep rfl ⟨rfl, rfl, rfl, .inr ⟨(by first | exact .inl rfl | exact .inr rfl), by repeat first | exact .nil | refine LeVL.cons ?_ ?_ | exact .v (by first | rfl | (rfl)) | exact .own rfl rfl rfl rfl rfl | exact .sl (by first | rfl | (rfl)) | exact .both rfl rfl | exact .frz rfl rfl rfl rfl rfl (by first | rfl | (rfl)) rfl⟩⟩ ?_ | refine LeHs.fresh rfl rfl rfl (Nat.succ_pos _) rfl ?_) rfl rfl) ?_
  rintro k ⟨hk, hj⟩
  have htl : (l.take k).length = k := by rw [List.length_take]; omega
  have hend : ∀ (h : k = l.length ∨ ¬ gi l k < n), insF l n = l.take k ++ [n] ++ l.drop k := fun h => by unfold insF; rw [lowTo_stop hk hj h]
  have hdl : (l.drop k).length = l.length - k := by simp
  repeat first | refine ax_seq ?_ | refine ax_next ?_ | refine rg_text ?_ | refine rg_any mixed ?_ | refine ax_block ?_ | refine rh_nil ⟨(by kernel_rfl), ?_⟩ | refine rh_nil ?_ | refine ax_ret ?_ | refine ax_skip ?_ | refine ax_exit ?_ | refine ax_true rfl ?_ | refine ax_false rfl ?_ | refine then_ret ?_ | refine then_exit ?_ | refine out_here ?_ | refine out_away rfl ?_ | refine out_normal ?_ | refine out_ret ?_ | refine round_exit ?_ | refine round_ret ?_ | refine meet_ret ?_ | refine meet_exit ?_ | (apply rh_no; iterate 4 exact rfl) | (apply rh_un; iterate 3 exact rfl) | (apply rh0; (case h => exact z0); (case hw => exact wt)) | (apply rh1; (case h => exact z1); (case hw => exact wt)) | (apply rhs; (case h => exact zs); (case hw => exact wt))
  refine rh_split rfl rfl (fun hb => ?_) (fun hb => ?_)
  · have hlt : k < l.length := by simpa using hb
    repeat first | refine ax_seq ?_ | refine ax_next ?_ | refine rg_text ?_ | refine rg_any mixed ?_ | refine ax_block ?_ | refine rh_nil ⟨(by kernel_rfl), ?_⟩ | refine rh_nil ?_ | refine ax_ret ?_ | refine ax_skip ?_ | refine ax_exit ?_ | refine ax_true rfl ?_ | refine ax_false rfl ?_ | refine then_ret ?_ | refine then_exit ?_ | refine out_here ?_ | refine out_away rfl ?_ | refine out_normal ?_ | refine out_ret ?_ | refine round_exit ?_ | refine round_ret ?_ | refine meet_ret ?_ | refine meet_exit ?_ | (apply rh_no; iterate 4 exact rfl) | (apply rh_un; iterate 3 exact rfl) | (apply rh0; (case h => exact z0); (case hw => exact wt)) | (apply rh1; (case h => exact z1); (case hw => exact wt)) | (apply rhs; (case h => exact zs); (case hw => exact wt))
    refine ax_cond rfl (fun hb2 => ?_) (fun hb2 => ?_)
    · have h1 : gi l k < n := by simpa using hb2
      have e1 : l.take (k + 1) = l.take k ++ [gi l k] := by
        rw [List.take_succ_eq_append_getElem hlt]
        simp [gi, List.getD, hlt]
      repeat first | refine ax_seq ?_ | refine ax_next ?_ | refine rg_text ?_ | refine rg_any mixed ?_ | refine ax_block ?_ | refine rh_nil ⟨(by kernel_rfl), ?_⟩ | refine rh_nil ?_ | refine ax_ret ?_ | refine ax_skip ?_ | refine ax_exit ?_ | refine ax_true rfl ?_ | refine ax_false rfl ?_ | refine then_ret ?_ | refine then_exit ?_ | refine out_here ?_ | refine out_away rfl ?_ | refine out_normal ?_ | refine out_ret ?_ | refine round_exit ?_ | refine round_ret ?_ | refine meet_ret ?_ | refine meet_exit ?_ | (apply rh_no; iterate 4 exact rfl) | (apply rh_un; iterate 3 exact rfl) | (apply rh0; (case h => exact z0); (case hw => exact wt)) | (apply rh1; (case h => exact z1); (case hw => exact wt)) | (apply rhs; (case h => exact zs); (case hw => exact wt))
      refine round_next (k + 1) (⟨hlt, fun j hj' => by by_cases e : j = k; (subst e; exact h1); exact hj j (by omega)⟩) (by omega) (weak_of [] (by repeat first | exact .nil | refine LeEs.cons ?_ ?_ | exact .v (by first | rfl | (rw [e1])) | exact .own rfl rfl rfl rfl rfl | exact .ptr rfl rfl rfl rfl rfl rfl | exact .nil rfl rfl rfl | exact .sl (by first | rfl | (rw [e1])) | exact .both rfl rfl | exact .frz rfl rfl rfl rfl rfl (by first | rfl | (rw [e1])) rfl | exact .any _) (by repeat first | exact .nil | refine LeHs.keep rfl ⟨rfl, rfl, rfl, .inl ⟨rfl, by first | rfl | (rw [e1])⟩⟩ ?_ | refine LeHs.keep rfl ⟨rfl, rfl, rfl, .inr ⟨(by first | exact .inl rfl | exact .inr rfl), by repeat first | exact .nil | refine LeVL.cons ?_ ?_ | exact .v (by first | rfl | (rw [e1])) | exact .own rfl rfl rfl rfl rfl | exact .sl (by first | rfl | (rw [e1])) | exact .both rfl rfl | exact .frz rfl rfl rfl rfl rfl (by first | rfl | (rw [e1])) rfl⟩⟩ ?_ | refine LeHs.fresh rfl rfl rfl (Nat.succ_pos _) rfl ?_) rfl rfl)
    · have h1 : ¬ gi l k < n := by simpa using hb2
      have hF := hend (.inr h1)
      repeat first | refine ax_seq ?_ | refine ax_next ?_ | refine rg_text ?_ | refine rg_any mixed ?_ | refine ax_block ?_ | refine rh_nil ⟨(by kernel_rfl), ?_⟩ | refine rh_nil ?_ | refine ax_ret ?_ | refine ax_skip ?_ | refine ax_exit ?_ | refine ax_true rfl ?_ | refine ax_false rfl ?_ | refine then_ret ?_ | refine then_exit ?_ | refine out_here ?_ | refine out_away rfl ?_ | refine out_normal ?_ | refine out_ret ?_ | refine round_exit ?_ | refine round_ret ?_ | refine meet_ret ?_ | refine meet_exit ?_ | (apply rh_no; iterate 4 exact rfl) | (apply rh_un; iterate 3 exact rfl) | (apply rh0; (case h => exact z0); (case hw => exact wt)) | (apply rh1; (case h => exact z1); (case hw => exact wt)) | (apply rhs; (case h => exact zs); (case hw => exact wt))
      refine ⟨.inl rfl, _, _, (by repeat first | exact .nil | apply ResL.cons | exact .tmp rfl | exact .agg rfl rfl rfl rfl rfl (Nat.le_of_ble_eq_true rfl) rfl | exact .cell rfl rfl rfl rfl rfl (Nat.le_of_ble_eq_true rfl) rfl), (by first | exact .one (by first | exact .one (.v (by first | rfl | (rw [hF]))) | exact .one (.own rfl rfl rfl rfl rfl rfl (by first | rfl | (rw [hF])) (by first | exact scal_ints _ | exact scal_slc _)) | exact .one (.nil (by decide) (by first | rfl | (rw [hF]))) | exact .agg (.cons (.v (by first | rfl | (rw [hF]))) (.cons (.v (by first | rfl | (rw [hF]))) (.cons (.own rfl rfl rfl rfl rfl rfl (by first | rfl | (rw [hF])) (scal_ints _)) .nil))) | exact .agg (.cons (.v (by first | rfl | (rw [hF]))) (.cons (.v (by first | rfl | (rw [hF]))) (.cons (.nil (by decide) (by first | rfl | (rw [hF]))) .nil))) | exact .agg (.cons (.v (by first | rfl | (rw [hF]))) (.cons (.v (by first | rfl | (rw [hF]))) .nil))) | exact .two (by repeat first | exact .nil | apply ExpL.cons | exact (by first | exact .one (.v (by first | rfl | (rw [hF]))) | exact .one (.own rfl rfl rfl rfl rfl rfl (by first | rfl | (rw [hF])) (by first | exact scal_ints _ | exact scal_slc _)) | exact .one (.nil (by decide) (by first | rfl | (rw [hF]))) | exact .agg (.cons (.v (by first | rfl | (rw [hF]))) (.cons (.v (by first | rfl | (rw [hF]))) (.cons (.own rfl rfl rfl rfl rfl rfl (by first | rfl | (rw [hF])) (scal_ints _)) .nil))) | exact .agg (.cons (.v (by first | rfl | (rw [hF]))) (.cons (.v (by first | rfl | (rw [hF]))) (.cons (.nil (by decide) (by first | rfl | (rw [hF]))) .nil))) | exact .agg (.cons (.v (by first | rfl | (rw [hF]))) (.cons (.v (by first | rfl | (rw [hF]))) .nil))))), (by decide)⟩
  · have hkn : k = l.length := by simp at hb; omega
    have hF := hend (.inl hkn)
    repeat first | refine ax_seq ?_ | refine ax_next ?_ | refine rg_text ?_ | refine rg_any mixed ?_ | refine ax_block ?_ | refine rh_nil ⟨(by kernel_rfl), ?_⟩ | refine rh_nil ?_ | refine ax_ret ?_ | refine ax_skip ?_ | refine ax_exit ?_ | refine ax_true rfl ?_ | refine ax_false rfl ?_ | refine then_ret ?_ | refine then_exit ?_ | refine out_here ?_ | refine out_away rfl ?_ | refine out_normal ?_ | refine out_ret ?_ | refine round_exit ?_ | refine round_ret ?_ | refine meet_ret ?_ | refine meet_exit ?_ | (apply rh_no; iterate 4 exact rfl) | (apply rh_un; iterate 3 exact rfl) | (apply rh0; (case h => exact z0); (case hw => exact wt)) | (apply rh1; (case h => exact z1); (case hw => exact wt)) | (apply rhs; (case h => exact zs); (case hw => exact wt))
    refine ⟨.inl rfl, _, _, (by repeat first | exact .nil | apply ResL.cons | exact .tmp rfl | exact .agg rfl rfl rfl rfl rfl (Nat.le_of_ble_eq_true rfl) rfl | exact .cell rfl rfl rfl rfl rfl (Nat.le_of_ble_eq_true rfl) rfl), (by first | exact .one (by first | exact .one (.v (by first | rfl | (rw [hF]))) | exact .one (.own rfl rfl rfl rfl rfl rfl (by first | rfl | (rw [hF])) (by first | exact scal_ints _ | exact scal_slc _)) | exact .one (.nil (by decide) (by first | rfl | (rw [hF]))) | exact .agg (.cons (.v (by first | rfl | (rw [hF]))) (.cons (.v (by first | rfl | (rw [hF]))) (.cons (.own rfl rfl rfl rfl rfl rfl (by first | rfl | (rw [hF])) (scal_ints _)) .nil))) | exact .agg (.cons (.v (by first | rfl | (rw [hF]))) (.cons (.v (by first | rfl | (rw [hF]))) (.cons (.nil (by decide) (by first | rfl | (rw [hF]))) .nil))) | exact .agg (.cons (.v (by first | rfl | (rw [hF]))) (.cons (.v (by first | rfl | (rw [hF]))) .nil))) | exact .two (by repeat first | exact .nil | apply ExpL.cons | exact (by first | exact .one (.v (by first | rfl | (rw [hF]))) | exact .one (.own rfl rfl rfl rfl rfl rfl (by first | rfl | (rw [hF])) (by first | exact scal_ints _ | exact scal_slc _)) | exact .one (.nil (by decide) (by first | rfl | (rw [hF]))) | exact .agg (.cons (.v (by first | rfl | (rw [hF]))) (.cons (.v (by first | rfl | (rw [hF]))) (.cons (.own rfl rfl rfl rfl rfl rfl (by first | rfl | (rw [hF])) (scal_ints _)) .nil))) | exact .agg (.cons (.v (by first | rfl | (rw [hF]))) (.cons (.v (by first | rfl | (rw [hF]))) (.cons (.nil (by decide) (by first | rfl | (rw [hF]))) .nil))) | exact .agg (.cons (.v (by first | rfl | (rw [hF]))) (.cons (.v (by first | rfl | (rw [hF]))) .nil))))), (by decide)⟩
/-- the cars of a hall, ascending -/
def carsTo (l : List Int) : Nat → List Int
  | 0 => []
  | k+1 => if 0 < gi l k then insF (carsTo l k) (gi l k) else carsTo l k
def carsF (h : PHall) : List Int := if validB h = true then carsTo h.cells h.cells.length else []
theorem carsTo_len (l : List Int) : ∀ k, (carsTo l k).length ≤ k
  | 0 => by simp [carsTo]
  | k+1 => by
    have := carsTo_len l k
    simp only [carsTo]
    split
    · rw [insF_len]; omega
    · omega
theorem carsF_len (h : PHall) : (carsF h).length ≤ 12 := by
  unfold carsF
  split
  · rename_i hv; have := carsTo_len h.cells h.cells.length; have := (valid_len hv).2; omega
  · simp
set_option maxHeartbeats 2000000 in
theorem specHallCars_fn (h : PHall) (hl : h.cells.length ≤ lim) : FnS Tryd.prog 18 [hallV h] (intsV (carsF h)) := by
  have hlim := lim_eq
  refine fn_go1 tabOk Tryd.func18 rfl (by kernel_rfl) Tryd.ntmps18 Tryd.results18 (by decide) ?_
  repeat first | refine ax_seq ?_ | refine ax_next ?_ | refine rg_text ?_ | refine rg_any mixed ?_ | refine ax_block ?_ | refine rh_nil ⟨(by kernel_rfl), ?_⟩ | refine rh_nil ?_ | refine ax_ret ?_ | refine ax_skip ?_ | refine ax_exit ?_ | refine ax_true rfl ?_ | refine ax_false rfl ?_ | refine then_ret ?_ | refine then_exit ?_ | refine out_here ?_ | refine out_away rfl ?_ | refine out_normal ?_ | refine out_ret ?_ | refine round_exit ?_ | refine round_ret ?_ | refine meet_ret ?_ | refine meet_exit ?_ | (apply rh_no; iterate 4 exact rfl) | (apply rh_un; iterate 3 exact rfl) | (apply rh0; (case h => first | (apply st_call (hfn := specHallValid_fn h hl ); exact rfl; exact fz) | exact z0); (case hw => exact wt)) | (apply rh1; (case h => exact z1); (case hw => exact wt)) | (apply rhs; (case h => exact zs); (case hw => exact wt))
  refine ax_cond rfl (fun hb => ?_) (fun hb => ?_)
  · have hF : carsF h = [] := by simp at hb; simp [carsF, hb]
    repeat first | refine ax_seq ?_ | refine ax_next ?_ | refine rg_text ?_ | refine rg_any mixed ?_ | refine ax_block ?_ | refine rh_nil ⟨(by kernel_rfl), ?_⟩ | refine rh_nil ?_ | refine ax_ret ?_ | refine ax_skip ?_ | refine ax_exit ?_ | refine ax_true rfl ?_ | refine ax_false rfl ?_ | refine then_ret ?_ | refine then_exit ?_ | refine out_here ?_ | refine out_away rfl ?_ | refine out_normal ?_ | refine out_ret ?_ | refine round_exit ?_ | refine round_ret ?_ | refine meet_ret ?_ | refine meet_exit ?_ | (apply rh_no; iterate 4 exact rfl) | (apply rh_un; iterate 3 exact rfl) | (apply rh0; (case h => exact z0); (case hw => exact wt)) | (apply rh1; (case h => exact z1); (case hw => exact wt)) | (apply rhs; (case h => exact zs); (case hw => exact wt))
    refine ⟨.inl rfl, _, _, (by repeat first | exact .nil | apply ResL.cons | exact .tmp rfl | exact .agg rfl rfl rfl rfl rfl (Nat.le_of_ble_eq_true rfl) rfl | exact .cell rfl rfl rfl rfl rfl (Nat.le_of_ble_eq_true rfl) rfl), (by first | exact .one (by first | exact .one (.v (by first | rfl | (rw [hF]))) | exact .one (.own rfl rfl rfl rfl rfl rfl (by first | rfl | (rw [hF])) (by first | exact scal_ints _ | exact scal_slc _)) | exact .one (.nil (by decide) (by first | rfl | (rw [hF]))) | exact .agg (.cons (.v (by first | rfl | (rw [hF]))) (.cons (.v (by first | rfl | (rw [hF]))) (.cons (.own rfl rfl rfl rfl rfl rfl (by first | rfl | (rw [hF])) (scal_ints _)) .nil))) | exact .agg (.cons (.v (by first | rfl | (rw [hF]))) (.cons (.v (by first | rfl | (rw [hF]))) (.cons (.nil (by decide) (by first | rfl | (rw [hF]))) .nil))) | exact .agg (.cons (.v (by first | rfl | (rw [hF]))) (.cons (.v (by first | rfl | (rw [hF]))) .nil))) | exact .two (by repeat first | exact .nil | apply ExpL.cons | exact (by first | exact .one (.v (by first | rfl | (rw [hF]))) | exact .one (.own rfl rfl rfl rfl rfl rfl (by first | rfl | (rw [hF])) (by first | exact scal_ints _ | exact scal_slc _)) | exact .one (.nil (by decide) (by first | rfl | (rw [hF]))) | exact .agg (.cons (.v (by first | rfl | (rw [hF]))) (.cons (.v (by first | rfl | (rw [hF]))) (.cons (.own rfl rfl rfl rfl rfl rfl (by first | rfl | (rw [hF])) (scal_ints _)) .nil))) | exact .agg (.cons (.v (by first | rfl | (rw [hF]))) (.cons (.v (by first | rfl | (rw [hF]))) (.cons (.nil (by decide) (by first | rfl | (rw [hF]))) .nil))) | exact .agg (.cons (.v (by first | rfl | (rw [hF]))) (.cons (.v (by first | rfl | (rw [hF]))) .nil))))), (by decide)⟩
  have hv : validB h = true := by simpa using hb
  have hl12 := (valid_len hv).2
  have hF : carsF h = carsTo h.cells h.cells.length := by simp [carsF, hv]
  repeat first | refine ax_seq ?_ | refine ax_next ?_ | refine rg_text ?_ | refine rg_any mixed ?_ | refine ax_block ?_ | refine rh_nil ⟨(by kernel_rfl), ?_⟩ | refine rh_nil ?_ | refine ax_ret ?_ | refine ax_skip ?_ | refine ax_exit ?_ | refine ax_true rfl ?_ | refine ax_false rfl ?_ | refine then_ret ?_ | refine then_exit ?_ | refine out_here ?_ | refine out_away rfl ?_ | refine out_normal ?_ | refine out_ret ?_ | refine round_exit ?_ | refine round_ret ?_ | refine meet_ret ?_ | refine meet_exit ?_ | (apply rh_no; iterate 4 exact rfl) | (apply rh_un; iterate 3 exact rfl) | (apply rh0; (case h => exact z0); (case hw => exact wt)) | (apply rh1; (case h => exact z1); (case hw => exact wt)) | (apply rhs; (case h => exact zs); (case hw => exact wt))
  refine ax_loop (fun k : Nat => mkS [(4, .int (k : Int)), (3, .own 2 0), (1, .ptr 1 0 0)] ⟨3, [(1, some (hallRow h)), (2, some (intsRow (carsTo h.cells k)))]⟩) (fun k => k ≤ h.cells.length) (fun k => h.cells.length - k) (0) (Nat.zero_le _) (weak_of [] (by repeat first | exact .nil | refine LeEs.cons ?_ ?_ | exact .v (by first | rfl | (rfl)) | exact .own rfl rfl rfl rfl rfl | exact .ptr rfl rfl rfl rfl rfl rfl | exact .nil rfl rfl rfl | exact .sl (by first | rfl | (rfl)) | exact .both rfl rfl | exact .frz rfl rfl rfl rfl rfl (by first | rfl | (rfl)) rfl | exact .any _) (by repeat first | exact .nil | refine LeHs.keep rfl ⟨rfl, rfl, rfl, .inl ⟨rfl, by first | rfl | (rfl)⟩⟩ ?_ | refine LeHs.keep rfl ⟨rfl, rfl, rfl, .inr ⟨(by first | exact .inl rfl | exact .inr rfl), by repeat first | exact .nil | refine LeVL.cons ?_ ?_ | exact .v (by first | rfl | (rfl)) | exact .own rfl rfl rfl rfl rfl | exact .sl (by first | rfl | (rfl)) | exact .both rfl rfl | exact .frz rfl rfl rfl rfl rfl (by first | rfl | (rfl)) rfl⟩⟩ ?_ | refine LeHs.fresh rfl rfl rfl (Nat.succ_pos _) rfl ?_) rfl rfl) ?_
  intro k hk
  have hcl := carsTo_len h.cells k
  repeat first | refine ax_seq ?_ | refine ax_next ?_ | refine rg_text ?_ | refine rg_any mixed ?_ | refine ax_block ?_ | refine rh_nil ⟨(by kernel_rfl), ?_⟩ | refine rh_nil ?_ | refine ax_ret ?_ | refine ax_skip ?_ | refine ax_exit ?_ | refine ax_true rfl ?_ | refine ax_false rfl ?_ | refine then_ret ?_ | refine then_exit ?_ | refine out_here ?_ | refine out_away rfl ?_ | refine out_normal ?_ | refine out_ret ?_ | refine round_exit ?_ | refine round_ret ?_ | refine meet_ret ?_ | refine meet_exit ?_ | (apply rh_no; iterate 4 exact rfl) | (apply rh_un; iterate 3 exact rfl) | (apply rh0; (case h => exact z0); (case hw => exact wt)) | (apply rh1; (case h => exact z1); (case hw => exact wt)) | (apply rhs; (case h => exact zs); (case hw => exact wt))
  refine ax_cond rfl (fun hb2 => ?_) (fun hb2 => ?_)
  · have hlt : k < h.cells.length := by simpa using hb2
    repeat first | refine ax_seq ?_ | refine ax_next ?_ | refine rg_text ?_ | refine rg_any mixed ?_ | refine ax_block ?_ | refine rh_nil ⟨(by kernel_rfl), ?_⟩ | refine rh_nil ?_ | refine ax_ret ?_ | refine ax_skip ?_ | refine ax_exit ?_ | refine ax_true rfl ?_ | refine ax_false rfl ?_ | refine then_ret ?_ | refine then_exit ?_ | refine out_here ?_ | refine out_away rfl ?_ | refine out_normal ?_ | refine out_ret ?_ | refine round_exit ?_ | refine round_ret ?_ | refine meet_ret ?_ | refine meet_exit ?_ | (apply rh_no; iterate 4 exact rfl) | (apply rh_un; iterate 3 exact rfl) | (apply rh0; (case h => exact z0); (case hw => exact wt)) | (apply rh1; (case h => exact z1); (case hw => exact wt)) | (apply rhs; (case h => exact zs); (case hw => exact wt))
    refine ax_cond rfl (fun hb3 => ?_) (fun hb3 => ?_)
    · have h1 : 0 < gi h.cells k := by simpa using hb3
      have e1 : carsTo h.cells (k + 1) = insF (carsTo h.cells k) (gi h.cells k) := by simp only [carsTo]; rw [if_pos h1]
      repeat first | refine ax_seq ?_ | refine ax_next ?_ | refine rg_text ?_ | refine rg_any mixed ?_ | refine ax_block ?_ | refine rh_nil ⟨(by kernel_rfl), ?_⟩ | refine rh_nil ?_ | refine ax_ret ?_ | refine ax_skip ?_ | refine ax_exit ?_ | refine ax_true rfl ?_ | refine ax_false rfl ?_ | refine then_ret ?_ | refine then_exit ?_ | refine out_here ?_ | refine out_away rfl ?_ | refine out_normal ?_ | refine out_ret ?_ | refine round_exit ?_ | refine round_ret ?_ | refine meet_ret ?_ | refine meet_exit ?_ | (apply rh_no; iterate 4 exact rfl) | (apply rh_un; iterate 3 exact rfl) | (apply rh0; (case h => exact z0); (case hw => exact wt)) | (apply rh1; (case h => first | (apply st_call_s (hfn := l1Sorted_fn (carsTo h.cells k) (by omega) (gi h.cells k) ); exact rfl; exact fz; iterate 2 exact rfl) | exact z1); (case hw => exact wt)) | (apply rhs; (case h => exact zs); (case hw => exact wt))
      refine round_next (k + 1) (hlt) (by omega) (weak_of [(2, 3)] (by repeat first | exact .nil | refine LeEs.cons ?_ ?_ | exact .v (by first | rfl | (rw [e1])) | exact .own rfl rfl rfl rfl rfl | exact .ptr rfl rfl rfl rfl rfl rfl | exact .nil rfl rfl rfl | exact .sl (by first | rfl | (rw [e1])) | exact .both rfl rfl | exact .frz rfl rfl rfl rfl rfl (by first | rfl | (rw [e1])) rfl | exact .any _) (by repeat first | exact .nil | refine LeHs.keep rfl ⟨rfl, rfl, rfl, .inl ⟨rfl, by first | rfl | (rw [e1])⟩⟩ ?_ | refine LeHs.keep rfl ⟨rfl, rfl, rfl, .inr ⟨(by first | exact .inl rfl | exact .inr rfl), by repeat first | exact .nil | refine LeVL.cons ?_ ?_ | exact .v (by first | rfl | (rw [e1])) | exact .own rfl rfl rfl rfl rfl | exact .sl (by first | rfl | (rw [e1])) | exact .both rfl rfl | exact .frz rfl rfl rfl rfl rfl (by first | rfl | (rw [e1])) rfl⟩⟩ ?_ | refine LeHs.fresh rfl rfl rfl (Nat.succ_pos _) rfl ?_) rfl rfl)
    · have h1 : ¬ 0 < gi h.cells k := by simpa using hb3
      have e1 : carsTo h.cells (k + 1) = carsTo h.cells k := by simp only [carsTo]; rw [if_neg h1]
      repeat first | refine ax_seq ?_ | refine ax_next ?_ | refine rg_text ?_ | refine rg_any mixed ?_ | refine ax_block ?_ | refine rh_nil ⟨(by kernel_rfl), ?_⟩ | refine rh_nil ?_ | refine ax_ret ?_ | refine ax_skip ?_ | refine ax_exit ?_ | refine ax_true rfl ?_ | refine ax_false rfl ?_ | refine then_ret ?_ | refine then_exit ?_ | refine out_here ?_ | refine out_away rfl ?_ | refine out_normal ?_ | refine out_ret ?_ | refine round_exit ?_ | refine round_ret ?_ | refine meet_ret ?_ | refine meet_exit ?_ | (apply rh_no; iterate 4 exact rfl) | (apply rh_un; iterate 3 exact rfl) | (apply rh0; (case h => exact z0); (case hw => exact wt)) | (apply rh1; (case h => exact z1); (case hw => exact wt)) | (apply rhs; (case h => exact zs); (case hw => exact wt))
      refine round_next (k + 1) (hlt) (by omega) (weak_of [] (by repeat first | exact .nil | refine LeEs.cons ?_ ?_ | exact .v (by first | rfl | (rw [e1])) | exact .own rfl rfl rfl rfl rfl | exact .ptr rfl rfl rfl rfl rfl rfl | exact .nil rfl rfl rfl | exact .sl (by first | rfl | (rw [e1])) | exact .both rfl rfl | exact .frz rfl rfl rfl rfl rfl (by first | rfl | (rw [e1])) rfl | exact .any _) (by repeat first | exact .nil | refine LeHs.keep rfl ⟨rfl, rfl, rfl, .inl ⟨rfl, by first | rfl | (rw [e1])⟩⟩ ?_ | refine LeHs.keep rfl ⟨rfl, rfl, rfl, .inr ⟨(by first | exact .inl rfl | exact .inr rfl), by repeat first | exact .nil | refine LeVL.cons ?_ ?_ | exact .v (by first | rfl | (rw [e1])) | exact .own rfl rfl rfl rfl rfl | exact .sl (by first | rfl | (rw [e1])) | exact .both rfl rfl | exact .frz rfl rfl rfl rfl rfl (by first | rfl | (rw [e1])) rfl⟩⟩ ?_ | refine LeHs.fresh rfl rfl rfl (Nat.succ_pos _) rfl ?_) rfl rfl)
  · have hkn : k = h.cells.length := by simp at hb2; omega
    repeat first | refine ax_seq ?_ | refine ax_next ?_ | refine rg_text ?_ | refine rg_any mixed ?_ | refine ax_block ?_ | refine rh_nil ⟨(by kernel_rfl), ?_⟩ | refine rh_nil ?_ | refine ax_ret ?_ | refine ax_skip ?_ | refine ax_exit ?_ | refine ax_true rfl ?_ | refine ax_false rfl ?_ | refine then_ret ?_ | refine then_exit ?_ | refine out_here ?_ | refine out_away rfl ?_ | refine out_normal ?_ | refine out_ret ?_ | refine round_exit ?_ | refine round_ret ?_ | refine meet_ret ?_ | refine meet_exit ?_ | (apply rh_no; iterate 4 exact rfl) | (apply rh_un; iterate 3 exact rfl) | (apply rh0; (case h => exact z0); (case hw => exact wt)) | (apply rh1; (case h => exact z1); (case hw => exact wt)) | (apply rhs; (case h => exact zs); (case hw => exact wt))
    refine ⟨.inl rfl, _, _, (by repeat first | exact .nil | apply ResL.cons | exact .tmp rfl | exact .agg rfl rfl rfl rfl rfl (Nat.le_of_ble_eq_true rfl) rfl | exact .cell rfl rfl rfl rfl rfl (Nat.le_of_ble_eq_true rfl) rfl), (by first | exact .one (by first | exact .one (.v (by first | rfl | (rw [hF, ← hkn]))) | exact .one (.own rfl rfl rfl rfl rfl rfl (by first | rfl | (rw [hF, ← hkn])) (by first | exact scal_ints _ | exact scal_slc _)) | exact .one (.nil (by decide) (by first | rfl | (rw [hF, ← hkn]))) | exact .agg (.cons (.v (by first | rfl | (rw [hF, ← hkn]))) (.cons (.v (by first | rfl | (rw [hF, ← hkn]))) (.cons (.own rfl rfl rfl rfl rfl rfl (by first | rfl | (rw [hF, ← hkn])) (scal_ints _)) .nil))) | exact .agg (.cons (.v (by first | rfl | (rw [hF, ← hkn]))) (.cons (.v (by first | rfl | (rw [hF, ← hkn]))) (.cons (.nil (by decide) (by first | rfl | (rw [hF, ← hkn]))) .nil))) | exact .agg (.cons (.v (by first | rfl | (rw [hF, ← hkn]))) (.cons (.v (by first | rfl | (rw [hF, ← hkn]))) .nil))) | exact .two (by repeat first | exact .nil | apply ExpL.cons | exact (by first | exact .one (.v (by first | rfl | (rw [hF, ← hkn]))) | exact .one (.own rfl rfl rfl rfl rfl rfl (by first | rfl | (rw [hF, ← hkn])) (by first | exact scal_ints _ | exact scal_slc _)) | exact .one (.nil (by decide) (by first | rfl | (rw [hF, ← hkn]))) | exact .agg (.cons (.v (by first | rfl | (rw [hF, ← hkn]))) (.cons (.v (by first | rfl | (rw [hF, ← hkn]))) (.cons (.own rfl rfl rfl rfl rfl rfl (by first | rfl | (rw [hF, ← hkn])) (scal_ints _)) .nil))) | exact .agg (.cons (.v (by first | rfl | (rw [hF, ← hkn]))) (.cons (.v (by first | rfl | (rw [hF, ← hkn]))) (.cons (.nil (by decide) (by first | rfl | (rw [hF, ← hkn]))) .nil))) | exact .agg (.cons (.v (by first | rfl | (rw [hF, ← hkn]))) (.cons (.v (by first | rfl | (rw [hF, ← hkn]))) .nil))))), (by decide)⟩
end Go.Proofs.YtjdgbdakkdljmaaDoor
namespace Go.Sym
open Go Go.RowKit Go.Park Go.Proofs.YtjdgbdakkdljmaaDoor
/-- f, of a row's slice: turns the row's cells, gives c -/
def FnT (P : Program) (f : Nat) (mk : Value → Value) (ty sz : Nat) (cs cs' : List AV) (c : Value) : Prop :=
  Enters P f ∧ pureL cs' ∧ cs'.length = cs.length ∧ ∀ w n xs t, w.ownsRow 0 ty sz t n xs → cs.length = n * sz → (∃ cx, relL cx cs xs) → Calls P f #[mk t] w fun e w' => e = .returned c ∧ w.grownBy w' t.ownBlock ∧ ∃ xs', w'.ownsRow 0 ty sz t n xs' ∧ (∀ cx, relL cx cs' xs') ∧ ∀ u, u ∈ xs' → u.oneCell' = true
theorem does_turn1 {P : Program} {nt : Nat} {σ : St} {dst : Option Nat} {ty : Nat} {pos : String} {aft : Array Edge} {gd : Option (Nat × Bool)} {f : Nat} {x : Operand} {at' : Array TypeId} {mk : Value → Value} {c : Value} {cs cs' : List AV} {y : AV} {r k rt rz : Nat} {row : Row} (hd : dstOk nt dst = true)
    (hfn : FnT P f mk rt rz cs cs' c) (hy : σ.ev x = y) (hmk : MkV y r k mk) (hr : σ.row r = some row) (hv : row.ver = k) (ht : row.ty = rt) (hz : row.sz = rz) (hc : row.cs = cs) :
    Does P nt ⟨dst, .call ⟨.value (.func f), #[x], at'⟩, ty, pos, aft, gd⟩ ⟨fo x, [r]⟩ (.v c) [(r, some ⟨row.ty, row.sz, row.ver, true, row.box, cs'⟩)] σ := by
  subst ht hz hc
  refine ⟨?_⟩
  intro τ hag F hF a w hS Q K hK
  obtain ⟨φ, Z, hS⟩ := hS
  have hr' : τ.row r = some row := by rw [hag.2 r (by simp)]; exact hr
  have h1 : a.eval x = mk (φ r) := mkV_rel hS hmk hr' hv (by rw [← hy, ← hag.ev (fun t h => by simp [h])]; exact hS.ev x)
  obtain ⟨n, xs, hm⟩ := rowMem hS hr'
  have hcall := hfn.2.2.2 w n xs (φ r) hm.own hm.len ⟨_, hm.rel⟩
  unfold Oper.wp
  have hrun : (execOp a.eval ⟨dst, .call ⟨.value (.func f), #[x], at'⟩, ty, pos, aft, gd⟩).run P w = .ok (.enter f #[mk (φ r)]) w := by
    simp [execOp, resolve, Act.eval, Deferred.ofValue, invoke, run_callFunc hfn.1] at h1 ⊢
    simp [h1, run_callFunc hfn.1]
  rw [hrun, Oper.upon_enter]
  refine hcall.mono ?_
  rintro e w' ⟨rfl, hg, xs', ho, hrel, hone⟩
  show K (a.put dst c) w'
  refine hK c w' ?_
  have hrr := hS.rows r row hr'
  have htn := hS.turn (r := r) (row := row) (row' := ⟨row.ty, row.sz, row.ver, true, row.box, cs'⟩) (t' := φ r) (w' := w') hr' hg (Nat.le_refl _) (fun _ => rfl)
    (fun hcx => ⟨hrr.sz, fun _ => hfn.2.1, hrr.box, hrr.blk, n, xs', ho, by show cs'.length = _; rw [hfn.2.2.1]; exact hm.len, hrel _, hone⟩)
    (fun g' h => .inl h) (fun _ => rfl)
  rw [set_eq_upd] at htn
  cases dst with
  | none => exact ⟨_, Z, htn.1⟩
  | some d =>
    simp [dstOk] at hd
    exact ⟨_, Z, htn.1.put (by omega) (by simp [relV])⟩
section
variable {P : Program} {nt : Nat} {E : List (Nat × AV)} {H : Hp} {dst : Option Nat} {ty : Nat} {pos : String} {aft : Array Edge} {gd : Option (Nat × Bool)} {f : Nat} {at' : Array TypeId}
theorem st_turn1 {x : Operand} {mk : Value → Value} {c : Value} {cs cs' : List AV} {y : AV} {r k rt rz : Nat} {row : Row} (hfn : FnT P f mk rt rz cs cs' c) (hd : dstOk nt dst = true)
    (hy : (mkS E H).ev x = y) (hmk : MkV y r k mk) (hr : (mkS E H).row r = some row) (hv : row.ver = k) (ht : row.ty = rt) (hz : row.sz = rz) (hc : row.cs = cs) :
    Does P nt ⟨dst, .call ⟨.value (.func f), #[x], at'⟩, ty, pos, aft, gd⟩ ⟨fo x, [r]⟩ (.v c) [(r, some ⟨row.ty, row.sz, row.ver, true, row.box, cs'⟩)] (mkS E H) :=
  does_turn1 hd hfn hy hmk hr hv ht hz hc
end
end Go.Sym
namespace Go.Proofs.YtjdgbdakkdljmaaDoor
open Go Go.RowKit Go.Park Go.Sym
def sortZ (l : List Int) : List Int := l.mergeSort fun x y => decide (x ≤ y)
theorem sortZ_len (l : List Int) : (sortZ l).length = l.length := (List.mergeSort_perm l _).length_eq
theorem sortZ_sorted (l : List Int) : (sortZ l).Pairwise (· ≤ ·) := by
  have := List.pairwise_mergeSort (le := fun x y : Int => decide (x ≤ y)) (fun a b c h1 h2 => by simp at *; omega) (fun a b => by simp; omega) l
  exact this.imp (fun h => by simpa using h)
theorem perm_sorted {a b : List Int} (hp : a.Perm b) (ha : a.Pairwise (· ≤ ·)) (hb : b.Pairwise (· ≤ ·)) : a = b :=
  List.Perm.eq_of_pairwise (fun x y _ _ h1 h2 => Int.le_antisymm h1 h2) ha hb hp
def posTo (l : List Int) (k : Nat) : List Int := (l.take k).filter fun x => decide (0 < x)
theorem posTo_len (l : List Int) (k : Nat) : (posTo l k).length ≤ k := by
  have := List.length_filter_le (fun x => decide (0 < x)) (l.take k)
  have h2 : (l.take k).length ≤ k := by rw [List.length_take]; omega
  unfold posTo
  omega
theorem posTo_succ {l : List Int} {k : Nat} (hk : k < l.length) : posTo l (k + 1) = if 0 < gi l k then posTo l k ++ [gi l k] else posTo l k := by
  have e1 : l.take (k + 1) = l.take k ++ [gi l k] := by
    rw [List.take_succ_eq_append_getElem hk]
    simp [gi, List.getD, hk]
  unfold posTo
  rw [e1, List.filter_append]
  split <;> rename_i h <;> simp [h]
theorem insF_perm (l : List Int) (n : Int) : (insF l n).Perm (n :: l) := by
  have : (insF l n).Perm (n :: (l.take (lowTo l n) ++ l.drop (lowTo l n))) := by
    unfold insF
    rw [List.append_assoc]
    exact List.perm_middle
  rwa [List.take_append_drop] at this
theorem low_lt {l : List Int} {n : Int} {x : Int} (h : x ∈ l.take (lowTo l n)) : x < n := by
  obtain ⟨i, hi, rfl⟩ := List.mem_iff_getElem.1 h
  rw [List.getElem_take]
  rw [List.length_take] at hi
  have := List.not_of_lt_findIdx (p := fun x => !decide (x < n)) (xs := l) (i := i) (by unfold lowTo at hi; omega)
  simpa using this
theorem low_ge {l : List Int} {n : Int} (hs : l.Pairwise (· ≤ ·)) {x : Int} (h : x ∈ l.drop (lowTo l n)) : n ≤ x := by
  by_cases hl : lowTo l n < l.length
  · have h0 := List.findIdx_getElem (p := fun x => !decide (x < n)) (xs := l) (w := hl)
    simp at h0
    have hd : l.drop (lowTo l n) = l[lowTo l n] :: l.drop (lowTo l n + 1) := List.drop_eq_getElem_cons hl
    have hp : (l.drop (lowTo l n)).Pairwise (· ≤ ·) := hs.sublist (List.drop_sublist _ _)
    rw [hd] at h hp
    rcases List.mem_cons.1 h with rfl | h
    · exact h0
    · exact Int.le_trans h0 ((List.pairwise_cons.1 hp).1 x h)
  · rw [List.drop_eq_nil_of_le (by omega)] at h
    simp at h
theorem insF_sorted {l : List Int} (n : Int) (hs : l.Pairwise (· ≤ ·)) : (insF l n).Pairwise (· ≤ ·) := by
  unfold insF
  rw [List.append_assoc]
  refine List.pairwise_append.2 ⟨hs.sublist (List.take_sublist _ _), ?_, fun a ha b hb => ?_⟩
  · show (n :: l.drop (lowTo l n)).Pairwise _
    exact List.pairwise_cons.2 ⟨fun x hx => low_ge hs hx, hs.sublist (List.drop_sublist _ _)⟩
  · have h1 := low_lt ha
    have hb' : b ∈ n :: l.drop (lowTo l n) := hb
    rcases List.mem_cons.1 hb' with rfl | hb'
    · omega
    · have := low_ge hs hb'; omega
theorem carsTo_both (l : List Int) : ∀ k, k ≤ l.length → (carsTo l k).Perm (posTo l k) ∧ (carsTo l k).Pairwise (· ≤ ·)
  | 0, _ => by simp [carsTo, posTo]
  | k+1, hk => by
    obtain ⟨h1, h2⟩ := carsTo_both l k (by omega)
    rw [posTo_succ (by omega), carsTo]
    split
    · refine ⟨(insF_perm _ _).trans ?_, insF_sorted _ h2⟩
      exact (List.Perm.cons _ h1).trans (List.perm_append_singleton _ _).symm
    · exact ⟨h1, h2⟩
theorem sortZ_cars (l : List Int) : sortZ (posTo l l.length) = carsTo l l.length := by
  obtain ⟨h1, h2⟩ := carsTo_both l l.length (Nat.le_refl _)
  exact perm_sorted ((List.mergeSort_perm _ _).trans h1.symm) (sortZ_sorted _) h2
theorem sort_t (l : List Int) (hll : l.length ≤ lim) : FnT Tryd.prog 67 (fun t => t) 3 1 (ints l) (ints (sortZ l)) (.tuple #[]) := by
  refine ⟨⟨_, Tryd.func67, by kernel_rfl, rfl⟩, pure_ints _, by simp [ints_length, sortZ_len], fun w n xs t ho hn hx => ?_⟩
  obtain ⟨cx, hx⟩ := hx
  have hxs := rel_vals_ints hx
  rw [ints_length, Nat.mul_one] at hn
  subst hn hxs
  rcases ho.2 with ⟨rfl, h0⟩ | ⟨g, cap, cur, rfl, h1, h2, h3, h4, h5, h6⟩
  · have hl : l = [] := List.length_eq_zero_iff.1 h0
    subst hl
    refine (Any.slices_Sort_int_none Tryd.lays189 none 0 w).mono ?_
    rintro e w' ⟨rfl, rfl⟩
    exact ⟨rfl, ⟨rfl, rfl, rfl, Nat.le_refl _, fun _ _ _ => rfl⟩, [], ho, fun cx => by simp [sortZ, ints, relL], by simp⟩
  · rw [Nat.mul_one] at h6
    have hg : g < w.heap.size := (Array.getElem?_eq_some_iff.1 h2).1
    refine (Tryd.slices_Sort_int g 0 cap l w (holds_of_blockI h2 h6) hg (by have := lim_eq; omega)).mono ?_
    rintro e w' ⟨rfl, m, os, rfl⟩
    refine ⟨rfl, grownBy_sortedI _, _, ownsRow_sortedI (ss := l) (ts := sortZ l) (sortZ_len l) h1 h2 h3 h4 h5, fun cx => ints_map_rel cx _, fun u hu => ?_⟩
    obtain ⟨z, _, rfl⟩ := List.mem_map.1 hu
    rfl
set_option maxHeartbeats 2000000 in
theorem hallCars_fn (h : PHall) (hl : h.cells.length ≤ lim) : FnS Tryd.prog 16 [hallV h] (intsV (carsF h)) := by
  have hlim := lim_eq
  refine fn_go1 tabOk Tryd.func16 rfl (by kernel_rfl) Tryd.ntmps16 Tryd.results16 (by decide) ?_
  repeat first | refine ax_seq ?_ | refine ax_next ?_ | refine rg_text ?_ | refine rg_any mixed ?_ | refine ax_block ?_ | refine rh_nil ⟨(by kernel_rfl), ?_⟩ | refine rh_nil ?_ | refine ax_ret ?_ | refine ax_skip ?_ | refine ax_exit ?_ | refine ax_true rfl ?_ | refine ax_false rfl ?_ | refine then_ret ?_ | refine then_exit ?_ | refine out_here ?_ | refine out_away rfl ?_ | refine out_normal ?_ | refine out_ret ?_ | refine round_exit ?_ | refine round_ret ?_ | refine meet_ret ?_ | refine meet_exit ?_ | (apply rh_no; iterate 4 exact rfl) | (apply rh_un; iterate 3 exact rfl) | (apply rh0; (case h => first | (apply st_call (hfn := hallValid_fn h hl ); exact rfl; exact fz) | exact z0); (case hw => exact wt)) | (apply rh1; (case h => exact z1); (case hw => exact wt)) | (apply rhs; (case h => exact zs); (case hw => exact wt))
  refine ax_cond rfl (fun hb => ?_) (fun hb => ?_)
  · have hF : carsF h = [] := by simp at hb; simp [carsF, hb]
    repeat first | refine ax_seq ?_ | refine ax_next ?_ | refine rg_text ?_ | refine rg_any mixed ?_ | refine ax_block ?_ | refine rh_nil ⟨(by kernel_rfl), ?_⟩ | refine rh_nil ?_ | refine ax_ret ?_ | refine ax_skip ?_ | refine ax_exit ?_ | refine ax_true rfl ?_ | refine ax_false rfl ?_ | refine then_ret ?_ | refine then_exit ?_ | refine out_here ?_ | refine out_away rfl ?_ | refine out_normal ?_ | refine out_ret ?_ | refine round_exit ?_ | refine round_ret ?_ | refine meet_ret ?_ | refine meet_exit ?_ | (apply rh_no; iterate 4 exact rfl) | (apply rh_un; iterate 3 exact rfl) | (apply rh0; (case h => exact z0); (case hw => exact wt)) | (apply rh1; (case h => exact z1); (case hw => exact wt)) | (apply rhs; (case h => exact zs); (case hw => exact wt))
    refine ⟨.inl rfl, _, _, (by repeat first | exact .nil | apply ResL.cons | exact .tmp rfl | exact .agg rfl rfl rfl rfl rfl (Nat.le_of_ble_eq_true rfl) rfl | exact .cell rfl rfl rfl rfl rfl (Nat.le_of_ble_eq_true rfl) rfl), (by first | exact .one (by first | exact .one (.v (by first | rfl | ((rw [hF]; rfl)))) | exact .one (.own rfl rfl rfl rfl rfl rfl (by first | rfl | ((rw [hF]; rfl))) (by first | exact scal_ints _ | exact scal_slc _)) | exact .one (.nil (by decide) (by first | rfl | ((rw [hF]; rfl)))) | exact .agg (.cons (.v (by first | rfl | ((rw [hF]; rfl)))) (.cons (.v (by first | rfl | ((rw [hF]; rfl)))) (.cons (.own rfl rfl rfl rfl rfl rfl (by first | rfl | ((rw [hF]; rfl))) (scal_ints _)) .nil))) | exact .agg (.cons (.v (by first | rfl | ((rw [hF]; rfl)))) (.cons (.v (by first | rfl | ((rw [hF]; rfl)))) (.cons (.nil (by decide) (by first | rfl | ((rw [hF]; rfl)))) .nil))) | exact .agg (.cons (.v (by first | rfl | ((rw [hF]; rfl)))) (.cons (.v (by first | rfl | ((rw [hF]; rfl)))) .nil))) | exact .two (by repeat first | exact .nil | apply ExpL.cons | exact (by first | exact .one (.v (by first | rfl | ((rw [hF]; rfl)))) | exact .one (.own rfl rfl rfl rfl rfl rfl (by first | rfl | ((rw [hF]; rfl))) (by first | exact scal_ints _ | exact scal_slc _)) | exact .one (.nil (by decide) (by first | rfl | ((rw [hF]; rfl)))) | exact .agg (.cons (.v (by first | rfl | ((rw [hF]; rfl)))) (.cons (.v (by first | rfl | ((rw [hF]; rfl)))) (.cons (.own rfl rfl rfl rfl rfl rfl (by first | rfl | ((rw [hF]; rfl))) (scal_ints _)) .nil))) | exact .agg (.cons (.v (by first | rfl | ((rw [hF]; rfl)))) (.cons (.v (by first | rfl | ((rw [hF]; rfl)))) (.cons (.nil (by decide) (by first | rfl | ((rw [hF]; rfl)))) .nil))) | exact .agg (.cons (.v (by first | rfl | ((rw [hF]; rfl)))) (.cons (.v (by first | rfl | ((rw [hF]; rfl)))) .nil))))), (by decide)⟩
  have hv : validB h = true := by simpa using hb
  have hl12 := (valid_len hv).2
  have hF : carsF h = sortZ (posTo h.cells h.cells.length) := by rw [sortZ_cars]; simp [carsF, hv]
  repeat first | refine ax_seq ?_ | refine ax_next ?_ | refine rg_text ?_ | refine rg_any mixed ?_ | refine ax_block ?_ | refine rh_nil ⟨(by kernel_rfl), ?_⟩ | refine rh_nil ?_ | refine ax_ret ?_ | refine ax_skip ?_ | refine ax_exit ?_ | refine ax_true rfl ?_ | refine ax_false rfl ?_ | refine then_ret ?_ | refine then_exit ?_ | refine out_here ?_ | refine out_away rfl ?_ | refine out_normal ?_ | refine out_ret ?_ | refine round_exit ?_ | refine round_ret ?_ | refine meet_ret ?_ | refine meet_exit ?_ | (apply rh_no; iterate 4 exact rfl) | (apply rh_un; iterate 3 exact rfl) | (apply rh0; (case h => exact z0); (case hw => exact wt)) | (apply rh1; (case h => exact z1); (case hw => exact wt)) | (apply rhs; (case h => exact zs); (case hw => exact wt))
  refine ax_loop (fun k : Nat => mkS [(12, .int (k : Int)), (11, .int (h.cells.length : Int)), (10, intsV h.cells), (3, .own 2 0)] ⟨3, [(1, some (hallRow h)), (2, some (intsRow (posTo h.cells k)))]⟩) (fun k => k ≤ h.cells.length) (fun k => h.cells.length - k) (0) (Nat.zero_le _) (weak_of [] (by repeat first | exact .nil | refine LeEs.cons ?_ ?_ | exact .v (by first | rfl | (rfl)) | exact .own rfl rfl rfl rfl rfl | exact .ptr rfl rfl rfl rfl rfl rfl | exact .nil rfl rfl rfl | exact .sl (by first | rfl | (rfl)) | exact .both rfl rfl | exact .frz rfl rfl rfl rfl rfl (by first | rfl | (rfl)) rfl | exact .any _) (by repeat first | exact .nil | refine LeHs.keep rfl ⟨rfl, rfl, rfl, .inl ⟨rfl, by first | rfl | (rfl)⟩⟩ ?_ | refine LeHs.keep rfl ⟨rfl, rfl, rfl, .inr ⟨(by first | exact .inl rfl | exact .inr rfl), by repeat first | exact .nil | refine LeVL.cons ?_ ?_ | exact .v (by first | rfl | (rfl)) | exact .own rfl rfl rfl rfl rfl | exact .sl (by first | rfl | (rfl)) | exact .both rfl rfl | exact .frz rfl rfl rfl rfl rfl (by first | rfl | (rfl)) rfl⟩⟩ ?_ | refine LeHs.fresh rfl rfl rfl (Nat.succ_pos _) rfl ?_) rfl rfl) ?_
  intro k hk
  have hcl := posTo_len h.cells k
  repeat first | refine ax_seq ?_ | refine ax_next ?_ | refine rg_text ?_ | refine rg_any mixed ?_ | refine ax_block ?_ | refine rh_nil ⟨(by kernel_rfl), ?_⟩ | refine rh_nil ?_ | refine ax_ret ?_ | refine ax_skip ?_ | refine ax_exit ?_ | refine ax_true rfl ?_ | refine ax_false rfl ?_ | refine then_ret ?_ | refine then_exit ?_ | refine out_here ?_ | refine out_away rfl ?_ | refine out_normal ?_ | refine out_ret ?_ | refine round_exit ?_ | refine round_ret ?_ | refine meet_ret ?_ | refine meet_exit ?_ | (apply rh_no; iterate 4 exact rfl) | (apply rh_un; iterate 3 exact rfl) | (apply rh0; (case h => exact z0); (case hw => exact wt)) | (apply rh1; (case h => exact z1); (case hw => exact wt)) | (apply rhs; (case h => exact zs); (case hw => exact wt))
  refine ax_cond rfl (fun hb2 => ?_) (fun hb2 => ?_)
  · have hlt : k < h.cells.length := by simpa using hb2
    repeat first | refine ax_seq ?_ | refine ax_next ?_ | refine rg_text ?_ | refine rg_any mixed ?_ | refine ax_block ?_ | refine rh_nil ⟨(by kernel_rfl), ?_⟩ | refine rh_nil ?_ | refine ax_ret ?_ | refine ax_skip ?_ | refine ax_exit ?_ | refine ax_true rfl ?_ | refine ax_false rfl ?_ | refine then_ret ?_ | refine then_exit ?_ | refine out_here ?_ | refine out_away rfl ?_ | refine out_normal ?_ | refine out_ret ?_ | refine round_exit ?_ | refine round_ret ?_ | refine meet_ret ?_ | refine meet_exit ?_ | (apply rh_no; iterate 4 exact rfl) | (apply rh_un; iterate 3 exact rfl) | (apply rh0; (case h => exact z0); (case hw => exact wt)) | (apply rh1; (case h => exact z1); (case hw => exact wt)) | (apply rhs; (case h => exact zs); (case hw => exact wt))
    refine ax_cond rfl (fun hb3 => ?_) (fun hb3 => ?_)
    · have h1 : 0 < gi h.cells k := by simpa using hb3
      have e1 : posTo h.cells (k + 1) = posTo h.cells k ++ [gi h.cells k] := by rw [posTo_succ hlt, if_pos h1]
      repeat first | refine ax_seq ?_ | refine ax_next ?_ | refine rg_text ?_ | refine rg_any mixed ?_ | refine ax_block ?_ | refine rh_nil ⟨(by kernel_rfl), ?_⟩ | refine rh_nil ?_ | refine ax_ret ?_ | refine ax_skip ?_ | refine ax_exit ?_ | refine ax_true rfl ?_ | refine ax_false rfl ?_ | refine then_ret ?_ | refine then_exit ?_ | refine out_here ?_ | refine out_away rfl ?_ | refine out_normal ?_ | refine out_ret ?_ | refine round_exit ?_ | refine round_ret ?_ | refine meet_ret ?_ | refine meet_exit ?_ | (apply rh_no; iterate 4 exact rfl) | (apply rh_un; iterate 3 exact rfl) | (apply rh0; (case h => exact z0); (case hw => exact wt)) | (apply rh1; (case h => exact z1); (case hw => exact wt)) | (apply rhs; (case h => exact zs); (case hw => exact wt))
      refine round_next (k + 1) (hlt) (by omega) (weak_of [] (by repeat first | exact .nil | refine LeEs.cons ?_ ?_ | exact .v (by first | rfl | (rw [e1])) | exact .own rfl rfl rfl rfl rfl | exact .ptr rfl rfl rfl rfl rfl rfl | exact .nil rfl rfl rfl | exact .sl (by first | rfl | (rw [e1])) | exact .both rfl rfl | exact .frz rfl rfl rfl rfl rfl (by first | rfl | (rw [e1])) rfl | exact .any _) (by repeat first | exact .nil | refine LeHs.keep rfl ⟨rfl, rfl, rfl, .inl ⟨rfl, by first | rfl | (rw [e1])⟩⟩ ?_ | refine LeHs.keep rfl ⟨rfl, rfl, rfl, .inr ⟨(by first | exact .inl rfl | exact .inr rfl), by repeat first | exact .nil | refine LeVL.cons ?_ ?_ | exact .v (by first | rfl | (rw [e1])) | exact .own rfl rfl rfl rfl rfl | exact .sl (by first | rfl | (rw [e1])) | exact .both rfl rfl | exact .frz rfl rfl rfl rfl rfl (by first | rfl | (rw [e1])) rfl⟩⟩ ?_ | refine LeHs.fresh rfl rfl rfl (Nat.succ_pos _) rfl ?_) rfl rfl)
    · have h1 : ¬ 0 < gi h.cells k := by simpa using hb3
      have e1 : posTo h.cells (k + 1) = posTo h.cells k := by rw [posTo_succ hlt, if_neg h1]
      repeat first | refine ax_seq ?_ | refine ax_next ?_ | refine rg_text ?_ | refine rg_any mixed ?_ | refine ax_block ?_ | refine rh_nil ⟨(by kernel_rfl), ?_⟩ | refine rh_nil ?_ | refine ax_ret ?_ | refine ax_skip ?_ | refine ax_exit ?_ | refine ax_true rfl ?_ | refine ax_false rfl ?_ | refine then_ret ?_ | refine then_exit ?_ | refine out_here ?_ | refine out_away rfl ?_ | refine out_normal ?_ | refine out_ret ?_ | refine round_exit ?_ | refine round_ret ?_ | refine meet_ret ?_ | refine meet_exit ?_ | (apply rh_no; iterate 4 exact rfl) | (apply rh_un; iterate 3 exact rfl) | (apply rh0; (case h => exact z0); (case hw => exact wt)) | (apply rh1; (case h => exact z1); (case hw => exact wt)) | (apply rhs; (case h => exact zs); (case hw => exact wt))
      refine round_next (k + 1) (hlt) (by omega) (weak_of [] (by repeat first | exact .nil | refine LeEs.cons ?_ ?_ | exact .v (by first | rfl | (rw [e1])) | exact .own rfl rfl rfl rfl rfl | exact .ptr rfl rfl rfl rfl rfl rfl | exact .nil rfl rfl rfl | exact .sl (by first | rfl | (rw [e1])) | exact .both rfl rfl | exact .frz rfl rfl rfl rfl rfl (by first | rfl | (rw [e1])) rfl | exact .any _) (by repeat first | exact .nil | refine LeHs.keep rfl ⟨rfl, rfl, rfl, .inl ⟨rfl, by first | rfl | (rw [e1])⟩⟩ ?_ | refine LeHs.keep rfl ⟨rfl, rfl, rfl, .inr ⟨(by first | exact .inl rfl | exact .inr rfl), by repeat first | exact .nil | refine LeVL.cons ?_ ?_ | exact .v (by first | rfl | (rw [e1])) | exact .own rfl rfl rfl rfl rfl | exact .sl (by first | rfl | (rw [e1])) | exact .both rfl rfl | exact .frz rfl rfl rfl rfl rfl (by first | rfl | (rw [e1])) rfl⟩⟩ ?_ | refine LeHs.fresh rfl rfl rfl (Nat.succ_pos _) rfl ?_) rfl rfl)
  · have hkn : k = h.cells.length := by simp at hb2; omega
    repeat first | refine ax_seq ?_ | refine ax_next ?_ | refine rg_text ?_ | refine rg_any mixed ?_ | refine ax_block ?_ | refine rh_nil ⟨(by kernel_rfl), ?_⟩ | refine rh_nil ?_ | refine ax_ret ?_ | refine ax_skip ?_ | refine ax_exit ?_ | refine ax_true rfl ?_ | refine ax_false rfl ?_ | refine then_ret ?_ | refine then_exit ?_ | refine out_here ?_ | refine out_away rfl ?_ | refine out_normal ?_ | refine out_ret ?_ | refine round_exit ?_ | refine round_ret ?_ | refine meet_ret ?_ | refine meet_exit ?_ | (apply rh_no; iterate 4 exact rfl) | (apply rh_un; iterate 3 exact rfl) | (apply rh0; (case h => exact z0); (case hw => exact wt)) | (apply rh1; (case h => first | (apply st_turn1 (hfn := sort_t (posTo h.cells k) (by omega) ); exact rfl; exact rfl; exact mz; iterate 5 exact rfl) | exact z1); (case hw => exact wt)) | (apply rhs; (case h => exact zs); (case hw => exact wt))
    refine ⟨.inl rfl, _, _, (by repeat first | exact .nil | apply ResL.cons | exact .tmp rfl | exact .agg rfl rfl rfl rfl rfl (Nat.le_of_ble_eq_true rfl) rfl | exact .cell rfl rfl rfl rfl rfl (Nat.le_of_ble_eq_true rfl) rfl), (by first | exact .one (by first | exact .one (.v (by first | rfl | (rw [hF, ← hkn]))) | exact .one (.own rfl rfl rfl rfl rfl rfl (by first | rfl | (rw [hF, ← hkn])) (by first | exact scal_ints _ | exact scal_slc _)) | exact .one (.nil (by decide) (by first | rfl | (rw [hF, ← hkn]))) | exact .agg (.cons (.v (by first | rfl | (rw [hF, ← hkn]))) (.cons (.v (by first | rfl | (rw [hF, ← hkn]))) (.cons (.own rfl rfl rfl rfl rfl rfl (by first | rfl | (rw [hF, ← hkn])) (scal_ints _)) .nil))) | exact .agg (.cons (.v (by first | rfl | (rw [hF, ← hkn]))) (.cons (.v (by first | rfl | (rw [hF, ← hkn]))) (.cons (.nil (by decide) (by first | rfl | (rw [hF, ← hkn]))) .nil))) | exact .agg (.cons (.v (by first | rfl | (rw [hF, ← hkn]))) (.cons (.v (by first | rfl | (rw [hF, ← hkn]))) .nil))) | exact .two (by repeat first | exact .nil | apply ExpL.cons | exact (by first | exact .one (.v (by first | rfl | (rw [hF, ← hkn]))) | exact .one (.own rfl rfl rfl rfl rfl rfl (by first | rfl | (rw [hF, ← hkn])) (by first | exact scal_ints _ | exact scal_slc _)) | exact .one (.nil (by decide) (by first | rfl | (rw [hF, ← hkn]))) | exact .agg (.cons (.v (by first | rfl | (rw [hF, ← hkn]))) (.cons (.v (by first | rfl | (rw [hF, ← hkn]))) (.cons (.own rfl rfl rfl rfl rfl rfl (by first | rfl | (rw [hF, ← hkn])) (scal_ints _)) .nil))) | exact .agg (.cons (.v (by first | rfl | (rw [hF, ← hkn]))) (.cons (.v (by first | rfl | (rw [hF, ← hkn]))) (.cons (.nil (by decide) (by first | rfl | (rw [hF, ← hkn]))) .nil))) | exact .agg (.cons (.v (by first | rfl | (rw [hF, ← hkn]))) (.cons (.v (by first | rfl | (rw [hF, ← hkn]))) .nil))))), (by decide)⟩

/-! plain facts -/
theorem gi_of_lt' {l : List Int} {j : Nat} (hj : j < l.length) : gi l j = l[j] := by simp [gi, List.getD, hj]
theorem upB_iff {a : List Int} : upB a = true ↔ a.Pairwise (· < ·) := by
  unfold upB
  rw [decide_eq_true_iff]
  constructor
  · intro h
    have hs : ∀ d i, i + d + 1 < a.length → gi a i < gi a (i + d + 1) := by
      intro d
      induction d with
      | zero => intro i hi; exact h i (by omega)
      | succ d ih =>
        intro i hi
        have h1 := ih i (by omega)
        have h2 := h (i + d + 1) (by omega)
        have : i + (d + 1) + 1 = i + d + 1 + 1 := by omega
        rw [this]; omega
    rw [List.pairwise_iff_getElem]
    intro i j hi hj hij
    have := hs (j - i - 1) i (by omega)
    rw [show i + (j - i - 1) + 1 = j by omega, gi_of_lt' hi, gi_of_lt' hj] at this
    exact this
  · intro h j hj
    rw [gi_of_lt' (by omega), gi_of_lt' (by omega)]
    exact List.pairwise_iff_getElem.1 h j (j+1) (by omega) (by omega) (by omega)
theorem selTo_sorted (p : Nat → Bool) : ∀ k, (selTo p k).Pairwise (· < ·)
  | 0 => by simp [selTo]
  | k+1 => by
    by_cases h : p k = true
    · rw [selTo_yes h]
      refine List.pairwise_append.2 ⟨selTo_sorted p k, by simp, fun a ha b hb => ?_⟩
      obtain ⟨j, h1, _, rfl⟩ := selTo_mem.1 ha
      simp at hb
      omega
    · rw [selTo_no (by simpa using h)]; exact selTo_sorted p k
theorem up_free (h : PHall) : upB (hallFreeF h) = true := by
  rw [upB_iff]
  unfold hallFreeF
  split
  · exact selTo_sorted _ _
  · exact List.Pairwise.nil
theorem free_at {h : PHall} {k : Nat} (hk : k < (hallFreeF h).length) : 0 ≤ gi (hallFreeF h) k ∧ gi (hallFreeF h) k < h.cells.length ∧ gi h.cells (gi (hallFreeF h) k).toNat = 0 := by
  have hm : gi (hallFreeF h) k ∈ hallFreeF h := by rw [gi_of_lt' hk]; exact List.getElem_mem hk
  generalize gi (hallFreeF h) k = x at hm
  unfold hallFreeF at hm
  split at hm
  · obtain ⟨j, h1, h2, rfl⟩ := selTo_mem.1 hm
    refine ⟨by omega, by omega, ?_⟩
    simpa using h2
  · simp at hm
theorem free_nil {h : PHall} (hv : validB h = false) : hallFreeF h = [] := by simp [hallFreeF, hv]
theorem cars_nil {h : PHall} (hv : validB h = false) : carsF h = [] := by simp [carsF, hv]
theorem cars_perm {h : PHall} (hv : validB h = true) : (carsF h).Perm (posTo h.cells h.cells.length) ∧ (carsF h).Pairwise (· ≤ ·) := by
  unfold carsF; rw [if_pos hv]; exact carsTo_both _ _ (Nat.le_refl _)
theorem free_pos {l : List Int} (h0 : ∀ k, k < l.length → 0 ≤ gi l k) : ∀ k, k ≤ l.length → (selTo (fun j => decide (gi l j = 0)) k).length + (posTo l k).length = k
  | 0, _ => by simp [selTo, posTo]
  | k+1, hk => by
    have ih := free_pos h0 k (by omega)
    have := h0 k (by omega)
    rw [posTo_succ (by omega)]
    by_cases e : gi l k = 0
    · rw [selTo_yes (by simp [e]), if_neg (by omega)]
      simp; omega
    · rw [selTo_no (by simp [e]), if_pos (by omega)]
      simp; omega
theorem free_cars {h : PHall} (hv : validB h = true) : (hallFreeF h).length + (carsF h).length = h.cells.length := by
  rw [(cars_perm hv).1.length_eq]
  unfold hallFreeF
  rw [if_pos hv]
  exact free_pos (fun k hk => ((valid_iff.1 hv).2.rng k hk).1) _ (Nat.le_refl _)
theorem mem_gi {l : List Int} {x : Int} : x ∈ l ↔ ∃ j, j < l.length ∧ gi l j = x := by
  constructor
  · intro h
    obtain ⟨i, hi, rfl⟩ := List.mem_iff_getElem.1 h
    exact ⟨i, hi, gi_of_lt' hi⟩
  · rintro ⟨j, hj, rfl⟩
    rw [gi_of_lt' hj]; exact List.getElem_mem hj
theorem mem_cars {h : PHall} {x : Int} : x ∈ carsF h ↔ validB h = true ∧ 0 < x ∧ x ∈ h.cells := by
  by_cases hv : validB h = true
  · rw [(cars_perm hv).1.mem_iff, posTo, List.take_length, List.mem_filter]
    simp [hv]
    exact And.comm
  · rw [cars_nil (by simpa using hv)]
    simp [hv]
theorem up_cars (h : PHall) : upB (carsF h) = true := by
  rw [upB_iff]
  by_cases hv : validB h = true
  · obtain ⟨h1, h2⟩ := cars_perm hv
    have hn : (posTo h.cells h.cells.length).Nodup := by
      unfold posTo
      rw [List.take_length]
      have hO := (valid_iff.1 hv).2
      rw [List.Nodup, List.pairwise_filter, List.pairwise_iff_getElem]
      intro i j hi hj hij h1 h2 e
      have := hO.one i j hi hj (by rw [gi_of_lt' hi]; simpa using h1) (by rw [gi_of_lt' hi, gi_of_lt' hj]; exact e)
      omega
    have hn' : (carsF h).Nodup := h1.nodup_iff.2 hn
    exact (h2.and hn').imp (fun hh => Int.lt_iff_le_and_ne.2 hh)
  · rw [cars_nil (by simpa using hv)]; exact List.Pairwise.nil
theorem idx_cases (l : List Int) (x : Int) : ∀ n, (idxTo l x n = -1 ∧ ∀ j, j < n → gi l j ≠ x) ∨ ∃ j : Nat, j < n ∧ idxTo l x n = j ∧ gi l j = x
  | 0 => .inl ⟨rfl, fun j hj => by omega⟩
  | n+1 => by
    rcases idx_cases l x n with ⟨h1, h2⟩ | ⟨j, h1, h2, h3⟩
    · by_cases e : gi l n = x
      · exact .inr ⟨n, by omega, idxTo_hit h1 e _ (by omega), e⟩
      · refine .inl ⟨idxTo_no h1 e, fun j hj => ?_⟩
        by_cases ej : j = n
        · subst ej; exact e
        · exact h2 j (by omega)
    · refine .inr ⟨j, by omega, ?_, h3⟩
      simp only [idxTo]
      rw [h2, if_neg (by omega)]
/-- what HallFind tells -/
theorem find_cases (h : PHall) (x : Int) : (hallFindF h x = -1 ∧ x ∉ carsF h) ∨ (validB h = true ∧ 0 < x ∧ ∃ j : Nat, j < h.cells.length ∧ hallFindF h x = j ∧ gi h.cells j = x ∧ ∀ k, k < h.cells.length → (gi h.cells k = x ↔ k = j)) := by
  unfold hallFindF
  split
  · rename_i hc
    rcases idx_cases h.cells x h.cells.length with ⟨h1, h2⟩ | ⟨j, h1, h2, h3⟩
    · refine .inl ⟨h1, fun hm => ?_⟩
      obtain ⟨i, hi, e⟩ := mem_gi.1 (mem_cars.1 hm).2.2
      exact h2 i hi e
    · refine .inr ⟨hc.1, by omega, j, h1, h2, h3, fun k hk => ⟨fun e => ?_, fun e => by subst e; exact h3⟩⟩
      exact (valid_iff.1 hc.1).2.one k j hk h1 (by omega) (by omega)
  · rename_i hc
    refine .inl ⟨rfl, fun hm => hc ?_⟩
    have := mem_cars.1 hm
    exact ⟨this.1, by omega⟩
end Go.Proofs.YtjdgbdakkdljmaaDoor
namespace Go.Proofs.YtjdgbdakkdljmaaDoor
open Go Go.RowKit Go.Park Go.Sym
/-! slides compared -/
theorem slide_eqIn (w : World) (a b c d : Int) : (Op.equalIn 10000 40 (.agg #[.int .i64 a, .int .i64 b]) (.agg #[.int .i64 c, .int .i64 d])).run Tryd.prog w = .ok (decide (a = c ∧ b = d)) w := by
  have h1 : (Tryd.prog).underlying 40 = some (.struct ((Tryd.prog).fieldsOf 40)) := by kernel_rfl
  have h2 : (Tryd.prog).stoodInHeld 40 = false := by kernel_rfl
  have h3 : ((Tryd.prog).fieldsOf 40).toList.map (fun f => (f.name == "_", f.type, f.offset)) = [(false, 3, 0), (false, 3, 1)] := by kernel_rfl
  obtain ⟨l, hl⟩ : ∃ l, l = ((Tryd.prog).fieldsOf 40).toList := ⟨_, rfl⟩
  rw [← hl] at h3
  have h5 : (Tryd.prog).underlying 3 = some (.int .i64) := by kernel_rfl
  have h6 : (Tryd.prog).plainKey 3 = true := by kernel_rfl
  rw [run_equalIn_struct w 9999 _ _ _ h1 h2, ← hl]
  match l, h3 with
  | [f, g], h3 =>
    simp only [List.map_cons, List.map_nil, List.cons.injEq, Prod.mk.injEq, and_true, beq_eq_false_iff_ne] at h3
    obtain ⟨⟨n1, t1, o1⟩, n2, t2, o2⟩ := h3
    have p0 : ∀ (u v : Int) (w : World), (part 3 #[.int .i64 u, .int .i64 v] 0).run Tryd.prog w = .ok (.int .i64 u) w := fun u v w => run_part_plain w h6 rfl
    have p1 : ∀ (u v : Int) (w : World), (part 3 #[.int .i64 u, .int .i64 v] 1).run Tryd.prog w = .ok (.int .i64 v) w := fun u v w => run_part_plain w h6 rfl
    simp only [Op.eqFields, if_pos n1, if_pos n2, t1, t2, o1, o2, Sem.run_bind, p0, p1, Result.andThen_ok, run_equalIn_int w 9998 3 .i64 .i64 _ _ h5, Sem.run_ite, Sem.run_pure]
    by_cases e1 : a = c <;> by_cases e2 : b = d <;> simp [e1, e2]
section
variable {nt : Nat} {E : List (Nat × AV)} {H : Hp} {dst : Option Nat} {ty : Nat} {pos : String} {aft : Array Edge} {gd : Option (Nat × Bool)}
theorem slide_rel {cx : Cx} {a b : Int} {v : Value} (h : relV cx (.agg [.int a, .int b]) v) : v = .agg #[.int .i64 a, .int .i64 b] := by
  rw [relV] at h
  obtain ⟨vs, rfl, h⟩ := h
  rw [relL] at h
  obtain ⟨u0, us0, rfl, h0, h⟩ := h
  rw [relL] at h
  obtain ⟨u1, us1, rfl, h1, h⟩ := h
  rw [relL] at h
  rw [relV] at h0 h1
  subst h h0 h1
  rfl
theorem st_lf0 {P : Program} {T : List (Nat × TyI)} (hT : TabOk P T) {t : Nat} {x : Operand} {i : TyI} {r k o : Nat} {row : Row} {l : List (Int × Int)} (hd : dstOk nt dst = true) (hx : (mkS E H).ev x = .ptr r k (o * 2 + 0)) (hr : (mkS E H).row r = some row) (hc : row.cs = slc l) (hv : row.ver = k) (ht : lkT T t = some i) (hg : i.agg = false) (ho : o < l.length) :
    Does P nt ⟨dst, .load t x, ty, pos, aft, gd⟩ ⟨fo x, [r]⟩ (.int (gs l o).1) [] (mkS E H) := by
  have := does_load (P := P) (ty := ty) (pos := pos) (aft := aft) (gd := gd) hT hd hx hr hv ht hg (by rw [hc, slc_length]; omega)
  rw [hc, Nat.add_zero, rd_slc0] at this
  exact this
theorem st_lf1 {P : Program} {T : List (Nat × TyI)} (hT : TabOk P T) {t : Nat} {x : Operand} {i : TyI} {r k o : Nat} {row : Row} {l : List (Int × Int)} (hd : dstOk nt dst = true) (hx : (mkS E H).ev x = .ptr r k (o * 2 + 1)) (hr : (mkS E H).row r = some row) (hc : row.cs = slc l) (hv : row.ver = k) (ht : lkT T t = some i) (hg : i.agg = false) (ho : o < l.length) :
    Does P nt ⟨dst, .load t x, ty, pos, aft, gd⟩ ⟨fo x, [r]⟩ (.int (gs l o).2) [] (mkS E H) := by
  have := does_load (P := P) (ty := ty) (pos := pos) (aft := aft) (gd := gd) hT hd hx hr hv ht hg (by rw [hc, slc_length]; omega)
  rw [hc, rd_slc1] at this
  exact this
theorem st_neqs {t' : Nat} {x y : Operand} {a b c d : Int} (hd : dstOk nt dst = true) (hx : (mkS E H).ev x = .agg [.int a, .int b]) (hy : (mkS E H).ev y = .agg [.int c, .int d]) :
    Does Tryd.prog nt ⟨dst, .binOp .neq 40 x y t', ty, pos, aft, gd⟩ ⟨fo x ++ fo y, []⟩ (.bool (!decide (a = c ∧ b = d))) [] (mkS E H) :=
  does_pure hd fun τ hag F φ Z a' w hF hS => by
    have e1 := ev_rel hag hS hx (by simp +contextual)
    have e2 := ev_rel hag hS hy (by simp +contextual)
    have hm : (Tryd.prog).eqGuardType (Tryd.prog).depth 40 = false := by kernel_rfl
    exact ⟨.bool (!decide (a = c ∧ b = d)), by simp [execOp, slide_rel e1, slide_rel e2, run_eqGuard_agg _ _ _ _ _ _ _ hm, run_neq_struct, slide_eqIn], by simp [relV]⟩
theorem st_eqls {t' : Nat} {x y : Operand} {a b c d : Int} (hd : dstOk nt dst = true) (hx : (mkS E H).ev x = .agg [.int a, .int b]) (hy : (mkS E H).ev y = .agg [.int c, .int d]) :
    Does Tryd.prog nt ⟨dst, .binOp .eql 40 x y t', ty, pos, aft, gd⟩ ⟨fo x ++ fo y, []⟩ (.bool (decide (a = c ∧ b = d))) [] (mkS E H) :=
  does_pure hd fun τ hag F φ Z a' w hF hS => by
    have e1 := ev_rel hag hS hx (by simp +contextual)
    have e2 := ev_rel hag hS hy (by simp +contextual)
    have hm : (Tryd.prog).eqGuardType (Tryd.prog).depth 40 = false := by kernel_rfl
    exact ⟨.bool (decide (a = c ∧ b = d)), by simp [execOp, slide_rel e1, slide_rel e2, run_eqGuard_agg _ _ _ _ _ _ _ hm, run_eql_struct, slide_eqIn], by simp [relV]⟩
theorem does_eqlb {P : Program} {T : List (Nat × TyI)} (hT : TabOk P T) {t t' : Nat} {i : TyI} {x y : Operand} {a b : Bool} (hd : dstOk nt dst = true) (ht : lkT T t = some i) (hu : i.u = .bool) (hx : (mkS E H).ev x = .bool a) (hy : (mkS E H).ev y = .bool b) :
    Does P nt ⟨dst, .binOp .eql t x y t', ty, pos, aft, gd⟩ ⟨fo x ++ fo y, []⟩ (.bool (a == b)) [] (mkS E H) :=
  does_pure hd fun τ hag F φ Z a' w hF hS => by
    obtain ⟨inf, d, hk⟩ := hT.known ht
    exact ⟨.bool (a == b), by simp [execOp, eqGuard, binOp, run_equal_bool _ _ _ _ (hk.bool hu), ev_v hag hS hx (by simp +contextual), ev_v hag hS hy (by simp +contextual)], by simp [relV]⟩
end
theorem gs_ext {a b : List (Int × Int)} (hl : a.length = b.length) (h : ∀ j, j < a.length → gs a j = gs b j) : a = b := by
  apply List.ext_getElem hl
  intro i h1 h2
  have := h i h1
  simpa [gs, List.getD, h1, h2] using this
set_option maxHeartbeats 1000000 in
theorem sameSlides_fn (a b : List (Int × Int)) (ha : a.length ≤ lim) (hb : b.length ≤ lim) : FnS Tryd.prog 32 [slcV a, slcV b] (.bool (decide (a = b))) := by
  have ha' : a.length ≤ 1073741824 := ha
  have hb' : b.length ≤ 1073741824 := hb
  refine fn_go2 tabOk Tryd.func32 rfl (by kernel_rfl) Tryd.ntmps32 Tryd.results32 (by decide) ?_
  repeat first | refine ax_seq ?_ | refine ax_next ?_ | refine rg_text ?_ | refine rg_any mixed ?_ | refine ax_block ?_ | refine rh_nil ⟨(by kernel_rfl), ?_⟩ | refine rh_nil ?_ | refine ax_ret ?_ | refine ax_skip ?_ | refine ax_exit ?_ | refine ax_true rfl ?_ | refine ax_false rfl ?_ | refine then_ret ?_ | refine then_exit ?_ | refine out_here ?_ | refine out_away rfl ?_ | refine out_normal ?_ | refine out_ret ?_ | refine round_exit ?_ | refine round_ret ?_ | refine meet_ret ?_ | refine meet_exit ?_ | (apply rh_no; iterate 4 exact rfl) | (apply rh_un; iterate 3 exact rfl) | (apply rh0; (case h => exact z0); (case hw => exact wt)) | (apply rh1; (case h => exact z1); (case hw => exact wt)) | (apply rhs; (case h => exact zs); (case hw => exact wt))
  refine ax_cond rfl (fun hl => ?_) (fun hl => ?_)
  · have hF : decide (a = b) = false := decide_eq_false (fun e => by subst e; simp at hl)
    repeat first | refine ax_seq ?_ | refine ax_next ?_ | refine rg_text ?_ | refine rg_any mixed ?_ | refine ax_block ?_ | refine rh_nil ⟨(by kernel_rfl), ?_⟩ | refine rh_nil ?_ | refine ax_ret ?_ | refine ax_skip ?_ | refine ax_exit ?_ | refine ax_true rfl ?_ | refine ax_false rfl ?_ | refine then_ret ?_ | refine then_exit ?_ | refine out_here ?_ | refine out_away rfl ?_ | refine out_normal ?_ | refine out_ret ?_ | refine round_exit ?_ | refine round_ret ?_ | refine meet_ret ?_ | refine meet_exit ?_ | (apply rh_no; iterate 4 exact rfl) | (apply rh_un; iterate 3 exact rfl) | (apply rh0; (case h => exact z0); (case hw => exact wt)) | (apply rh1; (case h => exact z1); (case hw => exact wt)) | (apply rhs; (case h => exact zs); (case hw => exact wt))
    refine ⟨.inl rfl, _, _, (by repeat first | exact .nil | apply ResL.cons | exact .tmp rfl | exact .agg rfl rfl rfl rfl rfl (Nat.le_of_ble_eq_true rfl) rfl | exact .cell rfl rfl rfl rfl rfl (Nat.le_of_ble_eq_true rfl) rfl), (by first | exact .one (by first | exact .one (.v (by first | rfl | (rw [hF]))) | exact .one (.own rfl rfl rfl rfl rfl rfl (by first | rfl | (rw [hF])) (by first | exact scal_ints _ | exact scal_slc _)) | exact .one (.nil (by decide) (by first | rfl | (rw [hF]))) | exact .agg (.cons (.v (by first | rfl | (rw [hF]))) (.cons (.v (by first | rfl | (rw [hF]))) (.cons (.own rfl rfl rfl rfl rfl rfl (by first | rfl | (rw [hF])) (scal_ints _)) .nil))) | exact .agg (.cons (.v (by first | rfl | (rw [hF]))) (.cons (.v (by first | rfl | (rw [hF]))) (.cons (.nil (by decide) (by first | rfl | (rw [hF]))) .nil))) | exact .agg (.cons (.v (by first | rfl | (rw [hF]))) (.cons (.v (by first | rfl | (rw [hF]))) .nil))) | exact .two (by repeat first | exact .nil | apply ExpL.cons | exact (by first | exact .one (.v (by first | rfl | (rw [hF]))) | exact .one (.own rfl rfl rfl rfl rfl rfl (by first | rfl | (rw [hF])) (by first | exact scal_ints _ | exact scal_slc _)) | exact .one (.nil (by decide) (by first | rfl | (rw [hF]))) | exact .agg (.cons (.v (by first | rfl | (rw [hF]))) (.cons (.v (by first | rfl | (rw [hF]))) (.cons (.own rfl rfl rfl rfl rfl rfl (by first | rfl | (rw [hF])) (scal_ints _)) .nil))) | exact .agg (.cons (.v (by first | rfl | (rw [hF]))) (.cons (.v (by first | rfl | (rw [hF]))) (.cons (.nil (by decide) (by first | rfl | (rw [hF]))) .nil))) | exact .agg (.cons (.v (by first | rfl | (rw [hF]))) (.cons (.v (by first | rfl | (rw [hF]))) .nil))))), (by decide)⟩
  have hlen : a.length = b.length := by
    have : (a.length : Int) = (b.length : Int) := by simpa using hl
    omega
  repeat first | refine ax_seq ?_ | refine ax_next ?_ | refine rg_text ?_ | refine rg_any mixed ?_ | refine ax_block ?_ | refine rh_nil ⟨(by kernel_rfl), ?_⟩ | refine rh_nil ?_ | refine ax_ret ?_ | refine ax_skip ?_ | refine ax_exit ?_ | refine ax_true rfl ?_ | refine ax_false rfl ?_ | refine then_ret ?_ | refine then_exit ?_ | refine out_here ?_ | refine out_away rfl ?_ | refine out_normal ?_ | refine out_ret ?_ | refine round_exit ?_ | refine round_ret ?_ | refine meet_ret ?_ | refine meet_exit ?_ | (apply rh_no; iterate 4 exact rfl) | (apply rh_un; iterate 3 exact rfl) | (apply rh0; (case h => exact z0); (case hw => exact wt)) | (apply rh1; (case h => exact z1); (case hw => exact wt)) | (apply rhs; (case h => exact zs); (case hw => exact wt))
  refine ax_loop (fun k : Nat => mkS [(5, .int (k : Int)), (0, slcV a), (1, slcV b)] ⟨1, []⟩) (fun k => k ≤ a.length ∧ ∀ j, j < k → gs a j = gs b j) (fun k => a.length - k) (0) (⟨Nat.zero_le _, fun j hj => by omega⟩) (weak_of [] (by repeat first | exact .nil | refine LeEs.cons ?_ ?_ | exact .v (by first | rfl | (rfl)) | exact .own rfl rfl rfl rfl rfl | exact .ptr rfl rfl rfl rfl rfl rfl | exact .nil rfl rfl rfl | exact .sl (by first | rfl | (rfl)) | exact .both rfl rfl | exact .frz rfl rfl rfl rfl rfl (by first | rfl | (rfl)) rfl | exact .any _) (by repeat first | exact .nil | refine LeHs.keep rfl ⟨rfl, rfl, rfl, .inl ⟨rfl, by first | rfl | (rfl)⟩⟩ ?_ | refine LeHs.keep rfl ⟨rfl, rfl, rfl, .inr ⟨(by first | exact .inl rfl | exact .inr rfl), by repeat first | exact .nil | refine LeVL.cons ?_ ?_ | exact .v (by first | rfl | (rfl)) | exact .own rfl rfl rfl rfl rfl | exact .sl (by first | rfl | (rfl)) | exact .both rfl rfl | exact .frz rfl rfl rfl rfl rfl (by first | rfl | (rfl)) rfl⟩⟩ ?_ | refine LeHs.fresh rfl rfl rfl (Nat.succ_pos _) rfl ?_) rfl rfl) ?_
  rintro k ⟨hk, hj⟩
  repeat first | refine ax_seq ?_ | refine ax_next ?_ | refine rg_text ?_ | refine rg_any mixed ?_ | refine ax_block ?_ | refine rh_nil ⟨(by kernel_rfl), ?_⟩ | refine rh_nil ?_ | refine ax_ret ?_ | refine ax_skip ?_ | refine ax_exit ?_ | refine ax_true rfl ?_ | refine ax_false rfl ?_ | refine then_ret ?_ | refine then_exit ?_ | refine out_here ?_ | refine out_away rfl ?_ | refine out_normal ?_ | refine out_ret ?_ | refine round_exit ?_ | refine round_ret ?_ | refine meet_ret ?_ | refine meet_exit ?_ | (apply rh_no; iterate 4 exact rfl) | (apply rh_un; iterate 3 exact rfl) | (apply rh0; (case h => exact z0); (case hw => exact wt)) | (apply rh1; (case h => exact z1); (case hw => exact wt)) | (apply rhs; (case h => exact zs); (case hw => exact wt))
  refine ax_cond rfl (fun h1 => ?_) (fun h1 => ?_)
  · have hlt : k < a.length := by simpa using h1
    repeat first | refine ax_seq ?_ | refine ax_next ?_ | refine rg_text ?_ | refine rg_any mixed ?_ | refine ax_block ?_ | refine rh_nil ⟨(by kernel_rfl), ?_⟩ | refine rh_nil ?_ | refine ax_ret ?_ | refine ax_skip ?_ | refine ax_exit ?_ | refine ax_true rfl ?_ | refine ax_false rfl ?_ | refine then_ret ?_ | refine then_exit ?_ | refine out_here ?_ | refine out_away rfl ?_ | refine out_normal ?_ | refine out_ret ?_ | refine round_exit ?_ | refine round_ret ?_ | refine meet_ret ?_ | refine meet_exit ?_ | (apply rh_no; iterate 4 exact rfl) | (apply rh_un; iterate 3 exact rfl) | (apply rh0; (case h => first | (apply st_neqs; iterate 3 exact rfl) | exact z0); (case hw => exact wt)) | (apply rh1; (case h => exact z1); (case hw => exact wt)) | (apply rhs; (case h => exact zs); (case hw => exact wt))
    refine ax_cond rfl (fun h2 => ?_) (fun h2 => ?_)
    · have hF : decide (a = b) = false := decide_eq_false (fun e => by subst e; simp at h2)
      repeat first | refine ax_seq ?_ | refine ax_next ?_ | refine rg_text ?_ | refine rg_any mixed ?_ | refine ax_block ?_ | refine rh_nil ⟨(by kernel_rfl), ?_⟩ | refine rh_nil ?_ | refine ax_ret ?_ | refine ax_skip ?_ | refine ax_exit ?_ | refine ax_true rfl ?_ | refine ax_false rfl ?_ | refine then_ret ?_ | refine then_exit ?_ | refine out_here ?_ | refine out_away rfl ?_ | refine out_normal ?_ | refine out_ret ?_ | refine round_exit ?_ | refine round_ret ?_ | refine meet_ret ?_ | refine meet_exit ?_ | (apply rh_no; iterate 4 exact rfl) | (apply rh_un; iterate 3 exact rfl) | (apply rh0; (case h => exact z0); (case hw => exact wt)) | (apply rh1; (case h => exact z1); (case hw => exact wt)) | (apply rhs; (case h => exact zs); (case hw => exact wt))
      refine ⟨.inl rfl, _, _, (by repeat first | exact .nil | apply ResL.cons | exact .tmp rfl | exact .agg rfl rfl rfl rfl rfl (Nat.le_of_ble_eq_true rfl) rfl | exact .cell rfl rfl rfl rfl rfl (Nat.le_of_ble_eq_true rfl) rfl), (by first | exact .one (by first | exact .one (.v (by first | rfl | (rw [hF]))) | exact .one (.own rfl rfl rfl rfl rfl rfl (by first | rfl | (rw [hF])) (by first | exact scal_ints _ | exact scal_slc _)) | exact .one (.nil (by decide) (by first | rfl | (rw [hF]))) | exact .agg (.cons (.v (by first | rfl | (rw [hF]))) (.cons (.v (by first | rfl | (rw [hF]))) (.cons (.own rfl rfl rfl rfl rfl rfl (by first | rfl | (rw [hF])) (scal_ints _)) .nil))) | exact .agg (.cons (.v (by first | rfl | (rw [hF]))) (.cons (.v (by first | rfl | (rw [hF]))) (.cons (.nil (by decide) (by first | rfl | (rw [hF]))) .nil))) | exact .agg (.cons (.v (by first | rfl | (rw [hF]))) (.cons (.v (by first | rfl | (rw [hF]))) .nil))) | exact .two (by repeat first | exact .nil | apply ExpL.cons | exact (by first | exact .one (.v (by first | rfl | (rw [hF]))) | exact .one (.own rfl rfl rfl rfl rfl rfl (by first | rfl | (rw [hF])) (by first | exact scal_ints _ | exact scal_slc _)) | exact .one (.nil (by decide) (by first | rfl | (rw [hF]))) | exact .agg (.cons (.v (by first | rfl | (rw [hF]))) (.cons (.v (by first | rfl | (rw [hF]))) (.cons (.own rfl rfl rfl rfl rfl rfl (by first | rfl | (rw [hF])) (scal_ints _)) .nil))) | exact .agg (.cons (.v (by first | rfl | (rw [hF]))) (.cons (.v (by first | rfl | (rw [hF]))) (.cons (.nil (by decide) (by first | rfl | (rw [hF]))) .nil))) | exact .agg (.cons (.v (by first | rfl | (rw [hF]))) (.cons (.v (by first | rfl | (rw [hF]))) .nil))))), (by decide)⟩
    · have he : gs a k = gs b k := Prod.ext (by simp at h2; exact h2.1) (by simp at h2; exact h2.2)
      repeat first | refine ax_seq ?_ | refine ax_next ?_ | refine rg_text ?_ | refine rg_any mixed ?_ | refine ax_block ?_ | refine rh_nil ⟨(by kernel_rfl), ?_⟩ | refine rh_nil ?_ | refine ax_ret ?_ | refine ax_skip ?_ | refine ax_exit ?_ | refine ax_true rfl ?_ | refine ax_false rfl ?_ | refine then_ret ?_ | refine then_exit ?_ | refine out_here ?_ | refine out_away rfl ?_ | refine out_normal ?_ | refine out_ret ?_ | refine round_exit ?_ | refine round_ret ?_ | refine meet_ret ?_ | refine meet_exit ?_ | (apply rh_no; iterate 4 exact rfl) | (apply rh_un; iterate 3 exact rfl) | (apply rh0; (case h => exact z0); (case hw => exact wt)) | (apply rh1; (case h => exact z1); (case hw => exact wt)) | (apply rhs; (case h => exact zs); (case hw => exact wt))
      refine round_next (k + 1) (⟨hlt, fun j hj' => by by_cases e : j = k; (subst e; exact he); exact hj j (by omega)⟩) (by omega) (weak_of [] (by repeat first | exact .nil | refine LeEs.cons ?_ ?_ | exact .v (by first | rfl | (rfl)) | exact .own rfl rfl rfl rfl rfl | exact .ptr rfl rfl rfl rfl rfl rfl | exact .nil rfl rfl rfl | exact .sl (by first | rfl | (rfl)) | exact .both rfl rfl | exact .frz rfl rfl rfl rfl rfl (by first | rfl | (rfl)) rfl | exact .any _) (by repeat first | exact .nil | refine LeHs.keep rfl ⟨rfl, rfl, rfl, .inl ⟨rfl, by first | rfl | (rfl)⟩⟩ ?_ | refine LeHs.keep rfl ⟨rfl, rfl, rfl, .inr ⟨(by first | exact .inl rfl | exact .inr rfl), by repeat first | exact .nil | refine LeVL.cons ?_ ?_ | exact .v (by first | rfl | (rfl)) | exact .own rfl rfl rfl rfl rfl | exact .sl (by first | rfl | (rfl)) | exact .both rfl rfl | exact .frz rfl rfl rfl rfl rfl (by first | rfl | (rfl)) rfl⟩⟩ ?_ | refine LeHs.fresh rfl rfl rfl (Nat.succ_pos _) rfl ?_) rfl rfl)
  · have hkn : k = a.length := by simp at h1; omega
    have hF : decide (a = b) = true := decide_eq_true (gs_ext hlen (fun j hj' => hj j (by omega)))
    repeat first | refine ax_seq ?_ | refine ax_next ?_ | refine rg_text ?_ | refine rg_any mixed ?_ | refine ax_block ?_ | refine rh_nil ⟨(by kernel_rfl), ?_⟩ | refine rh_nil ?_ | refine ax_ret ?_ | refine ax_skip ?_ | refine ax_exit ?_ | refine ax_true rfl ?_ | refine ax_false rfl ?_ | refine then_ret ?_ | refine then_exit ?_ | refine out_here ?_ | refine out_away rfl ?_ | refine out_normal ?_ | refine out_ret ?_ | refine round_exit ?_ | refine round_ret ?_ | refine meet_ret ?_ | refine meet_exit ?_ | (apply rh_no; iterate 4 exact rfl) | (apply rh_un; iterate 3 exact rfl) | (apply rh0; (case h => exact z0); (case hw => exact wt)) | (apply rh1; (case h => exact z1); (case hw => exact wt)) | (apply rhs; (case h => exact zs); (case hw => exact wt))
    refine ⟨.inl rfl, _, _, (by repeat first | exact .nil | apply ResL.cons | exact .tmp rfl | exact .agg rfl rfl rfl rfl rfl (Nat.le_of_ble_eq_true rfl) rfl | exact .cell rfl rfl rfl rfl rfl (Nat.le_of_ble_eq_true rfl) rfl), (by first | exact .one (by first | exact .one (.v (by first | rfl | (rw [hF]))) | exact .one (.own rfl rfl rfl rfl rfl rfl (by first | rfl | (rw [hF])) (by first | exact scal_ints _ | exact scal_slc _)) | exact .one (.nil (by decide) (by first | rfl | (rw [hF]))) | exact .agg (.cons (.v (by first | rfl | (rw [hF]))) (.cons (.v (by first | rfl | (rw [hF]))) (.cons (.own rfl rfl rfl rfl rfl rfl (by first | rfl | (rw [hF])) (scal_ints _)) .nil))) | exact .agg (.cons (.v (by first | rfl | (rw [hF]))) (.cons (.v (by first | rfl | (rw [hF]))) (.cons (.nil (by decide) (by first | rfl | (rw [hF]))) .nil))) | exact .agg (.cons (.v (by first | rfl | (rw [hF]))) (.cons (.v (by first | rfl | (rw [hF]))) .nil))) | exact .two (by repeat first | exact .nil | apply ExpL.cons | exact (by first | exact .one (.v (by first | rfl | (rw [hF]))) | exact .one (.own rfl rfl rfl rfl rfl rfl (by first | rfl | (rw [hF])) (by first | exact scal_ints _ | exact scal_slc _)) | exact .one (.nil (by decide) (by first | rfl | (rw [hF]))) | exact .agg (.cons (.v (by first | rfl | (rw [hF]))) (.cons (.v (by first | rfl | (rw [hF]))) (.cons (.own rfl rfl rfl rfl rfl rfl (by first | rfl | (rw [hF])) (scal_ints _)) .nil))) | exact .agg (.cons (.v (by first | rfl | (rw [hF]))) (.cons (.v (by first | rfl | (rw [hF]))) (.cons (.nil (by decide) (by first | rfl | (rw [hF]))) .nil))) | exact .agg (.cons (.v (by first | rfl | (rw [hF]))) (.cons (.v (by first | rfl | (rw [hF]))) .nil))))), (by decide)⟩
end Go.Proofs.YtjdgbdakkdljmaaDoor
namespace Go.Proofs.YtjdgbdakkdljmaaDoor
open Go Go.RowKit Go.Park Go.Sym


set_option maxHeartbeats 1000000 in
theorem holeSlides_fn (h : PHall) (hl : h.cells.length ≤ lim) (way : List Int) (hw : way.length ≤ lim) : FnS Tryd.prog 51 [hallV h, intsV way] (slcV (holeF h way)) := by
  have hl' : h.cells.length ≤ 1073741824 := hl
  have hw' : way.length ≤ 1073741824 := hw
  refine fn_go2 tabOk Tryd.func51 rfl (by kernel_rfl) Tryd.ntmps51 Tryd.results51 (by decide) ?_
  repeat first | refine ax_seq ?_ | refine ax_next ?_ | refine rg_text ?_ | refine rg_any mixed ?_ | refine ax_block ?_ | refine rh_nil ⟨(by kernel_rfl), ?_⟩ | refine rh_nil ?_ | refine ax_ret ?_ | refine ax_skip ?_ | refine ax_exit ?_ | refine ax_true rfl ?_ | refine ax_false rfl ?_ | refine then_ret ?_ | refine then_exit ?_ | refine out_here ?_ | refine out_away rfl ?_ | refine out_normal ?_ | refine out_ret ?_ | refine round_exit ?_ | refine round_ret ?_ | refine meet_ret ?_ | refine meet_exit ?_ | (apply rh_no; iterate 4 exact rfl) | (apply rh_un; iterate 3 exact rfl) | (apply rh0; (case h => first | (apply st_call (hfn := hallValid_fn h hl ); exact rfl; exact fz) | (apply st_call (hfn := hasCell_fn h hl _ ); exact rfl; exact fz) | exact z0); (case hw => exact wt)) | (apply rh1; (case h => exact z1); (case hw => exact wt)) | (apply rhs; (case h => exact zs); (case hw => exact wt))
  refine rh_split rfl rfl (fun hb => ?_) (fun hb => ?_)
  · have hF : holeF h way = [] := by simp at hb; simp [holeF, holeOk, hb]
    repeat first | refine ax_seq ?_ | refine ax_next ?_ | refine rg_text ?_ | refine rg_any mixed ?_ | refine ax_block ?_ | refine rh_nil ⟨(by kernel_rfl), ?_⟩ | refine rh_nil ?_ | refine ax_ret ?_ | refine ax_skip ?_ | refine ax_exit ?_ | refine ax_true rfl ?_ | refine ax_false rfl ?_ | refine then_ret ?_ | refine then_exit ?_ | refine out_here ?_ | refine out_away rfl ?_ | refine out_normal ?_ | refine out_ret ?_ | refine round_exit ?_ | refine round_ret ?_ | refine meet_ret ?_ | refine meet_exit ?_ | (apply rh_no; iterate 4 exact rfl) | (apply rh_un; iterate 3 exact rfl) | (apply rh0; (case h => exact z0); (case hw => exact wt)) | (apply rh1; (case h => exact z1); (case hw => exact wt)) | (apply rhs; (case h => exact zs); (case hw => exact wt))
    refine ⟨.inl rfl, _, _, (by repeat first | exact .nil | apply ResL.cons | exact .tmp rfl | exact .agg rfl rfl rfl rfl rfl (Nat.le_of_ble_eq_true rfl) rfl | exact .cell rfl rfl rfl rfl rfl (Nat.le_of_ble_eq_true rfl) rfl), (by first | exact .one (by first | exact .one (.v (by first | rfl | (simp only [hF, slc]))) | exact .one (.own rfl rfl rfl rfl rfl rfl (by first | rfl | (simp only [hF, slc])) (by first | exact scal_ints _ | exact scal_slc _)) | exact .one (.nil (by decide) (by first | rfl | (simp only [hF, slc]))) | exact .agg (.cons (.v (by first | rfl | (simp only [hF, slc]))) (.cons (.v (by first | rfl | (simp only [hF, slc]))) (.cons (.own rfl rfl rfl rfl rfl rfl (by first | rfl | (simp only [hF, slc])) (scal_ints _)) .nil))) | exact .agg (.cons (.v (by first | rfl | (simp only [hF, slc]))) (.cons (.v (by first | rfl | (simp only [hF, slc]))) (.cons (.nil (by decide) (by first | rfl | (simp only [hF, slc]))) .nil))) | exact .agg (.cons (.v (by first | rfl | (simp only [hF, slc]))) (.cons (.v (by first | rfl | (simp only [hF, slc]))) .nil))) | exact .two (by repeat first | exact .nil | apply ExpL.cons | exact (by first | exact .one (.v (by first | rfl | (simp only [hF, slc]))) | exact .one (.own rfl rfl rfl rfl rfl rfl (by first | rfl | (simp only [hF, slc])) (by first | exact scal_ints _ | exact scal_slc _)) | exact .one (.nil (by decide) (by first | rfl | (simp only [hF, slc]))) | exact .agg (.cons (.v (by first | rfl | (simp only [hF, slc]))) (.cons (.v (by first | rfl | (simp only [hF, slc]))) (.cons (.own rfl rfl rfl rfl rfl rfl (by first | rfl | (simp only [hF, slc])) (scal_ints _)) .nil))) | exact .agg (.cons (.v (by first | rfl | (simp only [hF, slc]))) (.cons (.v (by first | rfl | (simp only [hF, slc]))) (.cons (.nil (by decide) (by first | rfl | (simp only [hF, slc]))) .nil))) | exact .agg (.cons (.v (by first | rfl | (simp only [hF, slc]))) (.cons (.v (by first | rfl | (simp only [hF, slc]))) .nil))))), (by decide)⟩
  have hv : validB h = true := by simpa using hb
  repeat first | refine ax_seq ?_ | refine ax_next ?_ | refine rg_text ?_ | refine rg_any mixed ?_ | refine ax_block ?_ | refine rh_nil ⟨(by kernel_rfl), ?_⟩ | refine rh_nil ?_ | refine ax_ret ?_ | refine ax_skip ?_ | refine ax_exit ?_ | refine ax_true rfl ?_ | refine ax_false rfl ?_ | refine then_ret ?_ | refine then_exit ?_ | refine out_here ?_ | refine out_away rfl ?_ | refine out_normal ?_ | refine out_ret ?_ | refine round_exit ?_ | refine round_ret ?_ | refine meet_ret ?_ | refine meet_exit ?_ | (apply rh_no; iterate 4 exact rfl) | (apply rh_un; iterate 3 exact rfl) | (apply rh0; (case h => exact z0); (case hw => exact wt)) | (apply rh1; (case h => exact z1); (case hw => exact wt)) | (apply rhs; (case h => exact zs); (case hw => exact wt))
  refine rh_split rfl rfl (fun hb1 => ?_) (fun hb1 => ?_)
  · have hF : holeF h way = [] := by
      have : way = [] := by simpa using hb1
      simp [holeF, holeOk, this]
    repeat first | refine ax_seq ?_ | refine ax_next ?_ | refine rg_text ?_ | refine rg_any mixed ?_ | refine ax_block ?_ | refine rh_nil ⟨(by kernel_rfl), ?_⟩ | refine rh_nil ?_ | refine ax_ret ?_ | refine ax_skip ?_ | refine ax_exit ?_ | refine ax_true rfl ?_ | refine ax_false rfl ?_ | refine then_ret ?_ | refine then_exit ?_ | refine out_here ?_ | refine out_away rfl ?_ | refine out_normal ?_ | refine out_ret ?_ | refine round_exit ?_ | refine round_ret ?_ | refine meet_ret ?_ | refine meet_exit ?_ | (apply rh_no; iterate 4 exact rfl) | (apply rh_un; iterate 3 exact rfl) | (apply rh0; (case h => exact z0); (case hw => exact wt)) | (apply rh1; (case h => exact z1); (case hw => exact wt)) | (apply rhs; (case h => exact zs); (case hw => exact wt))
    refine ⟨.inl rfl, _, _, (by repeat first | exact .nil | apply ResL.cons | exact .tmp rfl | exact .agg rfl rfl rfl rfl rfl (Nat.le_of_ble_eq_true rfl) rfl | exact .cell rfl rfl rfl rfl rfl (Nat.le_of_ble_eq_true rfl) rfl), (by first | exact .one (by first | exact .one (.v (by first | rfl | (simp only [hF, slc]))) | exact .one (.own rfl rfl rfl rfl rfl rfl (by first | rfl | (simp only [hF, slc])) (by first | exact scal_ints _ | exact scal_slc _)) | exact .one (.nil (by decide) (by first | rfl | (simp only [hF, slc]))) | exact .agg (.cons (.v (by first | rfl | (simp only [hF, slc]))) (.cons (.v (by first | rfl | (simp only [hF, slc]))) (.cons (.own rfl rfl rfl rfl rfl rfl (by first | rfl | (simp only [hF, slc])) (scal_ints _)) .nil))) | exact .agg (.cons (.v (by first | rfl | (simp only [hF, slc]))) (.cons (.v (by first | rfl | (simp only [hF, slc]))) (.cons (.nil (by decide) (by first | rfl | (simp only [hF, slc]))) .nil))) | exact .agg (.cons (.v (by first | rfl | (simp only [hF, slc]))) (.cons (.v (by first | rfl | (simp only [hF, slc]))) .nil))) | exact .two (by repeat first | exact .nil | apply ExpL.cons | exact (by first | exact .one (.v (by first | rfl | (simp only [hF, slc]))) | exact .one (.own rfl rfl rfl rfl rfl rfl (by first | rfl | (simp only [hF, slc])) (by first | exact scal_ints _ | exact scal_slc _)) | exact .one (.nil (by decide) (by first | rfl | (simp only [hF, slc]))) | exact .agg (.cons (.v (by first | rfl | (simp only [hF, slc]))) (.cons (.v (by first | rfl | (simp only [hF, slc]))) (.cons (.own rfl rfl rfl rfl rfl rfl (by first | rfl | (simp only [hF, slc])) (scal_ints _)) .nil))) | exact .agg (.cons (.v (by first | rfl | (simp only [hF, slc]))) (.cons (.v (by first | rfl | (simp only [hF, slc]))) (.cons (.nil (by decide) (by first | rfl | (simp only [hF, slc]))) .nil))) | exact .agg (.cons (.v (by first | rfl | (simp only [hF, slc]))) (.cons (.v (by first | rfl | (simp only [hF, slc]))) .nil))))), (by decide)⟩
  have hne : 0 < way.length := by
    have : ¬ ((way.length : Int) = 0) := by simpa using hb1
    omega
  have hne' : way ≠ [] := List.length_pos_iff.1 hne
  repeat first | refine ax_seq ?_ | refine ax_next ?_ | refine rg_text ?_ | refine rg_any mixed ?_ | refine ax_block ?_ | refine rh_nil ⟨(by kernel_rfl), ?_⟩ | refine rh_nil ?_ | refine ax_ret ?_ | refine ax_skip ?_ | refine ax_exit ?_ | refine ax_true rfl ?_ | refine ax_false rfl ?_ | refine then_ret ?_ | refine then_exit ?_ | refine out_here ?_ | refine out_away rfl ?_ | refine out_normal ?_ | refine out_ret ?_ | refine round_exit ?_ | refine round_ret ?_ | refine meet_ret ?_ | refine meet_exit ?_ | (apply rh_no; iterate 4 exact rfl) | (apply rh_un; iterate 3 exact rfl) | (apply rh0; (case h => first | (apply st_call (hfn := hasCell_fn h hl _ ); exact rfl; exact fz) | exact z0); (case hw => exact wt)) | (apply rh1; (case h => exact z1); (case hw => exact wt)) | (apply rhs; (case h => exact zs); (case hw => exact wt))
  refine rh_split rfl rfl (fun hb2 => ?_) (fun hb2 => ?_)
  · have hF : holeF h way = [] := by simp at hb2; simp [holeF, holeOk, hb2]
    repeat first | refine ax_seq ?_ | refine ax_next ?_ | refine rg_text ?_ | refine rg_any mixed ?_ | refine ax_block ?_ | refine rh_nil ⟨(by kernel_rfl), ?_⟩ | refine rh_nil ?_ | refine ax_ret ?_ | refine ax_skip ?_ | refine ax_exit ?_ | refine ax_true rfl ?_ | refine ax_false rfl ?_ | refine then_ret ?_ | refine then_exit ?_ | refine out_here ?_ | refine out_away rfl ?_ | refine out_normal ?_ | refine out_ret ?_ | refine round_exit ?_ | refine round_ret ?_ | refine meet_ret ?_ | refine meet_exit ?_ | (apply rh_no; iterate 4 exact rfl) | (apply rh_un; iterate 3 exact rfl) | (apply rh0; (case h => exact z0); (case hw => exact wt)) | (apply rh1; (case h => exact z1); (case hw => exact wt)) | (apply rhs; (case h => exact zs); (case hw => exact wt))
    refine ⟨.inl rfl, _, _, (by repeat first | exact .nil | apply ResL.cons | exact .tmp rfl | exact .agg rfl rfl rfl rfl rfl (Nat.le_of_ble_eq_true rfl) rfl | exact .cell rfl rfl rfl rfl rfl (Nat.le_of_ble_eq_true rfl) rfl), (by first | exact .one (by first | exact .one (.v (by first | rfl | (simp only [hF, slc]))) | exact .one (.own rfl rfl rfl rfl rfl rfl (by first | rfl | (simp only [hF, slc])) (by first | exact scal_ints _ | exact scal_slc _)) | exact .one (.nil (by decide) (by first | rfl | (simp only [hF, slc]))) | exact .agg (.cons (.v (by first | rfl | (simp only [hF, slc]))) (.cons (.v (by first | rfl | (simp only [hF, slc]))) (.cons (.own rfl rfl rfl rfl rfl rfl (by first | rfl | (simp only [hF, slc])) (scal_ints _)) .nil))) | exact .agg (.cons (.v (by first | rfl | (simp only [hF, slc]))) (.cons (.v (by first | rfl | (simp only [hF, slc]))) (.cons (.nil (by decide) (by first | rfl | (simp only [hF, slc]))) .nil))) | exact .agg (.cons (.v (by first | rfl | (simp only [hF, slc]))) (.cons (.v (by first | rfl | (simp only [hF, slc]))) .nil))) | exact .two (by repeat first | exact .nil | apply ExpL.cons | exact (by first | exact .one (.v (by first | rfl | (simp only [hF, slc]))) | exact .one (.own rfl rfl rfl rfl rfl rfl (by first | rfl | (simp only [hF, slc])) (by first | exact scal_ints _ | exact scal_slc _)) | exact .one (.nil (by decide) (by first | rfl | (simp only [hF, slc]))) | exact .agg (.cons (.v (by first | rfl | (simp only [hF, slc]))) (.cons (.v (by first | rfl | (simp only [hF, slc]))) (.cons (.own rfl rfl rfl rfl rfl rfl (by first | rfl | (simp only [hF, slc])) (scal_ints _)) .nil))) | exact .agg (.cons (.v (by first | rfl | (simp only [hF, slc]))) (.cons (.v (by first | rfl | (simp only [hF, slc]))) (.cons (.nil (by decide) (by first | rfl | (simp only [hF, slc]))) .nil))) | exact .agg (.cons (.v (by first | rfl | (simp only [hF, slc]))) (.cons (.v (by first | rfl | (simp only [hF, slc]))) .nil))))), (by decide)⟩
  have hc : hasCellB h (gi way 0) = true := by simpa using hb2
  have hcr := hasCell_iff.1 hc
  repeat first | refine ax_seq ?_ | refine ax_next ?_ | refine rg_text ?_ | refine rg_any mixed ?_ | refine ax_block ?_ | refine rh_nil ⟨(by kernel_rfl), ?_⟩ | refine rh_nil ?_ | refine ax_ret ?_ | refine ax_skip ?_ | refine ax_exit ?_ | refine ax_true rfl ?_ | refine ax_false rfl ?_ | refine then_ret ?_ | refine then_exit ?_ | refine out_here ?_ | refine out_away rfl ?_ | refine out_normal ?_ | refine out_ret ?_ | refine round_exit ?_ | refine round_ret ?_ | refine meet_ret ?_ | refine meet_exit ?_ | (apply rh_no; iterate 4 exact rfl) | (apply rh_un; iterate 3 exact rfl) | (apply rh0; (case h => exact z0); (case hw => exact wt)) | (apply rh1; (case h => exact z1); (case hw => exact wt)) | (apply rhs; (case h => exact zs); (case hw => exact wt))
  refine ax_cond rfl (fun hb3 => ?_) (fun hb3 => ?_)
  · have hF : holeF h way = [] := by simp at hb3; simp [holeF, holeOk, hb3]
    repeat first | refine ax_seq ?_ | refine ax_next ?_ | refine rg_text ?_ | refine rg_any mixed ?_ | refine ax_block ?_ | refine rh_nil ⟨(by kernel_rfl), ?_⟩ | refine rh_nil ?_ | refine ax_ret ?_ | refine ax_skip ?_ | refine ax_exit ?_ | refine ax_true rfl ?_ | refine ax_false rfl ?_ | refine then_ret ?_ | refine then_exit ?_ | refine out_here ?_ | refine out_away rfl ?_ | refine out_normal ?_ | refine out_ret ?_ | refine round_exit ?_ | refine round_ret ?_ | refine meet_ret ?_ | refine meet_exit ?_ | (apply rh_no; iterate 4 exact rfl) | (apply rh_un; iterate 3 exact rfl) | (apply rh0; (case h => exact z0); (case hw => exact wt)) | (apply rh1; (case h => exact z1); (case hw => exact wt)) | (apply rhs; (case h => exact zs); (case hw => exact wt))
    refine ⟨.inl rfl, _, _, (by repeat first | exact .nil | apply ResL.cons | exact .tmp rfl | exact .agg rfl rfl rfl rfl rfl (Nat.le_of_ble_eq_true rfl) rfl | exact .cell rfl rfl rfl rfl rfl (Nat.le_of_ble_eq_true rfl) rfl), (by first | exact .one (by first | exact .one (.v (by first | rfl | (simp only [hF, slc]))) | exact .one (.own rfl rfl rfl rfl rfl rfl (by first | rfl | (simp only [hF, slc])) (by first | exact scal_ints _ | exact scal_slc _)) | exact .one (.nil (by decide) (by first | rfl | (simp only [hF, slc]))) | exact .agg (.cons (.v (by first | rfl | (simp only [hF, slc]))) (.cons (.v (by first | rfl | (simp only [hF, slc]))) (.cons (.own rfl rfl rfl rfl rfl rfl (by first | rfl | (simp only [hF, slc])) (scal_ints _)) .nil))) | exact .agg (.cons (.v (by first | rfl | (simp only [hF, slc]))) (.cons (.v (by first | rfl | (simp only [hF, slc]))) (.cons (.nil (by decide) (by first | rfl | (simp only [hF, slc]))) .nil))) | exact .agg (.cons (.v (by first | rfl | (simp only [hF, slc]))) (.cons (.v (by first | rfl | (simp only [hF, slc]))) .nil))) | exact .two (by repeat first | exact .nil | apply ExpL.cons | exact (by first | exact .one (.v (by first | rfl | (simp only [hF, slc]))) | exact .one (.own rfl rfl rfl rfl rfl rfl (by first | rfl | (simp only [hF, slc])) (by first | exact scal_ints _ | exact scal_slc _)) | exact .one (.nil (by decide) (by first | rfl | (simp only [hF, slc]))) | exact .agg (.cons (.v (by first | rfl | (simp only [hF, slc]))) (.cons (.v (by first | rfl | (simp only [hF, slc]))) (.cons (.own rfl rfl rfl rfl rfl rfl (by first | rfl | (simp only [hF, slc])) (scal_ints _)) .nil))) | exact .agg (.cons (.v (by first | rfl | (simp only [hF, slc]))) (.cons (.v (by first | rfl | (simp only [hF, slc]))) (.cons (.nil (by decide) (by first | rfl | (simp only [hF, slc]))) .nil))) | exact .agg (.cons (.v (by first | rfl | (simp only [hF, slc]))) (.cons (.v (by first | rfl | (simp only [hF, slc]))) .nil))))), (by decide)⟩
  have hz : gi h.cells (gi way 0).toNat = 0 := by simpa using hb3
  repeat first | refine ax_seq ?_ | refine ax_next ?_ | refine rg_text ?_ | refine rg_any mixed ?_ | refine ax_block ?_ | refine rh_nil ⟨(by kernel_rfl), ?_⟩ | refine rh_nil ?_ | refine ax_ret ?_ | refine ax_skip ?_ | refine ax_exit ?_ | refine ax_true rfl ?_ | refine ax_false rfl ?_ | refine then_ret ?_ | refine then_exit ?_ | refine out_here ?_ | refine out_away rfl ?_ | refine out_normal ?_ | refine out_ret ?_ | refine round_exit ?_ | refine round_ret ?_ | refine meet_ret ?_ | refine meet_exit ?_ | (apply rh_no; iterate 4 exact rfl) | (apply rh_un; iterate 3 exact rfl) | (apply rh0; (case h => exact z0); (case hw => exact wt)) | (apply rh1; (case h => exact z1); (case hw => exact wt)) | (apply rhs; (case h => exact zs); (case hw => exact wt))
  refine ax_loop (fun K : Nat => mkS [(5, .int (K : Int)), (1, intsV way), (2, .ptr 1 0 0)] ⟨2, [(1, some (hallRow h))]⟩) (fun K => 1 ≤ K ∧ K ≤ way.length ∧ ∀ j, j + 1 < K → apartAt h (gi way j) (gi way (j+1)) = 1) (fun K => way.length - K) (1) (⟨Nat.le_refl _, hne, fun j hj => by omega⟩) (weak_of [] (by repeat first | exact .nil | refine LeEs.cons ?_ ?_ | exact .v (by first | rfl | (rfl)) | exact .own rfl rfl rfl rfl rfl | exact .ptr rfl rfl rfl rfl rfl rfl | exact .nil rfl rfl rfl | exact .sl (by first | rfl | (rfl)) | exact .both rfl rfl | exact .frz rfl rfl rfl rfl rfl (by first | rfl | (rfl)) rfl | exact .any _) (by repeat first | exact .nil | refine LeHs.keep rfl ⟨rfl, rfl, rfl, .inl ⟨rfl, by first | rfl | (rfl)⟩⟩ ?_ | refine LeHs.keep rfl ⟨rfl, rfl, rfl, .inr ⟨(by first | exact .inl rfl | exact .inr rfl), by repeat first | exact .nil | refine LeVL.cons ?_ ?_ | exact .v (by first | rfl | (rfl)) | exact .own rfl rfl rfl rfl rfl | exact .sl (by first | rfl | (rfl)) | exact .both rfl rfl | exact .frz rfl rfl rfl rfl rfl (by first | rfl | (rfl)) rfl⟩⟩ ?_ | refine LeHs.fresh rfl rfl rfl (Nat.succ_pos _) rfl ?_) rfl rfl) ?_
  rintro K ⟨hK0, hK, hA⟩
  repeat first | refine ax_seq ?_ | refine ax_next ?_ | refine rg_text ?_ | refine rg_any mixed ?_ | refine ax_block ?_ | refine rh_nil ⟨(by kernel_rfl), ?_⟩ | refine rh_nil ?_ | refine ax_ret ?_ | refine ax_skip ?_ | refine ax_exit ?_ | refine ax_true rfl ?_ | refine ax_false rfl ?_ | refine then_ret ?_ | refine then_exit ?_ | refine out_here ?_ | refine out_away rfl ?_ | refine out_normal ?_ | refine out_ret ?_ | refine round_exit ?_ | refine round_ret ?_ | refine meet_ret ?_ | refine meet_exit ?_ | (apply rh_no; iterate 4 exact rfl) | (apply rh_un; iterate 3 exact rfl) | (apply rh0; (case h => exact z0); (case hw => exact wt)) | (apply rh1; (case h => exact z1); (case hw => exact wt)) | (apply rhs; (case h => exact zs); (case hw => exact wt))
  refine ax_cond rfl (fun hb4 => ?_) (fun hb4 => ?_)
  · have hlt : K < way.length := by simp at hb4; exact hb4
    obtain ⟨K1, rfl⟩ : ∃ K1, K = K1 + 1 := ⟨K - 1, by omega⟩
    repeat first | refine ax_seq ?_ | refine ax_next ?_ | refine rg_text ?_ | refine rg_any mixed ?_ | refine ax_block ?_ | refine rh_nil ⟨(by kernel_rfl), ?_⟩ | refine rh_nil ?_ | refine ax_ret ?_ | refine ax_skip ?_ | refine ax_exit ?_ | refine ax_true rfl ?_ | refine ax_false rfl ?_ | refine then_ret ?_ | refine then_exit ?_ | refine out_here ?_ | refine out_away rfl ?_ | refine out_normal ?_ | refine out_ret ?_ | refine round_exit ?_ | refine round_ret ?_ | refine meet_ret ?_ | refine meet_exit ?_ | (apply rh_no; iterate 4 exact rfl) | (apply rh_un; iterate 3 exact rfl) | (apply rh0; (case h => first | (apply st_call (hfn := cellsApart_fn h hl _ _ ); exact rfl; exact fz) | exact z0); (case hw => exact wt)) | (apply rh1; (case h => exact z1); (case hw => exact wt)) | (apply rhs; (case h => exact zs); (case hw => exact wt))
    refine ax_cond rfl (fun hb5 => ?_) (fun hb5 => ?_)
    · have hF : holeF h way = [] := hole_bad (holeOk_no (.inr (.inr (.inr (.inr (wayTo_no (k := K1) (by omega) (by simpa using hb5)))))))
      repeat first | refine ax_seq ?_ | refine ax_next ?_ | refine rg_text ?_ | refine rg_any mixed ?_ | refine ax_block ?_ | refine rh_nil ⟨(by kernel_rfl), ?_⟩ | refine rh_nil ?_ | refine ax_ret ?_ | refine ax_skip ?_ | refine ax_exit ?_ | refine ax_true rfl ?_ | refine ax_false rfl ?_ | refine then_ret ?_ | refine then_exit ?_ | refine out_here ?_ | refine out_away rfl ?_ | refine out_normal ?_ | refine out_ret ?_ | refine round_exit ?_ | refine round_ret ?_ | refine meet_ret ?_ | refine meet_exit ?_ | (apply rh_no; iterate 4 exact rfl) | (apply rh_un; iterate 3 exact rfl) | (apply rh0; (case h => exact z0); (case hw => exact wt)) | (apply rh1; (case h => exact z1); (case hw => exact wt)) | (apply rhs; (case h => exact zs); (case hw => exact wt))
      refine ⟨.inl rfl, _, _, (by repeat first | exact .nil | apply ResL.cons | exact .tmp rfl | exact .agg rfl rfl rfl rfl rfl (Nat.le_of_ble_eq_true rfl) rfl | exact .cell rfl rfl rfl rfl rfl (Nat.le_of_ble_eq_true rfl) rfl), (by first | exact .one (by first | exact .one (.v (by first | rfl | (simp only [hF, slc]))) | exact .one (.own rfl rfl rfl rfl rfl rfl (by first | rfl | (simp only [hF, slc])) (by first | exact scal_ints _ | exact scal_slc _)) | exact .one (.nil (by decide) (by first | rfl | (simp only [hF, slc]))) | exact .agg (.cons (.v (by first | rfl | (simp only [hF, slc]))) (.cons (.v (by first | rfl | (simp only [hF, slc]))) (.cons (.own rfl rfl rfl rfl rfl rfl (by first | rfl | (simp only [hF, slc])) (scal_ints _)) .nil))) | exact .agg (.cons (.v (by first | rfl | (simp only [hF, slc]))) (.cons (.v (by first | rfl | (simp only [hF, slc]))) (.cons (.nil (by decide) (by first | rfl | (simp only [hF, slc]))) .nil))) | exact .agg (.cons (.v (by first | rfl | (simp only [hF, slc]))) (.cons (.v (by first | rfl | (simp only [hF, slc]))) .nil))) | exact .two (by repeat first | exact .nil | apply ExpL.cons | exact (by first | exact .one (.v (by first | rfl | (simp only [hF, slc]))) | exact .one (.own rfl rfl rfl rfl rfl rfl (by first | rfl | (simp only [hF, slc])) (by first | exact scal_ints _ | exact scal_slc _)) | exact .one (.nil (by decide) (by first | rfl | (simp only [hF, slc]))) | exact .agg (.cons (.v (by first | rfl | (simp only [hF, slc]))) (.cons (.v (by first | rfl | (simp only [hF, slc]))) (.cons (.own rfl rfl rfl rfl rfl rfl (by first | rfl | (simp only [hF, slc])) (scal_ints _)) .nil))) | exact .agg (.cons (.v (by first | rfl | (simp only [hF, slc]))) (.cons (.v (by first | rfl | (simp only [hF, slc]))) (.cons (.nil (by decide) (by first | rfl | (simp only [hF, slc]))) .nil))) | exact .agg (.cons (.v (by first | rfl | (simp only [hF, slc]))) (.cons (.v (by first | rfl | (simp only [hF, slc]))) .nil))))), (by decide)⟩
    · have hap : apartAt h (gi way K1) (gi way (K1 + 1)) = 1 := by simpa using hb5
      repeat first | refine ax_seq ?_ | refine ax_next ?_ | refine rg_text ?_ | refine rg_any mixed ?_ | refine ax_block ?_ | refine rh_nil ⟨(by kernel_rfl), ?_⟩ | refine rh_nil ?_ | refine ax_ret ?_ | refine ax_skip ?_ | refine ax_exit ?_ | refine ax_true rfl ?_ | refine ax_false rfl ?_ | refine then_ret ?_ | refine then_exit ?_ | refine out_here ?_ | refine out_away rfl ?_ | refine out_normal ?_ | refine out_ret ?_ | refine round_exit ?_ | refine round_ret ?_ | refine meet_ret ?_ | refine meet_exit ?_ | (apply rh_no; iterate 4 exact rfl) | (apply rh_un; iterate 3 exact rfl) | (apply rh0; (case h => exact z0); (case hw => exact wt)) | (apply rh1; (case h => exact z1); (case hw => exact wt)) | (apply rhs; (case h => exact zs); (case hw => exact wt))
      refine round_next (K1 + 1 + 1) (⟨by omega, by omega, fun j hj => by by_cases e : j = K1; (subst e; exact hap); exact hA j (by omega)⟩) (by omega) (weak_of [] (by repeat first | exact .nil | refine LeEs.cons ?_ ?_ | exact .v (by first | rfl | (rfl)) | exact .own rfl rfl rfl rfl rfl | exact .ptr rfl rfl rfl rfl rfl rfl | exact .nil rfl rfl rfl | exact .sl (by first | rfl | (rfl)) | exact .both rfl rfl | exact .frz rfl rfl rfl rfl rfl (by first | rfl | (rfl)) rfl | exact .any _) (by repeat first | exact .nil | refine LeHs.keep rfl ⟨rfl, rfl, rfl, .inl ⟨rfl, by first | rfl | (rfl)⟩⟩ ?_ | refine LeHs.keep rfl ⟨rfl, rfl, rfl, .inr ⟨(by first | exact .inl rfl | exact .inr rfl), by repeat first | exact .nil | refine LeVL.cons ?_ ?_ | exact .v (by first | rfl | (rfl)) | exact .own rfl rfl rfl rfl rfl | exact .sl (by first | rfl | (rfl)) | exact .both rfl rfl | exact .frz rfl rfl rfl rfl rfl (by first | rfl | (rfl)) rfl⟩⟩ ?_ | refine LeHs.fresh rfl rfl rfl (Nat.succ_pos _) rfl ?_) rfl rfl)
  have hKn : K = way.length := by simp at hb4; omega
  have hok : holeOk h way = true := by simp [holeOk, hv, hne', hc, hz, wayTo_iff]; intro k hk; exact hA k (by omega)
  have hF : holeF h way = (holeS h.cells way (way.length - 1)).1 := by simp [holeF, hok]
  repeat first | refine ax_seq ?_ | refine ax_next ?_ | refine rg_text ?_ | refine rg_any mixed ?_ | refine ax_block ?_ | refine rh_nil ⟨(by kernel_rfl), ?_⟩ | refine rh_nil ?_ | refine ax_ret ?_ | refine ax_skip ?_ | refine ax_exit ?_ | refine ax_true rfl ?_ | refine ax_false rfl ?_ | refine then_ret ?_ | refine then_exit ?_ | refine out_here ?_ | refine out_away rfl ?_ | refine out_normal ?_ | refine out_ret ?_ | refine round_exit ?_ | refine round_ret ?_ | refine meet_ret ?_ | refine meet_exit ?_ | (apply rh_no; iterate 4 exact rfl) | (apply rh_un; iterate 3 exact rfl) | (apply rh0; (case h => exact z0); (case hw => exact wt)) | (apply rh1; (case h => first | (apply st_call_h (hfn := copyHall_fn h hl (valid_ne hv) ); exact rfl; exact fz; iterate 2 exact rfl) | exact z1); (case hw => exact wt)) | (apply rhs; (case h => exact zs); (case hw => exact wt))
  refine ax_loop (fun k : Nat => mkS [(8, .int ((k + 1 : Nat) : Int)), (6, .own 4 0), (7, .ptr 3 0 0), (1, intsV way)] ⟨5, [(4, some (slcRow (holeS h.cells way k).1)), (2, some (intsRow (holeS h.cells way k).2)), (3, some (boxRow h.wide h.deep 2 0))]⟩) (fun k => k + 1 ≤ way.length) (fun k => way.length - k) (0) (by omega) (weak_of [] (by repeat first | exact .nil | refine LeEs.cons ?_ ?_ | exact .v (by first | rfl | (rfl)) | exact .own rfl rfl rfl rfl rfl | exact .ptr rfl rfl rfl rfl rfl rfl | exact .nil rfl rfl rfl | exact .sl (by first | rfl | (rfl)) | exact .both rfl rfl | exact .frz rfl rfl rfl rfl rfl (by first | rfl | (rfl)) rfl | exact .any _) (by repeat first | exact .nil | refine LeHs.keep rfl ⟨rfl, rfl, rfl, .inl ⟨rfl, by first | rfl | (rfl)⟩⟩ ?_ | refine LeHs.keep rfl ⟨rfl, rfl, rfl, .inr ⟨(by first | exact .inl rfl | exact .inr rfl), by repeat first | exact .nil | refine LeVL.cons ?_ ?_ | exact .v (by first | rfl | (rfl)) | exact .own rfl rfl rfl rfl rfl | exact .sl (by first | rfl | (rfl)) | exact .both rfl rfl | exact .frz rfl rfl rfl rfl rfl (by first | rfl | (rfl)) rfl⟩⟩ ?_ | refine LeHs.fresh rfl rfl rfl (Nat.succ_pos _) rfl ?_) rfl rfl) ?_
  intro k hk
  have hH := hole_all hok k (by omega)
  have hm := hH.many
  have hlen := hH.len
  repeat first | refine ax_seq ?_ | refine ax_next ?_ | refine rg_text ?_ | refine rg_any mixed ?_ | refine ax_block ?_ | refine rh_nil ⟨(by kernel_rfl), ?_⟩ | refine rh_nil ?_ | refine ax_ret ?_ | refine ax_skip ?_ | refine ax_exit ?_ | refine ax_true rfl ?_ | refine ax_false rfl ?_ | refine then_ret ?_ | refine then_exit ?_ | refine out_here ?_ | refine out_away rfl ?_ | refine out_normal ?_ | refine out_ret ?_ | refine round_exit ?_ | refine round_ret ?_ | refine meet_ret ?_ | refine meet_exit ?_ | (apply rh_no; iterate 4 exact rfl) | (apply rh_un; iterate 3 exact rfl) | (apply rh0; (case h => exact z0); (case hw => exact wt)) | (apply rh1; (case h => exact z1); (case hw => exact wt)) | (apply rhs; (case h => exact zs); (case hw => exact wt))
  refine ax_cond rfl (fun hb6 => ?_) (fun hb6 => ?_)
  · have hlt : k + 1 < way.length := by simp at hb6; omega
    obtain ⟨_, _, _, _, hap⟩ := hole_ok hok
    obtain ⟨a1, a2, a3, a4⟩ := apartAt_cells (hap k hlt)
    have e1 := hasCell_iff.1 a1
    have e2 := hasCell_iff.1 a2
    repeat first | refine ax_seq ?_ | refine ax_next ?_ | refine rg_text ?_ | refine rg_any mixed ?_ | refine ax_block ?_ | refine rh_nil ⟨(by kernel_rfl), ?_⟩ | refine rh_nil ?_ | refine ax_ret ?_ | refine ax_skip ?_ | refine ax_exit ?_ | refine ax_true rfl ?_ | refine ax_false rfl ?_ | refine then_ret ?_ | refine then_exit ?_ | refine out_here ?_ | refine out_away rfl ?_ | refine out_normal ?_ | refine out_ret ?_ | refine round_exit ?_ | refine round_ret ?_ | refine meet_ret ?_ | refine meet_exit ?_ | (apply rh_no; iterate 4 exact rfl) | (apply rh_un; iterate 3 exact rfl) | (apply rh0; (case h => exact z0); (case hw => exact wt)) | (apply rh1; (case h => exact z1); (case hw => exact wt)) | (apply rhs; (case h => exact zs); (case hw => exact wt))
    refine ax_cond rfl (fun hb7 => ?_) (fun hb7 => ?_)
    · have hne2 : gi (holeS h.cells way k).2 (gi way (k+1)).toNat ≠ 0 := by simpa using hb7
      have hlen2 : ((holeS h.cells way k).2.set (gi way k).toNat (gi (holeS h.cells way k).2 (gi way (k+1)).toNat)).length = h.cells.length := by simp; exact hlen
      repeat first | refine ax_seq ?_ | refine ax_next ?_ | refine rg_text ?_ | refine rg_any mixed ?_ | refine ax_block ?_ | refine rh_nil ⟨(by kernel_rfl), ?_⟩ | refine rh_nil ?_ | refine ax_ret ?_ | refine ax_skip ?_ | refine ax_exit ?_ | refine ax_true rfl ?_ | refine ax_false rfl ?_ | refine then_ret ?_ | refine then_exit ?_ | refine out_here ?_ | refine out_away rfl ?_ | refine out_normal ?_ | refine out_ret ?_ | refine round_exit ?_ | refine round_ret ?_ | refine meet_ret ?_ | refine meet_exit ?_ | (apply rh_no; iterate 4 exact rfl) | (apply rh_un; iterate 3 exact rfl) | (apply rh0; (case h => exact z0); (case hw => exact wt)) | (apply rh1; (case h => exact z1); (case hw => exact wt)) | (apply rhs; (case h => exact zs); (case hw => exact wt))
      refine round_next (k + 1) (by omega) (by omega) (weak_of [] (by repeat first | exact .nil | refine LeEs.cons ?_ ?_ | exact .v (by first | rfl | (rw [holeS_yes hne2])) | exact .own rfl rfl rfl rfl rfl | exact .ptr rfl rfl rfl rfl rfl rfl | exact .nil rfl rfl rfl | exact .sl (by first | rfl | (rw [holeS_yes hne2])) | exact .both rfl rfl | exact .frz rfl rfl rfl rfl rfl (by first | rfl | (rw [holeS_yes hne2])) rfl | exact .any _) (by repeat first | exact .nil | refine LeHs.keep rfl ⟨rfl, rfl, rfl, .inl ⟨rfl, by first | rfl | (rw [holeS_yes hne2])⟩⟩ ?_ | refine LeHs.keep rfl ⟨rfl, rfl, rfl, .inr ⟨(by first | exact .inl rfl | exact .inr rfl), by repeat first | exact .nil | refine LeVL.cons ?_ ?_ | exact .v (by first | rfl | (rw [holeS_yes hne2])) | exact .own rfl rfl rfl rfl rfl | exact .sl (by first | rfl | (rw [holeS_yes hne2])) | exact .both rfl rfl | exact .frz rfl rfl rfl rfl rfl (by first | rfl | (rw [holeS_yes hne2])) rfl⟩⟩ ?_ | refine LeHs.fresh rfl rfl rfl (Nat.succ_pos _) rfl ?_) rfl rfl)
    · have hz2 : gi (holeS h.cells way k).2 (gi way (k+1)).toNat = 0 := by simpa using hb7
      repeat first | refine ax_seq ?_ | refine ax_next ?_ | refine rg_text ?_ | refine rg_any mixed ?_ | refine ax_block ?_ | refine rh_nil ⟨(by kernel_rfl), ?_⟩ | refine rh_nil ?_ | refine ax_ret ?_ | refine ax_skip ?_ | refine ax_exit ?_ | refine ax_true rfl ?_ | refine ax_false rfl ?_ | refine then_ret ?_ | refine then_exit ?_ | refine out_here ?_ | refine out_away rfl ?_ | refine out_normal ?_ | refine out_ret ?_ | refine round_exit ?_ | refine round_ret ?_ | refine meet_ret ?_ | refine meet_exit ?_ | (apply rh_no; iterate 4 exact rfl) | (apply rh_un; iterate 3 exact rfl) | (apply rh0; (case h => exact z0); (case hw => exact wt)) | (apply rh1; (case h => exact z1); (case hw => exact wt)) | (apply rhs; (case h => exact zs); (case hw => exact wt))
      refine round_next (k + 1) (by omega) (by omega) (weak_of [] (by repeat first | exact .nil | refine LeEs.cons ?_ ?_ | exact .v (by first | rfl | (rw [holeS_no hz2])) | exact .own rfl rfl rfl rfl rfl | exact .ptr rfl rfl rfl rfl rfl rfl | exact .nil rfl rfl rfl | exact .sl (by first | rfl | (rw [holeS_no hz2])) | exact .both rfl rfl | exact .frz rfl rfl rfl rfl rfl (by first | rfl | (rw [holeS_no hz2])) rfl | exact .any _) (by repeat first | exact .nil | refine LeHs.keep rfl ⟨rfl, rfl, rfl, .inl ⟨rfl, by first | rfl | (rw [holeS_no hz2])⟩⟩ ?_ | refine LeHs.keep rfl ⟨rfl, rfl, rfl, .inr ⟨(by first | exact .inl rfl | exact .inr rfl), by repeat first | exact .nil | refine LeVL.cons ?_ ?_ | exact .v (by first | rfl | (rw [holeS_no hz2])) | exact .own rfl rfl rfl rfl rfl | exact .sl (by first | rfl | (rw [holeS_no hz2])) | exact .both rfl rfl | exact .frz rfl rfl rfl rfl rfl (by first | rfl | (rw [holeS_no hz2])) rfl⟩⟩ ?_ | refine LeHs.fresh rfl rfl rfl (Nat.succ_pos _) rfl ?_) rfl rfl)
  · have hkn : k + 1 = way.length := by simp at hb6; omega
    repeat first | refine ax_seq ?_ | refine ax_next ?_ | refine rg_text ?_ | refine rg_any mixed ?_ | refine ax_block ?_ | refine rh_nil ⟨(by kernel_rfl), ?_⟩ | refine rh_nil ?_ | refine ax_ret ?_ | refine ax_skip ?_ | refine ax_exit ?_ | refine ax_true rfl ?_ | refine ax_false rfl ?_ | refine then_ret ?_ | refine then_exit ?_ | refine out_here ?_ | refine out_away rfl ?_ | refine out_normal ?_ | refine out_ret ?_ | refine round_exit ?_ | refine round_ret ?_ | refine meet_ret ?_ | refine meet_exit ?_ | (apply rh_no; iterate 4 exact rfl) | (apply rh_un; iterate 3 exact rfl) | (apply rh0; (case h => exact z0); (case hw => exact wt)) | (apply rh1; (case h => exact z1); (case hw => exact wt)) | (apply rhs; (case h => exact zs); (case hw => exact wt))
    refine ⟨.inl rfl, _, _, (by repeat first | exact .nil | apply ResL.cons | exact .tmp rfl | exact .agg rfl rfl rfl rfl rfl (Nat.le_of_ble_eq_true rfl) rfl | exact .cell rfl rfl rfl rfl rfl (Nat.le_of_ble_eq_true rfl) rfl), (by first | exact .one (by first | exact .one (.v (by first | rfl | (rw [hF, ← hkn]; rfl))) | exact .one (.own rfl rfl rfl rfl rfl rfl (by first | rfl | (rw [hF, ← hkn]; rfl)) (by first | exact scal_ints _ | exact scal_slc _)) | exact .one (.nil (by decide) (by first | rfl | (rw [hF, ← hkn]; rfl))) | exact .agg (.cons (.v (by first | rfl | (rw [hF, ← hkn]; rfl))) (.cons (.v (by first | rfl | (rw [hF, ← hkn]; rfl))) (.cons (.own rfl rfl rfl rfl rfl rfl (by first | rfl | (rw [hF, ← hkn]; rfl)) (scal_ints _)) .nil))) | exact .agg (.cons (.v (by first | rfl | (rw [hF, ← hkn]; rfl))) (.cons (.v (by first | rfl | (rw [hF, ← hkn]; rfl))) (.cons (.nil (by decide) (by first | rfl | (rw [hF, ← hkn]; rfl))) .nil))) | exact .agg (.cons (.v (by first | rfl | (rw [hF, ← hkn]; rfl))) (.cons (.v (by first | rfl | (rw [hF, ← hkn]; rfl))) .nil))) | exact .two (by repeat first | exact .nil | apply ExpL.cons | exact (by first | exact .one (.v (by first | rfl | (rw [hF, ← hkn]; rfl))) | exact .one (.own rfl rfl rfl rfl rfl rfl (by first | rfl | (rw [hF, ← hkn]; rfl)) (by first | exact scal_ints _ | exact scal_slc _)) | exact .one (.nil (by decide) (by first | rfl | (rw [hF, ← hkn]; rfl))) | exact .agg (.cons (.v (by first | rfl | (rw [hF, ← hkn]; rfl))) (.cons (.v (by first | rfl | (rw [hF, ← hkn]; rfl))) (.cons (.own rfl rfl rfl rfl rfl rfl (by first | rfl | (rw [hF, ← hkn]; rfl)) (scal_ints _)) .nil))) | exact .agg (.cons (.v (by first | rfl | (rw [hF, ← hkn]; rfl))) (.cons (.v (by first | rfl | (rw [hF, ← hkn]; rfl))) (.cons (.nil (by decide) (by first | rfl | (rw [hF, ← hkn]; rfl))) .nil))) | exact .agg (.cons (.v (by first | rfl | (rw [hF, ← hkn]; rfl))) (.cons (.v (by first | rfl | (rw [hF, ← hkn]; rfl))) .nil))))), (by decide)⟩
end Go.Proofs.YtjdgbdakkdljmaaDoor
namespace Go.Proofs.YtjdgbdakkdljmaaDoor
open Go Go.RowKit Go.Park Go.Sym

theorem hasCell_in {h : PHall} {c : Int} : hasCellB h c = inR c 0 ((h.cells.length : Int) - 1) := rfl

def wayB (h : PHall) (way : List Int) : Bool := wayTo h way (way.length - 1) && (validB h && (decide (way ≠ []) && hasCellB h (gi way 0)))
set_option maxHeartbeats 1000000 in
theorem l2Way_fn (h : PHall) (hl : h.cells.length ≤ lim) (way : List Int) (hw : way.length ≤ lim) : FnS Tryd.prog 90 [hallV h, intsV way] (.bool (wayB h way)) := by
  have hl' : h.cells.length ≤ 1073741824 := hl
  have hw' : way.length ≤ 1073741824 := hw
  refine fn_go2 tabOk Tryd.func90 rfl (by kernel_rfl) Tryd.ntmps90 Tryd.results90 (by decide) ?_
  repeat first | refine ax_seq ?_ | refine ax_next ?_ | refine rg_text ?_ | refine rg_any mixed ?_ | refine ax_block ?_ | refine rh_nil ⟨(by kernel_rfl), ?_⟩ | refine rh_nil ?_ | refine ax_ret ?_ | refine ax_skip ?_ | refine ax_exit ?_ | refine ax_true rfl ?_ | refine ax_false rfl ?_ | refine then_ret ?_ | refine then_exit ?_ | refine out_here ?_ | refine out_away rfl ?_ | refine out_normal ?_ | refine out_ret ?_ | refine round_exit ?_ | refine round_ret ?_ | refine meet_ret ?_ | refine meet_exit ?_ | (apply rh_no; iterate 4 exact rfl) | (apply rh_un; iterate 3 exact rfl) | (apply rh0; (case h => exact z0); (case hw => exact wt)) | (apply rh1; (case h => exact z1); (case hw => exact wt)) | (apply rhs; (case h => exact zs); (case hw => exact wt))
  refine ax_loop (fun K : Nat => mkS [(5, .int (K : Int)), (1, intsV way), (2, .ptr 1 0 0)] ⟨2, [(1, some (hallRow h))]⟩) (fun K => 1 ≤ K ∧ (K ≤ way.length ∨ K = 1) ∧ ∀ j, j + 1 < K → apartAt h (gi way j) (gi way (j+1)) = 1) (fun K => way.length - K) (1) (⟨Nat.le_refl _, .inr rfl, fun j hj => by omega⟩) (weak_of [] (by repeat first | exact .nil | refine LeEs.cons ?_ ?_ | exact .v (by first | rfl | (rfl)) | exact .own rfl rfl rfl rfl rfl | exact .ptr rfl rfl rfl rfl rfl rfl | exact .nil rfl rfl rfl | exact .sl (by first | rfl | (rfl)) | exact .both rfl rfl | exact .frz rfl rfl rfl rfl rfl (by first | rfl | (rfl)) rfl | exact .any _) (by repeat first | exact .nil | refine LeHs.keep rfl ⟨rfl, rfl, rfl, .inl ⟨rfl, by first | rfl | (rfl)⟩⟩ ?_ | refine LeHs.keep rfl ⟨rfl, rfl, rfl, .inr ⟨(by first | exact .inl rfl | exact .inr rfl), by repeat first | exact .nil | refine LeVL.cons ?_ ?_ | exact .v (by first | rfl | (rfl)) | exact .own rfl rfl rfl rfl rfl | exact .sl (by first | rfl | (rfl)) | exact .both rfl rfl | exact .frz rfl rfl rfl rfl rfl (by first | rfl | (rfl)) rfl⟩⟩ ?_ | refine LeHs.fresh rfl rfl rfl (Nat.succ_pos _) rfl ?_) rfl rfl) ?_
  rintro K ⟨hK0, hK, hA⟩
  repeat first | refine ax_seq ?_ | refine ax_next ?_ | refine rg_text ?_ | refine rg_any mixed ?_ | refine ax_block ?_ | refine rh_nil ⟨(by kernel_rfl), ?_⟩ | refine rh_nil ?_ | refine ax_ret ?_ | refine ax_skip ?_ | refine ax_exit ?_ | refine ax_true rfl ?_ | refine ax_false rfl ?_ | refine then_ret ?_ | refine then_exit ?_ | refine out_here ?_ | refine out_away rfl ?_ | refine out_normal ?_ | refine out_ret ?_ | refine round_exit ?_ | refine round_ret ?_ | refine meet_ret ?_ | refine meet_exit ?_ | (apply rh_no; iterate 4 exact rfl) | (apply rh_un; iterate 3 exact rfl) | (apply rh0; (case h => exact z0); (case hw => exact wt)) | (apply rh1; (case h => exact z1); (case hw => exact wt)) | (apply rhs; (case h => exact zs); (case hw => exact wt))
  refine ax_cond rfl (fun hb1 => ?_) (fun hb1 => ?_)
  · have hlt : K < way.length := by simp at hb1; exact hb1
    obtain ⟨K1, rfl⟩ : ∃ K1, K = K1 + 1 := ⟨K - 1, by omega⟩
    repeat first | refine ax_seq ?_ | refine ax_next ?_ | refine rg_text ?_ | refine rg_any mixed ?_ | refine ax_block ?_ | refine rh_nil ⟨(by kernel_rfl), ?_⟩ | refine rh_nil ?_ | refine ax_ret ?_ | refine ax_skip ?_ | refine ax_exit ?_ | refine ax_true rfl ?_ | refine ax_false rfl ?_ | refine then_ret ?_ | refine then_exit ?_ | refine out_here ?_ | refine out_away rfl ?_ | refine out_normal ?_ | refine out_ret ?_ | refine round_exit ?_ | refine round_ret ?_ | refine meet_ret ?_ | refine meet_exit ?_ | (apply rh_no; iterate 4 exact rfl) | (apply rh_un; iterate 3 exact rfl) | (apply rh0; (case h => first | (apply st_call (hfn := specCellsApart_fn h hl _ _ ); exact rfl; exact fz) | exact z0); (case hw => exact wt)) | (apply rh1; (case h => exact z1); (case hw => exact wt)) | (apply rhs; (case h => exact zs); (case hw => exact wt))
    refine ax_cond rfl (fun hb2 => ?_) (fun hb2 => ?_)
    · have hF : wayB h way = false := by simp [wayB, wayTo_no (h := h) (way := way) (n := way.length - 1) (k := K1) (by omega) (by simpa using hb2)]
      repeat first | refine ax_seq ?_ | refine ax_next ?_ | refine rg_text ?_ | refine rg_any mixed ?_ | refine ax_block ?_ | refine rh_nil ⟨(by kernel_rfl), ?_⟩ | refine rh_nil ?_ | refine ax_ret ?_ | refine ax_skip ?_ | refine ax_exit ?_ | refine ax_true rfl ?_ | refine ax_false rfl ?_ | refine then_ret ?_ | refine then_exit ?_ | refine out_here ?_ | refine out_away rfl ?_ | refine out_normal ?_ | refine out_ret ?_ | refine round_exit ?_ | refine round_ret ?_ | refine meet_ret ?_ | refine meet_exit ?_ | (apply rh_no; iterate 4 exact rfl) | (apply rh_un; iterate 3 exact rfl) | (apply rh0; (case h => exact z0); (case hw => exact wt)) | (apply rh1; (case h => exact z1); (case hw => exact wt)) | (apply rhs; (case h => exact zs); (case hw => exact wt))
      refine ⟨.inl rfl, _, _, (by repeat first | exact .nil | apply ResL.cons | exact .tmp rfl | exact .agg rfl rfl rfl rfl rfl (Nat.le_of_ble_eq_true rfl) rfl | exact .cell rfl rfl rfl rfl rfl (Nat.le_of_ble_eq_true rfl) rfl), (by first | exact .one (by first | exact .one (.v (by first | rfl | (rw [hF]))) | exact .one (.own rfl rfl rfl rfl rfl rfl (by first | rfl | (rw [hF])) (by first | exact scal_ints _ | exact scal_slc _)) | exact .one (.nil (by decide) (by first | rfl | (rw [hF]))) | exact .agg (.cons (.v (by first | rfl | (rw [hF]))) (.cons (.v (by first | rfl | (rw [hF]))) (.cons (.own rfl rfl rfl rfl rfl rfl (by first | rfl | (rw [hF])) (scal_ints _)) .nil))) | exact .agg (.cons (.v (by first | rfl | (rw [hF]))) (.cons (.v (by first | rfl | (rw [hF]))) (.cons (.nil (by decide) (by first | rfl | (rw [hF]))) .nil))) | exact .agg (.cons (.v (by first | rfl | (rw [hF]))) (.cons (.v (by first | rfl | (rw [hF]))) .nil))) | exact .two (by repeat first | exact .nil | apply ExpL.cons | exact (by first | exact .one (.v (by first | rfl | (rw [hF]))) | exact .one (.own rfl rfl rfl rfl rfl rfl (by first | rfl | (rw [hF])) (by first | exact scal_ints _ | exact scal_slc _)) | exact .one (.nil (by decide) (by first | rfl | (rw [hF]))) | exact .agg (.cons (.v (by first | rfl | (rw [hF]))) (.cons (.v (by first | rfl | (rw [hF]))) (.cons (.own rfl rfl rfl rfl rfl rfl (by first | rfl | (rw [hF])) (scal_ints _)) .nil))) | exact .agg (.cons (.v (by first | rfl | (rw [hF]))) (.cons (.v (by first | rfl | (rw [hF]))) (.cons (.nil (by decide) (by first | rfl | (rw [hF]))) .nil))) | exact .agg (.cons (.v (by first | rfl | (rw [hF]))) (.cons (.v (by first | rfl | (rw [hF]))) .nil))))), (by decide)⟩
    · have hap : apartAt h (gi way K1) (gi way (K1 + 1)) = 1 := by simpa using hb2
      repeat first | refine ax_seq ?_ | refine ax_next ?_ | refine rg_text ?_ | refine rg_any mixed ?_ | refine ax_block ?_ | refine rh_nil ⟨(by kernel_rfl), ?_⟩ | refine rh_nil ?_ | refine ax_ret ?_ | refine ax_skip ?_ | refine ax_exit ?_ | refine ax_true rfl ?_ | refine ax_false rfl ?_ | refine then_ret ?_ | refine then_exit ?_ | refine out_here ?_ | refine out_away rfl ?_ | refine out_normal ?_ | refine out_ret ?_ | refine round_exit ?_ | refine round_ret ?_ | refine meet_ret ?_ | refine meet_exit ?_ | (apply rh_no; iterate 4 exact rfl) | (apply rh_un; iterate 3 exact rfl) | (apply rh0; (case h => exact z0); (case hw => exact wt)) | (apply rh1; (case h => exact z1); (case hw => exact wt)) | (apply rhs; (case h => exact zs); (case hw => exact wt))
      refine round_next (K1 + 1 + 1) (⟨by omega, .inl (by omega), fun j hj => by by_cases e : j = K1; (subst e; exact hap); exact hA j (by omega)⟩) (by omega) (weak_of [] (by repeat first | exact .nil | refine LeEs.cons ?_ ?_ | exact .v (by first | rfl | (rfl)) | exact .own rfl rfl rfl rfl rfl | exact .ptr rfl rfl rfl rfl rfl rfl | exact .nil rfl rfl rfl | exact .sl (by first | rfl | (rfl)) | exact .both rfl rfl | exact .frz rfl rfl rfl rfl rfl (by first | rfl | (rfl)) rfl | exact .any _) (by repeat first | exact .nil | refine LeHs.keep rfl ⟨rfl, rfl, rfl, .inl ⟨rfl, by first | rfl | (rfl)⟩⟩ ?_ | refine LeHs.keep rfl ⟨rfl, rfl, rfl, .inr ⟨(by first | exact .inl rfl | exact .inr rfl), by repeat first | exact .nil | refine LeVL.cons ?_ ?_ | exact .v (by first | rfl | (rfl)) | exact .own rfl rfl rfl rfl rfl | exact .sl (by first | rfl | (rfl)) | exact .both rfl rfl | exact .frz rfl rfl rfl rfl rfl (by first | rfl | (rfl)) rfl⟩⟩ ?_ | refine LeHs.fresh rfl rfl rfl (Nat.succ_pos _) rfl ?_) rfl rfl)
  have hwt : wayTo h way (way.length - 1) = true := wayTo_iff.2 fun k hk => hA k (by simp at hb1; omega)
  repeat first | refine ax_seq ?_ | refine ax_next ?_ | refine rg_text ?_ | refine rg_any mixed ?_ | refine ax_block ?_ | refine rh_nil ⟨(by kernel_rfl), ?_⟩ | refine rh_nil ?_ | refine ax_ret ?_ | refine ax_skip ?_ | refine ax_exit ?_ | refine ax_true rfl ?_ | refine ax_false rfl ?_ | refine then_ret ?_ | refine then_exit ?_ | refine out_here ?_ | refine out_away rfl ?_ | refine out_normal ?_ | refine out_ret ?_ | refine round_exit ?_ | refine round_ret ?_ | refine meet_ret ?_ | refine meet_exit ?_ | (apply rh_no; iterate 4 exact rfl) | (apply rh_un; iterate 3 exact rfl) | (apply rh0; (case h => first | (apply st_call (hfn := specHallValid_fn h hl ); exact rfl; exact fz) | exact z0); (case hw => exact wt)) | (apply rh1; (case h => exact z1); (case hw => exact wt)) | (apply rhs; (case h => exact zs); (case hw => exact wt))
  refine rh_split rfl rfl (fun hb2 => ?_) (fun hb2 => ?_)
  · repeat first | refine ax_seq ?_ | refine ax_next ?_ | refine rg_text ?_ | refine rg_any mixed ?_ | refine ax_block ?_ | refine rh_nil ⟨(by kernel_rfl), ?_⟩ | refine rh_nil ?_ | refine ax_ret ?_ | refine ax_skip ?_ | refine ax_exit ?_ | refine ax_true rfl ?_ | refine ax_false rfl ?_ | refine then_ret ?_ | refine then_exit ?_ | refine out_here ?_ | refine out_away rfl ?_ | refine out_normal ?_ | refine out_ret ?_ | refine round_exit ?_ | refine round_ret ?_ | refine meet_ret ?_ | refine meet_exit ?_ | (apply rh_no; iterate 4 exact rfl) | (apply rh_un; iterate 3 exact rfl) | (apply rh0; (case h => exact z0); (case hw => exact wt)) | (apply rh1; (case h => exact z1); (case hw => exact wt)) | (apply rhs; (case h => exact zs); (case hw => exact wt))
    refine rh_split rfl rfl (fun hb3 => ?_) (fun hb3 => ?_)
    · have hne : 0 < way.length := by simp at hb3; omega
      have hne' : way ≠ [] := List.length_pos_iff.1 hne
      repeat first | refine ax_seq ?_ | refine ax_next ?_ | refine rg_text ?_ | refine rg_any mixed ?_ | refine ax_block ?_ | refine rh_nil ⟨(by kernel_rfl), ?_⟩ | refine rh_nil ?_ | refine ax_ret ?_ | refine ax_skip ?_ | refine ax_exit ?_ | refine ax_true rfl ?_ | refine ax_false rfl ?_ | refine then_ret ?_ | refine then_exit ?_ | refine out_here ?_ | refine out_away rfl ?_ | refine out_normal ?_ | refine out_ret ?_ | refine round_exit ?_ | refine round_ret ?_ | refine meet_ret ?_ | refine meet_exit ?_ | (apply rh_no; iterate 4 exact rfl) | (apply rh_un; iterate 3 exact rfl) | (apply rh0; (case h => first | (apply st_call (hfn := l1In_fn _ _ _ ); exact rfl; exact fz) | exact z0); (case hw => exact wt)) | (apply rh1; (case h => exact z1); (case hw => exact wt)) | (apply rhs; (case h => exact zs); (case hw => exact wt))
      refine ⟨.inl rfl, _, _, (by repeat first | exact .nil | apply ResL.cons | exact .tmp rfl | exact .agg rfl rfl rfl rfl rfl (Nat.le_of_ble_eq_true rfl) rfl | exact .cell rfl rfl rfl rfl rfl (Nat.le_of_ble_eq_true rfl) rfl), (by first | exact .one (by first | exact .one (.v (by first | rfl | ((simp [wayB, hwt, hb2, hne', hasCell_in])))) | exact .one (.own rfl rfl rfl rfl rfl rfl (by first | rfl | ((simp [wayB, hwt, hb2, hne', hasCell_in]))) (by first | exact scal_ints _ | exact scal_slc _)) | exact .one (.nil (by decide) (by first | rfl | ((simp [wayB, hwt, hb2, hne', hasCell_in])))) | exact .agg (.cons (.v (by first | rfl | ((simp [wayB, hwt, hb2, hne', hasCell_in])))) (.cons (.v (by first | rfl | ((simp [wayB, hwt, hb2, hne', hasCell_in])))) (.cons (.own rfl rfl rfl rfl rfl rfl (by first | rfl | ((simp [wayB, hwt, hb2, hne', hasCell_in]))) (scal_ints _)) .nil))) | exact .agg (.cons (.v (by first | rfl | ((simp [wayB, hwt, hb2, hne', hasCell_in])))) (.cons (.v (by first | rfl | ((simp [wayB, hwt, hb2, hne', hasCell_in])))) (.cons (.nil (by decide) (by first | rfl | ((simp [wayB, hwt, hb2, hne', hasCell_in])))) .nil))) | exact .agg (.cons (.v (by first | rfl | ((simp [wayB, hwt, hb2, hne', hasCell_in])))) (.cons (.v (by first | rfl | ((simp [wayB, hwt, hb2, hne', hasCell_in])))) .nil))) | exact .two (by repeat first | exact .nil | apply ExpL.cons | exact (by first | exact .one (.v (by first | rfl | ((simp [wayB, hwt, hb2, hne', hasCell_in])))) | exact .one (.own rfl rfl rfl rfl rfl rfl (by first | rfl | ((simp [wayB, hwt, hb2, hne', hasCell_in]))) (by first | exact scal_ints _ | exact scal_slc _)) | exact .one (.nil (by decide) (by first | rfl | ((simp [wayB, hwt, hb2, hne', hasCell_in])))) | exact .agg (.cons (.v (by first | rfl | ((simp [wayB, hwt, hb2, hne', hasCell_in])))) (.cons (.v (by first | rfl | ((simp [wayB, hwt, hb2, hne', hasCell_in])))) (.cons (.own rfl rfl rfl rfl rfl rfl (by first | rfl | ((simp [wayB, hwt, hb2, hne', hasCell_in]))) (scal_ints _)) .nil))) | exact .agg (.cons (.v (by first | rfl | ((simp [wayB, hwt, hb2, hne', hasCell_in])))) (.cons (.v (by first | rfl | ((simp [wayB, hwt, hb2, hne', hasCell_in])))) (.cons (.nil (by decide) (by first | rfl | ((simp [wayB, hwt, hb2, hne', hasCell_in])))) .nil))) | exact .agg (.cons (.v (by first | rfl | ((simp [wayB, hwt, hb2, hne', hasCell_in])))) (.cons (.v (by first | rfl | ((simp [wayB, hwt, hb2, hne', hasCell_in])))) .nil))))), (by decide)⟩
    · repeat first | refine ax_seq ?_ | refine ax_next ?_ | refine rg_text ?_ | refine rg_any mixed ?_ | refine ax_block ?_ | refine rh_nil ⟨(by kernel_rfl), ?_⟩ | refine rh_nil ?_ | refine ax_ret ?_ | refine ax_skip ?_ | refine ax_exit ?_ | refine ax_true rfl ?_ | refine ax_false rfl ?_ | refine then_ret ?_ | refine then_exit ?_ | refine out_here ?_ | refine out_away rfl ?_ | refine out_normal ?_ | refine out_ret ?_ | refine round_exit ?_ | refine round_ret ?_ | refine meet_ret ?_ | refine meet_exit ?_ | (apply rh_no; iterate 4 exact rfl) | (apply rh_un; iterate 3 exact rfl) | (apply rh0; (case h => exact z0); (case hw => exact wt)) | (apply rh1; (case h => exact z1); (case hw => exact wt)) | (apply rhs; (case h => exact zs); (case hw => exact wt))
      refine ⟨.inl rfl, _, _, (by repeat first | exact .nil | apply ResL.cons | exact .tmp rfl | exact .agg rfl rfl rfl rfl rfl (Nat.le_of_ble_eq_true rfl) rfl | exact .cell rfl rfl rfl rfl rfl (Nat.le_of_ble_eq_true rfl) rfl), (by first | exact .one (by first | exact .one (.v (by first | rfl | ((simp at hb3; simp [wayB, hb2, hb3])))) | exact .one (.own rfl rfl rfl rfl rfl rfl (by first | rfl | ((simp at hb3; simp [wayB, hb2, hb3]))) (by first | exact scal_ints _ | exact scal_slc _)) | exact .one (.nil (by decide) (by first | rfl | ((simp at hb3; simp [wayB, hb2, hb3])))) | exact .agg (.cons (.v (by first | rfl | ((simp at hb3; simp [wayB, hb2, hb3])))) (.cons (.v (by first | rfl | ((simp at hb3; simp [wayB, hb2, hb3])))) (.cons (.own rfl rfl rfl rfl rfl rfl (by first | rfl | ((simp at hb3; simp [wayB, hb2, hb3]))) (scal_ints _)) .nil))) | exact .agg (.cons (.v (by first | rfl | ((simp at hb3; simp [wayB, hb2, hb3])))) (.cons (.v (by first | rfl | ((simp at hb3; simp [wayB, hb2, hb3])))) (.cons (.nil (by decide) (by first | rfl | ((simp at hb3; simp [wayB, hb2, hb3])))) .nil))) | exact .agg (.cons (.v (by first | rfl | ((simp at hb3; simp [wayB, hb2, hb3])))) (.cons (.v (by first | rfl | ((simp at hb3; simp [wayB, hb2, hb3])))) .nil))) | exact .two (by repeat first | exact .nil | apply ExpL.cons | exact (by first | exact .one (.v (by first | rfl | ((simp at hb3; simp [wayB, hb2, hb3])))) | exact .one (.own rfl rfl rfl rfl rfl rfl (by first | rfl | ((simp at hb3; simp [wayB, hb2, hb3]))) (by first | exact scal_ints _ | exact scal_slc _)) | exact .one (.nil (by decide) (by first | rfl | ((simp at hb3; simp [wayB, hb2, hb3])))) | exact .agg (.cons (.v (by first | rfl | ((simp at hb3; simp [wayB, hb2, hb3])))) (.cons (.v (by first | rfl | ((simp at hb3; simp [wayB, hb2, hb3])))) (.cons (.own rfl rfl rfl rfl rfl rfl (by first | rfl | ((simp at hb3; simp [wayB, hb2, hb3]))) (scal_ints _)) .nil))) | exact .agg (.cons (.v (by first | rfl | ((simp at hb3; simp [wayB, hb2, hb3])))) (.cons (.v (by first | rfl | ((simp at hb3; simp [wayB, hb2, hb3])))) (.cons (.nil (by decide) (by first | rfl | ((simp at hb3; simp [wayB, hb2, hb3])))) .nil))) | exact .agg (.cons (.v (by first | rfl | ((simp at hb3; simp [wayB, hb2, hb3])))) (.cons (.v (by first | rfl | ((simp at hb3; simp [wayB, hb2, hb3])))) .nil))))), (by decide)⟩
  · repeat first | refine ax_seq ?_ | refine ax_next ?_ | refine rg_text ?_ | refine rg_any mixed ?_ | refine ax_block ?_ | refine rh_nil ⟨(by kernel_rfl), ?_⟩ | refine rh_nil ?_ | refine ax_ret ?_ | refine ax_skip ?_ | refine ax_exit ?_ | refine ax_true rfl ?_ | refine ax_false rfl ?_ | refine then_ret ?_ | refine then_exit ?_ | refine out_here ?_ | refine out_away rfl ?_ | refine out_normal ?_ | refine out_ret ?_ | refine round_exit ?_ | refine round_ret ?_ | refine meet_ret ?_ | refine meet_exit ?_ | (apply rh_no; iterate 4 exact rfl) | (apply rh_un; iterate 3 exact rfl) | (apply rh0; (case h => exact z0); (case hw => exact wt)) | (apply rh1; (case h => exact z1); (case hw => exact wt)) | (apply rhs; (case h => exact zs); (case hw => exact wt))
    refine ⟨.inl rfl, _, _, (by repeat first | exact .nil | apply ResL.cons | exact .tmp rfl | exact .agg rfl rfl rfl rfl rfl (Nat.le_of_ble_eq_true rfl) rfl | exact .cell rfl rfl rfl rfl rfl (Nat.le_of_ble_eq_true rfl) rfl), (by first | exact .one (by first | exact .one (.v (by first | rfl | (simp [wayB, hb2]))) | exact .one (.own rfl rfl rfl rfl rfl rfl (by first | rfl | (simp [wayB, hb2])) (by first | exact scal_ints _ | exact scal_slc _)) | exact .one (.nil (by decide) (by first | rfl | (simp [wayB, hb2]))) | exact .agg (.cons (.v (by first | rfl | (simp [wayB, hb2]))) (.cons (.v (by first | rfl | (simp [wayB, hb2]))) (.cons (.own rfl rfl rfl rfl rfl rfl (by first | rfl | (simp [wayB, hb2])) (scal_ints _)) .nil))) | exact .agg (.cons (.v (by first | rfl | (simp [wayB, hb2]))) (.cons (.v (by first | rfl | (simp [wayB, hb2]))) (.cons (.nil (by decide) (by first | rfl | (simp [wayB, hb2]))) .nil))) | exact .agg (.cons (.v (by first | rfl | (simp [wayB, hb2]))) (.cons (.v (by first | rfl | (simp [wayB, hb2]))) .nil))) | exact .two (by repeat first | exact .nil | apply ExpL.cons | exact (by first | exact .one (.v (by first | rfl | (simp [wayB, hb2]))) | exact .one (.own rfl rfl rfl rfl rfl rfl (by first | rfl | (simp [wayB, hb2])) (by first | exact scal_ints _ | exact scal_slc _)) | exact .one (.nil (by decide) (by first | rfl | (simp [wayB, hb2]))) | exact .agg (.cons (.v (by first | rfl | (simp [wayB, hb2]))) (.cons (.v (by first | rfl | (simp [wayB, hb2]))) (.cons (.own rfl rfl rfl rfl rfl rfl (by first | rfl | (simp [wayB, hb2])) (scal_ints _)) .nil))) | exact .agg (.cons (.v (by first | rfl | (simp [wayB, hb2]))) (.cons (.v (by first | rfl | (simp [wayB, hb2]))) (.cons (.nil (by decide) (by first | rfl | (simp [wayB, hb2]))) .nil))) | exact .agg (.cons (.v (by first | rfl | (simp [wayB, hb2]))) (.cons (.v (by first | rfl | (simp [wayB, hb2]))) .nil))))), (by decide)⟩
set_option maxHeartbeats 2000000 in
theorem specHoleSlides_fn (h : PHall) (hl : h.cells.length ≤ lim) (way : List Int) (hw : way.length ≤ lim) : FnS Tryd.prog 52 [hallV h, intsV way] (slcV (holeF h way)) := by
  have hl' : h.cells.length ≤ 1073741824 := hl
  have hw' : way.length ≤ 1073741824 := hw
  refine fn_go2 tabOk Tryd.func52 rfl (by kernel_rfl) Tryd.ntmps52 Tryd.results52 (by decide) ?_
  repeat first | refine ax_seq ?_ | refine ax_next ?_ | refine rg_text ?_ | refine rg_any mixed ?_ | refine ax_block ?_ | refine rh_nil ⟨(by kernel_rfl), ?_⟩ | refine rh_nil ?_ | refine ax_ret ?_ | refine ax_skip ?_ | refine ax_exit ?_ | refine ax_true rfl ?_ | refine ax_false rfl ?_ | refine then_ret ?_ | refine then_exit ?_ | refine out_here ?_ | refine out_away rfl ?_ | refine out_normal ?_ | refine out_ret ?_ | refine round_exit ?_ | refine round_ret ?_ | refine meet_ret ?_ | refine meet_exit ?_ | (apply rh_no; iterate 4 exact rfl) | (apply rh_un; iterate 3 exact rfl) | (apply rh0; (case h => first | (apply st_call (hfn := l2Way_fn h hl way hw ); exact rfl; exact fz) | exact z0); (case hw => exact wt)) | (apply rh1; (case h => exact z1); (case hw => exact wt)) | (apply rhs; (case h => exact zs); (case hw => exact wt))
  refine rh_split rfl rfl (fun hb => ?_) (fun hb => ?_)
  · have hF : holeF h way = [] := hole_bad (by
      cases hq : holeOk h way with
      | false => rfl
      | true =>
        simp only [holeOk, Bool.and_eq_true] at hq
        simp [wayB, hq.1, hq.2.1, hq.2.2.1, hq.2.2.2.2] at hb)
    repeat first | refine ax_seq ?_ | refine ax_next ?_ | refine rg_text ?_ | refine rg_any mixed ?_ | refine ax_block ?_ | refine rh_nil ⟨(by kernel_rfl), ?_⟩ | refine rh_nil ?_ | refine ax_ret ?_ | refine ax_skip ?_ | refine ax_exit ?_ | refine ax_true rfl ?_ | refine ax_false rfl ?_ | refine then_ret ?_ | refine then_exit ?_ | refine out_here ?_ | refine out_away rfl ?_ | refine out_normal ?_ | refine out_ret ?_ | refine round_exit ?_ | refine round_ret ?_ | refine meet_ret ?_ | refine meet_exit ?_ | (apply rh_no; iterate 4 exact rfl) | (apply rh_un; iterate 3 exact rfl) | (apply rh0; (case h => exact z0); (case hw => exact wt)) | (apply rh1; (case h => exact z1); (case hw => exact wt)) | (apply rhs; (case h => exact zs); (case hw => exact wt))
    refine ⟨.inl rfl, _, _, (by repeat first | exact .nil | apply ResL.cons | exact .tmp rfl | exact .agg rfl rfl rfl rfl rfl (Nat.le_of_ble_eq_true rfl) rfl | exact .cell rfl rfl rfl rfl rfl (Nat.le_of_ble_eq_true rfl) rfl), (by first | exact .one (by first | exact .one (.v (by first | rfl | (simp only [hF, slc]))) | exact .one (.own rfl rfl rfl rfl rfl rfl (by first | rfl | (simp only [hF, slc])) (by first | exact scal_ints _ | exact scal_slc _)) | exact .one (.nil (by decide) (by first | rfl | (simp only [hF, slc]))) | exact .agg (.cons (.v (by first | rfl | (simp only [hF, slc]))) (.cons (.v (by first | rfl | (simp only [hF, slc]))) (.cons (.own rfl rfl rfl rfl rfl rfl (by first | rfl | (simp only [hF, slc])) (scal_ints _)) .nil))) | exact .agg (.cons (.v (by first | rfl | (simp only [hF, slc]))) (.cons (.v (by first | rfl | (simp only [hF, slc]))) (.cons (.nil (by decide) (by first | rfl | (simp only [hF, slc]))) .nil))) | exact .agg (.cons (.v (by first | rfl | (simp only [hF, slc]))) (.cons (.v (by first | rfl | (simp only [hF, slc]))) .nil))) | exact .two (by repeat first | exact .nil | apply ExpL.cons | exact (by first | exact .one (.v (by first | rfl | (simp only [hF, slc]))) | exact .one (.own rfl rfl rfl rfl rfl rfl (by first | rfl | (simp only [hF, slc])) (by first | exact scal_ints _ | exact scal_slc _)) | exact .one (.nil (by decide) (by first | rfl | (simp only [hF, slc]))) | exact .agg (.cons (.v (by first | rfl | (simp only [hF, slc]))) (.cons (.v (by first | rfl | (simp only [hF, slc]))) (.cons (.own rfl rfl rfl rfl rfl rfl (by first | rfl | (simp only [hF, slc])) (scal_ints _)) .nil))) | exact .agg (.cons (.v (by first | rfl | (simp only [hF, slc]))) (.cons (.v (by first | rfl | (simp only [hF, slc]))) (.cons (.nil (by decide) (by first | rfl | (simp only [hF, slc]))) .nil))) | exact .agg (.cons (.v (by first | rfl | (simp only [hF, slc]))) (.cons (.v (by first | rfl | (simp only [hF, slc]))) .nil))))), (by decide)⟩
  have hwb : wayB h way = true := by simpa using hb
  simp only [wayB, Bool.and_eq_true, decide_eq_true_eq] at hwb
  obtain ⟨hwt, hv, hne', hc⟩ := hwb
  have hne : 0 < way.length := List.length_pos_iff.2 hne'
  have hcr := hasCell_iff.1 hc
  repeat first | refine ax_seq ?_ | refine ax_next ?_ | refine rg_text ?_ | refine rg_any mixed ?_ | refine ax_block ?_ | refine rh_nil ⟨(by kernel_rfl), ?_⟩ | refine rh_nil ?_ | refine ax_ret ?_ | refine ax_skip ?_ | refine ax_exit ?_ | refine ax_true rfl ?_ | refine ax_false rfl ?_ | refine then_ret ?_ | refine then_exit ?_ | refine out_here ?_ | refine out_away rfl ?_ | refine out_normal ?_ | refine out_ret ?_ | refine round_exit ?_ | refine round_ret ?_ | refine meet_ret ?_ | refine meet_exit ?_ | (apply rh_no; iterate 4 exact rfl) | (apply rh_un; iterate 3 exact rfl) | (apply rh0; (case h => exact z0); (case hw => exact wt)) | (apply rh1; (case h => exact z1); (case hw => exact wt)) | (apply rhs; (case h => exact zs); (case hw => exact wt))
  refine ax_cond rfl (fun hb3 => ?_) (fun hb3 => ?_)
  · have hF : holeF h way = [] := by simp at hb3; simp [holeF, holeOk, hb3]
    repeat first | refine ax_seq ?_ | refine ax_next ?_ | refine rg_text ?_ | refine rg_any mixed ?_ | refine ax_block ?_ | refine rh_nil ⟨(by kernel_rfl), ?_⟩ | refine rh_nil ?_ | refine ax_ret ?_ | refine ax_skip ?_ | refine ax_exit ?_ | refine ax_true rfl ?_ | refine ax_false rfl ?_ | refine then_ret ?_ | refine then_exit ?_ | refine out_here ?_ | refine out_away rfl ?_ | refine out_normal ?_ | refine out_ret ?_ | refine round_exit ?_ | refine round_ret ?_ | refine meet_ret ?_ | refine meet_exit ?_ | (apply rh_no; iterate 4 exact rfl) | (apply rh_un; iterate 3 exact rfl) | (apply rh0; (case h => exact z0); (case hw => exact wt)) | (apply rh1; (case h => exact z1); (case hw => exact wt)) | (apply rhs; (case h => exact zs); (case hw => exact wt))
    refine ⟨.inl rfl, _, _, (by repeat first | exact .nil | apply ResL.cons | exact .tmp rfl | exact .agg rfl rfl rfl rfl rfl (Nat.le_of_ble_eq_true rfl) rfl | exact .cell rfl rfl rfl rfl rfl (Nat.le_of_ble_eq_true rfl) rfl), (by first | exact .one (by first | exact .one (.v (by first | rfl | (simp only [hF, slc]))) | exact .one (.own rfl rfl rfl rfl rfl rfl (by first | rfl | (simp only [hF, slc])) (by first | exact scal_ints _ | exact scal_slc _)) | exact .one (.nil (by decide) (by first | rfl | (simp only [hF, slc]))) | exact .agg (.cons (.v (by first | rfl | (simp only [hF, slc]))) (.cons (.v (by first | rfl | (simp only [hF, slc]))) (.cons (.own rfl rfl rfl rfl rfl rfl (by first | rfl | (simp only [hF, slc])) (scal_ints _)) .nil))) | exact .agg (.cons (.v (by first | rfl | (simp only [hF, slc]))) (.cons (.v (by first | rfl | (simp only [hF, slc]))) (.cons (.nil (by decide) (by first | rfl | (simp only [hF, slc]))) .nil))) | exact .agg (.cons (.v (by first | rfl | (simp only [hF, slc]))) (.cons (.v (by first | rfl | (simp only [hF, slc]))) .nil))) | exact .two (by repeat first | exact .nil | apply ExpL.cons | exact (by first | exact .one (.v (by first | rfl | (simp only [hF, slc]))) | exact .one (.own rfl rfl rfl rfl rfl rfl (by first | rfl | (simp only [hF, slc])) (by first | exact scal_ints _ | exact scal_slc _)) | exact .one (.nil (by decide) (by first | rfl | (simp only [hF, slc]))) | exact .agg (.cons (.v (by first | rfl | (simp only [hF, slc]))) (.cons (.v (by first | rfl | (simp only [hF, slc]))) (.cons (.own rfl rfl rfl rfl rfl rfl (by first | rfl | (simp only [hF, slc])) (scal_ints _)) .nil))) | exact .agg (.cons (.v (by first | rfl | (simp only [hF, slc]))) (.cons (.v (by first | rfl | (simp only [hF, slc]))) (.cons (.nil (by decide) (by first | rfl | (simp only [hF, slc]))) .nil))) | exact .agg (.cons (.v (by first | rfl | (simp only [hF, slc]))) (.cons (.v (by first | rfl | (simp only [hF, slc]))) .nil))))), (by decide)⟩
  have hz : gi h.cells (gi way 0).toNat = 0 := by simpa using hb3
  have hok : holeOk h way = true := by simp [holeOk, hv, hne', hc, hz, hwt]
  have hF : holeF h way = (holeS h.cells way (way.length - 1)).1 := by simp [holeF, hok]
  repeat first | refine ax_seq ?_ | refine ax_next ?_ | refine rg_text ?_ | refine rg_any mixed ?_ | refine ax_block ?_ | refine rh_nil ⟨(by kernel_rfl), ?_⟩ | refine rh_nil ?_ | refine ax_ret ?_ | refine ax_skip ?_ | refine ax_exit ?_ | refine ax_true rfl ?_ | refine ax_false rfl ?_ | refine then_ret ?_ | refine then_exit ?_ | refine out_here ?_ | refine out_away rfl ?_ | refine out_normal ?_ | refine out_ret ?_ | refine round_exit ?_ | refine round_ret ?_ | refine meet_ret ?_ | refine meet_exit ?_ | (apply rh_no; iterate 4 exact rfl) | (apply rh_un; iterate 3 exact rfl) | (apply rh0; (case h => exact z0); (case hw => exact wt)) | (apply rh1; (case h => first | (apply st_call_h (hfn := l1Hall_fn h hl (valid_ne hv) ); exact rfl; exact fz; iterate 2 exact rfl) | exact z1); (case hw => exact wt)) | (apply rhs; (case h => exact zs); (case hw => exact wt))
  refine ax_loop (fun k : Nat => mkS [(7, .int ((k + 1 : Nat) : Int)), (5, .own 2 0), (6, .ptr 4 0 0), (1, intsV way)] ⟨5, [(2, some (slcRow (holeS h.cells way k).1)), (3, some (intsRow (holeS h.cells way k).2)), (4, some (boxRow h.wide h.deep 3 0))]⟩) (fun k => k + 1 ≤ way.length) (fun k => way.length - k) (0) (by omega) (weak_of [] (by repeat first | exact .nil | refine LeEs.cons ?_ ?_ | exact .v (by first | rfl | (rfl)) | exact .own rfl rfl rfl rfl rfl | exact .ptr rfl rfl rfl rfl rfl rfl | exact .nil rfl rfl rfl | exact .sl (by first | rfl | (rfl)) | exact .both rfl rfl | exact .frz rfl rfl rfl rfl rfl (by first | rfl | (rfl)) rfl | exact .any _) (by repeat first | exact .nil | refine LeHs.keep rfl ⟨rfl, rfl, rfl, .inl ⟨rfl, by first | rfl | (rfl)⟩⟩ ?_ | refine LeHs.keep rfl ⟨rfl, rfl, rfl, .inr ⟨(by first | exact .inl rfl | exact .inr rfl), by repeat first | exact .nil | refine LeVL.cons ?_ ?_ | exact .v (by first | rfl | (rfl)) | exact .own rfl rfl rfl rfl rfl | exact .sl (by first | rfl | (rfl)) | exact .both rfl rfl | exact .frz rfl rfl rfl rfl rfl (by first | rfl | (rfl)) rfl⟩⟩ ?_ | refine LeHs.fresh rfl rfl rfl (Nat.succ_pos _) rfl ?_) rfl rfl) ?_
  intro k hk
  have hH := hole_all hok k (by omega)
  have hm := hH.many
  have hlen := hH.len
  repeat first | refine ax_seq ?_ | refine ax_next ?_ | refine rg_text ?_ | refine rg_any mixed ?_ | refine ax_block ?_ | refine rh_nil ⟨(by kernel_rfl), ?_⟩ | refine rh_nil ?_ | refine ax_ret ?_ | refine ax_skip ?_ | refine ax_exit ?_ | refine ax_true rfl ?_ | refine ax_false rfl ?_ | refine then_ret ?_ | refine then_exit ?_ | refine out_here ?_ | refine out_away rfl ?_ | refine out_normal ?_ | refine out_ret ?_ | refine round_exit ?_ | refine round_ret ?_ | refine meet_ret ?_ | refine meet_exit ?_ | (apply rh_no; iterate 4 exact rfl) | (apply rh_un; iterate 3 exact rfl) | (apply rh0; (case h => exact z0); (case hw => exact wt)) | (apply rh1; (case h => exact z1); (case hw => exact wt)) | (apply rhs; (case h => exact zs); (case hw => exact wt))
  refine ax_cond rfl (fun hb6 => ?_) (fun hb6 => ?_)
  · have hlt : k + 1 < way.length := by simp at hb6; omega
    have hS := specSlideDo_fn ⟨h.wide, h.deep, (holeS h.cells way k).2⟩ (by show (holeS h.cells way k).2.length ≤ lim; omega) (gi way (k+1)) (gi way k)
    rw [hole_slide hok hlt] at hS
    dsimp only at hS
    repeat first | refine ax_seq ?_ | refine ax_next ?_ | refine rg_text ?_ | refine rg_any mixed ?_ | refine ax_block ?_ | refine rh_nil ⟨(by kernel_rfl), ?_⟩ | refine rh_nil ?_ | refine ax_ret ?_ | refine ax_skip ?_ | refine ax_exit ?_ | refine ax_true rfl ?_ | refine ax_false rfl ?_ | refine then_ret ?_ | refine then_exit ?_ | refine out_here ?_ | refine out_away rfl ?_ | refine out_normal ?_ | refine out_ret ?_ | refine round_exit ?_ | refine round_ret ?_ | refine meet_ret ?_ | refine meet_exit ?_ | (apply rh_no; iterate 4 exact rfl) | (apply rh_un; iterate 3 exact rfl) | (apply rh0; (case h => exact z0); (case hw => exact wt)) | (apply rh1; (case h => first | (apply st_call_hv (hfn := hS ); exact rfl; exact fz; iterate 2 exact rfl) | exact z1); (case hw => exact wt)) | (apply rhs; (case h => exact zs); (case hw => exact wt))
    refine ax_cond rfl (fun hb7 => ?_) (fun hb7 => ?_)
    · have hne2 : gi (holeS h.cells way k).2 (gi way (k+1)).toNat ≠ 0 := by simpa using hb7
      repeat first | refine ax_seq ?_ | refine ax_next ?_ | refine rg_text ?_ | refine rg_any mixed ?_ | refine ax_block ?_ | refine rh_nil ⟨(by kernel_rfl), ?_⟩ | refine rh_nil ?_ | refine ax_ret ?_ | refine ax_skip ?_ | refine ax_exit ?_ | refine ax_true rfl ?_ | refine ax_false rfl ?_ | refine then_ret ?_ | refine then_exit ?_ | refine out_here ?_ | refine out_away rfl ?_ | refine out_normal ?_ | refine out_ret ?_ | refine round_exit ?_ | refine round_ret ?_ | refine meet_ret ?_ | refine meet_exit ?_ | (apply rh_no; iterate 4 exact rfl) | (apply rh_un; iterate 3 exact rfl) | (apply rh0; (case h => exact z0); (case hw => exact wt)) | (apply rh1; (case h => exact z1); (case hw => exact wt)) | (apply rhs; (case h => exact zs); (case hw => exact wt))
      refine round_next (k + 1) (by omega) (by omega) (weak_of [(3, 6)] (by repeat first | exact .nil | refine LeEs.cons ?_ ?_ | exact .v (by first | rfl | (rw [holeS_yes hne2])) | exact .own rfl rfl rfl rfl rfl | exact .ptr rfl rfl rfl rfl rfl rfl | exact .nil rfl rfl rfl | exact .sl (by first | rfl | (rw [holeS_yes hne2])) | exact .both rfl rfl | exact .frz rfl rfl rfl rfl rfl (by first | rfl | (rw [holeS_yes hne2])) rfl | exact .any _) (by repeat first | exact .nil | refine LeHs.keep rfl ⟨rfl, rfl, rfl, .inl ⟨rfl, by first | rfl | (rw [holeS_yes hne2])⟩⟩ ?_ | refine LeHs.keep rfl ⟨rfl, rfl, rfl, .inr ⟨(by first | exact .inl rfl | exact .inr rfl), by repeat first | exact .nil | refine LeVL.cons ?_ ?_ | exact .v (by first | rfl | (rw [holeS_yes hne2])) | exact .own rfl rfl rfl rfl rfl | exact .sl (by first | rfl | (rw [holeS_yes hne2])) | exact .both rfl rfl | exact .frz rfl rfl rfl rfl rfl (by first | rfl | (rw [holeS_yes hne2])) rfl⟩⟩ ?_ | refine LeHs.fresh rfl rfl rfl (Nat.succ_pos _) rfl ?_) rfl rfl)
    · have hz2 : gi (holeS h.cells way k).2 (gi way (k+1)).toNat = 0 := by simpa using hb7
      repeat first | refine ax_seq ?_ | refine ax_next ?_ | refine rg_text ?_ | refine rg_any mixed ?_ | refine ax_block ?_ | refine rh_nil ⟨(by kernel_rfl), ?_⟩ | refine rh_nil ?_ | refine ax_ret ?_ | refine ax_skip ?_ | refine ax_exit ?_ | refine ax_true rfl ?_ | refine ax_false rfl ?_ | refine then_ret ?_ | refine then_exit ?_ | refine out_here ?_ | refine out_away rfl ?_ | refine out_normal ?_ | refine out_ret ?_ | refine round_exit ?_ | refine round_ret ?_ | refine meet_ret ?_ | refine meet_exit ?_ | (apply rh_no; iterate 4 exact rfl) | (apply rh_un; iterate 3 exact rfl) | (apply rh0; (case h => exact z0); (case hw => exact wt)) | (apply rh1; (case h => exact z1); (case hw => exact wt)) | (apply rhs; (case h => exact zs); (case hw => exact wt))
      refine round_next (k + 1) (by omega) (by omega) (weak_of [] (by repeat first | exact .nil | refine LeEs.cons ?_ ?_ | exact .v (by first | rfl | (rw [holeS_no hz2])) | exact .own rfl rfl rfl rfl rfl | exact .ptr rfl rfl rfl rfl rfl rfl | exact .nil rfl rfl rfl | exact .sl (by first | rfl | (rw [holeS_no hz2])) | exact .both rfl rfl | exact .frz rfl rfl rfl rfl rfl (by first | rfl | (rw [holeS_no hz2])) rfl | exact .any _) (by repeat first | exact .nil | refine LeHs.keep rfl ⟨rfl, rfl, rfl, .inl ⟨rfl, by first | rfl | (rw [holeS_no hz2])⟩⟩ ?_ | refine LeHs.keep rfl ⟨rfl, rfl, rfl, .inr ⟨(by first | exact .inl rfl | exact .inr rfl), by repeat first | exact .nil | refine LeVL.cons ?_ ?_ | exact .v (by first | rfl | (rw [holeS_no hz2])) | exact .own rfl rfl rfl rfl rfl | exact .sl (by first | rfl | (rw [holeS_no hz2])) | exact .both rfl rfl | exact .frz rfl rfl rfl rfl rfl (by first | rfl | (rw [holeS_no hz2])) rfl⟩⟩ ?_ | refine LeHs.fresh rfl rfl rfl (Nat.succ_pos _) rfl ?_) rfl rfl)
  · have hkn : k + 1 = way.length := by simp at hb6; omega
    repeat first | refine ax_seq ?_ | refine ax_next ?_ | refine rg_text ?_ | refine rg_any mixed ?_ | refine ax_block ?_ | refine rh_nil ⟨(by kernel_rfl), ?_⟩ | refine rh_nil ?_ | refine ax_ret ?_ | refine ax_skip ?_ | refine ax_exit ?_ | refine ax_true rfl ?_ | refine ax_false rfl ?_ | refine then_ret ?_ | refine then_exit ?_ | refine out_here ?_ | refine out_away rfl ?_ | refine out_normal ?_ | refine out_ret ?_ | refine round_exit ?_ | refine round_ret ?_ | refine meet_ret ?_ | refine meet_exit ?_ | (apply rh_no; iterate 4 exact rfl) | (apply rh_un; iterate 3 exact rfl) | (apply rh0; (case h => exact z0); (case hw => exact wt)) | (apply rh1; (case h => exact z1); (case hw => exact wt)) | (apply rhs; (case h => exact zs); (case hw => exact wt))
    refine ⟨.inl rfl, _, _, (by repeat first | exact .nil | apply ResL.cons | exact .tmp rfl | exact .agg rfl rfl rfl rfl rfl (Nat.le_of_ble_eq_true rfl) rfl | exact .cell rfl rfl rfl rfl rfl (Nat.le_of_ble_eq_true rfl) rfl), (by first | exact .one (by first | exact .one (.v (by first | rfl | (rw [hF, ← hkn]; rfl))) | exact .one (.own rfl rfl rfl rfl rfl rfl (by first | rfl | (rw [hF, ← hkn]; rfl)) (by first | exact scal_ints _ | exact scal_slc _)) | exact .one (.nil (by decide) (by first | rfl | (rw [hF, ← hkn]; rfl))) | exact .agg (.cons (.v (by first | rfl | (rw [hF, ← hkn]; rfl))) (.cons (.v (by first | rfl | (rw [hF, ← hkn]; rfl))) (.cons (.own rfl rfl rfl rfl rfl rfl (by first | rfl | (rw [hF, ← hkn]; rfl)) (scal_ints _)) .nil))) | exact .agg (.cons (.v (by first | rfl | (rw [hF, ← hkn]; rfl))) (.cons (.v (by first | rfl | (rw [hF, ← hkn]; rfl))) (.cons (.nil (by decide) (by first | rfl | (rw [hF, ← hkn]; rfl))) .nil))) | exact .agg (.cons (.v (by first | rfl | (rw [hF, ← hkn]; rfl))) (.cons (.v (by first | rfl | (rw [hF, ← hkn]; rfl))) .nil))) | exact .two (by repeat first | exact .nil | apply ExpL.cons | exact (by first | exact .one (.v (by first | rfl | (rw [hF, ← hkn]; rfl))) | exact .one (.own rfl rfl rfl rfl rfl rfl (by first | rfl | (rw [hF, ← hkn]; rfl)) (by first | exact scal_ints _ | exact scal_slc _)) | exact .one (.nil (by decide) (by first | rfl | (rw [hF, ← hkn]; rfl))) | exact .agg (.cons (.v (by first | rfl | (rw [hF, ← hkn]; rfl))) (.cons (.v (by first | rfl | (rw [hF, ← hkn]; rfl))) (.cons (.own rfl rfl rfl rfl rfl rfl (by first | rfl | (rw [hF, ← hkn]; rfl)) (scal_ints _)) .nil))) | exact .agg (.cons (.v (by first | rfl | (rw [hF, ← hkn]; rfl))) (.cons (.v (by first | rfl | (rw [hF, ← hkn]; rfl))) (.cons (.nil (by decide) (by first | rfl | (rw [hF, ← hkn]; rfl))) .nil))) | exact .agg (.cons (.v (by first | rfl | (rw [hF, ← hkn]; rfl))) (.cons (.v (by first | rfl | (rw [hF, ← hkn]; rfl))) .nil))))), (by decide)⟩
end Go.Proofs.YtjdgbdakkdljmaaDoor
namespace Go.Proofs.YtjdgbdakkdljmaaDoor
open Go Go.RowKit Go.Park Go.Sym

theorem holeF_len {h : PHall} {way : List Int} : (holeF h way).length ≤ way.length := by
  unfold holeF
  split
  · rename_i ho
    have hne := (hole_ok ho).2.1
    have : 0 < way.length := List.length_pos_iff.2 hne
    have := (hole_all ho (way.length - 1) (by omega)).many
    omega
  · simp
/-- the hall behind the first k slides, where each is done -/
def stS (h : PHall) (l : List (Int × Int)) : Nat → PHall
  | 0 => h
  | k+1 => (slideDoF (stS h l k) (gs l k).1 (gs l k).2).1
def runF : PHall → List (Int × Int) → PHall × Nat
  | h, [] => (h, 0)
  | h, s :: l => if (slideDoF h s.1 s.2).2 = true then ((runF (slideDoF h s.1 s.2).1 l).1, (runF (slideDoF h s.1 s.2).1 l).2 + 1) else (h, 0)
def doneS (h : PHall) (l : List (Int × Int)) (k : Nat) : Prop := ∀ j, j < k → (slideDoF (stS h l j) (gs l j).1 (gs l j).2).2 = true
theorem stS_cons (h : PHall) (s : Int × Int) (l : List (Int × Int)) : ∀ k, stS h (s :: l) (k+1) = stS (slideDoF h s.1 s.2).1 l k
  | 0 => rfl
  | k+1 => by
    show (slideDoF (stS h (s :: l) (k+1)) _ _).1 = (slideDoF (stS (slideDoF h s.1 s.2).1 l k) _ _).1
    rw [stS_cons h s l k]
    rfl
theorem runF_end : ∀ {l : List (Int × Int)} {h : PHall}, doneS h l l.length → runF h l = (stS h l l.length, l.length)
  | [], h, _ => rfl
  | s :: l, h, hd => by
    have h0 : (slideDoF h s.1 s.2).2 = true := hd 0 (by simp)
    have h1 : doneS (slideDoF h s.1 s.2).1 l l.length := fun j hj => by
      have := hd (j+1) (by simp; omega)
      rw [stS_cons] at this
      exact this
    simp only [runF, if_pos h0, runF_end h1, List.length_cons, stS_cons]
theorem runF_stop : ∀ {l : List (Int × Int)} {h : PHall} {k : Nat}, doneS h l k → k < l.length → (slideDoF (stS h l k) (gs l k).1 (gs l k).2).2 = false → runF h l = (stS h l k, k)
  | [], h, k, _, hk, _ => by simp at hk
  | s :: l, h, 0, _, _, hf => by
    have : ¬ (slideDoF h s.1 s.2).2 = true := by
      have e : (slideDoF h s.1 s.2).2 = false := hf
      simp [e]
    simp only [runF, if_neg this]
    rfl
  | s :: l, h, k+1, hd, hk, hf => by
    have h0 : (slideDoF h s.1 s.2).2 = true := hd 0 (by simp)
    have h1 : doneS (slideDoF h s.1 s.2).1 l k := fun j hj => by
      have := hd (j+1) (by omega)
      rw [stS_cons] at this
      exact this
    rw [stS_cons] at hf
    simp only [runF, if_pos h0, runF_stop h1 (by simpa using hk) hf, stS_cons]
theorem stS_ok {h : PHall} {l : List (Int × Int)} (hv : validB h = true) : ∀ k, validB (stS h l k) = true ∧ (stS h l k).cells.length = h.cells.length ∧ (stS h l k).wide = h.wide ∧ (stS h l k).deep = h.deep
  | 0 => ⟨hv, rfl, rfl, rfl⟩
  | k+1 => by
    obtain ⟨h1, h2, h3, h4⟩ := stS_ok (l := l) hv k
    obtain ⟨e1, e2, e3⟩ := slideDo_len h1 (gs l k).1 (gs l k).2
    exact ⟨slideDo_valid h1 _ _, e1.trans h2, e2.trans h3, e3.trans h4⟩
theorem runF_ok : ∀ {l : List (Int × Int)} {h : PHall}, validB h = true → validB (runF h l).1 = true ∧ (runF h l).1.cells.length = h.cells.length ∧ (runF h l).1.wide = h.wide ∧ (runF h l).1.deep = h.deep ∧ (runF h l).2 ≤ l.length
  | [], h, hv => ⟨hv, rfl, rfl, rfl, Nat.le_refl _⟩
  | s :: l, h, hv => by
    simp only [runF]
    split
    · obtain ⟨h1, h2, h3, h4, h5⟩ := runF_ok (l := l) (slideDo_valid hv s.1 s.2)
      obtain ⟨e1, e2, e3⟩ := slideDo_len hv s.1 s.2
      exact ⟨h1, h2.trans e1, h3.trans e2, h4.trans e3, by simpa using h5⟩
    · exact ⟨hv, rfl, rfl, rfl, by simp⟩
def slideRunF (h : PHall) (l : List (Int × Int)) : PHall × Int := if validB h = true ∧ l.length ≤ 60 then ((runF h l).1, ((runF h l).2 : Int)) else (zeroHall, 0)
theorem slideRunF_len {h : PHall} {l : List (Int × Int)} : (slideRunF h l).1.cells.length ≤ h.cells.length := by
  unfold slideRunF
  split
  · rename_i hh
    rw [(runF_ok hh.1).2.1]
    exact Nat.le_refl _
  · simp [zeroHall]

set_option maxHeartbeats 2000000 in
theorem slideRun_fn (h : PHall) (hl : h.cells.length ≤ lim) (l : List (Int × Int)) (hw : l.length ≤ lim) : FnS Tryd.prog 38 [hallV h, slcV l] (.tup [hallV (slideRunF h l).1, .int (slideRunF h l).2]) := by
  have hl' : h.cells.length ≤ 1073741824 := hl
  have hw' : l.length ≤ 1073741824 := hw
  refine fn_go2 tabOk Tryd.func38 rfl (by kernel_rfl) Tryd.ntmps38 Tryd.results38 (by decide) ?_
  repeat first | refine ax_seq ?_ | refine ax_next ?_ | refine rg_text ?_ | refine rg_any mixed ?_ | refine ax_block ?_ | refine rh_nil ⟨(by kernel_rfl), ?_⟩ | refine rh_nil ?_ | refine ax_ret ?_ | refine ax_skip ?_ | refine ax_exit ?_ | refine ax_true rfl ?_ | refine ax_false rfl ?_ | refine then_ret ?_ | refine then_exit ?_ | refine out_here ?_ | refine out_away rfl ?_ | refine out_normal ?_ | refine out_ret ?_ | refine round_exit ?_ | refine round_ret ?_ | refine meet_ret ?_ | refine meet_exit ?_ | (apply rh_no; iterate 4 exact rfl) | (apply rh_un; iterate 3 exact rfl) | (apply rh0; (case h => first | (apply st_call (hfn := hallValid_fn h hl ); exact rfl; exact fz) | exact z0); (case hw => exact wt)) | (apply rh1; (case h => exact z1); (case hw => exact wt)) | (apply rhs; (case h => exact zs); (case hw => exact wt))
  refine rh_split rfl rfl (fun hb => ?_) (fun hb => ?_)
  · have hF : slideRunF h l = (zeroHall, 0) := by simp at hb; simp [slideRunF, hb]
    rw [hF]
    repeat first | refine ax_seq ?_ | refine ax_next ?_ | refine rg_text ?_ | refine rg_any mixed ?_ | refine ax_block ?_ | refine rh_nil ⟨(by kernel_rfl), ?_⟩ | refine rh_nil ?_ | refine ax_ret ?_ | refine ax_skip ?_ | refine ax_exit ?_ | refine ax_true rfl ?_ | refine ax_false rfl ?_ | refine then_ret ?_ | refine then_exit ?_ | refine out_here ?_ | refine out_away rfl ?_ | refine out_normal ?_ | refine out_ret ?_ | refine round_exit ?_ | refine round_ret ?_ | refine meet_ret ?_ | refine meet_exit ?_ | (apply rh_no; iterate 4 exact rfl) | (apply rh_un; iterate 3 exact rfl) | (apply rh0; (case h => exact z0); (case hw => exact wt)) | (apply rh1; (case h => exact z1); (case hw => exact wt)) | (apply rhs; (case h => exact zs); (case hw => exact wt))
    refine ⟨.inl rfl, _, _, (by repeat first | exact .nil | apply ResL.cons | exact .tmp rfl | exact .agg rfl rfl rfl rfl rfl (Nat.le_of_ble_eq_true rfl) rfl | exact .cell rfl rfl rfl rfl rfl (Nat.le_of_ble_eq_true rfl) rfl), (by first | exact .one (by first | exact .one (.v rfl) | exact .one (.own rfl rfl rfl rfl rfl rfl rfl (by first | exact scal_ints _ | exact scal_slc _)) | exact .one (.nil (by decide) rfl) | exact .agg (.cons (.v rfl) (.cons (.v rfl) (.cons (.own rfl rfl rfl rfl rfl rfl rfl (scal_ints _)) .nil))) | exact .agg (.cons (.v rfl) (.cons (.v rfl) (.cons (.nil (by decide) rfl) .nil))) | exact .agg (.cons (.v rfl) (.cons (.v rfl) .nil))) | exact .two (by repeat first | exact .nil | apply ExpL.cons | exact (by first | exact .one (.v rfl) | exact .one (.own rfl rfl rfl rfl rfl rfl rfl (by first | exact scal_ints _ | exact scal_slc _)) | exact .one (.nil (by decide) rfl) | exact .agg (.cons (.v rfl) (.cons (.v rfl) (.cons (.own rfl rfl rfl rfl rfl rfl rfl (scal_ints _)) .nil))) | exact .agg (.cons (.v rfl) (.cons (.v rfl) (.cons (.nil (by decide) rfl) .nil))) | exact .agg (.cons (.v rfl) (.cons (.v rfl) .nil))))), (by decide)⟩
  have hv : validB h = true := by simpa using hb
  repeat first | refine ax_seq ?_ | refine ax_next ?_ | refine rg_text ?_ | refine rg_any mixed ?_ | refine ax_block ?_ | refine rh_nil ⟨(by kernel_rfl), ?_⟩ | refine rh_nil ?_ | refine ax_ret ?_ | refine ax_skip ?_ | refine ax_exit ?_ | refine ax_true rfl ?_ | refine ax_false rfl ?_ | refine then_ret ?_ | refine then_exit ?_ | refine out_here ?_ | refine out_away rfl ?_ | refine out_normal ?_ | refine out_ret ?_ | refine round_exit ?_ | refine round_ret ?_ | refine meet_ret ?_ | refine meet_exit ?_ | (apply rh_no; iterate 4 exact rfl) | (apply rh_un; iterate 3 exact rfl) | (apply rh0; (case h => exact z0); (case hw => exact wt)) | (apply rh1; (case h => exact z1); (case hw => exact wt)) | (apply rhs; (case h => exact zs); (case hw => exact wt))
  refine ax_cond rfl (fun hb1 => ?_) (fun hb1 => ?_)
  · have hF : slideRunF h l = (zeroHall, 0) := by simp at hb1; have : ¬ l.length ≤ 60 := by omega
                                                  simp [slideRunF, this]
    rw [hF]
    repeat first | refine ax_seq ?_ | refine ax_next ?_ | refine rg_text ?_ | refine rg_any mixed ?_ | refine ax_block ?_ | refine rh_nil ⟨(by kernel_rfl), ?_⟩ | refine rh_nil ?_ | refine ax_ret ?_ | refine ax_skip ?_ | refine ax_exit ?_ | refine ax_true rfl ?_ | refine ax_false rfl ?_ | refine then_ret ?_ | refine then_exit ?_ | refine out_here ?_ | refine out_away rfl ?_ | refine out_normal ?_ | refine out_ret ?_ | refine round_exit ?_ | refine round_ret ?_ | refine meet_ret ?_ | refine meet_exit ?_ | (apply rh_no; iterate 4 exact rfl) | (apply rh_un; iterate 3 exact rfl) | (apply rh0; (case h => exact z0); (case hw => exact wt)) | (apply rh1; (case h => exact z1); (case hw => exact wt)) | (apply rhs; (case h => exact zs); (case hw => exact wt))
    refine ⟨.inl rfl, _, _, (by repeat first | exact .nil | apply ResL.cons | exact .tmp rfl | exact .agg rfl rfl rfl rfl rfl (Nat.le_of_ble_eq_true rfl) rfl | exact .cell rfl rfl rfl rfl rfl (Nat.le_of_ble_eq_true rfl) rfl), (by first | exact .one (by first | exact .one (.v rfl) | exact .one (.own rfl rfl rfl rfl rfl rfl rfl (by first | exact scal_ints _ | exact scal_slc _)) | exact .one (.nil (by decide) rfl) | exact .agg (.cons (.v rfl) (.cons (.v rfl) (.cons (.own rfl rfl rfl rfl rfl rfl rfl (scal_ints _)) .nil))) | exact .agg (.cons (.v rfl) (.cons (.v rfl) (.cons (.nil (by decide) rfl) .nil))) | exact .agg (.cons (.v rfl) (.cons (.v rfl) .nil))) | exact .two (by repeat first | exact .nil | apply ExpL.cons | exact (by first | exact .one (.v rfl) | exact .one (.own rfl rfl rfl rfl rfl rfl rfl (by first | exact scal_ints _ | exact scal_slc _)) | exact .one (.nil (by decide) rfl) | exact .agg (.cons (.v rfl) (.cons (.v rfl) (.cons (.own rfl rfl rfl rfl rfl rfl rfl (scal_ints _)) .nil))) | exact .agg (.cons (.v rfl) (.cons (.v rfl) (.cons (.nil (by decide) rfl) .nil))) | exact .agg (.cons (.v rfl) (.cons (.v rfl) .nil))))), (by decide)⟩
  have h60 : l.length ≤ 60 := by simp at hb1; omega
  have hF : slideRunF h l = ((runF h l).1, ((runF h l).2 : Int)) := by simp [slideRunF, hv, h60]
  rw [hF]
  repeat first | refine ax_seq ?_ | refine ax_next ?_ | refine rg_text ?_ | refine rg_any mixed ?_ | refine ax_block ?_ | refine rh_nil ⟨(by kernel_rfl), ?_⟩ | refine rh_nil ?_ | refine ax_ret ?_ | refine ax_skip ?_ | refine ax_exit ?_ | refine ax_true rfl ?_ | refine ax_false rfl ?_ | refine then_ret ?_ | refine then_exit ?_ | refine out_here ?_ | refine out_away rfl ?_ | refine out_normal ?_ | refine out_ret ?_ | refine round_exit ?_ | refine round_ret ?_ | refine meet_ret ?_ | refine meet_exit ?_ | (apply rh_no; iterate 4 exact rfl) | (apply rh_un; iterate 3 exact rfl) | (apply rh0; (case h => exact z0); (case hw => exact wt)) | (apply rh1; (case h => first | (apply st_call_h (hfn := copyHall_fn h hl (valid_ne hv) ); exact rfl; exact fz; iterate 2 exact rfl) | exact z1); (case hw => exact wt)) | (apply rhs; (case h => exact zs); (case hw => exact wt))
  refine ax_loop (fun k : Nat => mkS [(24, .int (k : Int)), (23, .int (l.length : Int)), (22, slcV l), (1, slcV l), (6, .ptr 4 0 0), (4, .ptr 2 0 0)] ⟨5, [(2, some zeroRow), (3, some (intsRow (stS h l k).cells)), (4, some (boxRow (stS h l k).wide (stS h l k).deep 3 0))]⟩) (fun k => k ≤ l.length ∧ doneS h l k) (fun k => l.length - k) (0) (⟨Nat.zero_le _, fun j hj => by omega⟩) (weak_of [] (by repeat first | exact .nil | refine LeEs.cons ?_ ?_ | exact .v (by first | rfl | (rfl)) | exact .own rfl rfl rfl rfl rfl | exact .ptr rfl rfl rfl rfl rfl rfl | exact .nil rfl rfl rfl | exact .sl (by first | rfl | (rfl)) | exact .both rfl rfl | exact .frz rfl rfl rfl rfl rfl (by first | rfl | (rfl)) rfl | exact .any _) (by repeat first | exact .nil | refine LeHs.keep rfl ⟨rfl, rfl, rfl, .inl ⟨rfl, by first | rfl | (rfl)⟩⟩ ?_ | refine LeHs.keep rfl ⟨rfl, rfl, rfl, .inr ⟨(by first | exact .inl rfl | exact .inr rfl), by repeat first | exact .nil | refine LeVL.cons ?_ ?_ | exact .v (by first | rfl | (rfl)) | exact .own rfl rfl rfl rfl rfl | exact .sl (by first | rfl | (rfl)) | exact .both rfl rfl | exact .frz rfl rfl rfl rfl rfl (by first | rfl | (rfl)) rfl⟩⟩ ?_ | refine LeHs.fresh rfl rfl rfl (Nat.succ_pos _) rfl ?_) rfl rfl) ?_
  rintro k ⟨hk, hd⟩
  obtain ⟨s1, s2, s3, s4⟩ := stS_ok (l := l) hv k
  repeat first | refine ax_seq ?_ | refine ax_next ?_ | refine rg_text ?_ | refine rg_any mixed ?_ | refine ax_block ?_ | refine rh_nil ⟨(by kernel_rfl), ?_⟩ | refine rh_nil ?_ | refine ax_ret ?_ | refine ax_skip ?_ | refine ax_exit ?_ | refine ax_true rfl ?_ | refine ax_false rfl ?_ | refine then_ret ?_ | refine then_exit ?_ | refine out_here ?_ | refine out_away rfl ?_ | refine out_normal ?_ | refine out_ret ?_ | refine round_exit ?_ | refine round_ret ?_ | refine meet_ret ?_ | refine meet_exit ?_ | (apply rh_no; iterate 4 exact rfl) | (apply rh_un; iterate 3 exact rfl) | (apply rh0; (case h => exact z0); (case hw => exact wt)) | (apply rh1; (case h => exact z1); (case hw => exact wt)) | (apply rhs; (case h => exact zs); (case hw => exact wt))
  refine ax_cond rfl (fun hb2 => ?_) (fun hb2 => ?_)
  · have hlt : k < l.length := by simp at hb2; exact hb2
    repeat first | refine ax_seq ?_ | refine ax_next ?_ | refine rg_text ?_ | refine rg_any mixed ?_ | refine ax_block ?_ | refine rh_nil ⟨(by kernel_rfl), ?_⟩ | refine rh_nil ?_ | refine ax_ret ?_ | refine ax_skip ?_ | refine ax_exit ?_ | refine ax_true rfl ?_ | refine ax_false rfl ?_ | refine then_ret ?_ | refine then_exit ?_ | refine out_here ?_ | refine out_away rfl ?_ | refine out_normal ?_ | refine out_ret ?_ | refine round_exit ?_ | refine round_ret ?_ | refine meet_ret ?_ | refine meet_exit ?_ | (apply rh_no; iterate 4 exact rfl) | (apply rh_un; iterate 3 exact rfl) | (apply rh0; (case h => exact z0); (case hw => exact wt)) | (apply rh1; (case h => first | (apply st_call_hv (hfn := slideDo_fn (stS h l k) (by omega) (gs l k).1 (gs l k).2 ); exact rfl; exact fz; iterate 2 exact rfl) | exact z1); (case hw => exact wt)) | (apply rhs; (case h => exact zs); (case hw => exact wt))
    refine ax_cond rfl (fun hb3 => ?_) (fun hb3 => ?_)
    · have hR := runF_stop hd hlt (by simpa using hb3)
      rw [hR]
      repeat first | refine ax_seq ?_ | refine ax_next ?_ | refine rg_text ?_ | refine rg_any mixed ?_ | refine ax_block ?_ | refine rh_nil ⟨(by kernel_rfl), ?_⟩ | refine rh_nil ?_ | refine ax_ret ?_ | refine ax_skip ?_ | refine ax_exit ?_ | refine ax_true rfl ?_ | refine ax_false rfl ?_ | refine then_ret ?_ | refine then_exit ?_ | refine out_here ?_ | refine out_away rfl ?_ | refine out_normal ?_ | refine out_ret ?_ | refine round_exit ?_ | refine round_ret ?_ | refine meet_ret ?_ | refine meet_exit ?_ | (apply rh_no; iterate 4 exact rfl) | (apply rh_un; iterate 3 exact rfl) | (apply rh0; (case h => exact z0); (case hw => exact wt)) | (apply rh1; (case h => exact z1); (case hw => exact wt)) | (apply rhs; (case h => exact zs); (case hw => exact wt))
      refine ⟨.inl rfl, _, _, (by repeat first | exact .nil | apply ResL.cons | exact .tmp rfl | exact .agg rfl rfl rfl rfl rfl (Nat.le_of_ble_eq_true rfl) rfl | exact .cell rfl rfl rfl rfl rfl (Nat.le_of_ble_eq_true rfl) rfl), (by first | exact .one (by first | exact .one (.v rfl) | exact .one (.own rfl rfl rfl rfl rfl rfl rfl (by first | exact scal_ints _ | exact scal_slc _)) | exact .one (.nil (by decide) rfl) | exact .agg (.cons (.v rfl) (.cons (.v rfl) (.cons (.own rfl rfl rfl rfl rfl rfl rfl (scal_ints _)) .nil))) | exact .agg (.cons (.v rfl) (.cons (.v rfl) (.cons (.nil (by decide) rfl) .nil))) | exact .agg (.cons (.v rfl) (.cons (.v rfl) .nil))) | exact .two (by repeat first | exact .nil | apply ExpL.cons | exact (by first | exact .one (.v rfl) | exact .one (.own rfl rfl rfl rfl rfl rfl rfl (by first | exact scal_ints _ | exact scal_slc _)) | exact .one (.nil (by decide) rfl) | exact .agg (.cons (.v rfl) (.cons (.v rfl) (.cons (.own rfl rfl rfl rfl rfl rfl rfl (scal_ints _)) .nil))) | exact .agg (.cons (.v rfl) (.cons (.v rfl) (.cons (.nil (by decide) rfl) .nil))) | exact .agg (.cons (.v rfl) (.cons (.v rfl) .nil))))), (by decide)⟩
    · have ho : (slideDoF (stS h l k) (gs l k).1 (gs l k).2).2 = true := by simpa using hb3
      repeat first | refine ax_seq ?_ | refine ax_next ?_ | refine rg_text ?_ | refine rg_any mixed ?_ | refine ax_block ?_ | refine rh_nil ⟨(by kernel_rfl), ?_⟩ | refine rh_nil ?_ | refine ax_ret ?_ | refine ax_skip ?_ | refine ax_exit ?_ | refine ax_true rfl ?_ | refine ax_false rfl ?_ | refine then_ret ?_ | refine then_exit ?_ | refine out_here ?_ | refine out_away rfl ?_ | refine out_normal ?_ | refine out_ret ?_ | refine round_exit ?_ | refine round_ret ?_ | refine meet_ret ?_ | refine meet_exit ?_ | (apply rh_no; iterate 4 exact rfl) | (apply rh_un; iterate 3 exact rfl) | (apply rh0; (case h => exact z0); (case hw => exact wt)) | (apply rh1; (case h => exact z1); (case hw => exact wt)) | (apply rhs; (case h => exact zs); (case hw => exact wt))
      refine round_next (k + 1) (⟨hlt, fun j hj => by by_cases e : j = k; (subst e; exact ho); exact hd j (by omega)⟩) (by omega) (weak_of [(3, 6)] (by repeat first | exact .nil | refine LeEs.cons ?_ ?_ | exact .v (by first | rfl | (rfl)) | exact .own rfl rfl rfl rfl rfl | exact .ptr rfl rfl rfl rfl rfl rfl | exact .nil rfl rfl rfl | exact .sl (by first | rfl | (rfl)) | exact .both rfl rfl | exact .frz rfl rfl rfl rfl rfl (by first | rfl | (rfl)) rfl | exact .any _) (by repeat first | exact .nil | refine LeHs.keep rfl ⟨rfl, rfl, rfl, .inl ⟨rfl, by first | rfl | (rfl)⟩⟩ ?_ | refine LeHs.keep rfl ⟨rfl, rfl, rfl, .inr ⟨(by first | exact .inl rfl | exact .inr rfl), by repeat first | exact .nil | refine LeVL.cons ?_ ?_ | exact .v (by first | rfl | (rfl)) | exact .own rfl rfl rfl rfl rfl | exact .sl (by first | rfl | (rfl)) | exact .both rfl rfl | exact .frz rfl rfl rfl rfl rfl (by first | rfl | (rfl)) rfl⟩⟩ ?_ | refine LeHs.fresh rfl rfl rfl (Nat.succ_pos _) rfl ?_) rfl rfl)
  · have hkn : k = l.length := by simp at hb2; omega
    subst hkn
    rw [runF_end hd]
    repeat first | refine ax_seq ?_ | refine ax_next ?_ | refine rg_text ?_ | refine rg_any mixed ?_ | refine ax_block ?_ | refine rh_nil ⟨(by kernel_rfl), ?_⟩ | refine rh_nil ?_ | refine ax_ret ?_ | refine ax_skip ?_ | refine ax_exit ?_ | refine ax_true rfl ?_ | refine ax_false rfl ?_ | refine then_ret ?_ | refine then_exit ?_ | refine out_here ?_ | refine out_away rfl ?_ | refine out_normal ?_ | refine out_ret ?_ | refine round_exit ?_ | refine round_ret ?_ | refine meet_ret ?_ | refine meet_exit ?_ | (apply rh_no; iterate 4 exact rfl) | (apply rh_un; iterate 3 exact rfl) | (apply rh0; (case h => exact z0); (case hw => exact wt)) | (apply rh1; (case h => exact z1); (case hw => exact wt)) | (apply rhs; (case h => exact zs); (case hw => exact wt))
    refine ⟨.inl rfl, _, _, (by repeat first | exact .nil | apply ResL.cons | exact .tmp rfl | exact .agg rfl rfl rfl rfl rfl (Nat.le_of_ble_eq_true rfl) rfl | exact .cell rfl rfl rfl rfl rfl (Nat.le_of_ble_eq_true rfl) rfl), (by first | exact .one (by first | exact .one (.v rfl) | exact .one (.own rfl rfl rfl rfl rfl rfl rfl (by first | exact scal_ints _ | exact scal_slc _)) | exact .one (.nil (by decide) rfl) | exact .agg (.cons (.v rfl) (.cons (.v rfl) (.cons (.own rfl rfl rfl rfl rfl rfl rfl (scal_ints _)) .nil))) | exact .agg (.cons (.v rfl) (.cons (.v rfl) (.cons (.nil (by decide) rfl) .nil))) | exact .agg (.cons (.v rfl) (.cons (.v rfl) .nil))) | exact .two (by repeat first | exact .nil | apply ExpL.cons | exact (by first | exact .one (.v rfl) | exact .one (.own rfl rfl rfl rfl rfl rfl rfl (by first | exact scal_ints _ | exact scal_slc _)) | exact .one (.nil (by decide) rfl) | exact .agg (.cons (.v rfl) (.cons (.v rfl) (.cons (.own rfl rfl rfl rfl rfl rfl rfl (scal_ints _)) .nil))) | exact .agg (.cons (.v rfl) (.cons (.v rfl) (.cons (.nil (by decide) rfl) .nil))) | exact .agg (.cons (.v rfl) (.cons (.v rfl) .nil))))), (by decide)⟩
set_option maxHeartbeats 2000000 in
theorem specSlideRun_fn (h : PHall) (hl : h.cells.length ≤ lim) (l : List (Int × Int)) (hw : l.length ≤ lim) : FnS Tryd.prog 39 [hallV h, slcV l] (.tup [hallV (slideRunF h l).1, .int (slideRunF h l).2]) := by
  have hl' : h.cells.length ≤ 1073741824 := hl
  have hw' : l.length ≤ 1073741824 := hw
  refine fn_go2 tabOk Tryd.func39 rfl (by kernel_rfl) Tryd.ntmps39 Tryd.results39 (by decide) ?_
  repeat first | refine ax_seq ?_ | refine ax_next ?_ | refine rg_text ?_ | refine rg_any mixed ?_ | refine ax_block ?_ | refine rh_nil ⟨(by kernel_rfl), ?_⟩ | refine rh_nil ?_ | refine ax_ret ?_ | refine ax_skip ?_ | refine ax_exit ?_ | refine ax_true rfl ?_ | refine ax_false rfl ?_ | refine then_ret ?_ | refine then_exit ?_ | refine out_here ?_ | refine out_away rfl ?_ | refine out_normal ?_ | refine out_ret ?_ | refine round_exit ?_ | refine round_ret ?_ | refine meet_ret ?_ | refine meet_exit ?_ | (apply rh_no; iterate 4 exact rfl) | (apply rh_un; iterate 3 exact rfl) | (apply rh0; (case h => first | (apply st_call (hfn := specHallValid_fn h hl ); exact rfl; exact fz) | exact z0); (case hw => exact wt)) | (apply rh1; (case h => exact z1); (case hw => exact wt)) | (apply rhs; (case h => exact zs); (case hw => exact wt))
  refine rh_split rfl rfl (fun hb => ?_) (fun hb => ?_)
  · have hF : slideRunF h l = (zeroHall, 0) := by simp at hb; simp [slideRunF, hb]
    rw [hF]
    repeat first | refine ax_seq ?_ | refine ax_next ?_ | refine rg_text ?_ | refine rg_any mixed ?_ | refine ax_block ?_ | refine rh_nil ⟨(by kernel_rfl), ?_⟩ | refine rh_nil ?_ | refine ax_ret ?_ | refine ax_skip ?_ | refine ax_exit ?_ | refine ax_true rfl ?_ | refine ax_false rfl ?_ | refine then_ret ?_ | refine then_exit ?_ | refine out_here ?_ | refine out_away rfl ?_ | refine out_normal ?_ | refine out_ret ?_ | refine round_exit ?_ | refine round_ret ?_ | refine meet_ret ?_ | refine meet_exit ?_ | (apply rh_no; iterate 4 exact rfl) | (apply rh_un; iterate 3 exact rfl) | (apply rh0; (case h => exact z0); (case hw => exact wt)) | (apply rh1; (case h => exact z1); (case hw => exact wt)) | (apply rhs; (case h => exact zs); (case hw => exact wt))
    refine ⟨.inl rfl, _, _, (by repeat first | exact .nil | apply ResL.cons | exact .tmp rfl | exact .agg rfl rfl rfl rfl rfl (Nat.le_of_ble_eq_true rfl) rfl | exact .cell rfl rfl rfl rfl rfl (Nat.le_of_ble_eq_true rfl) rfl), (by first | exact .one (by first | exact .one (.v rfl) | exact .one (.own rfl rfl rfl rfl rfl rfl rfl (by first | exact scal_ints _ | exact scal_slc _)) | exact .one (.nil (by decide) rfl) | exact .agg (.cons (.v rfl) (.cons (.v rfl) (.cons (.own rfl rfl rfl rfl rfl rfl rfl (scal_ints _)) .nil))) | exact .agg (.cons (.v rfl) (.cons (.v rfl) (.cons (.nil (by decide) rfl) .nil))) | exact .agg (.cons (.v rfl) (.cons (.v rfl) .nil))) | exact .two (by repeat first | exact .nil | apply ExpL.cons | exact (by first | exact .one (.v rfl) | exact .one (.own rfl rfl rfl rfl rfl rfl rfl (by first | exact scal_ints _ | exact scal_slc _)) | exact .one (.nil (by decide) rfl) | exact .agg (.cons (.v rfl) (.cons (.v rfl) (.cons (.own rfl rfl rfl rfl rfl rfl rfl (scal_ints _)) .nil))) | exact .agg (.cons (.v rfl) (.cons (.v rfl) (.cons (.nil (by decide) rfl) .nil))) | exact .agg (.cons (.v rfl) (.cons (.v rfl) .nil))))), (by decide)⟩
  have hv : validB h = true := by simpa using hb
  repeat first | refine ax_seq ?_ | refine ax_next ?_ | refine rg_text ?_ | refine rg_any mixed ?_ | refine ax_block ?_ | refine rh_nil ⟨(by kernel_rfl), ?_⟩ | refine rh_nil ?_ | refine ax_ret ?_ | refine ax_skip ?_ | refine ax_exit ?_ | refine ax_true rfl ?_ | refine ax_false rfl ?_ | refine then_ret ?_ | refine then_exit ?_ | refine out_here ?_ | refine out_away rfl ?_ | refine out_normal ?_ | refine out_ret ?_ | refine round_exit ?_ | refine round_ret ?_ | refine meet_ret ?_ | refine meet_exit ?_ | (apply rh_no; iterate 4 exact rfl) | (apply rh_un; iterate 3 exact rfl) | (apply rh0; (case h => exact z0); (case hw => exact wt)) | (apply rh1; (case h => exact z1); (case hw => exact wt)) | (apply rhs; (case h => exact zs); (case hw => exact wt))
  refine ax_cond rfl (fun hb1 => ?_) (fun hb1 => ?_)
  · have hF : slideRunF h l = (zeroHall, 0) := by simp at hb1; have : ¬ l.length ≤ 60 := by omega
                                                  simp [slideRunF, this]
    rw [hF]
    repeat first | refine ax_seq ?_ | refine ax_next ?_ | refine rg_text ?_ | refine rg_any mixed ?_ | refine ax_block ?_ | refine rh_nil ⟨(by kernel_rfl), ?_⟩ | refine rh_nil ?_ | refine ax_ret ?_ | refine ax_skip ?_ | refine ax_exit ?_ | refine ax_true rfl ?_ | refine ax_false rfl ?_ | refine then_ret ?_ | refine then_exit ?_ | refine out_here ?_ | refine out_away rfl ?_ | refine out_normal ?_ | refine out_ret ?_ | refine round_exit ?_ | refine round_ret ?_ | refine meet_ret ?_ | refine meet_exit ?_ | (apply rh_no; iterate 4 exact rfl) | (apply rh_un; iterate 3 exact rfl) | (apply rh0; (case h => exact z0); (case hw => exact wt)) | (apply rh1; (case h => exact z1); (case hw => exact wt)) | (apply rhs; (case h => exact zs); (case hw => exact wt))
    refine ⟨.inl rfl, _, _, (by repeat first | exact .nil | apply ResL.cons | exact .tmp rfl | exact .agg rfl rfl rfl rfl rfl (Nat.le_of_ble_eq_true rfl) rfl | exact .cell rfl rfl rfl rfl rfl (Nat.le_of_ble_eq_true rfl) rfl), (by first | exact .one (by first | exact .one (.v rfl) | exact .one (.own rfl rfl rfl rfl rfl rfl rfl (by first | exact scal_ints _ | exact scal_slc _)) | exact .one (.nil (by decide) rfl) | exact .agg (.cons (.v rfl) (.cons (.v rfl) (.cons (.own rfl rfl rfl rfl rfl rfl rfl (scal_ints _)) .nil))) | exact .agg (.cons (.v rfl) (.cons (.v rfl) (.cons (.nil (by decide) rfl) .nil))) | exact .agg (.cons (.v rfl) (.cons (.v rfl) .nil))) | exact .two (by repeat first | exact .nil | apply ExpL.cons | exact (by first | exact .one (.v rfl) | exact .one (.own rfl rfl rfl rfl rfl rfl rfl (by first | exact scal_ints _ | exact scal_slc _)) | exact .one (.nil (by decide) rfl) | exact .agg (.cons (.v rfl) (.cons (.v rfl) (.cons (.own rfl rfl rfl rfl rfl rfl rfl (scal_ints _)) .nil))) | exact .agg (.cons (.v rfl) (.cons (.v rfl) (.cons (.nil (by decide) rfl) .nil))) | exact .agg (.cons (.v rfl) (.cons (.v rfl) .nil))))), (by decide)⟩
  have h60 : l.length ≤ 60 := by simp at hb1; omega
  have hF : slideRunF h l = ((runF h l).1, ((runF h l).2 : Int)) := by simp [slideRunF, hv, h60]
  rw [hF]
  repeat first | refine ax_seq ?_ | refine ax_next ?_ | refine rg_text ?_ | refine rg_any mixed ?_ | refine ax_block ?_ | refine rh_nil ⟨(by kernel_rfl), ?_⟩ | refine rh_nil ?_ | refine ax_ret ?_ | refine ax_skip ?_ | refine ax_exit ?_ | refine ax_true rfl ?_ | refine ax_false rfl ?_ | refine then_ret ?_ | refine then_exit ?_ | refine out_here ?_ | refine out_away rfl ?_ | refine out_normal ?_ | refine out_ret ?_ | refine round_exit ?_ | refine round_ret ?_ | refine meet_ret ?_ | refine meet_exit ?_ | (apply rh_no; iterate 4 exact rfl) | (apply rh_un; iterate 3 exact rfl) | (apply rh0; (case h => exact z0); (case hw => exact wt)) | (apply rh1; (case h => first | (apply st_call_h (hfn := l1Hall_fn h hl (valid_ne hv) ); exact rfl; exact fz; iterate 2 exact rfl) | exact z1); (case hw => exact wt)) | (apply rhs; (case h => exact zs); (case hw => exact wt))
  refine ax_loop (fun k : Nat => mkS [(7, .int (k : Int)), (1, slcV l), (6, .ptr 4 0 0), (4, .ptr 2 0 0)] ⟨5, [(2, some zeroRow), (3, some (intsRow (stS h l k).cells)), (4, some (boxRow (stS h l k).wide (stS h l k).deep 3 0))]⟩) (fun k => k ≤ l.length ∧ doneS h l k) (fun k => l.length - k) (0) (⟨Nat.zero_le _, fun j hj => by omega⟩) (weak_of [] (by repeat first | exact .nil | refine LeEs.cons ?_ ?_ | exact .v (by first | rfl | (rfl)) | exact .own rfl rfl rfl rfl rfl | exact .ptr rfl rfl rfl rfl rfl rfl | exact .nil rfl rfl rfl | exact .sl (by first | rfl | (rfl)) | exact .both rfl rfl | exact .frz rfl rfl rfl rfl rfl (by first | rfl | (rfl)) rfl | exact .any _) (by repeat first | exact .nil | refine LeHs.keep rfl ⟨rfl, rfl, rfl, .inl ⟨rfl, by first | rfl | (rfl)⟩⟩ ?_ | refine LeHs.keep rfl ⟨rfl, rfl, rfl, .inr ⟨(by first | exact .inl rfl | exact .inr rfl), by repeat first | exact .nil | refine LeVL.cons ?_ ?_ | exact .v (by first | rfl | (rfl)) | exact .own rfl rfl rfl rfl rfl | exact .sl (by first | rfl | (rfl)) | exact .both rfl rfl | exact .frz rfl rfl rfl rfl rfl (by first | rfl | (rfl)) rfl⟩⟩ ?_ | refine LeHs.fresh rfl rfl rfl (Nat.succ_pos _) rfl ?_) rfl rfl) ?_
  rintro k ⟨hk, hd⟩
  obtain ⟨s1, s2, s3, s4⟩ := stS_ok (l := l) hv k
  repeat first | refine ax_seq ?_ | refine ax_next ?_ | refine rg_text ?_ | refine rg_any mixed ?_ | refine ax_block ?_ | refine rh_nil ⟨(by kernel_rfl), ?_⟩ | refine rh_nil ?_ | refine ax_ret ?_ | refine ax_skip ?_ | refine ax_exit ?_ | refine ax_true rfl ?_ | refine ax_false rfl ?_ | refine then_ret ?_ | refine then_exit ?_ | refine out_here ?_ | refine out_away rfl ?_ | refine out_normal ?_ | refine out_ret ?_ | refine round_exit ?_ | refine round_ret ?_ | refine meet_ret ?_ | refine meet_exit ?_ | (apply rh_no; iterate 4 exact rfl) | (apply rh_un; iterate 3 exact rfl) | (apply rh0; (case h => exact z0); (case hw => exact wt)) | (apply rh1; (case h => exact z1); (case hw => exact wt)) | (apply rhs; (case h => exact zs); (case hw => exact wt))
  refine ax_cond rfl (fun hb2 => ?_) (fun hb2 => ?_)
  · have hlt : k < l.length := by simp at hb2; exact hb2
    repeat first | refine ax_seq ?_ | refine ax_next ?_ | refine rg_text ?_ | refine rg_any mixed ?_ | refine ax_block ?_ | refine rh_nil ⟨(by kernel_rfl), ?_⟩ | refine rh_nil ?_ | refine ax_ret ?_ | refine ax_skip ?_ | refine ax_exit ?_ | refine ax_true rfl ?_ | refine ax_false rfl ?_ | refine then_ret ?_ | refine then_exit ?_ | refine out_here ?_ | refine out_away rfl ?_ | refine out_normal ?_ | refine out_ret ?_ | refine round_exit ?_ | refine round_ret ?_ | refine meet_ret ?_ | refine meet_exit ?_ | (apply rh_no; iterate 4 exact rfl) | (apply rh_un; iterate 3 exact rfl) | (apply rh0; (case h => exact z0); (case hw => exact wt)) | (apply rh1; (case h => first | (apply st_call_hv (hfn := specSlideDo_fn (stS h l k) (by omega) (gs l k).1 (gs l k).2 ); exact rfl; exact fz; iterate 2 exact rfl) | exact z1); (case hw => exact wt)) | (apply rhs; (case h => exact zs); (case hw => exact wt))
    refine ax_cond rfl (fun hb3 => ?_) (fun hb3 => ?_)
    · have hR := runF_stop hd hlt (by simpa using hb3)
      rw [hR]
      repeat first | refine ax_seq ?_ | refine ax_next ?_ | refine rg_text ?_ | refine rg_any mixed ?_ | refine ax_block ?_ | refine rh_nil ⟨(by kernel_rfl), ?_⟩ | refine rh_nil ?_ | refine ax_ret ?_ | refine ax_skip ?_ | refine ax_exit ?_ | refine ax_true rfl ?_ | refine ax_false rfl ?_ | refine then_ret ?_ | refine then_exit ?_ | refine out_here ?_ | refine out_away rfl ?_ | refine out_normal ?_ | refine out_ret ?_ | refine round_exit ?_ | refine round_ret ?_ | refine meet_ret ?_ | refine meet_exit ?_ | (apply rh_no; iterate 4 exact rfl) | (apply rh_un; iterate 3 exact rfl) | (apply rh0; (case h => exact z0); (case hw => exact wt)) | (apply rh1; (case h => exact z1); (case hw => exact wt)) | (apply rhs; (case h => exact zs); (case hw => exact wt))
      refine ⟨.inl rfl, _, _, (by repeat first | exact .nil | apply ResL.cons | exact .tmp rfl | exact .agg rfl rfl rfl rfl rfl (Nat.le_of_ble_eq_true rfl) rfl | exact .cell rfl rfl rfl rfl rfl (Nat.le_of_ble_eq_true rfl) rfl), (by first | exact .one (by first | exact .one (.v rfl) | exact .one (.own rfl rfl rfl rfl rfl rfl rfl (by first | exact scal_ints _ | exact scal_slc _)) | exact .one (.nil (by decide) rfl) | exact .agg (.cons (.v rfl) (.cons (.v rfl) (.cons (.own rfl rfl rfl rfl rfl rfl rfl (scal_ints _)) .nil))) | exact .agg (.cons (.v rfl) (.cons (.v rfl) (.cons (.nil (by decide) rfl) .nil))) | exact .agg (.cons (.v rfl) (.cons (.v rfl) .nil))) | exact .two (by repeat first | exact .nil | apply ExpL.cons | exact (by first | exact .one (.v rfl) | exact .one (.own rfl rfl rfl rfl rfl rfl rfl (by first | exact scal_ints _ | exact scal_slc _)) | exact .one (.nil (by decide) rfl) | exact .agg (.cons (.v rfl) (.cons (.v rfl) (.cons (.own rfl rfl rfl rfl rfl rfl rfl (scal_ints _)) .nil))) | exact .agg (.cons (.v rfl) (.cons (.v rfl) (.cons (.nil (by decide) rfl) .nil))) | exact .agg (.cons (.v rfl) (.cons (.v rfl) .nil))))), (by decide)⟩
    · have ho : (slideDoF (stS h l k) (gs l k).1 (gs l k).2).2 = true := by simpa using hb3
      repeat first | refine ax_seq ?_ | refine ax_next ?_ | refine rg_text ?_ | refine rg_any mixed ?_ | refine ax_block ?_ | refine rh_nil ⟨(by kernel_rfl), ?_⟩ | refine rh_nil ?_ | refine ax_ret ?_ | refine ax_skip ?_ | refine ax_exit ?_ | refine ax_true rfl ?_ | refine ax_false rfl ?_ | refine then_ret ?_ | refine then_exit ?_ | refine out_here ?_ | refine out_away rfl ?_ | refine out_normal ?_ | refine out_ret ?_ | refine round_exit ?_ | refine round_ret ?_ | refine meet_ret ?_ | refine meet_exit ?_ | (apply rh_no; iterate 4 exact rfl) | (apply rh_un; iterate 3 exact rfl) | (apply rh0; (case h => exact z0); (case hw => exact wt)) | (apply rh1; (case h => exact z1); (case hw => exact wt)) | (apply rhs; (case h => exact zs); (case hw => exact wt))
      refine round_next (k + 1) (⟨hlt, fun j hj => by by_cases e : j = k; (subst e; exact ho); exact hd j (by omega)⟩) (by omega) (weak_of [(3, 5)] (by repeat first | exact .nil | refine LeEs.cons ?_ ?_ | exact .v (by first | rfl | (rfl)) | exact .own rfl rfl rfl rfl rfl | exact .ptr rfl rfl rfl rfl rfl rfl | exact .nil rfl rfl rfl | exact .sl (by first | rfl | (rfl)) | exact .both rfl rfl | exact .frz rfl rfl rfl rfl rfl (by first | rfl | (rfl)) rfl | exact .any _) (by repeat first | exact .nil | refine LeHs.keep rfl ⟨rfl, rfl, rfl, .inl ⟨rfl, by first | rfl | (rfl)⟩⟩ ?_ | refine LeHs.keep rfl ⟨rfl, rfl, rfl, .inr ⟨(by first | exact .inl rfl | exact .inr rfl), by repeat first | exact .nil | refine LeVL.cons ?_ ?_ | exact .v (by first | rfl | (rfl)) | exact .own rfl rfl rfl rfl rfl | exact .sl (by first | rfl | (rfl)) | exact .both rfl rfl | exact .frz rfl rfl rfl rfl rfl (by first | rfl | (rfl)) rfl⟩⟩ ?_ | refine LeHs.fresh rfl rfl rfl (Nat.succ_pos _) rfl ?_) rfl rfl)
  · have hkn : k = l.length := by simp at hb2; omega
    subst hkn
    rw [runF_end hd]
    repeat first | refine ax_seq ?_ | refine ax_next ?_ | refine rg_text ?_ | refine rg_any mixed ?_ | refine ax_block ?_ | refine rh_nil ⟨(by kernel_rfl), ?_⟩ | refine rh_nil ?_ | refine ax_ret ?_ | refine ax_skip ?_ | refine ax_exit ?_ | refine ax_true rfl ?_ | refine ax_false rfl ?_ | refine then_ret ?_ | refine then_exit ?_ | refine out_here ?_ | refine out_away rfl ?_ | refine out_normal ?_ | refine out_ret ?_ | refine round_exit ?_ | refine round_ret ?_ | refine meet_ret ?_ | refine meet_exit ?_ | (apply rh_no; iterate 4 exact rfl) | (apply rh_un; iterate 3 exact rfl) | (apply rh0; (case h => exact z0); (case hw => exact wt)) | (apply rh1; (case h => exact z1); (case hw => exact wt)) | (apply rhs; (case h => exact zs); (case hw => exact wt))
    refine ⟨.inl rfl, _, _, (by repeat first | exact .nil | apply ResL.cons | exact .tmp rfl | exact .agg rfl rfl rfl rfl rfl (Nat.le_of_ble_eq_true rfl) rfl | exact .cell rfl rfl rfl rfl rfl (Nat.le_of_ble_eq_true rfl) rfl), (by first | exact .one (by first | exact .one (.v rfl) | exact .one (.own rfl rfl rfl rfl rfl rfl rfl (by first | exact scal_ints _ | exact scal_slc _)) | exact .one (.nil (by decide) rfl) | exact .agg (.cons (.v rfl) (.cons (.v rfl) (.cons (.own rfl rfl rfl rfl rfl rfl rfl (scal_ints _)) .nil))) | exact .agg (.cons (.v rfl) (.cons (.v rfl) (.cons (.nil (by decide) rfl) .nil))) | exact .agg (.cons (.v rfl) (.cons (.v rfl) .nil))) | exact .two (by repeat first | exact .nil | apply ExpL.cons | exact (by first | exact .one (.v rfl) | exact .one (.own rfl rfl rfl rfl rfl rfl rfl (by first | exact scal_ints _ | exact scal_slc _)) | exact .one (.nil (by decide) rfl) | exact .agg (.cons (.v rfl) (.cons (.v rfl) (.cons (.own rfl rfl rfl rfl rfl rfl rfl (scal_ints _)) .nil))) | exact .agg (.cons (.v rfl) (.cons (.v rfl) (.cons (.nil (by decide) rfl) .nil))) | exact .agg (.cons (.v rfl) (.cons (.v rfl) .nil))))), (by decide)⟩
end Go.Proofs.YtjdgbdakkdljmaaDoor
namespace Go.Proofs.YtjdgbdakkdljmaaDoor
open Go Go.RowKit Go.Park

def besG (w : Int) (n : Nat) (c : Int) : List Int := if 0 ≤ c ∧ c < n then selTo (fun j => decide (apartF w c j = 1)) n else []
def bfsB (B : Int → List Int) (but : Int) : Nat → Nat → List Int × List Int → List Int
  | 0, _, s => s.1
  | F+1, k, s => if k < s.2.length then bfsB B but F (k+1) (visitF but (gi s.1 (gi s.2 k).toNat) (B (gi s.2 k)) s) else s.1
def downB (B : Int → List Int) (st : List Int) (c : Int) : Option Int := (B c).find? (fun y => decide (gi st y.toNat = gi st c.toNat - 1))
def wayGoB (B : Int → List Int) (st : List Int) : Nat → Int → List Int
  | 0, _ => []
  | F+1, c => match downB B st c with
    | none => []
    | some y => y :: wayGoB B st F y
theorem bfsB_eq (h : PHall) (but : Int) : ∀ F k s, bfsF h but F k s = bfsB (besideF h) but F k s
  | 0, _, _ => rfl
  | F+1, k, s => by simp only [bfsF, bfsB, bfsB_eq h but F]
theorem wayGoB_eq (h : PHall) (st : List Int) : ∀ F c, wayGo h st F c = wayGoB (besideF h) st F c
  | 0, _ => rfl
  | F+1, c => by
    simp only [wayGo, wayGoB]
    show (match downB (besideF h) st c with | none => [] | some y => y :: wayGo h st F y) = _
    cases downB (besideF h) st c with
    | none => rfl
    | some y => simp only [wayGoB_eq h st F y]
theorem beside_G {h : PHall} (hv : validB h = true) : besideF h = besG h.wide h.cells.length := by
  funext c
  unfold besideF besG
  by_cases hc : hasCellB h c = true
  · rw [if_pos ⟨hv, hc⟩, if_pos (hasCell_iff.1 hc)]
  · rw [if_neg (fun e => hc e.2), if_neg (fun e => hc (hasCell_iff.2 e))]
/-- the steps to a cell, for a shape -/
def stepsG (w : Int) (n : Nat) (tgt but : Int) : List Int := bfsB (besG w n) but (n + 1) 0 (startF n tgt, [tgt])
def wayG (w : Int) (n : Nat) (st : List Int) (a : Int) : List Int := a :: wayGoB (besG w n) st (gi st a.toNat).toNat a
theorem way_G {h : PHall} {a b but : Int} (ho : wayOk h a b but = true) : wayF h a b but = if 0 ≤ gi (stepsG h.wide h.cells.length b but) a.toNat then wayG h.wide h.cells.length (stepsG h.wide h.cells.length b but) a else [] := by
  have hv := (wayOk_iff.1 ho).1
  have hs : stepsF h b but = stepsG h.wide h.cells.length b but := by unfold stepsF stepsG; rw [bfsB_eq, beside_G hv]
  unfold wayF wayG
  rw [hs, wayGoB_eq, beside_G hv]
  simp only [ho, true_and]
/-- what is asked of a way from a to b that avoids but -/
def wayChk (w : Int) (n : Nat) (a b but : Int) (l : List Int) : Bool :=
  decide (l.length ≤ 12) && ((l.all fun x => decide (0 ≤ x ∧ x < n)) && (decide (gi l 0 = a) && (decide (gi l (l.length - 1) = b) && (decide (0 < l.length) && ((List.range (l.length - 1)).all (fun j => decide (apartF w (gi l j) (gi l (j+1)) = 1)) && (l.all (fun x => !decide (x = but)) && (!decide (but = -1) || decide ((l.length : Int) = apartF w a b + 1))))))))
def cellsChk (w : Int) (n : Nat) (b but : Int) : Bool :=
  (fun st => (List.range n).all fun a => decide ((a : Int) = but) || (decide (0 ≤ gi st a) && (wayChk w n a b but (wayG w n st a) && (decide (((wayG w n st a).length : Int) = gi st a + 1) && (besG w n a).all fun x => decide (x = but) || decide (gi st a ≤ gi st x.toNat + 1))))) (stepsG w n b but)
/-- the cell beside that is nearer to the gate -/
def tgtG (w a : Int) : Int := if a - w < 0 then a - 1 else a - w
def nearChk (w : Int) (n : Nat) : Bool := (List.range n).all fun a => decide (a = 0) ||
  (decide (0 ≤ tgtG w a ∧ tgtG w a < a) && (decide (apartF w a (tgtG w a) = 1) && (decide (apartF w (tgtG w a) 0 + 1 = apartF w a 0) &&
    (fun B => (fun i => decide (i < B.length) && decide (gi B i = tgtG w a)) (B.findIdx fun x => decide (apartF w x 0 < apartF w a 0))) (besG w n a))))
def shapeChk (w : Int) (n : Nat) : Bool := nearChk w n && (List.range n).all fun b => (List.range (n + 1)).all fun m => decide ((b : Int) = (m : Int) - 1) || cellsChk w n b ((m : Int) - 1)
def allChk : Bool := shapeChk 2 4 && (shapeChk 2 6 && (shapeChk 3 6 && (shapeChk 3 9 && (shapeChk 4 8 && shapeChk 4 12))))
theorem allChk_true : allChk = true := by kernel_rfl
theorem shape_of {h : PHall} (hv : validB h = true) : shapeChk h.wide h.cells.length = true := by
  obtain ⟨⟨⟨a, b⟩, ⟨c, d⟩, e⟩, _⟩ := valid_iff.1 hv
  have hall := allChk_true
  simp only [allChk, Bool.and_eq_true] at hall
  obtain ⟨h1, h2, h3, h4, h5, h6⟩ := hall
  have hw : h.wide = 2 ∨ h.wide = 3 ∨ h.wide = 4 := by omega
  have hd : h.deep = 2 ∨ h.deep = 3 := by omega
  rcases hw with hw | hw | hw <;> rcases hd with hd | hd <;> rw [hw, hd] at e <;> rw [hw]
  · rw [show h.cells.length = 4 by omega]; exact h1
  · rw [show h.cells.length = 6 by omega]; exact h2
  · rw [show h.cells.length = 6 by omega]; exact h3
  · rw [show h.cells.length = 9 by omega]; exact h4
  · rw [show h.cells.length = 8 by omega]; exact h5
  · rw [show h.cells.length = 12 by omega]; exact h6
theorem way_cell {h : PHall} {a b but : Int} (ho : wayOk h a b but = true) : 0 ≤ gi (stepsG h.wide h.cells.length b but) a.toNat ∧ wayChk h.wide h.cells.length a b but (wayG h.wide h.cells.length (stepsG h.wide h.cells.length b but) a) = true ∧ ((wayG h.wide h.cells.length (stepsG h.wide h.cells.length b but) a).length : Int) = gi (stepsG h.wide h.cells.length b but) a.toNat + 1 ∧ ∀ x, x ∈ besG h.wide h.cells.length a → x = but ∨ gi (stepsG h.wide h.cells.length b but) a.toNat ≤ gi (stepsG h.wide h.cells.length b but) x.toNat + 1 := by
  obtain ⟨hv, ⟨a0, a1⟩, ⟨b0, b1⟩, ⟨c0, c1⟩, d1, d2⟩ := wayOk_iff.1 ho
  have hs := shape_of hv
  simp only [shapeChk, Bool.and_eq_true] at hs
  replace hs := hs.2
  simp only [List.all_eq_true, List.mem_range] at hs
  have h1 := hs b.toNat (by omega) (but + 1).toNat (by omega)
  have e1 : ((b.toNat : Nat) : Int) = b := by omega
  have e2 : (((but + 1).toNat : Nat) : Int) - 1 = but := by omega
  rw [e2] at h1
  simp only [Bool.or_eq_true, decide_eq_true_eq] at h1
  rcases h1 with h1 | h1
  · omega
  · simp only [cellsChk, List.all_eq_true, List.mem_range] at h1
    have h2 := h1 a.toNat (by omega)
    have e3 : ((a.toNat : Nat) : Int) = a := by omega
    rw [e1, e3] at h2
    simp only [Bool.or_eq_true, Bool.and_eq_true, decide_eq_true_eq, List.all_eq_true] at h2
    rcases h2 with h2 | ⟨h2, h3, h4, h5⟩
    · omega
    · exact ⟨h2, h3, h4, h5⟩
theorem way_chk {h : PHall} {a b but : Int} (ho : wayOk h a b but = true) : wayChk h.wide h.cells.length a b but (wayF h a b but) = true := by
  obtain ⟨h2, h3, _, _⟩ := way_cell ho
  rw [way_G ho, if_pos h2]; exact h3
theorem way_near {h : PHall} {a b but x : Int} (ho : wayOk h a b but = true) (hx : wayOk h x b but = true) (hm : x ∈ besideF h a) : (wayF h a b but).length ≤ (wayF h x b but).length + 1 := by
  obtain ⟨h2, _, h4, h5⟩ := way_cell ho
  obtain ⟨k2, _, k4, _⟩ := way_cell hx
  rw [way_G ho, if_pos h2, way_G hx, if_pos k2]
  rw [beside_G (wayOk_iff.1 ho).1] at hm
  have hne : x ≠ but := fun e => (wayOk_iff.1 hx).2.2.2.2.1 e.symm
  rcases h5 x hm with h | h
  · exact absurd h hne
  · omega
structure WayGood (h : PHall) (a b but : Int) (l : List Int) : Prop where
  short : l.length ≤ 12
  cells : ∀ x, x ∈ l → 0 ≤ x ∧ x < h.cells.length
  first : gi l 0 = a
  last : gi l (l.length - 1) = b
  pos : 0 < l.length
  step : ∀ j, j + 1 < l.length → apartF h.wide (gi l j) (gi l (j+1)) = 1
  avoid : ∀ x, x ∈ l → x ≠ but
  least : but = -1 → (l.length : Int) = apartF h.wide a b + 1
theorem way_good {h : PHall} {a b but : Int} (ho : wayOk h a b but = true) : WayGood h a b but (wayF h a b but) := by
  have := way_chk ho
  simp only [wayChk, Bool.and_eq_true, decide_eq_true_eq, List.all_eq_true, List.mem_range, Bool.or_eq_true, Bool.not_eq_true', decide_eq_false_iff_not] at this
  obtain ⟨h1, h0, h2, h3, h4, h5, h6, h7⟩ := this
  exact ⟨h1, h0, h2, h3, h4, fun j hj => h5 j (by omega), h6, fun e => by rcases h7 with h7 | h7; (exact absurd e h7); exact h7⟩
theorem way_no {h : PHall} {a b but : Int} (ho : ¬ wayOk h a b but = true) : wayF h a b but = [] := by unfold wayF; rw [if_neg (fun e => ho e.1)]
theorem way_len (h : PHall) (a b but : Int) : (wayF h a b but).length ≤ 12 := by
  by_cases ho : wayOk h a b but = true
  · exact (way_good ho).short
  · rw [way_no ho]; simp
/-- the step towards the gate -/
structure TgtGood (h : PHall) (a : Int) : Prop where
  low : 0 ≤ tgtG h.wide a
  less : tgtG h.wide a < a
  beside : apartF h.wide a (tgtG h.wide a) = 1
  nearer : apartF h.wide (tgtG h.wide a) 0 + 1 = apartF h.wide a 0
  find : ∃ i, i < (besideF h a).length ∧ gi (besideF h a) i = tgtG h.wide a ∧ ∀ j, j < i → ¬ apartF h.wide (gi (besideF h a) j) 0 < apartF h.wide a 0
theorem tgt_good {h : PHall} (hv : validB h = true) {a : Int} (h0 : 0 < a) (h1 : a < h.cells.length) : TgtGood h a := by
  have hs := shape_of hv
  simp only [shapeChk, Bool.and_eq_true] at hs
  have hs := hs.1
  simp only [nearChk, List.all_eq_true, List.mem_range] at hs
  have h2 := hs a.toNat (by omega)
  have e : ((a.toNat : Nat) : Int) = a := by omega
  simp only [e, Bool.or_eq_true, Bool.and_eq_true, decide_eq_true_eq] at h2
  rcases h2 with h2 | ⟨⟨h3, h4⟩, h5, h6, h7, h8⟩
  · omega
  · refine ⟨h3, h4, h5, h6, ?_⟩
    rw [beside_G hv]
    refine ⟨_, h7, h8, fun j hj => ?_⟩
    have := List.not_of_lt_findIdx hj
    simp only [gi, List.getD_eq_getElem?_getD]
    rw [List.getElem?_eq_getElem (by omega)]
    simpa using this
end Go.Proofs.YtjdgbdakkdljmaaDoor
namespace Go.Proofs.YtjdgbdakkdljmaaDoor
open Go Go.RowKit Go.Park Go.Sym

/-- the best of the ways from the first k free cells -/
def nearS (h : PHall) (tgt but : Int) (free : List Int) : Nat → List Int
  | 0 => []
  | k+1 => if 0 < (wayF h (gi free k) tgt but).length ∧ ((nearS h tgt but free k).length = 0 ∨ (wayF h (gi free k) tgt but).length < (nearS h tgt but free k).length) then wayF h (gi free k) tgt but else nearS h tgt but free k
def nearF (h : PHall) (tgt but : Int) : List Int := nearS h tgt but (hallFreeF h) (hallFreeF h).length
theorem near_yes {h : PHall} {tgt but : Int} {free : List Int} {k : Nat} (h1 : 0 < (wayF h (gi free k) tgt but).length) (h2 : (nearS h tgt but free k).length = 0 ∨ (wayF h (gi free k) tgt but).length < (nearS h tgt but free k).length) : nearS h tgt but free (k+1) = wayF h (gi free k) tgt but := by
  simp only [nearS]; rw [if_pos ⟨h1, h2⟩]
theorem near_no {h : PHall} {tgt but : Int} {free : List Int} {k : Nat} (hn : ¬ (0 < (wayF h (gi free k) tgt but).length ∧ ((nearS h tgt but free k).length = 0 ∨ (wayF h (gi free k) tgt but).length < (nearS h tgt but free k).length))) : nearS h tgt but free (k+1) = nearS h tgt but free k := by
  simp only [nearS]; rw [if_neg hn]
theorem near_len (h : PHall) (tgt but : Int) (free : List Int) : ∀ k, (nearS h tgt but free k).length ≤ 12
  | 0 => by simp [nearS]
  | k+1 => by
    simp only [nearS]
    split
    · exact way_len _ _ _ _
    · exact near_len h tgt but free k
theorem free_len (h : PHall) : (hallFreeF h).length ≤ h.cells.length := by
  unfold hallFreeF
  split
  · exact selTo_length _ _
  · simp
set_option maxHeartbeats 2000000 in
theorem l2Nearest_fn (h : PHall) (hl : h.cells.length ≤ lim) (tgt but : Int) : FnS Tryd.prog 98 [hallV h, .int tgt, .int but] (intsV (nearF h tgt but)) := by
  have hl' : h.cells.length ≤ 1073741824 := hl
  have hf := free_len h
  refine fn_go3 tabOk Tryd.func98 rfl (by kernel_rfl) Tryd.ntmps98 Tryd.results98 (by decide) ?_
  repeat first | refine ax_seq ?_ | refine ax_next ?_ | refine rg_text ?_ | refine rg_any mixed ?_ | refine ax_block ?_ | refine rh_nil ⟨(by kernel_rfl), ?_⟩ | refine rh_nil ?_ | refine ax_ret ?_ | refine ax_skip ?_ | refine ax_exit ?_ | refine ax_true rfl ?_ | refine ax_false rfl ?_ | refine then_ret ?_ | refine then_exit ?_ | refine out_here ?_ | refine out_away rfl ?_ | refine out_normal ?_ | refine out_ret ?_ | refine round_exit ?_ | refine round_ret ?_ | refine meet_ret ?_ | refine meet_exit ?_ | (apply rh_no; iterate 4 exact rfl) | (apply rh_un; iterate 3 exact rfl) | (apply rh0; (case h => exact z0); (case hw => exact wt)) | (apply rh1; (case h => first | (apply st_call_s (hfn := specHallFree_fn h hl ); exact rfl; exact fz; iterate 2 exact rfl) | exact z1); (case hw => exact wt)) | (apply rhs; (case h => exact zs); (case hw => exact wt))
  refine ax_loop (fun k : Nat => mkS [(9, .int (k : Int)), (8, .own 3 0), (7, .own 2 0), (3, .ptr 1 0 0), (1, .int tgt), (2, .int but)] ⟨4, [(1, some (hallRow h)), (2, some (intsRow (nearS h tgt but (hallFreeF h) k))), (3, some (intsRow (hallFreeF h)))]⟩) (fun k => k ≤ (hallFreeF h).length) (fun k => (hallFreeF h).length - k) (0) (Nat.zero_le _) (weak_of [] (by repeat first | exact .nil | refine LeEs.cons ?_ ?_ | exact .v (by first | rfl | (rfl)) | exact .own rfl rfl rfl rfl rfl | exact .ptr rfl rfl rfl rfl rfl rfl | exact .nil rfl rfl rfl | exact .sl (by first | rfl | (rfl)) | exact .both rfl rfl | exact .frz rfl rfl rfl rfl rfl (by first | rfl | (rfl)) rfl | exact .any _) (by repeat first | exact .nil | refine LeHs.keep rfl ⟨rfl, rfl, rfl, .inl ⟨rfl, by first | rfl | (rfl)⟩⟩ ?_ | refine LeHs.keep rfl ⟨rfl, rfl, rfl, .inr ⟨(by first | exact .inl rfl | exact .inr rfl), by repeat first | exact .nil | refine LeVL.cons ?_ ?_ | exact .v (by first | rfl | (rfl)) | exact .own rfl rfl rfl rfl rfl | exact .sl (by first | rfl | (rfl)) | exact .both rfl rfl | exact .frz rfl rfl rfl rfl rfl (by first | rfl | (rfl)) rfl⟩⟩ ?_ | refine LeHs.fresh rfl rfl rfl (Nat.succ_pos _) rfl ?_) rfl rfl) ?_
  rintro k hk
  have hb := near_len h tgt but (hallFreeF h) k
  repeat first | refine ax_seq ?_ | refine ax_next ?_ | refine rg_text ?_ | refine rg_any mixed ?_ | refine ax_block ?_ | refine rh_nil ⟨(by kernel_rfl), ?_⟩ | refine rh_nil ?_ | refine ax_ret ?_ | refine ax_skip ?_ | refine ax_exit ?_ | refine ax_true rfl ?_ | refine ax_false rfl ?_ | refine then_ret ?_ | refine then_exit ?_ | refine out_here ?_ | refine out_away rfl ?_ | refine out_normal ?_ | refine out_ret ?_ | refine round_exit ?_ | refine round_ret ?_ | refine meet_ret ?_ | refine meet_exit ?_ | (apply rh_no; iterate 4 exact rfl) | (apply rh_un; iterate 3 exact rfl) | (apply rh0; (case h => exact z0); (case hw => exact wt)) | (apply rh1; (case h => exact z1); (case hw => exact wt)) | (apply rhs; (case h => exact zs); (case hw => exact wt))
  refine ax_cond rfl (fun hb1 => ?_) (fun hb1 => ?_)
  · have hlt : k < (hallFreeF h).length := by simp at hb1; exact hb1
    have hw := way_len h (gi (hallFreeF h) k) tgt but
    repeat first | refine ax_seq ?_ | refine ax_next ?_ | refine rg_text ?_ | refine rg_any mixed ?_ | refine ax_block ?_ | refine rh_nil ⟨(by kernel_rfl), ?_⟩ | refine rh_nil ?_ | refine ax_ret ?_ | refine ax_skip ?_ | refine ax_exit ?_ | refine ax_true rfl ?_ | refine ax_false rfl ?_ | refine then_ret ?_ | refine then_exit ?_ | refine out_here ?_ | refine out_away rfl ?_ | refine out_normal ?_ | refine out_ret ?_ | refine round_exit ?_ | refine round_ret ?_ | refine meet_ret ?_ | refine meet_exit ?_ | (apply rh_no; iterate 4 exact rfl) | (apply rh_un; iterate 3 exact rfl) | (apply rh0; (case h => exact z0); (case hw => exact wt)) | (apply rh1; (case h => first | (apply st_call_s (hfn := specWayCells_fn h hl (gi (hallFreeF h) k) tgt but ); exact rfl; exact fz; iterate 2 exact rfl) | exact z1); (case hw => exact wt)) | (apply rhs; (case h => exact zs); (case hw => exact wt))
    refine rh_split rfl rfl (fun hb2 => ?_) (fun hb2 => ?_)
    · have hp : 0 < (wayF h (gi (hallFreeF h) k) tgt but).length := by simpa using hb2
      repeat first | refine ax_seq ?_ | refine ax_next ?_ | refine rg_text ?_ | refine rg_any mixed ?_ | refine ax_block ?_ | refine rh_nil ⟨(by kernel_rfl), ?_⟩ | refine rh_nil ?_ | refine ax_ret ?_ | refine ax_skip ?_ | refine ax_exit ?_ | refine ax_true rfl ?_ | refine ax_false rfl ?_ | refine then_ret ?_ | refine then_exit ?_ | refine out_here ?_ | refine out_away rfl ?_ | refine out_normal ?_ | refine out_ret ?_ | refine round_exit ?_ | refine round_ret ?_ | refine meet_ret ?_ | refine meet_exit ?_ | (apply rh_no; iterate 4 exact rfl) | (apply rh_un; iterate 3 exact rfl) | (apply rh0; (case h => exact z0); (case hw => exact wt)) | (apply rh1; (case h => exact z1); (case hw => exact wt)) | (apply rhs; (case h => exact zs); (case hw => exact wt))
      refine rh_split rfl rfl (fun hb3 => ?_) (fun hb3 => ?_)
      · have h0 : (nearS h tgt but (hallFreeF h) k).length = 0 := by simp at hb3; simp [hb3]
        repeat first | refine ax_seq ?_ | refine ax_next ?_ | refine rg_text ?_ | refine rg_any mixed ?_ | refine ax_block ?_ | refine rh_nil ⟨(by kernel_rfl), ?_⟩ | refine rh_nil ?_ | refine ax_ret ?_ | refine ax_skip ?_ | refine ax_exit ?_ | refine ax_true rfl ?_ | refine ax_false rfl ?_ | refine then_ret ?_ | refine then_exit ?_ | refine out_here ?_ | refine out_away rfl ?_ | refine out_normal ?_ | refine out_ret ?_ | refine round_exit ?_ | refine round_ret ?_ | refine meet_ret ?_ | refine meet_exit ?_ | (apply rh_no; iterate 4 exact rfl) | (apply rh_un; iterate 3 exact rfl) | (apply rh0; (case h => exact z0); (case hw => exact wt)) | (apply rh1; (case h => exact z1); (case hw => exact wt)) | (apply rhs; (case h => exact zs); (case hw => exact wt))
        refine round_next (k + 1) (hlt) (by omega) (weak_of [(2, 4)] (by repeat first | exact .nil | refine LeEs.cons ?_ ?_ | exact .v (by first | rfl | (rw [near_yes hp (.inl h0)])) | exact .own rfl rfl rfl rfl rfl | exact .ptr rfl rfl rfl rfl rfl rfl | exact .nil rfl rfl rfl | exact .sl (by first | rfl | (rw [near_yes hp (.inl h0)])) | exact .both rfl rfl | exact .frz rfl rfl rfl rfl rfl (by first | rfl | (rw [near_yes hp (.inl h0)])) rfl | exact .any _) (by repeat first | exact .nil | refine LeHs.keep rfl ⟨rfl, rfl, rfl, .inl ⟨rfl, by first | rfl | (rw [near_yes hp (.inl h0)])⟩⟩ ?_ | refine LeHs.keep rfl ⟨rfl, rfl, rfl, .inr ⟨(by first | exact .inl rfl | exact .inr rfl), by repeat first | exact .nil | refine LeVL.cons ?_ ?_ | exact .v (by first | rfl | (rw [near_yes hp (.inl h0)])) | exact .own rfl rfl rfl rfl rfl | exact .sl (by first | rfl | (rw [near_yes hp (.inl h0)])) | exact .both rfl rfl | exact .frz rfl rfl rfl rfl rfl (by first | rfl | (rw [near_yes hp (.inl h0)])) rfl⟩⟩ ?_ | refine LeHs.fresh rfl rfl rfl (Nat.succ_pos _) rfl ?_) rfl rfl)
      · repeat first | refine ax_seq ?_ | refine ax_next ?_ | refine rg_text ?_ | refine rg_any mixed ?_ | refine ax_block ?_ | refine rh_nil ⟨(by kernel_rfl), ?_⟩ | refine rh_nil ?_ | refine ax_ret ?_ | refine ax_skip ?_ | refine ax_exit ?_ | refine ax_true rfl ?_ | refine ax_false rfl ?_ | refine then_ret ?_ | refine then_exit ?_ | refine out_here ?_ | refine out_away rfl ?_ | refine out_normal ?_ | refine out_ret ?_ | refine round_exit ?_ | refine round_ret ?_ | refine meet_ret ?_ | refine meet_exit ?_ | (apply rh_no; iterate 4 exact rfl) | (apply rh_un; iterate 3 exact rfl) | (apply rh0; (case h => exact z0); (case hw => exact wt)) | (apply rh1; (case h => exact z1); (case hw => exact wt)) | (apply rhs; (case h => exact zs); (case hw => exact wt))
        refine ax_cond rfl (fun hb4 => ?_) (fun hb4 => ?_)
        · have h1 : (wayF h (gi (hallFreeF h) k) tgt but).length < (nearS h tgt but (hallFreeF h) k).length := by simp at hb4; exact hb4
          repeat first | refine ax_seq ?_ | refine ax_next ?_ | refine rg_text ?_ | refine rg_any mixed ?_ | refine ax_block ?_ | refine rh_nil ⟨(by kernel_rfl), ?_⟩ | refine rh_nil ?_ | refine ax_ret ?_ | refine ax_skip ?_ | refine ax_exit ?_ | refine ax_true rfl ?_ | refine ax_false rfl ?_ | refine then_ret ?_ | refine then_exit ?_ | refine out_here ?_ | refine out_away rfl ?_ | refine out_normal ?_ | refine out_ret ?_ | refine round_exit ?_ | refine round_ret ?_ | refine meet_ret ?_ | refine meet_exit ?_ | (apply rh_no; iterate 4 exact rfl) | (apply rh_un; iterate 3 exact rfl) | (apply rh0; (case h => exact z0); (case hw => exact wt)) | (apply rh1; (case h => exact z1); (case hw => exact wt)) | (apply rhs; (case h => exact zs); (case hw => exact wt))
          refine round_next (k + 1) (hlt) (by omega) (weak_of [(2, 4)] (by repeat first | exact .nil | refine LeEs.cons ?_ ?_ | exact .v (by first | rfl | (rw [near_yes hp (.inr h1)])) | exact .own rfl rfl rfl rfl rfl | exact .ptr rfl rfl rfl rfl rfl rfl | exact .nil rfl rfl rfl | exact .sl (by first | rfl | (rw [near_yes hp (.inr h1)])) | exact .both rfl rfl | exact .frz rfl rfl rfl rfl rfl (by first | rfl | (rw [near_yes hp (.inr h1)])) rfl | exact .any _) (by repeat first | exact .nil | refine LeHs.keep rfl ⟨rfl, rfl, rfl, .inl ⟨rfl, by first | rfl | (rw [near_yes hp (.inr h1)])⟩⟩ ?_ | refine LeHs.keep rfl ⟨rfl, rfl, rfl, .inr ⟨(by first | exact .inl rfl | exact .inr rfl), by repeat first | exact .nil | refine LeVL.cons ?_ ?_ | exact .v (by first | rfl | (rw [near_yes hp (.inr h1)])) | exact .own rfl rfl rfl rfl rfl | exact .sl (by first | rfl | (rw [near_yes hp (.inr h1)])) | exact .both rfl rfl | exact .frz rfl rfl rfl rfl rfl (by first | rfl | (rw [near_yes hp (.inr h1)])) rfl⟩⟩ ?_ | refine LeHs.fresh rfl rfl rfl (Nat.succ_pos _) rfl ?_) rfl rfl)
        · have h1 : ¬ (nearS h tgt but (hallFreeF h) k).length = 0 := by simp at hb3; simp [hb3]
          have h2 : ¬ (wayF h (gi (hallFreeF h) k) tgt but).length < (nearS h tgt but (hallFreeF h) k).length := by simp at hb4; omega
          repeat first | refine ax_seq ?_ | refine ax_next ?_ | refine rg_text ?_ | refine rg_any mixed ?_ | refine ax_block ?_ | refine rh_nil ⟨(by kernel_rfl), ?_⟩ | refine rh_nil ?_ | refine ax_ret ?_ | refine ax_skip ?_ | refine ax_exit ?_ | refine ax_true rfl ?_ | refine ax_false rfl ?_ | refine then_ret ?_ | refine then_exit ?_ | refine out_here ?_ | refine out_away rfl ?_ | refine out_normal ?_ | refine out_ret ?_ | refine round_exit ?_ | refine round_ret ?_ | refine meet_ret ?_ | refine meet_exit ?_ | (apply rh_no; iterate 4 exact rfl) | (apply rh_un; iterate 3 exact rfl) | (apply rh0; (case h => exact z0); (case hw => exact wt)) | (apply rh1; (case h => exact z1); (case hw => exact wt)) | (apply rhs; (case h => exact zs); (case hw => exact wt))
          refine round_next (k + 1) (hlt) (by omega) (weak_of [] (by repeat first | exact .nil | refine LeEs.cons ?_ ?_ | exact .v (by first | rfl | (rw [near_no (fun e => e.2.elim h1 h2)])) | exact .own rfl rfl rfl rfl rfl | exact .ptr rfl rfl rfl rfl rfl rfl | exact .nil rfl rfl rfl | exact .sl (by first | rfl | (rw [near_no (fun e => e.2.elim h1 h2)])) | exact .both rfl rfl | exact .frz rfl rfl rfl rfl rfl (by first | rfl | (rw [near_no (fun e => e.2.elim h1 h2)])) rfl | exact .any _) (by repeat first | exact .nil | refine LeHs.keep rfl ⟨rfl, rfl, rfl, .inl ⟨rfl, by first | rfl | (rw [near_no (fun e => e.2.elim h1 h2)])⟩⟩ ?_ | refine LeHs.keep rfl ⟨rfl, rfl, rfl, .inr ⟨(by first | exact .inl rfl | exact .inr rfl), by repeat first | exact .nil | refine LeVL.cons ?_ ?_ | exact .v (by first | rfl | (rw [near_no (fun e => e.2.elim h1 h2)])) | exact .own rfl rfl rfl rfl rfl | exact .sl (by first | rfl | (rw [near_no (fun e => e.2.elim h1 h2)])) | exact .both rfl rfl | exact .frz rfl rfl rfl rfl rfl (by first | rfl | (rw [near_no (fun e => e.2.elim h1 h2)])) rfl⟩⟩ ?_ | refine LeHs.fresh rfl rfl rfl (Nat.succ_pos _) rfl ?_) rfl rfl)
    · have h1 : ¬ 0 < (wayF h (gi (hallFreeF h) k) tgt but).length := by simp at hb2; simp [hb2]
      repeat first | refine ax_seq ?_ | refine ax_next ?_ | refine rg_text ?_ | refine rg_any mixed ?_ | refine ax_block ?_ | refine rh_nil ⟨(by kernel_rfl), ?_⟩ | refine rh_nil ?_ | refine ax_ret ?_ | refine ax_skip ?_ | refine ax_exit ?_ | refine ax_true rfl ?_ | refine ax_false rfl ?_ | refine then_ret ?_ | refine then_exit ?_ | refine out_here ?_ | refine out_away rfl ?_ | refine out_normal ?_ | refine out_ret ?_ | refine round_exit ?_ | refine round_ret ?_ | refine meet_ret ?_ | refine meet_exit ?_ | (apply rh_no; iterate 4 exact rfl) | (apply rh_un; iterate 3 exact rfl) | (apply rh0; (case h => exact z0); (case hw => exact wt)) | (apply rh1; (case h => exact z1); (case hw => exact wt)) | (apply rhs; (case h => exact zs); (case hw => exact wt))
      refine round_next (k + 1) (hlt) (by omega) (weak_of [] (by repeat first | exact .nil | refine LeEs.cons ?_ ?_ | exact .v (by first | rfl | (rw [near_no (fun e => h1 e.1)])) | exact .own rfl rfl rfl rfl rfl | exact .ptr rfl rfl rfl rfl rfl rfl | exact .nil rfl rfl rfl | exact .sl (by first | rfl | (rw [near_no (fun e => h1 e.1)])) | exact .both rfl rfl | exact .frz rfl rfl rfl rfl rfl (by first | rfl | (rw [near_no (fun e => h1 e.1)])) rfl | exact .any _) (by repeat first | exact .nil | refine LeHs.keep rfl ⟨rfl, rfl, rfl, .inl ⟨rfl, by first | rfl | (rw [near_no (fun e => h1 e.1)])⟩⟩ ?_ | refine LeHs.keep rfl ⟨rfl, rfl, rfl, .inr ⟨(by first | exact .inl rfl | exact .inr rfl), by repeat first | exact .nil | refine LeVL.cons ?_ ?_ | exact .v (by first | rfl | (rw [near_no (fun e => h1 e.1)])) | exact .own rfl rfl rfl rfl rfl | exact .sl (by first | rfl | (rw [near_no (fun e => h1 e.1)])) | exact .both rfl rfl | exact .frz rfl rfl rfl rfl rfl (by first | rfl | (rw [near_no (fun e => h1 e.1)])) rfl⟩⟩ ?_ | refine LeHs.fresh rfl rfl rfl (Nat.succ_pos _) rfl ?_) rfl rfl)
  · have hkn : k = (hallFreeF h).length := by simp at hb1; omega
    subst hkn
    repeat first | refine ax_seq ?_ | refine ax_next ?_ | refine rg_text ?_ | refine rg_any mixed ?_ | refine ax_block ?_ | refine rh_nil ⟨(by kernel_rfl), ?_⟩ | refine rh_nil ?_ | refine ax_ret ?_ | refine ax_skip ?_ | refine ax_exit ?_ | refine ax_true rfl ?_ | refine ax_false rfl ?_ | refine then_ret ?_ | refine then_exit ?_ | refine out_here ?_ | refine out_away rfl ?_ | refine out_normal ?_ | refine out_ret ?_ | refine round_exit ?_ | refine round_ret ?_ | refine meet_ret ?_ | refine meet_exit ?_ | (apply rh_no; iterate 4 exact rfl) | (apply rh_un; iterate 3 exact rfl) | (apply rh0; (case h => exact z0); (case hw => exact wt)) | (apply rh1; (case h => exact z1); (case hw => exact wt)) | (apply rhs; (case h => exact zs); (case hw => exact wt))
    refine ⟨.inl rfl, _, _, (by repeat first | exact .nil | apply ResL.cons | exact .tmp rfl | exact .agg rfl rfl rfl rfl rfl (Nat.le_of_ble_eq_true rfl) rfl | exact .cell rfl rfl rfl rfl rfl (Nat.le_of_ble_eq_true rfl) rfl), (by first | exact .one (by first | exact .one (.v rfl) | exact .one (.own rfl rfl rfl rfl rfl rfl rfl (by first | exact scal_ints _ | exact scal_slc _)) | exact .one (.nil (by decide) rfl) | exact .agg (.cons (.v rfl) (.cons (.v rfl) (.cons (.own rfl rfl rfl rfl rfl rfl rfl (scal_ints _)) .nil))) | exact .agg (.cons (.v rfl) (.cons (.v rfl) (.cons (.nil (by decide) rfl) .nil))) | exact .agg (.cons (.v rfl) (.cons (.v rfl) .nil))) | exact .two (by repeat first | exact .nil | apply ExpL.cons | exact (by first | exact .one (.v rfl) | exact .one (.own rfl rfl rfl rfl rfl rfl rfl (by first | exact scal_ints _ | exact scal_slc _)) | exact .one (.nil (by decide) rfl) | exact .agg (.cons (.v rfl) (.cons (.v rfl) (.cons (.own rfl rfl rfl rfl rfl rfl rfl (scal_ints _)) .nil))) | exact .agg (.cons (.v rfl) (.cons (.v rfl) (.cons (.nil (by decide) rfl) .nil))) | exact .agg (.cons (.v rfl) (.cons (.v rfl) .nil))))), (by decide)⟩
/-! ClearGate -/
def clearF (h : PHall) : List (Int × Int) × Bool := if validB h = true ∧ 0 < (nearF h 0 (-1)).length then (holeF h (nearF h 0 (-1)), true) else ([], false)
theorem near_clear_len (h : PHall) (tgt but : Int) : (nearF h tgt but).length ≤ 12 := near_len _ _ _ _ _
theorem clearF_len (h : PHall) : (clearF h).1.length ≤ 12 := by
  unfold clearF
  split
  · exact Nat.le_trans holeF_len (near_clear_len _ _ _)
  · simp
theorem clearF_lim (h : PHall) : (clearF h).1.length ≤ lim := by
  have := clearF_len h
  have := lim_eq
  omega
set_option maxHeartbeats 2000000 in
theorem specClearGate_fn (h : PHall) (hl : h.cells.length ≤ lim) : FnS Tryd.prog 59 [hallV h] (.tup [slcV (clearF h).1, .bool (clearF h).2]) := by
  have hl' : h.cells.length ≤ 1073741824 := hl
  have hn := near_clear_len h 0 (-1)
  have hn' : (nearF h 0 (-1)).length ≤ lim := by have := lim_eq; omega
  refine fn_go1 tabOk Tryd.func59 rfl (by kernel_rfl) Tryd.ntmps59 Tryd.results59 (by decide) ?_
  repeat first | refine ax_seq ?_ | refine ax_next ?_ | refine rg_text ?_ | refine rg_any mixed ?_ | refine ax_block ?_ | refine rh_nil ⟨(by kernel_rfl), ?_⟩ | refine rh_nil ?_ | refine ax_ret ?_ | refine ax_skip ?_ | refine ax_exit ?_ | refine ax_true rfl ?_ | refine ax_false rfl ?_ | refine then_ret ?_ | refine then_exit ?_ | refine out_here ?_ | refine out_away rfl ?_ | refine out_normal ?_ | refine out_ret ?_ | refine round_exit ?_ | refine round_ret ?_ | refine meet_ret ?_ | refine meet_exit ?_ | (apply rh_no; iterate 4 exact rfl) | (apply rh_un; iterate 3 exact rfl) | (apply rh0; (case h => first | (apply st_call (hfn := specHallValid_fn h hl ); exact rfl; exact fz) | exact z0); (case hw => exact wt)) | (apply rh1; (case h => exact z1); (case hw => exact wt)) | (apply rhs; (case h => exact zs); (case hw => exact wt))
  refine ax_cond rfl (fun hb => ?_) (fun hb => ?_)
  · have hv : validB h = true := by simpa using hb
    repeat first | refine ax_seq ?_ | refine ax_next ?_ | refine rg_text ?_ | refine rg_any mixed ?_ | refine ax_block ?_ | refine rh_nil ⟨(by kernel_rfl), ?_⟩ | refine rh_nil ?_ | refine ax_ret ?_ | refine ax_skip ?_ | refine ax_exit ?_ | refine ax_true rfl ?_ | refine ax_false rfl ?_ | refine then_ret ?_ | refine then_exit ?_ | refine out_here ?_ | refine out_away rfl ?_ | refine out_normal ?_ | refine out_ret ?_ | refine round_exit ?_ | refine round_ret ?_ | refine meet_ret ?_ | refine meet_exit ?_ | (apply rh_no; iterate 4 exact rfl) | (apply rh_un; iterate 3 exact rfl) | (apply rh0; (case h => exact z0); (case hw => exact wt)) | (apply rh1; (case h => first | (apply st_call_s (hfn := l2Nearest_fn h hl 0 (-1) ); exact rfl; exact fz; iterate 2 exact rfl) | exact z1); (case hw => exact wt)) | (apply rhs; (case h => exact zs); (case hw => exact wt))
    refine ax_cond rfl (fun hb1 => ?_) (fun hb1 => ?_)
    · have hF : clearF h = ([], false) := by simp at hb1; simp [clearF, hb1]
      rw [hF]
      repeat first | refine ax_seq ?_ | refine ax_next ?_ | refine rg_text ?_ | refine rg_any mixed ?_ | refine ax_block ?_ | refine rh_nil ⟨(by kernel_rfl), ?_⟩ | refine rh_nil ?_ | refine ax_ret ?_ | refine ax_skip ?_ | refine ax_exit ?_ | refine ax_true rfl ?_ | refine ax_false rfl ?_ | refine then_ret ?_ | refine then_exit ?_ | refine out_here ?_ | refine out_away rfl ?_ | refine out_normal ?_ | refine out_ret ?_ | refine round_exit ?_ | refine round_ret ?_ | refine meet_ret ?_ | refine meet_exit ?_ | (apply rh_no; iterate 4 exact rfl) | (apply rh_un; iterate 3 exact rfl) | (apply rh0; (case h => exact z0); (case hw => exact wt)) | (apply rh1; (case h => exact z1); (case hw => exact wt)) | (apply rhs; (case h => exact zs); (case hw => exact wt))
      refine ⟨.inl rfl, _, _, (by repeat first | exact .nil | apply ResL.cons | exact .tmp rfl | exact .agg rfl rfl rfl rfl rfl (Nat.le_of_ble_eq_true rfl) rfl | exact .cell rfl rfl rfl rfl rfl (Nat.le_of_ble_eq_true rfl) rfl), (by first | exact .one (by first | exact .one (.v rfl) | exact .one (.own rfl rfl rfl rfl rfl rfl rfl (by first | exact scal_ints _ | exact scal_slc _)) | exact .one (.nil (by decide) rfl) | exact .agg (.cons (.v rfl) (.cons (.v rfl) (.cons (.own rfl rfl rfl rfl rfl rfl rfl (scal_ints _)) .nil))) | exact .agg (.cons (.v rfl) (.cons (.v rfl) (.cons (.nil (by decide) rfl) .nil))) | exact .agg (.cons (.v rfl) (.cons (.v rfl) .nil))) | exact .two (by repeat first | exact .nil | apply ExpL.cons | exact (by first | exact .one (.v rfl) | exact .one (.own rfl rfl rfl rfl rfl rfl rfl (by first | exact scal_ints _ | exact scal_slc _)) | exact .one (.nil (by decide) rfl) | exact .agg (.cons (.v rfl) (.cons (.v rfl) (.cons (.own rfl rfl rfl rfl rfl rfl rfl (scal_ints _)) .nil))) | exact .agg (.cons (.v rfl) (.cons (.v rfl) (.cons (.nil (by decide) rfl) .nil))) | exact .agg (.cons (.v rfl) (.cons (.v rfl) .nil))))), (by decide)⟩
    · have hp : 0 < (nearF h 0 (-1)).length := by
        simp at hb1
        exact List.length_pos_iff.2 hb1
      have hF : clearF h = (holeF h (nearF h 0 (-1)), true) := by unfold clearF; rw [if_pos ⟨hv, hp⟩]
      rw [hF]
      repeat first | refine ax_seq ?_ | refine ax_next ?_ | refine rg_text ?_ | refine rg_any mixed ?_ | refine ax_block ?_ | refine rh_nil ⟨(by kernel_rfl), ?_⟩ | refine rh_nil ?_ | refine ax_ret ?_ | refine ax_skip ?_ | refine ax_exit ?_ | refine ax_true rfl ?_ | refine ax_false rfl ?_ | refine then_ret ?_ | refine then_exit ?_ | refine out_here ?_ | refine out_away rfl ?_ | refine out_normal ?_ | refine out_ret ?_ | refine round_exit ?_ | refine round_ret ?_ | refine meet_ret ?_ | refine meet_exit ?_ | (apply rh_no; iterate 4 exact rfl) | (apply rh_un; iterate 3 exact rfl) | (apply rh0; (case h => exact z0); (case hw => exact wt)) | (apply rh1; (case h => first | (apply st_call_s (hfn := specHoleSlides_fn h hl _ hn' ); exact rfl; exact fz; iterate 2 exact rfl) | exact z1); (case hw => exact wt)) | (apply rhs; (case h => exact zs); (case hw => exact wt))
      refine ⟨.inl rfl, _, _, (by repeat first | exact .nil | apply ResL.cons | exact .tmp rfl | exact .agg rfl rfl rfl rfl rfl (Nat.le_of_ble_eq_true rfl) rfl | exact .cell rfl rfl rfl rfl rfl (Nat.le_of_ble_eq_true rfl) rfl), (by first | exact .one (by first | exact .one (.v rfl) | exact .one (.own rfl rfl rfl rfl rfl rfl rfl (by first | exact scal_ints _ | exact scal_slc _)) | exact .one (.nil (by decide) rfl) | exact .agg (.cons (.v rfl) (.cons (.v rfl) (.cons (.own rfl rfl rfl rfl rfl rfl rfl (scal_ints _)) .nil))) | exact .agg (.cons (.v rfl) (.cons (.v rfl) (.cons (.nil (by decide) rfl) .nil))) | exact .agg (.cons (.v rfl) (.cons (.v rfl) .nil))) | exact .two (by repeat first | exact .nil | apply ExpL.cons | exact (by first | exact .one (.v rfl) | exact .one (.own rfl rfl rfl rfl rfl rfl rfl (by first | exact scal_ints _ | exact scal_slc _)) | exact .one (.nil (by decide) rfl) | exact .agg (.cons (.v rfl) (.cons (.v rfl) (.cons (.own rfl rfl rfl rfl rfl rfl rfl (scal_ints _)) .nil))) | exact .agg (.cons (.v rfl) (.cons (.v rfl) (.cons (.nil (by decide) rfl) .nil))) | exact .agg (.cons (.v rfl) (.cons (.v rfl) .nil))))), (by decide)⟩
  · have hF : clearF h = ([], false) := by simp [clearF, hb]
    rw [hF]
    repeat first | refine ax_seq ?_ | refine ax_next ?_ | refine rg_text ?_ | refine rg_any mixed ?_ | refine ax_block ?_ | refine rh_nil ⟨(by kernel_rfl), ?_⟩ | refine rh_nil ?_ | refine ax_ret ?_ | refine ax_skip ?_ | refine ax_exit ?_ | refine ax_true rfl ?_ | refine ax_false rfl ?_ | refine then_ret ?_ | refine then_exit ?_ | refine out_here ?_ | refine out_away rfl ?_ | refine out_normal ?_ | refine out_ret ?_ | refine round_exit ?_ | refine round_ret ?_ | refine meet_ret ?_ | refine meet_exit ?_ | (apply rh_no; iterate 4 exact rfl) | (apply rh_un; iterate 3 exact rfl) | (apply rh0; (case h => exact z0); (case hw => exact wt)) | (apply rh1; (case h => exact z1); (case hw => exact wt)) | (apply rhs; (case h => exact zs); (case hw => exact wt))
    refine ⟨.inl rfl, _, _, (by repeat first | exact .nil | apply ResL.cons | exact .tmp rfl | exact .agg rfl rfl rfl rfl rfl (Nat.le_of_ble_eq_true rfl) rfl | exact .cell rfl rfl rfl rfl rfl (Nat.le_of_ble_eq_true rfl) rfl), (by first | exact .one (by first | exact .one (.v rfl) | exact .one (.own rfl rfl rfl rfl rfl rfl rfl (by first | exact scal_ints _ | exact scal_slc _)) | exact .one (.nil (by decide) rfl) | exact .agg (.cons (.v rfl) (.cons (.v rfl) (.cons (.own rfl rfl rfl rfl rfl rfl rfl (scal_ints _)) .nil))) | exact .agg (.cons (.v rfl) (.cons (.v rfl) (.cons (.nil (by decide) rfl) .nil))) | exact .agg (.cons (.v rfl) (.cons (.v rfl) .nil))) | exact .two (by repeat first | exact .nil | apply ExpL.cons | exact (by first | exact .one (.v rfl) | exact .one (.own rfl rfl rfl rfl rfl rfl rfl (by first | exact scal_ints _ | exact scal_slc _)) | exact .one (.nil (by decide) rfl) | exact .agg (.cons (.v rfl) (.cons (.v rfl) (.cons (.own rfl rfl rfl rfl rfl rfl rfl (scal_ints _)) .nil))) | exact .agg (.cons (.v rfl) (.cons (.v rfl) (.cons (.nil (by decide) rfl) .nil))) | exact .agg (.cons (.v rfl) (.cons (.v rfl) .nil))))), (by decide)⟩
theorem free_cell {h : PHall} {k : Nat} (hk : k < (hallFreeF h).length) : validB h = true ∧ 0 ≤ gi (hallFreeF h) k ∧ gi (hallFreeF h) k < h.cells.length ∧ gi h.cells (gi (hallFreeF h) k).toNat = 0 := by
  unfold hallFreeF at hk ⊢
  by_cases hv : validB h = true
  · rw [if_pos hv] at hk ⊢
    obtain ⟨j, h1, h2, h3⟩ := selTo_mem.1 (gi_mem hk)
    rw [h3]
    exact ⟨hv, by omega, by omega, by simpa using h2⟩
  · rw [if_neg hv] at hk; simp at hk
theorem near_pos {h : PHall} {k : Nat} (hk : k < (hallFreeF h).length) : 0 < (nearS h 0 (-1) (hallFreeF h) (k+1)).length := by
  obtain ⟨hv, h0, h1, _⟩ := free_cell hk
  have hw := (way_good (h := h) (a := gi (hallFreeF h) k) (b := 0) (but := -1) (wayOk_iff.2 ⟨hv, ⟨h0, h1⟩, ⟨by omega, by omega⟩, ⟨by omega, by omega⟩, by omega, by omega⟩)).pos
  simp only [nearS]
  split
  · exact hw
  · rename_i hn
    have : ¬ (nearS h 0 (-1) (hallFreeF h) k).length = 0 := fun e => hn ⟨hw, .inl e⟩
    omega
set_option maxHeartbeats 2000000 in
theorem clearGate_fn (h : PHall) (hl : h.cells.length ≤ lim) : FnS Tryd.prog 58 [hallV h] (.tup [slcV (clearF h).1, .bool (clearF h).2]) := by
  have hl' : h.cells.length ≤ 1073741824 := hl
  have hn := near_clear_len h 0 (-1)
  have hn' : (nearF h 0 (-1)).length ≤ lim := by have := lim_eq; omega
  have hf := free_len h
  refine fn_go1 tabOk Tryd.func58 rfl (by kernel_rfl) Tryd.ntmps58 Tryd.results58 (by decide) ?_
  repeat first | refine ax_seq ?_ | refine ax_next ?_ | refine rg_text ?_ | refine rg_any mixed ?_ | refine ax_block ?_ | refine rh_nil ⟨(by kernel_rfl), ?_⟩ | refine rh_nil ?_ | refine ax_ret ?_ | refine ax_skip ?_ | refine ax_exit ?_ | refine ax_true rfl ?_ | refine ax_false rfl ?_ | refine then_ret ?_ | refine then_exit ?_ | refine out_here ?_ | refine out_away rfl ?_ | refine out_normal ?_ | refine out_ret ?_ | refine round_exit ?_ | refine round_ret ?_ | refine meet_ret ?_ | refine meet_exit ?_ | (apply rh_no; iterate 4 exact rfl) | (apply rh_un; iterate 3 exact rfl) | (apply rh0; (case h => exact z0); (case hw => exact wt)) | (apply rh1; (case h => first | (apply st_call_s (hfn := hallFree_fn h hl ); exact rfl; exact fz; iterate 2 exact rfl) | exact z1); (case hw => exact wt)) | (apply rhs; (case h => exact zs); (case hw => exact wt))
  refine ax_loop (fun k : Nat => match k with | 0 => mkS [(11, .int ((0 : Nat) : Int)), (10, .int ((hallFreeF h).length : Int)), (9, .own 2 0), (4, .v (.slice none 0 0)), (1, .ptr 1 0 0)] ⟨3, [(1, some (hallRow h)), (2, some (intsRow (hallFreeF h)))]⟩ | k+1 => mkS [(11, .int ((k + 1 : Nat) : Int)), (10, .int ((hallFreeF h).length : Int)), (9, .own 2 0), (4, .own 3 0), (1, .ptr 1 0 0)] ⟨4, [(1, some (hallRow h)), (2, some (intsRow (hallFreeF h))), (3, some (intsRow (nearS h 0 (-1) (hallFreeF h) (k+1))))]⟩) (fun k => k ≤ (hallFreeF h).length) (fun k => (hallFreeF h).length - k) (0) (Nat.zero_le _) (weak_of [] (by repeat first | exact .nil | refine LeEs.cons ?_ ?_ | exact .v (by first | rfl | (rfl)) | exact .own rfl rfl rfl rfl rfl | exact .ptr rfl rfl rfl rfl rfl rfl | exact .nil rfl rfl rfl | exact .sl (by first | rfl | (rfl)) | exact .both rfl rfl | exact .frz rfl rfl rfl rfl rfl (by first | rfl | (rfl)) rfl | exact .any _) (by repeat first | exact .nil | refine LeHs.keep rfl ⟨rfl, rfl, rfl, .inl ⟨rfl, by first | rfl | (rfl)⟩⟩ ?_ | refine LeHs.keep rfl ⟨rfl, rfl, rfl, .inr ⟨(by first | exact .inl rfl | exact .inr rfl), by repeat first | exact .nil | refine LeVL.cons ?_ ?_ | exact .v (by first | rfl | (rfl)) | exact .own rfl rfl rfl rfl rfl | exact .sl (by first | rfl | (rfl)) | exact .both rfl rfl | exact .frz rfl rfl rfl rfl rfl (by first | rfl | (rfl)) rfl⟩⟩ ?_ | refine LeHs.fresh rfl rfl rfl (Nat.succ_pos _) rfl ?_) rfl rfl) ?_
  rintro k hk
  cases k with
  | zero =>
    repeat first | refine ax_seq ?_ | refine ax_next ?_ | refine rg_text ?_ | refine rg_any mixed ?_ | refine ax_block ?_ | refine rh_nil ⟨(by kernel_rfl), ?_⟩ | refine rh_nil ?_ | refine ax_ret ?_ | refine ax_skip ?_ | refine ax_exit ?_ | refine ax_true rfl ?_ | refine ax_false rfl ?_ | refine then_ret ?_ | refine then_exit ?_ | refine out_here ?_ | refine out_away rfl ?_ | refine out_normal ?_ | refine out_ret ?_ | refine round_exit ?_ | refine round_ret ?_ | refine meet_ret ?_ | refine meet_exit ?_ | (apply rh_no; iterate 4 exact rfl) | (apply rh_un; iterate 3 exact rfl) | (apply rh0; (case h => exact z0); (case hw => exact wt)) | (apply rh1; (case h => exact z1); (case hw => exact wt)) | (apply rhs; (case h => exact zs); (case hw => exact wt))
    refine ax_cond rfl (fun hb1 => ?_) (fun hb1 => ?_)
    · have hlt : 0 < (hallFreeF h).length := by simpa using hb1
      obtain ⟨hv, c0, c1, _⟩ := free_cell hlt
      have hw := (way_good (h := h) (a := gi (hallFreeF h) 0) (b := 0) (but := -1) (wayOk_iff.2 ⟨hv, ⟨c0, c1⟩, ⟨by omega, by omega⟩, ⟨by omega, by omega⟩, by omega, by omega⟩)).pos
      have e1 : nearS h 0 (-1) (hallFreeF h) (0 + 1) = wayF h (gi (hallFreeF h) 0) 0 (-1) := near_yes hw (.inl rfl)
      repeat first | refine ax_seq ?_ | refine ax_next ?_ | refine rg_text ?_ | refine rg_any mixed ?_ | refine ax_block ?_ | refine rh_nil ⟨(by kernel_rfl), ?_⟩ | refine rh_nil ?_ | refine ax_ret ?_ | refine ax_skip ?_ | refine ax_exit ?_ | refine ax_true rfl ?_ | refine ax_false rfl ?_ | refine then_ret ?_ | refine then_exit ?_ | refine out_here ?_ | refine out_away rfl ?_ | refine out_normal ?_ | refine out_ret ?_ | refine round_exit ?_ | refine round_ret ?_ | refine meet_ret ?_ | refine meet_exit ?_ | (apply rh_no; iterate 4 exact rfl) | (apply rh_un; iterate 3 exact rfl) | (apply rh0; (case h => exact z0); (case hw => exact wt)) | (apply rh1; (case h => first | (apply st_call_s (hfn := wayCells_fn h hl (gi (hallFreeF h) 0) 0 (-1) ); exact rfl; exact fz; iterate 2 exact rfl) | exact z1); (case hw => exact wt)) | (apply rhs; (case h => exact zs); (case hw => exact wt))
      refine round_next (0 + 1) (hlt) (by omega) (weak_of [] (by repeat first | exact .nil | refine LeEs.cons ?_ ?_ | exact .v (by first | rfl | (rw [e1])) | exact .own rfl rfl rfl rfl rfl | exact .ptr rfl rfl rfl rfl rfl rfl | exact .nil rfl rfl rfl | exact .sl (by first | rfl | (rw [e1])) | exact .both rfl rfl | exact .frz rfl rfl rfl rfl rfl (by first | rfl | (rw [e1])) rfl | exact .any _) (by repeat first | exact .nil | refine LeHs.keep rfl ⟨rfl, rfl, rfl, .inl ⟨rfl, by first | rfl | (rw [e1])⟩⟩ ?_ | refine LeHs.keep rfl ⟨rfl, rfl, rfl, .inr ⟨(by first | exact .inl rfl | exact .inr rfl), by repeat first | exact .nil | refine LeVL.cons ?_ ?_ | exact .v (by first | rfl | (rw [e1])) | exact .own rfl rfl rfl rfl rfl | exact .sl (by first | rfl | (rw [e1])) | exact .both rfl rfl | exact .frz rfl rfl rfl rfl rfl (by first | rfl | (rw [e1])) rfl⟩⟩ ?_ | refine LeHs.fresh rfl rfl rfl (Nat.succ_pos _) rfl ?_) rfl rfl)
    · have h0 : (hallFreeF h).length = 0 := by simp at hb1; simp [hb1]
      have hF : clearF h = ([], false) := by
        have : nearF h 0 (-1) = [] := by unfold nearF; rw [h0]; rfl
        simp [clearF, this]
      rw [hF]
      repeat first | refine ax_seq ?_ | refine ax_next ?_ | refine rg_text ?_ | refine rg_any mixed ?_ | refine ax_block ?_ | refine rh_nil ⟨(by kernel_rfl), ?_⟩ | refine rh_nil ?_ | refine ax_ret ?_ | refine ax_skip ?_ | refine ax_exit ?_ | refine ax_true rfl ?_ | refine ax_false rfl ?_ | refine then_ret ?_ | refine then_exit ?_ | refine out_here ?_ | refine out_away rfl ?_ | refine out_normal ?_ | refine out_ret ?_ | refine round_exit ?_ | refine round_ret ?_ | refine meet_ret ?_ | refine meet_exit ?_ | (apply rh_no; iterate 4 exact rfl) | (apply rh_un; iterate 3 exact rfl) | (apply rh0; (case h => exact z0); (case hw => exact wt)) | (apply rh1; (case h => exact z1); (case hw => exact wt)) | (apply rhs; (case h => exact zs); (case hw => exact wt))
      refine ⟨.inl rfl, _, _, (by repeat first | exact .nil | apply ResL.cons | exact .tmp rfl | exact .agg rfl rfl rfl rfl rfl (Nat.le_of_ble_eq_true rfl) rfl | exact .cell rfl rfl rfl rfl rfl (Nat.le_of_ble_eq_true rfl) rfl), (by first | exact .one (by first | exact .one (.v rfl) | exact .one (.own rfl rfl rfl rfl rfl rfl rfl (by first | exact scal_ints _ | exact scal_slc _)) | exact .one (.nil (by decide) rfl) | exact .agg (.cons (.v rfl) (.cons (.v rfl) (.cons (.own rfl rfl rfl rfl rfl rfl rfl (scal_ints _)) .nil))) | exact .agg (.cons (.v rfl) (.cons (.v rfl) (.cons (.nil (by decide) rfl) .nil))) | exact .agg (.cons (.v rfl) (.cons (.v rfl) .nil))) | exact .two (by repeat first | exact .nil | apply ExpL.cons | exact (by first | exact .one (.v rfl) | exact .one (.own rfl rfl rfl rfl rfl rfl rfl (by first | exact scal_ints _ | exact scal_slc _)) | exact .one (.nil (by decide) rfl) | exact .agg (.cons (.v rfl) (.cons (.v rfl) (.cons (.own rfl rfl rfl rfl rfl rfl rfl (scal_ints _)) .nil))) | exact .agg (.cons (.v rfl) (.cons (.v rfl) (.cons (.nil (by decide) rfl) .nil))) | exact .agg (.cons (.v rfl) (.cons (.v rfl) .nil))))), (by decide)⟩
  | succ k =>
    have hp := near_pos (h := h) (k := k) hk
    have hnl := near_len h 0 (-1) (hallFreeF h) (k + 1)
    repeat first | refine ax_seq ?_ | refine ax_next ?_ | refine rg_text ?_ | refine rg_any mixed ?_ | refine ax_block ?_ | refine rh_nil ⟨(by kernel_rfl), ?_⟩ | refine rh_nil ?_ | refine ax_ret ?_ | refine ax_skip ?_ | refine ax_exit ?_ | refine ax_true rfl ?_ | refine ax_false rfl ?_ | refine then_ret ?_ | refine then_exit ?_ | refine out_here ?_ | refine out_away rfl ?_ | refine out_normal ?_ | refine out_ret ?_ | refine round_exit ?_ | refine round_ret ?_ | refine meet_ret ?_ | refine meet_exit ?_ | (apply rh_no; iterate 4 exact rfl) | (apply rh_un; iterate 3 exact rfl) | (apply rh0; (case h => exact z0); (case hw => exact wt)) | (apply rh1; (case h => exact z1); (case hw => exact wt)) | (apply rhs; (case h => exact zs); (case hw => exact wt))
    refine ax_cond rfl (fun hb1 => ?_) (fun hb1 => ?_)
    · have hlt : k + 1 < (hallFreeF h).length := by simp at hb1; omega
      obtain ⟨hv, c0, c1, _⟩ := free_cell hlt
      have hw := (way_good (h := h) (a := gi (hallFreeF h) (k+1)) (b := 0) (but := -1) (wayOk_iff.2 ⟨hv, ⟨c0, c1⟩, ⟨by omega, by omega⟩, ⟨by omega, by omega⟩, by omega, by omega⟩)).pos
      have hw12 := way_len h (gi (hallFreeF h) (k+1)) 0 (-1)
      repeat first | refine ax_seq ?_ | refine ax_next ?_ | refine rg_text ?_ | refine rg_any mixed ?_ | refine ax_block ?_ | refine rh_nil ⟨(by kernel_rfl), ?_⟩ | refine rh_nil ?_ | refine ax_ret ?_ | refine ax_skip ?_ | refine ax_exit ?_ | refine ax_true rfl ?_ | refine ax_false rfl ?_ | refine then_ret ?_ | refine then_exit ?_ | refine out_here ?_ | refine out_away rfl ?_ | refine out_normal ?_ | refine out_ret ?_ | refine round_exit ?_ | refine round_ret ?_ | refine meet_ret ?_ | refine meet_exit ?_ | (apply rh_no; iterate 4 exact rfl) | (apply rh_un; iterate 3 exact rfl) | (apply rh0; (case h => exact z0); (case hw => exact wt)) | (apply rh1; (case h => first | (apply st_call_s (hfn := wayCells_fn h hl (gi (hallFreeF h) (k+1)) 0 (-1) ); exact rfl; exact fz; iterate 2 exact rfl) | exact z1); (case hw => exact wt)) | (apply rhs; (case h => exact zs); (case hw => exact wt))
      refine ax_cond rfl (fun hb2 => ?_) (fun hb2 => ?_)
      · have h1 : (wayF h (gi (hallFreeF h) (k+1)) 0 (-1)).length < (nearS h 0 (-1) (hallFreeF h) (k+1)).length := by simp at hb2; exact hb2
        repeat first | refine ax_seq ?_ | refine ax_next ?_ | refine rg_text ?_ | refine rg_any mixed ?_ | refine ax_block ?_ | refine rh_nil ⟨(by kernel_rfl), ?_⟩ | refine rh_nil ?_ | refine ax_ret ?_ | refine ax_skip ?_ | refine ax_exit ?_ | refine ax_true rfl ?_ | refine ax_false rfl ?_ | refine then_ret ?_ | refine then_exit ?_ | refine out_here ?_ | refine out_away rfl ?_ | refine out_normal ?_ | refine out_ret ?_ | refine round_exit ?_ | refine round_ret ?_ | refine meet_ret ?_ | refine meet_exit ?_ | (apply rh_no; iterate 4 exact rfl) | (apply rh_un; iterate 3 exact rfl) | (apply rh0; (case h => exact z0); (case hw => exact wt)) | (apply rh1; (case h => exact z1); (case hw => exact wt)) | (apply rhs; (case h => exact zs); (case hw => exact wt))
        refine round_next (k + 1 + 1) (hlt) (by omega) (weak_of [(3, 4)] (by repeat first | exact .nil | refine LeEs.cons ?_ ?_ | exact .v (by first | rfl | (rw [near_yes hw (.inr h1)])) | exact .own rfl rfl rfl rfl rfl | exact .ptr rfl rfl rfl rfl rfl rfl | exact .nil rfl rfl rfl | exact .sl (by first | rfl | (rw [near_yes hw (.inr h1)])) | exact .both rfl rfl | exact .frz rfl rfl rfl rfl rfl (by first | rfl | (rw [near_yes hw (.inr h1)])) rfl | exact .any _) (by repeat first | exact .nil | refine LeHs.keep rfl ⟨rfl, rfl, rfl, .inl ⟨rfl, by first | rfl | (rw [near_yes hw (.inr h1)])⟩⟩ ?_ | refine LeHs.keep rfl ⟨rfl, rfl, rfl, .inr ⟨(by first | exact .inl rfl | exact .inr rfl), by repeat first | exact .nil | refine LeVL.cons ?_ ?_ | exact .v (by first | rfl | (rw [near_yes hw (.inr h1)])) | exact .own rfl rfl rfl rfl rfl | exact .sl (by first | rfl | (rw [near_yes hw (.inr h1)])) | exact .both rfl rfl | exact .frz rfl rfl rfl rfl rfl (by first | rfl | (rw [near_yes hw (.inr h1)])) rfl⟩⟩ ?_ | refine LeHs.fresh rfl rfl rfl (Nat.succ_pos _) rfl ?_) rfl rfl)
      · have h1 : ¬ (nearS h 0 (-1) (hallFreeF h) (k+1)).length = 0 := by omega
        have h2 : ¬ (wayF h (gi (hallFreeF h) (k+1)) 0 (-1)).length < (nearS h 0 (-1) (hallFreeF h) (k+1)).length := by simp at hb2; omega
        repeat first | refine ax_seq ?_ | refine ax_next ?_ | refine rg_text ?_ | refine rg_any mixed ?_ | refine ax_block ?_ | refine rh_nil ⟨(by kernel_rfl), ?_⟩ | refine rh_nil ?_ | refine ax_ret ?_ | refine ax_skip ?_ | refine ax_exit ?_ | refine ax_true rfl ?_ | refine ax_false rfl ?_ | refine then_ret ?_ | refine then_exit ?_ | refine out_here ?_ | refine out_away rfl ?_ | refine out_normal ?_ | refine out_ret ?_ | refine round_exit ?_ | refine round_ret ?_ | refine meet_ret ?_ | refine meet_exit ?_ | (apply rh_no; iterate 4 exact rfl) | (apply rh_un; iterate 3 exact rfl) | (apply rh0; (case h => exact z0); (case hw => exact wt)) | (apply rh1; (case h => exact z1); (case hw => exact wt)) | (apply rhs; (case h => exact zs); (case hw => exact wt))
        refine round_next (k + 1 + 1) (hlt) (by omega) (weak_of [] (by repeat first | exact .nil | refine LeEs.cons ?_ ?_ | exact .v (by first | rfl | (rw [near_no (fun e => e.2.elim h1 h2)])) | exact .own rfl rfl rfl rfl rfl | exact .ptr rfl rfl rfl rfl rfl rfl | exact .nil rfl rfl rfl | exact .sl (by first | rfl | (rw [near_no (fun e => e.2.elim h1 h2)])) | exact .both rfl rfl | exact .frz rfl rfl rfl rfl rfl (by first | rfl | (rw [near_no (fun e => e.2.elim h1 h2)])) rfl | exact .any _) (by repeat first | exact .nil | refine LeHs.keep rfl ⟨rfl, rfl, rfl, .inl ⟨rfl, by first | rfl | (rw [near_no (fun e => e.2.elim h1 h2)])⟩⟩ ?_ | refine LeHs.keep rfl ⟨rfl, rfl, rfl, .inr ⟨(by first | exact .inl rfl | exact .inr rfl), by repeat first | exact .nil | refine LeVL.cons ?_ ?_ | exact .v (by first | rfl | (rw [near_no (fun e => e.2.elim h1 h2)])) | exact .own rfl rfl rfl rfl rfl | exact .sl (by first | rfl | (rw [near_no (fun e => e.2.elim h1 h2)])) | exact .both rfl rfl | exact .frz rfl rfl rfl rfl rfl (by first | rfl | (rw [near_no (fun e => e.2.elim h1 h2)])) rfl⟩⟩ ?_ | refine LeHs.fresh rfl rfl rfl (Nat.succ_pos _) rfl ?_) rfl rfl)
    · have hkn : k + 1 = (hallFreeF h).length := by simp at hb1; omega
      have hv := (free_cell (h := h) (k := k) (by omega)).1
      have en : nearF h 0 (-1) = nearS h 0 (-1) (hallFreeF h) (k + 1) := by unfold nearF; rw [← hkn]
      have hF : clearF h = (holeF h (nearS h 0 (-1) (hallFreeF h) (k + 1)), true) := by unfold clearF; rw [en, if_pos ⟨hv, hp⟩]
      rw [hF]
      repeat first | refine ax_seq ?_ | refine ax_next ?_ | refine rg_text ?_ | refine rg_any mixed ?_ | refine ax_block ?_ | refine rh_nil ⟨(by kernel_rfl), ?_⟩ | refine rh_nil ?_ | refine ax_ret ?_ | refine ax_skip ?_ | refine ax_exit ?_ | refine ax_true rfl ?_ | refine ax_false rfl ?_ | refine then_ret ?_ | refine then_exit ?_ | refine out_here ?_ | refine out_away rfl ?_ | refine out_normal ?_ | refine out_ret ?_ | refine round_exit ?_ | refine round_ret ?_ | refine meet_ret ?_ | refine meet_exit ?_ | (apply rh_no; iterate 4 exact rfl) | (apply rh_un; iterate 3 exact rfl) | (apply rh0; (case h => exact z0); (case hw => exact wt)) | (apply rh1; (case h => first | (apply st_call_s (hfn := holeSlides_fn h hl (nearS h 0 (-1) (hallFreeF h) (k + 1)) (by have := lim_eq; omega) ); exact rfl; exact fz; iterate 2 exact rfl) | exact z1); (case hw => exact wt)) | (apply rhs; (case h => exact zs); (case hw => exact wt))
      refine ⟨.inl rfl, _, _, (by repeat first | exact .nil | apply ResL.cons | exact .tmp rfl | exact .agg rfl rfl rfl rfl rfl (Nat.le_of_ble_eq_true rfl) rfl | exact .cell rfl rfl rfl rfl rfl (Nat.le_of_ble_eq_true rfl) rfl), (by first | exact .one (by first | exact .one (.v rfl) | exact .one (.own rfl rfl rfl rfl rfl rfl rfl (by first | exact scal_ints _ | exact scal_slc _)) | exact .one (.nil (by decide) rfl) | exact .agg (.cons (.v rfl) (.cons (.v rfl) (.cons (.own rfl rfl rfl rfl rfl rfl rfl (scal_ints _)) .nil))) | exact .agg (.cons (.v rfl) (.cons (.v rfl) (.cons (.nil (by decide) rfl) .nil))) | exact .agg (.cons (.v rfl) (.cons (.v rfl) .nil))) | exact .two (by repeat first | exact .nil | apply ExpL.cons | exact (by first | exact .one (.v rfl) | exact .one (.own rfl rfl rfl rfl rfl rfl rfl (by first | exact scal_ints _ | exact scal_slc _)) | exact .one (.nil (by decide) rfl) | exact .agg (.cons (.v rfl) (.cons (.v rfl) (.cons (.own rfl rfl rfl rfl rfl rfl rfl (scal_ints _)) .nil))) | exact .agg (.cons (.v rfl) (.cons (.v rfl) (.cons (.nil (by decide) rfl) .nil))) | exact .agg (.cons (.v rfl) (.cons (.v rfl) .nil))))), (by decide)⟩
end Go.Proofs.YtjdgbdakkdljmaaDoor
namespace Go.Proofs.YtjdgbdakkdljmaaDoor
open Go Go.RowKit Go.Park Go.Sym

theorem gs_left {l m : List (Int × Int)} {j : Nat} (h : j < l.length) : gs (l ++ m) j = gs l j := by
  unfold gs
  simp [List.getD, List.getElem?_append_left h]
theorem gs_end {l : List (Int × Int)} {s : Int × Int} : gs (l ++ [s]) l.length = s := by simp [gs, List.getD]
theorem stS_left {h : PHall} {l m : List (Int × Int)} : ∀ {j : Nat}, j ≤ l.length → stS h (l ++ m) j = stS h l j
  | 0, _ => rfl
  | j+1, hj => by
    simp only [stS]
    rw [stS_left (j := j) (by omega), gs_left (by omega)]
theorem done_snoc {h : PHall} {l : List (Int × Int)} {s : Int × Int} (hd : doneS h l l.length) (hs : (slideDoF (stS h l l.length) s.1 s.2).2 = true) : doneS h (l ++ [s]) (l ++ [s]).length := by
  intro j hj
  simp at hj
  by_cases e : j = l.length
  · subst e; rw [stS_left (Nat.le_refl _), gs_end]; exact hs
  · rw [stS_left (by omega), gs_left (by omega)]; exact hd j (by omega)
theorem hole_run {h : PHall} {way : List Int} (ho : holeOk h way = true) : ∀ k, k < way.length → doneS h (holeS h.cells way k).1 (holeS h.cells way k).1.length ∧ stS h (holeS h.cells way k).1 (holeS h.cells way k).1.length = ⟨h.wide, h.deep, (holeS h.cells way k).2⟩
  | 0, _ => ⟨fun j hj => by simp [holeS] at hj, rfl⟩
  | k+1, hk => by
    obtain ⟨h1, h2⟩ := hole_run ho k (by omega)
    have hs := hole_slide ho hk
    by_cases hz : gi (holeS h.cells way k).2 (gi way (k+1)).toNat = 0
    · rw [holeS_no hz]; exact ⟨h1, h2⟩
    · have hs2 := hs
      rw [holeS_yes hz] at hs ⊢
      dsimp only at hs ⊢
      have ht : (slideDoF (stS h (holeS h.cells way k).1 (holeS h.cells way k).1.length) (gi way (k+1)) (gi way k)).2 = true := by rw [h2, hs]; simp [hz]
      refine ⟨done_snoc h1 ht, ?_⟩
      rw [List.length_append]
      show (slideDoF (stS h (_ ++ [_]) (holeS h.cells way k).1.length) _ _).1 = _
      rw [stS_left (Nat.le_refl _), gs_end, h2, hs]
theorem hole_done {h : PHall} {way : List Int} : doneS h (holeF h way) (holeF h way).length := by
  unfold holeF
  split
  · rename_i ho
    have := List.length_pos_iff.2 (hole_ok ho).2.1
    exact (hole_run ho (way.length - 1) (by omega)).1
  · intro j hj; simp at hj
theorem slideRun_done {h : PHall} {l : List (Int × Int)} (hv : validB h = true) (hl : l.length ≤ 60) (hd : doneS h l l.length) : slideRunF h l = (stS h l l.length, (l.length : Int)) := by
  unfold slideRunF
  rw [if_pos ⟨hv, hl⟩, runF_end hd]
theorem clear_done (h : PHall) : doneS h (clearF h).1 (clearF h).1.length := by
  unfold clearF
  split
  · exact hole_done
  · intro j hj; simp at hj

def storeF (h : PHall) (id : Int) : PHall × Int :=
  if validB h = true then (if (clearF h).2 = true ∧ (hallPutF (stS h (clearF h).1 (clearF h).1.length) 0 id).2 = true then ((hallPutF (stS h (clearF h).1 (clearF h).1.length) 0 id).1, ((clearF h).1.length : Int)) else (h, -1)) else (zeroHall, -1)
theorem hallPut_ok {h : PHall} (hv : validB h = true) (c id : Int) : validB (hallPutF h c id).1 = true ∧ (hallPutF h c id).1.cells.length = h.cells.length := by
  unfold hallPutF
  rw [if_pos hv]
  split
  · split
    · rename_i h2; exact ⟨h2, by simp [putH]⟩
    · exact ⟨hv, rfl⟩
  · exact ⟨hv, rfl⟩
theorem storeF_ok {h : PHall} (hv : validB h = true) (id : Int) : validB (storeF h id).1 = true ∧ (storeF h id).1.cells.length = h.cells.length := by
  unfold storeF
  rw [if_pos hv]
  obtain ⟨s1, s2, _⟩ := stS_ok (l := (clearF h).1) hv (clearF h).1.length
  split
  · obtain ⟨p1, p2⟩ := hallPut_ok s1 0 id
    exact ⟨p1, p2.trans s2⟩
  · exact ⟨hv, rfl⟩
theorem storeF_len (h : PHall) (id : Int) : (storeF h id).1.cells.length ≤ h.cells.length := by
  by_cases hv : validB h = true
  · rw [(storeF_ok hv id).2]; exact Nat.le_refl _
  · unfold storeF; rw [if_neg hv]; simp [zeroHall]
end Go.Proofs.YtjdgbdakkdljmaaDoor
