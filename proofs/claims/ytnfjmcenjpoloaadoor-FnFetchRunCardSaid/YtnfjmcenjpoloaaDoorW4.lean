/-
  The sort (the library's contract laid at this program, in plain words); a row of the caller's own that a function turns; the cars of a hall.
-/
import Derived.Test.YtnfjmcenjpoloaaDoorQT
import Derived.Shelf.Small.Bits
import Derived.Shelf.Sort.Plain
import Derived.Shelf.Slices.Clone
import Derived.Shelf.Slices.SearchI
import Derived.Shelf.SlicesE.Clone
import Derived.Test.YtnfjmcenjpoloaaDoorProg
import Derived.Test.YtnfjmcenjpoloaaDoorP8
import Derived.Sort.OwnSortedInts
import Derived.Shelf.Slices.In.SortNone
set_option linter.unusedVariables false
set_option linter.unusedSimpArgs false
set_option maxRecDepth 100000
namespace Go.Proofs
open Go.Shelf
def Tryd.lays189_ren : Go.Shelf.Ren := ⟨fun | 189 => 72 | 125 => 106 | 257 => 105 | 128 => 124 | 129 => 125 | 294 => 115 | 295 => 116 | 296 => 117 | 297 => 118 | 298 => 119 | 299 => 120 | 216 => 121 | 300 => 122 | 301 => 123 | 328 => 135 | 329 => 136 | 330 => 137 | 331 => 138 | 332 => 139 | 215 => 140 | 343 => 151 | n => n, fun | 28 => 23 | 3 => 3 | 46 => 109 | 0 => 0 | 51 => 126 | 53 => 128 | 4 => 4 | 183 => 119 | 182 => 118 | 131 => 97 | 5 => 5 | 9 => 9 | 218 => 136 | 222 => 140 | 228 => 149 | 229 => 150 | n => n, fun | n => n⟩
theorem Tryd.lays189 : Go.Proofs.Lays.n189 Tryd.prog Tryd.lays189_ren := {
  mixed := by kernel_rfl
  f125 := Tryd.func106.trans (congrArg some (by kernel_rfl))
  f128 := Tryd.func124.trans (congrArg some (by kernel_rfl))
  f129 := Tryd.func125.trans (congrArg some (by kernel_rfl))
  f189 := Tryd.func72.trans (congrArg some (by kernel_rfl))
  f215 := Tryd.func140.trans (congrArg some (by kernel_rfl))
  f216 := Tryd.func121.trans (congrArg some (by kernel_rfl))
  f257 := Tryd.func105.trans (congrArg some (by kernel_rfl))
  f294 := Tryd.func115.trans (congrArg some (by kernel_rfl))
  f295 := Tryd.func116.trans (congrArg some (by kernel_rfl))
  f296 := Tryd.func117.trans (congrArg some (by kernel_rfl))
  f297 := Tryd.func118.trans (congrArg some (by kernel_rfl))
  f298 := Tryd.func119.trans (congrArg some (by kernel_rfl))
  f299 := Tryd.func120.trans (congrArg some (by kernel_rfl))
  f300 := Tryd.func122.trans (congrArg some (by kernel_rfl))
  f301 := Tryd.func123.trans (congrArg some (by kernel_rfl))
  f328 := Tryd.func135.trans (congrArg some (by kernel_rfl))
  f329 := Tryd.func136.trans (congrArg some (by kernel_rfl))
  f330 := Tryd.func137.trans (congrArg some (by kernel_rfl))
  f331 := Tryd.func138.trans (congrArg some (by kernel_rfl))
  f332 := Tryd.func139.trans (congrArg some (by kernel_rfl))
  f343 := Tryd.func151.trans (congrArg some (by kernel_rfl))
  t0 := Tryd.underlying0
  a0 := Tryd.isAgg0
  z0 := Tryd.sizeOf0
  v0 := Tryd.zeroValue0
  t3 := Tryd.underlying3
  a3 := Tryd.isAgg3
  z3 := Tryd.sizeOf3
  v3 := Tryd.zeroValue3
  t4 := Tryd.underlying4
  a4 := Tryd.isAgg4
  z4 := Tryd.sizeOf4
  v4 := Tryd.zeroValue4
  t5 := Tryd.underlying5
  a5 := Tryd.isAgg5
  z5 := Tryd.sizeOf5
  v5 := Tryd.zeroValue5
  t9 := Tryd.underlying9
  a9 := Tryd.isAgg9
  z9 := Tryd.sizeOf9
  v9 := Tryd.zeroValue9
  t28 := Tryd.underlying23
  a28 := Tryd.isAgg23
  z28 := Tryd.sizeOf23
  v28 := Tryd.zeroValue23
  t46 := Tryd.underlying109
  a46 := Tryd.isAgg109
  z46 := Tryd.sizeOf109
  v46 := Tryd.zeroValue109
  t51 := Tryd.underlying126
  a51 := Tryd.isAgg126
  z51 := Tryd.sizeOf126
  v51 := Tryd.zeroValue126
  t53 := Tryd.underlying128
  a53 := Tryd.isAgg128
  z53 := Tryd.sizeOf128
  v53 := Tryd.zeroValue128
  t131 := Tryd.underlying97
  a131 := Tryd.isAgg97
  z131 := Tryd.sizeOf97
  v131 := Tryd.zeroValue97
  t182 := Tryd.underlying118
  a182 := Tryd.isAgg118
  z182 := Tryd.sizeOf118
  v182 := Tryd.zeroValue118
  t183 := Tryd.underlying119
  a183 := Tryd.isAgg119
  z183 := Tryd.sizeOf119
  v183 := Tryd.zeroValue119
  t218 := Tryd.underlying136
  a218 := Tryd.isAgg136
  z218 := Tryd.sizeOf136
  v218 := Tryd.zeroValue136
  t222 := Tryd.underlying140
  a222 := Tryd.isAgg140
  z222 := Tryd.sizeOf140
  v222 := Tryd.zeroValue140
  t228 := Tryd.underlying149
  a228 := Tryd.isAgg149
  z228 := Tryd.sizeOf149
  v228 := Tryd.zeroValue149
  t229 := Tryd.underlying150
  a229 := Tryd.isAgg150
  z229 := Tryd.sizeOf150
  v229 := Tryd.zeroValue150 }
open Go.Sort Go.RowKit in
theorem Tryd.slices_Sort_int (blk off cap : Nat) (zs : List Int) (w : World) (hH : Holds (Value.int .i64) w blk off zs.toArray) (hblk : blk < w.heap.size) (hsz : zs.length < 4611686018427387904) :
    Calls Tryd.prog 72 #[.slice (some ⟨blk, off, none⟩) zs.length cap] w fun e w' =>
      e = .returned (.tuple #[]) ∧ ∃ n os, w' = grow (putRow (Value.int .i64) (Sort.ahead w n) blk off (zs.mergeSort fun x y => decide (x ≤ y)).toArray) os := Any.slices_Sort_int Tryd.lays189 blk off cap zs w hH hblk hsz
end Go.Proofs
namespace Go.Proofs.YtnfjmcenjpoloaaDoor
open Go Go.RowKit Go.Park Go.Sym

/-- an ascending list with a number at its place -/
def lowTo (l : List Int) (n : Int) : Nat := l.findIdx fun x => !decide (x < n)
def insF (l : List Int) (n : Int) : List Int := l.take (lowTo l n) ++ [n] ++ l.drop (lowTo l n)
theorem insF_len (l : List Int) (n : Int) : (insF l n).length = l.length + 1 := by
  have : lowTo l n ≤ l.length := List.findIdx_le_length
  simp [insF]; omega
theorem lowTo_stop {l : List Int} {n : Int} {k : Nat} (hk : k ≤ l.length) (h : ∀ j, j < k → gi l j < n) (hs : k = l.length ∨ ¬ gi l k < n) : lowTo l n = k := by
  unfold lowTo
  rcases Nat.lt_trichotomy (l.findIdx fun x => !decide (x < n)) k with h1 | h1 | h1
  · exfalso
    have h2 : (l.findIdx fun x => !decide (x < n)) < l.length := by omega
    have h3 := List.findIdx_getElem (p := fun x => !decide (x < n)) (xs := l) (w := h2)
    have h4 := h _ h1
    simp only [gi, List.getD_eq_getElem?_getD, List.getElem?_eq_getElem h2, Option.getD_some] at h4
    simp at h3
    omega
  · exact h1
  · rcases hs with hs | hs
    · have : (l.findIdx fun x => !decide (x < n)) ≤ l.length := List.findIdx_le_length
      omega
    · exfalso
      have hkl : k < l.length := by
        have : (l.findIdx fun x => !decide (x < n)) ≤ l.length := List.findIdx_le_length
        omega
      have := List.not_of_lt_findIdx h1
      simp at this
      apply hs
      simp only [gi, List.getD_eq_getElem?_getD, List.getElem?_eq_getElem hkl, Option.getD_some]
      exact this
set_option maxHeartbeats 2000000 in
theorem l1Sorted_fn (l : List Int) (hl : l.length ≤ 1000000) (n : Int) : FnS Tryd.prog 98 [intsV l, .int n] (intsV (insF l n)) := by
  refine fn_go2 tabOk Tryd.func98 rfl (by kernel_rfl) Tryd.ntmps98 Tryd.results98 (by decide) ?_
  repeat first | refine Ua ?_ | refine Ub ?_ | refine Uc ?_ | refine Ud ?_ | refine Ue ?_ | refine Ug ⟨by kernel_rfl, ?_⟩ | refine Ug ?_ | refine Uh ?_ | refine Ui ?_ | refine Uj ?_ | refine Uk rfl ?_ | refine Ul rfl ?_ | refine Um ?_ | refine Un ?_ | refine Uo ?_ | refine Up rfl ?_ | refine Uq ?_ | refine Ur ?_ | refine Us ?_ | refine Ut ?_ | refine Uu ?_ | refine Ux ?_ | refine Uv rfl rfl rfl rfl ?_ | refine Uw rfl rfl rfl ?_ | refine U0 z0 ?_ | refine U1 z1 ?_ | refine U9 zs ?_
  refine ax_loop (fun k : Nat => mkS [(6, .int (k : Int)), (5, .own 1 0), (0, intsV l), (1, .int n)] ⟨2, [(1, some (intsRow (l.take k)))]⟩) (fun k => k ≤ l.length ∧ ∀ j, j < k → gi l j < n) (fun k => l.length - k) (0) (⟨Nat.zero_le _, fun j hj => by omega⟩) (Lw (ρ := [])) ?_
  rintro k ⟨hk, hj⟩
  have htl : (l.take k).length = k := by rw [List.length_take]; omega
  have hend : ∀ (h : k = l.length ∨ ¬ gi l k < n), insF l n = l.take k ++ [n] ++ l.drop k := fun h => by unfold insF; rw [lowTo_stop hk hj h]
  have hdl : (l.drop k).length = l.length - k := by simp
  repeat first | refine Ua ?_ | refine Ub ?_ | refine Uc ?_ | refine Ud ?_ | refine Ue ?_ | refine Ug ⟨by kernel_rfl, ?_⟩ | refine Ug ?_ | refine Uh ?_ | refine Ui ?_ | refine Uj ?_ | refine Uk rfl ?_ | refine Ul rfl ?_ | refine Um ?_ | refine Un ?_ | refine Uo ?_ | refine Up rfl ?_ | refine Uq ?_ | refine Ur ?_ | refine Us ?_ | refine Ut ?_ | refine Uu ?_ | refine Ux ?_ | refine Uv rfl rfl rfl rfl ?_ | refine Uw rfl rfl rfl ?_ | refine U0 z0 ?_ | refine U1 z1 ?_ | refine U9 zs ?_
  refine rh_split rfl rfl (fun hb => ?_) (fun hb => ?_)
  · have hlt : k < l.length := by simpa using hb
    repeat first | refine Ua ?_ | refine Ub ?_ | refine Uc ?_ | refine Ud ?_ | refine Ue ?_ | refine Ug ⟨by kernel_rfl, ?_⟩ | refine Ug ?_ | refine Uh ?_ | refine Ui ?_ | refine Uj ?_ | refine Uk rfl ?_ | refine Ul rfl ?_ | refine Um ?_ | refine Un ?_ | refine Uo ?_ | refine Up rfl ?_ | refine Uq ?_ | refine Ur ?_ | refine Us ?_ | refine Ut ?_ | refine Uu ?_ | refine Ux ?_ | refine Uv rfl rfl rfl rfl ?_ | refine Uw rfl rfl rfl ?_ | refine U0 z0 ?_ | refine U1 z1 ?_ | refine U9 zs ?_
    refine ax_cond rfl (fun hb2 => ?_) (fun hb2 => ?_)
    · have h1 : gi l k < n := by simpa using hb2
      have e1 : l.take (k + 1) = l.take k ++ [gi l k] := by
        rw [List.take_succ_eq_append_getElem hlt]
        simp [gi, List.getD, hlt]
      repeat first | refine Ua ?_ | refine Ub ?_ | refine Uc ?_ | refine Ud ?_ | refine Ue ?_ | refine Ug ⟨by kernel_rfl, ?_⟩ | refine Ug ?_ | refine Uh ?_ | refine Ui ?_ | refine Uj ?_ | refine Uk rfl ?_ | refine Ul rfl ?_ | refine Um ?_ | refine Un ?_ | refine Uo ?_ | refine Up rfl ?_ | refine Uq ?_ | refine Ur ?_ | refine Us ?_ | refine Ut ?_ | refine Uu ?_ | refine Ux ?_ | refine Uv rfl rfl rfl rfl ?_ | refine Uw rfl rfl rfl ?_ | refine U0 z0 ?_ | refine U1 z1 ?_ | refine U9 zs ?_
      refine round_next (k + 1) (⟨hlt, fun j hj' => by by_cases e : j = k; (subst e; exact h1); exact hj j (by omega)⟩) (by omega) (weak_of [] (by repeat first | exact .nil | refine LeEs.cons ?_ ?_ | exact .v (by first | rfl | (rw [e1])) | exact .own rfl rfl rfl rfl rfl | exact .ptr rfl rfl rfl rfl rfl rfl | exact .nil rfl rfl rfl | exact .sl (by first | rfl | (rw [e1])) | exact .both rfl rfl | exact .frz rfl rfl rfl rfl rfl (by first | rfl | (rw [e1])) rfl | exact .tab rfl | exact .any _) (by repeat first | exact .nil | refine LeHs.keep rfl ⟨rfl, rfl, rfl, .inl ⟨rfl, by first | rfl | (rw [e1])⟩⟩ ?_ | refine LeHs.keep rfl ⟨rfl, rfl, rfl, .inr ⟨(by first | exact .inl rfl | exact .inr rfl), by repeat first | exact .nil | refine LeVL.cons ?_ ?_ | exact .v (by first | rfl | (rw [e1])) | exact .own rfl rfl rfl rfl rfl | exact .sl (by first | rfl | (rw [e1])) | exact .both rfl rfl | exact .frz rfl rfl rfl rfl rfl (by first | rfl | (rw [e1])) rfl⟩⟩ ?_ | refine LeHs.fresh rfl rfl rfl (Nat.succ_pos _) rfl ?_) rfl rfl)
    · have h1 : ¬ gi l k < n := by simpa using hb2
      have hF := hend (.inr h1)
      repeat first | refine Ua ?_ | refine Ub ?_ | refine Uc ?_ | refine Ud ?_ | refine Ue ?_ | refine Ug ⟨by kernel_rfl, ?_⟩ | refine Ug ?_ | refine Uh ?_ | refine Ui ?_ | refine Uj ?_ | refine Uk rfl ?_ | refine Ul rfl ?_ | refine Um ?_ | refine Un ?_ | refine Uo ?_ | refine Up rfl ?_ | refine Uq ?_ | refine Ur ?_ | refine Us ?_ | refine Ut ?_ | refine Uu ?_ | refine Ux ?_ | refine Uv rfl rfl rfl rfl ?_ | refine Uw rfl rfl rfl ?_ | refine U0 z0 ?_ | refine U1 z1 ?_ | refine U9 zs ?_
      exact ⟨.inl rfl, _, _, (by repeat first | exact .nil | apply ResL.cons | exact .tmp rfl | exact .agg rfl rfl rfl rfl rfl (Nat.le_of_ble_eq_true rfl) rfl | exact .cell rfl rfl rfl rfl rfl (Nat.le_of_ble_eq_true rfl) rfl), (by first | exact .one (by first | exact .one (.v (by first | rfl | (rw [hF]))) | exact .one (.own rfl rfl rfl rfl rfl rfl (by first | rfl | (rw [hF])) (by first | exact scal_ints _ | exact scal_slc _)) | exact .one (.nil (by decide) (by first | rfl | (rw [hF]))) | exact .agg (.cons (.v (by first | rfl | (rw [hF]))) (.cons (.v (by first | rfl | (rw [hF]))) (.cons (.own rfl rfl rfl rfl rfl rfl (by first | rfl | (rw [hF])) (scal_ints _)) .nil))) | exact .agg (.cons (.v (by first | rfl | (rw [hF]))) (.cons (.v (by first | rfl | (rw [hF]))) (.cons (.nil (by decide) (by first | rfl | (rw [hF]))) .nil))) | exact .agg (.cons (.v (by first | rfl | (rw [hF]))) (.cons (.v (by first | rfl | (rw [hF]))) .nil))) | exact .two (by repeat first | exact .nil | apply ExpL.cons | exact (by first | exact .one (.v (by first | rfl | (rw [hF]))) | exact .one (.own rfl rfl rfl rfl rfl rfl (by first | rfl | (rw [hF])) (by first | exact scal_ints _ | exact scal_slc _)) | exact .one (.nil (by decide) (by first | rfl | (rw [hF]))) | exact .agg (.cons (.v (by first | rfl | (rw [hF]))) (.cons (.v (by first | rfl | (rw [hF]))) (.cons (.own rfl rfl rfl rfl rfl rfl (by first | rfl | (rw [hF])) (scal_ints _)) .nil))) | exact .agg (.cons (.v (by first | rfl | (rw [hF]))) (.cons (.v (by first | rfl | (rw [hF]))) (.cons (.nil (by decide) (by first | rfl | (rw [hF]))) .nil))) | exact .agg (.cons (.v (by first | rfl | (rw [hF]))) (.cons (.v (by first | rfl | (rw [hF]))) .nil))))), (by decide)⟩
  · have hkn : k = l.length := by simp at hb; omega
    have hF := hend (.inl hkn)
    repeat first | refine Ua ?_ | refine Ub ?_ | refine Uc ?_ | refine Ud ?_ | refine Ue ?_ | refine Ug ⟨by kernel_rfl, ?_⟩ | refine Ug ?_ | refine Uh ?_ | refine Ui ?_ | refine Uj ?_ | refine Uk rfl ?_ | refine Ul rfl ?_ | refine Um ?_ | refine Un ?_ | refine Uo ?_ | refine Up rfl ?_ | refine Uq ?_ | refine Ur ?_ | refine Us ?_ | refine Ut ?_ | refine Uu ?_ | refine Ux ?_ | refine Uv rfl rfl rfl rfl ?_ | refine Uw rfl rfl rfl ?_ | refine U0 z0 ?_ | refine U1 z1 ?_ | refine U9 zs ?_
    exact ⟨.inl rfl, _, _, (by repeat first | exact .nil | apply ResL.cons | exact .tmp rfl | exact .agg rfl rfl rfl rfl rfl (Nat.le_of_ble_eq_true rfl) rfl | exact .cell rfl rfl rfl rfl rfl (Nat.le_of_ble_eq_true rfl) rfl), (by first | exact .one (by first | exact .one (.v (by first | rfl | (rw [hF]))) | exact .one (.own rfl rfl rfl rfl rfl rfl (by first | rfl | (rw [hF])) (by first | exact scal_ints _ | exact scal_slc _)) | exact .one (.nil (by decide) (by first | rfl | (rw [hF]))) | exact .agg (.cons (.v (by first | rfl | (rw [hF]))) (.cons (.v (by first | rfl | (rw [hF]))) (.cons (.own rfl rfl rfl rfl rfl rfl (by first | rfl | (rw [hF])) (scal_ints _)) .nil))) | exact .agg (.cons (.v (by first | rfl | (rw [hF]))) (.cons (.v (by first | rfl | (rw [hF]))) (.cons (.nil (by decide) (by first | rfl | (rw [hF]))) .nil))) | exact .agg (.cons (.v (by first | rfl | (rw [hF]))) (.cons (.v (by first | rfl | (rw [hF]))) .nil))) | exact .two (by repeat first | exact .nil | apply ExpL.cons | exact (by first | exact .one (.v (by first | rfl | (rw [hF]))) | exact .one (.own rfl rfl rfl rfl rfl rfl (by first | rfl | (rw [hF])) (by first | exact scal_ints _ | exact scal_slc _)) | exact .one (.nil (by decide) (by first | rfl | (rw [hF]))) | exact .agg (.cons (.v (by first | rfl | (rw [hF]))) (.cons (.v (by first | rfl | (rw [hF]))) (.cons (.own rfl rfl rfl rfl rfl rfl (by first | rfl | (rw [hF])) (scal_ints _)) .nil))) | exact .agg (.cons (.v (by first | rfl | (rw [hF]))) (.cons (.v (by first | rfl | (rw [hF]))) (.cons (.nil (by decide) (by first | rfl | (rw [hF]))) .nil))) | exact .agg (.cons (.v (by first | rfl | (rw [hF]))) (.cons (.v (by first | rfl | (rw [hF]))) .nil))))), (by decide)⟩
/-- the cars of a hall, ascending -/
def carsTo (l : List Int) : Nat → List Int
  | 0 => []
  | k+1 => if 0 < gi l k then insF (carsTo l k) (gi l k) else carsTo l k
def carsF (h : PHall) : List Int := if validB h = true then carsTo h.cells h.cells.length else []
theorem carsTo_len (l : List Int) : ∀ k, (carsTo l k).length ≤ k
  | 0 => by simp [carsTo]
  | k+1 => by
    have := carsTo_len l k
    simp only [carsTo]
    split
    · rw [insF_len]; omega
    · omega
theorem carsF_len (h : PHall) : (carsF h).length ≤ 12 := by
  unfold carsF
  split
  · rename_i hv; have := carsTo_len h.cells h.cells.length; have := (valid_len hv).2; omega
  · simp
set_option maxHeartbeats 2000000 in
theorem specHallCars_fn (h : PHall) (hl : h.cells.length ≤ lim) : FnS Tryd.prog 54 [hallV h] (intsV (carsF h)) := by
  have hlim := lim_eq
  refine fn_go1 tabOk Tryd.func54 rfl (by kernel_rfl) Tryd.ntmps54 Tryd.results54 (by decide) ?_
  repeat first | refine Ua ?_ | refine Ub ?_ | refine Uc ?_ | refine Ud ?_ | refine Ue ?_ | refine Ug ⟨by kernel_rfl, ?_⟩ | refine Ug ?_ | refine Uh ?_ | refine Ui ?_ | refine Uj ?_ | refine Uk rfl ?_ | refine Ul rfl ?_ | refine Um ?_ | refine Un ?_ | refine Uo ?_ | refine Up rfl ?_ | refine Uq ?_ | refine Ur ?_ | refine Us ?_ | refine Ut ?_ | refine Uu ?_ | refine Ux ?_ | refine Uv rfl rfl rfl rfl ?_ | refine Uw rfl rfl rfl ?_ | refine U0 (by first | (apply st_call (hfn := specHallValid_fn h hl ); exact rfl; exact fz) | exact z0 | fail) ?_ | refine U1 z1 ?_ | refine U9 zs ?_
  refine ax_cond rfl (fun hb => ?_) (fun hb => ?_)
  · have hF : carsF h = [] := by simp at hb; simp [carsF, hb]
    repeat first | refine Ua ?_ | refine Ub ?_ | refine Uc ?_ | refine Ud ?_ | refine Ue ?_ | refine Ug ⟨by kernel_rfl, ?_⟩ | refine Ug ?_ | refine Uh ?_ | refine Ui ?_ | refine Uj ?_ | refine Uk rfl ?_ | refine Ul rfl ?_ | refine Um ?_ | refine Un ?_ | refine Uo ?_ | refine Up rfl ?_ | refine Uq ?_ | refine Ur ?_ | refine Us ?_ | refine Ut ?_ | refine Uu ?_ | refine Ux ?_ | refine Uv rfl rfl rfl rfl ?_ | refine Uw rfl rfl rfl ?_ | refine U0 z0 ?_ | refine U1 z1 ?_ | refine U9 zs ?_
    exact ⟨.inl rfl, _, _, (by repeat first | exact .nil | apply ResL.cons | exact .tmp rfl | exact .agg rfl rfl rfl rfl rfl (Nat.le_of_ble_eq_true rfl) rfl | exact .cell rfl rfl rfl rfl rfl (Nat.le_of_ble_eq_true rfl) rfl), (by first | exact .one (by first | exact .one (.v (by first | rfl | (rw [hF]))) | exact .one (.own rfl rfl rfl rfl rfl rfl (by first | rfl | (rw [hF])) (by first | exact scal_ints _ | exact scal_slc _)) | exact .one (.nil (by decide) (by first | rfl | (rw [hF]))) | exact .agg (.cons (.v (by first | rfl | (rw [hF]))) (.cons (.v (by first | rfl | (rw [hF]))) (.cons (.own rfl rfl rfl rfl rfl rfl (by first | rfl | (rw [hF])) (scal_ints _)) .nil))) | exact .agg (.cons (.v (by first | rfl | (rw [hF]))) (.cons (.v (by first | rfl | (rw [hF]))) (.cons (.nil (by decide) (by first | rfl | (rw [hF]))) .nil))) | exact .agg (.cons (.v (by first | rfl | (rw [hF]))) (.cons (.v (by first | rfl | (rw [hF]))) .nil))) | exact .two (by repeat first | exact .nil | apply ExpL.cons | exact (by first | exact .one (.v (by first | rfl | (rw [hF]))) | exact .one (.own rfl rfl rfl rfl rfl rfl (by first | rfl | (rw [hF])) (by first | exact scal_ints _ | exact scal_slc _)) | exact .one (.nil (by decide) (by first | rfl | (rw [hF]))) | exact .agg (.cons (.v (by first | rfl | (rw [hF]))) (.cons (.v (by first | rfl | (rw [hF]))) (.cons (.own rfl rfl rfl rfl rfl rfl (by first | rfl | (rw [hF])) (scal_ints _)) .nil))) | exact .agg (.cons (.v (by first | rfl | (rw [hF]))) (.cons (.v (by first | rfl | (rw [hF]))) (.cons (.nil (by decide) (by first | rfl | (rw [hF]))) .nil))) | exact .agg (.cons (.v (by first | rfl | (rw [hF]))) (.cons (.v (by first | rfl | (rw [hF]))) .nil))))), (by decide)⟩
  have hv : validB h = true := by simpa using hb
  have hl12 := (valid_len hv).2
  have hF : carsF h = carsTo h.cells h.cells.length := by simp [carsF, hv]
  repeat first | refine Ua ?_ | refine Ub ?_ | refine Uc ?_ | refine Ud ?_ | refine Ue ?_ | refine Ug ⟨by kernel_rfl, ?_⟩ | refine Ug ?_ | refine Uh ?_ | refine Ui ?_ | refine Uj ?_ | refine Uk rfl ?_ | refine Ul rfl ?_ | refine Um ?_ | refine Un ?_ | refine Uo ?_ | refine Up rfl ?_ | refine Uq ?_ | refine Ur ?_ | refine Us ?_ | refine Ut ?_ | refine Uu ?_ | refine Ux ?_ | refine Uv rfl rfl rfl rfl ?_ | refine Uw rfl rfl rfl ?_ | refine U0 z0 ?_ | refine U1 z1 ?_ | refine U9 zs ?_
  refine ax_loop (fun k : Nat => mkS [(4, .int (k : Int)), (3, .own 2 0), (1, .ptr 1 0 0)] ⟨3, [(1, some (hallRow h)), (2, some (intsRow (carsTo h.cells k)))]⟩) (fun k => k ≤ h.cells.length) (fun k => h.cells.length - k) (0) (Nat.zero_le _) (Lw (ρ := [])) ?_
  intro k hk
  have hcl := carsTo_len h.cells k
  repeat first | refine Ua ?_ | refine Ub ?_ | refine Uc ?_ | refine Ud ?_ | refine Ue ?_ | refine Ug ⟨by kernel_rfl, ?_⟩ | refine Ug ?_ | refine Uh ?_ | refine Ui ?_ | refine Uj ?_ | refine Uk rfl ?_ | refine Ul rfl ?_ | refine Um ?_ | refine Un ?_ | refine Uo ?_ | refine Up rfl ?_ | refine Uq ?_ | refine Ur ?_ | refine Us ?_ | refine Ut ?_ | refine Uu ?_ | refine Ux ?_ | refine Uv rfl rfl rfl rfl ?_ | refine Uw rfl rfl rfl ?_ | refine U0 z0 ?_ | refine U1 z1 ?_ | refine U9 zs ?_
  refine ax_cond rfl (fun hb2 => ?_) (fun hb2 => ?_)
  · have hlt : k < h.cells.length := by simpa using hb2
    repeat first | refine Ua ?_ | refine Ub ?_ | refine Uc ?_ | refine Ud ?_ | refine Ue ?_ | refine Ug ⟨by kernel_rfl, ?_⟩ | refine Ug ?_ | refine Uh ?_ | refine Ui ?_ | refine Uj ?_ | refine Uk rfl ?_ | refine Ul rfl ?_ | refine Um ?_ | refine Un ?_ | refine Uo ?_ | refine Up rfl ?_ | refine Uq ?_ | refine Ur ?_ | refine Us ?_ | refine Ut ?_ | refine Uu ?_ | refine Ux ?_ | refine Uv rfl rfl rfl rfl ?_ | refine Uw rfl rfl rfl ?_ | refine U0 z0 ?_ | refine U1 z1 ?_ | refine U9 zs ?_
    refine ax_cond rfl (fun hb3 => ?_) (fun hb3 => ?_)
    · have h1 : 0 < gi h.cells k := by simpa using hb3
      have e1 : carsTo h.cells (k + 1) = insF (carsTo h.cells k) (gi h.cells k) := by simp only [carsTo]; rw [if_pos h1]
      repeat first | refine Ua ?_ | refine Ub ?_ | refine Uc ?_ | refine Ud ?_ | refine Ue ?_ | refine Ug ⟨by kernel_rfl, ?_⟩ | refine Ug ?_ | refine Uh ?_ | refine Ui ?_ | refine Uj ?_ | refine Uk rfl ?_ | refine Ul rfl ?_ | refine Um ?_ | refine Un ?_ | refine Uo ?_ | refine Up rfl ?_ | refine Uq ?_ | refine Ur ?_ | refine Us ?_ | refine Ut ?_ | refine Uu ?_ | refine Ux ?_ | refine Uv rfl rfl rfl rfl ?_ | refine Uw rfl rfl rfl ?_ | refine U0 z0 ?_ | refine U1 (by first | (apply st_call_s (hfn := l1Sorted_fn (carsTo h.cells k) (by omega) (gi h.cells k) ); exact rfl; exact fz; iterate 2 exact rfl) | exact z1 | fail) ?_ | refine U9 zs ?_
      refine round_next (k + 1) (hlt) (by omega) (weak_of [(2, 3)] (by repeat first | exact .nil | refine LeEs.cons ?_ ?_ | exact .v (by first | rfl | (rw [e1])) | exact .own rfl rfl rfl rfl rfl | exact .ptr rfl rfl rfl rfl rfl rfl | exact .nil rfl rfl rfl | exact .sl (by first | rfl | (rw [e1])) | exact .both rfl rfl | exact .frz rfl rfl rfl rfl rfl (by first | rfl | (rw [e1])) rfl | exact .tab rfl | exact .any _) (by repeat first | exact .nil | refine LeHs.keep rfl ⟨rfl, rfl, rfl, .inl ⟨rfl, by first | rfl | (rw [e1])⟩⟩ ?_ | refine LeHs.keep rfl ⟨rfl, rfl, rfl, .inr ⟨(by first | exact .inl rfl | exact .inr rfl), by repeat first | exact .nil | refine LeVL.cons ?_ ?_ | exact .v (by first | rfl | (rw [e1])) | exact .own rfl rfl rfl rfl rfl | exact .sl (by first | rfl | (rw [e1])) | exact .both rfl rfl | exact .frz rfl rfl rfl rfl rfl (by first | rfl | (rw [e1])) rfl⟩⟩ ?_ | refine LeHs.fresh rfl rfl rfl (Nat.succ_pos _) rfl ?_) rfl rfl)
    · have h1 : ¬ 0 < gi h.cells k := by simpa using hb3
      have e1 : carsTo h.cells (k + 1) = carsTo h.cells k := by simp only [carsTo]; rw [if_neg h1]
      repeat first | refine Ua ?_ | refine Ub ?_ | refine Uc ?_ | refine Ud ?_ | refine Ue ?_ | refine Ug ⟨by kernel_rfl, ?_⟩ | refine Ug ?_ | refine Uh ?_ | refine Ui ?_ | refine Uj ?_ | refine Uk rfl ?_ | refine Ul rfl ?_ | refine Um ?_ | refine Un ?_ | refine Uo ?_ | refine Up rfl ?_ | refine Uq ?_ | refine Ur ?_ | refine Us ?_ | refine Ut ?_ | refine Uu ?_ | refine Ux ?_ | refine Uv rfl rfl rfl rfl ?_ | refine Uw rfl rfl rfl ?_ | refine U0 z0 ?_ | refine U1 z1 ?_ | refine U9 zs ?_
      refine round_next (k + 1) (hlt) (by omega) (weak_of [] (by repeat first | exact .nil | refine LeEs.cons ?_ ?_ | exact .v (by first | rfl | (rw [e1])) | exact .own rfl rfl rfl rfl rfl | exact .ptr rfl rfl rfl rfl rfl rfl | exact .nil rfl rfl rfl | exact .sl (by first | rfl | (rw [e1])) | exact .both rfl rfl | exact .frz rfl rfl rfl rfl rfl (by first | rfl | (rw [e1])) rfl | exact .tab rfl | exact .any _) (by repeat first | exact .nil | refine LeHs.keep rfl ⟨rfl, rfl, rfl, .inl ⟨rfl, by first | rfl | (rw [e1])⟩⟩ ?_ | refine LeHs.keep rfl ⟨rfl, rfl, rfl, .inr ⟨(by first | exact .inl rfl | exact .inr rfl), by repeat first | exact .nil | refine LeVL.cons ?_ ?_ | exact .v (by first | rfl | (rw [e1])) | exact .own rfl rfl rfl rfl rfl | exact .sl (by first | rfl | (rw [e1])) | exact .both rfl rfl | exact .frz rfl rfl rfl rfl rfl (by first | rfl | (rw [e1])) rfl⟩⟩ ?_ | refine LeHs.fresh rfl rfl rfl (Nat.succ_pos _) rfl ?_) rfl rfl)
  · have hkn : k = h.cells.length := by simp at hb2; omega
    repeat first | refine Ua ?_ | refine Ub ?_ | refine Uc ?_ | refine Ud ?_ | refine Ue ?_ | refine Ug ⟨by kernel_rfl, ?_⟩ | refine Ug ?_ | refine Uh ?_ | refine Ui ?_ | refine Uj ?_ | refine Uk rfl ?_ | refine Ul rfl ?_ | refine Um ?_ | refine Un ?_ | refine Uo ?_ | refine Up rfl ?_ | refine Uq ?_ | refine Ur ?_ | refine Us ?_ | refine Ut ?_ | refine Uu ?_ | refine Ux ?_ | refine Uv rfl rfl rfl rfl ?_ | refine Uw rfl rfl rfl ?_ | refine U0 z0 ?_ | refine U1 z1 ?_ | refine U9 zs ?_
    exact ⟨.inl rfl, _, _, (by repeat first | exact .nil | apply ResL.cons | exact .tmp rfl | exact .agg rfl rfl rfl rfl rfl (Nat.le_of_ble_eq_true rfl) rfl | exact .cell rfl rfl rfl rfl rfl (Nat.le_of_ble_eq_true rfl) rfl), (by first | exact .one (by first | exact .one (.v (by first | rfl | (rw [hF, ← hkn]))) | exact .one (.own rfl rfl rfl rfl rfl rfl (by first | rfl | (rw [hF, ← hkn])) (by first | exact scal_ints _ | exact scal_slc _)) | exact .one (.nil (by decide) (by first | rfl | (rw [hF, ← hkn]))) | exact .agg (.cons (.v (by first | rfl | (rw [hF, ← hkn]))) (.cons (.v (by first | rfl | (rw [hF, ← hkn]))) (.cons (.own rfl rfl rfl rfl rfl rfl (by first | rfl | (rw [hF, ← hkn])) (scal_ints _)) .nil))) | exact .agg (.cons (.v (by first | rfl | (rw [hF, ← hkn]))) (.cons (.v (by first | rfl | (rw [hF, ← hkn]))) (.cons (.nil (by decide) (by first | rfl | (rw [hF, ← hkn]))) .nil))) | exact .agg (.cons (.v (by first | rfl | (rw [hF, ← hkn]))) (.cons (.v (by first | rfl | (rw [hF, ← hkn]))) .nil))) | exact .two (by repeat first | exact .nil | apply ExpL.cons | exact (by first | exact .one (.v (by first | rfl | (rw [hF, ← hkn]))) | exact .one (.own rfl rfl rfl rfl rfl rfl (by first | rfl | (rw [hF, ← hkn])) (by first | exact scal_ints _ | exact scal_slc _)) | exact .one (.nil (by decide) (by first | rfl | (rw [hF, ← hkn]))) | exact .agg (.cons (.v (by first | rfl | (rw [hF, ← hkn]))) (.cons (.v (by first | rfl | (rw [hF, ← hkn]))) (.cons (.own rfl rfl rfl rfl rfl rfl (by first | rfl | (rw [hF, ← hkn])) (scal_ints _)) .nil))) | exact .agg (.cons (.v (by first | rfl | (rw [hF, ← hkn]))) (.cons (.v (by first | rfl | (rw [hF, ← hkn]))) (.cons (.nil (by decide) (by first | rfl | (rw [hF, ← hkn]))) .nil))) | exact .agg (.cons (.v (by first | rfl | (rw [hF, ← hkn]))) (.cons (.v (by first | rfl | (rw [hF, ← hkn]))) .nil))))), (by decide)⟩
open Go Go.RowKit Go.Park Go.Sym
def sortZ (l : List Int) : List Int := l.mergeSort fun x y => decide (x ≤ y)
theorem sortZ_len (l : List Int) : (sortZ l).length = l.length := (List.mergeSort_perm l _).length_eq
theorem sortZ_sorted (l : List Int) : (sortZ l).Pairwise (· ≤ ·) := by
  have := List.pairwise_mergeSort (le := fun x y : Int => decide (x ≤ y)) (fun a b c h1 h2 => by simp at *; omega) (fun a b => by simp; omega) l
  exact this.imp (fun h => by simpa using h)
theorem perm_sorted {a b : List Int} (hp : a.Perm b) (ha : a.Pairwise (· ≤ ·)) (hb : b.Pairwise (· ≤ ·)) : a = b :=
  List.Perm.eq_of_pairwise (fun x y _ _ h1 h2 => Int.le_antisymm h1 h2) ha hb hp
def posTo (l : List Int) (k : Nat) : List Int := (l.take k).filter fun x => decide (0 < x)
theorem posTo_len (l : List Int) (k : Nat) : (posTo l k).length ≤ k := by
  have := List.length_filter_le (fun x => decide (0 < x)) (l.take k)
  have h2 : (l.take k).length ≤ k := by rw [List.length_take]; omega
  unfold posTo
  omega
theorem posTo_succ {l : List Int} {k : Nat} (hk : k < l.length) : posTo l (k + 1) = if 0 < gi l k then posTo l k ++ [gi l k] else posTo l k := by
  have e1 : l.take (k + 1) = l.take k ++ [gi l k] := by
    rw [List.take_succ_eq_append_getElem hk]
    simp [gi, List.getD, hk]
  unfold posTo
  rw [e1, List.filter_append]
  split <;> rename_i h <;> simp [h]
theorem insF_perm (l : List Int) (n : Int) : (insF l n).Perm (n :: l) := by
  have : (insF l n).Perm (n :: (l.take (lowTo l n) ++ l.drop (lowTo l n))) := by
    unfold insF
    rw [List.append_assoc]
    exact List.perm_middle
  rwa [List.take_append_drop] at this
theorem low_lt {l : List Int} {n : Int} {x : Int} (h : x ∈ l.take (lowTo l n)) : x < n := by
  obtain ⟨i, hi, rfl⟩ := List.mem_iff_getElem.1 h
  rw [List.getElem_take]
  rw [List.length_take] at hi
  have := List.not_of_lt_findIdx (p := fun x => !decide (x < n)) (xs := l) (i := i) (by unfold lowTo at hi; omega)
  simpa using this
theorem low_ge {l : List Int} {n : Int} (hs : l.Pairwise (· ≤ ·)) {x : Int} (h : x ∈ l.drop (lowTo l n)) : n ≤ x := by
  by_cases hl : lowTo l n < l.length
  · have h0 := List.findIdx_getElem (p := fun x => !decide (x < n)) (xs := l) (w := hl)
    simp at h0
    have hd : l.drop (lowTo l n) = l[lowTo l n] :: l.drop (lowTo l n + 1) := List.drop_eq_getElem_cons hl
    have hp : (l.drop (lowTo l n)).Pairwise (· ≤ ·) := hs.sublist (List.drop_sublist _ _)
    rw [hd] at h hp
    rcases List.mem_cons.1 h with rfl | h
    · exact h0
    · exact Int.le_trans h0 ((List.pairwise_cons.1 hp).1 x h)
  · rw [List.drop_eq_nil_of_le (by omega)] at h
    simp at h
theorem insF_sorted {l : List Int} (n : Int) (hs : l.Pairwise (· ≤ ·)) : (insF l n).Pairwise (· ≤ ·) := by
  unfold insF
  rw [List.append_assoc]
  refine List.pairwise_append.2 ⟨hs.sublist (List.take_sublist _ _), ?_, fun a ha b hb => ?_⟩
  · show (n :: l.drop (lowTo l n)).Pairwise _
    exact List.pairwise_cons.2 ⟨fun x hx => low_ge hs hx, hs.sublist (List.drop_sublist _ _)⟩
  · have h1 := low_lt ha
    have hb' : b ∈ n :: l.drop (lowTo l n) := hb
    rcases List.mem_cons.1 hb' with rfl | hb'
    · omega
    · have := low_ge hs hb'; omega
theorem carsTo_both (l : List Int) : ∀ k, k ≤ l.length → (carsTo l k).Perm (posTo l k) ∧ (carsTo l k).Pairwise (· ≤ ·)
  | 0, _ => by simp [carsTo, posTo]
  | k+1, hk => by
    obtain ⟨h1, h2⟩ := carsTo_both l k (by omega)
    rw [posTo_succ (by omega), carsTo]
    split
    · refine ⟨(insF_perm _ _).trans ?_, insF_sorted _ h2⟩
      exact (List.Perm.cons _ h1).trans (List.perm_append_singleton _ _).symm
    · exact ⟨h1, h2⟩
theorem sortZ_cars (l : List Int) : sortZ (posTo l l.length) = carsTo l l.length := by
  obtain ⟨h1, h2⟩ := carsTo_both l l.length (Nat.le_refl _)
  exact perm_sorted ((List.mergeSort_perm _ _).trans h1.symm) (sortZ_sorted _) h2
theorem sort_t (l : List Int) (hll : l.length ≤ lim) : FnT Tryd.prog 72 (fun t => t) 3 1 (ints l) (ints (sortZ l)) (.tuple #[]) := by
  refine ⟨⟨_, Tryd.func72, by kernel_rfl, rfl⟩, pure_ints _, by simp [ints_length, sortZ_len], fun w n xs t ho hn hx => ?_⟩
  obtain ⟨cx, hx⟩ := hx
  have hxs := rel_vals_ints hx
  rw [ints_length, Nat.mul_one] at hn
  subst hn hxs
  rcases ho.2 with ⟨rfl, h0⟩ | ⟨g, cap, cur, rfl, h1, h2, h3, h4, h5, h6⟩
  · have hl : l = [] := List.length_eq_zero_iff.1 h0
    subst hl
    refine (Any.slices_Sort_int_none Tryd.lays189 none 0 w).mono ?_
    rintro e w' ⟨rfl, rfl⟩
    exact ⟨rfl, ⟨rfl, rfl, rfl, Nat.le_refl _, fun _ _ _ => rfl⟩, [], ho, fun cx => by simp [sortZ, ints, relL], by simp⟩
  · rw [Nat.mul_one] at h6
    have hg : g < w.heap.size := (Array.getElem?_eq_some_iff.1 h2).1
    refine (Tryd.slices_Sort_int g 0 cap l w (holds_of_blockI h2 h6) hg (by have := lim_eq; omega)).mono ?_
    rintro e w' ⟨rfl, m, os, rfl⟩
    refine ⟨rfl, grownBy_sortedI _, _, ownsRow_sortedI (ss := l) (ts := sortZ l) (sortZ_len l) h1 h2 h3 h4 h5, fun cx => ints_map_rel cx _, fun u hu => ?_⟩
    obtain ⟨z, _, rfl⟩ := List.mem_map.1 hu
    rfl
set_option maxHeartbeats 2000000 in
theorem hallCars_fn (h : PHall) (hl : h.cells.length ≤ lim) : FnS Tryd.prog 23 [hallV h] (intsV (carsF h)) := by
  have hlim := lim_eq
  refine fn_go1 tabOk Tryd.func23 rfl (by kernel_rfl) Tryd.ntmps23 Tryd.results23 (by decide) ?_
  repeat first | refine Ua ?_ | refine Ub ?_ | refine Uc ?_ | refine Ud ?_ | refine Ue ?_ | refine Ug ⟨by kernel_rfl, ?_⟩ | refine Ug ?_ | refine Uh ?_ | refine Ui ?_ | refine Uj ?_ | refine Uk rfl ?_ | refine Ul rfl ?_ | refine Um ?_ | refine Un ?_ | refine Uo ?_ | refine Up rfl ?_ | refine Uq ?_ | refine Ur ?_ | refine Us ?_ | refine Ut ?_ | refine Uu ?_ | refine Ux ?_ | refine Uv rfl rfl rfl rfl ?_ | refine Uw rfl rfl rfl ?_ | refine U0 (by first | (apply st_call (hfn := hallValid_fn h hl ); exact rfl; exact fz) | exact z0 | fail) ?_ | refine U1 z1 ?_ | refine U9 zs ?_
  refine ax_cond rfl (fun hb => ?_) (fun hb => ?_)
  · have hF : carsF h = [] := by simp at hb; simp [carsF, hb]
    repeat first | refine Ua ?_ | refine Ub ?_ | refine Uc ?_ | refine Ud ?_ | refine Ue ?_ | refine Ug ⟨by kernel_rfl, ?_⟩ | refine Ug ?_ | refine Uh ?_ | refine Ui ?_ | refine Uj ?_ | refine Uk rfl ?_ | refine Ul rfl ?_ | refine Um ?_ | refine Un ?_ | refine Uo ?_ | refine Up rfl ?_ | refine Uq ?_ | refine Ur ?_ | refine Us ?_ | refine Ut ?_ | refine Uu ?_ | refine Ux ?_ | refine Uv rfl rfl rfl rfl ?_ | refine Uw rfl rfl rfl ?_ | refine U0 z0 ?_ | refine U1 z1 ?_ | refine U9 zs ?_
    exact ⟨.inl rfl, _, _, (by repeat first | exact .nil | apply ResL.cons | exact .tmp rfl | exact .agg rfl rfl rfl rfl rfl (Nat.le_of_ble_eq_true rfl) rfl | exact .cell rfl rfl rfl rfl rfl (Nat.le_of_ble_eq_true rfl) rfl), (by first | exact .one (by first | exact .one (.v (by first | rfl | ((rw [hF]; rfl)))) | exact .one (.own rfl rfl rfl rfl rfl rfl (by first | rfl | ((rw [hF]; rfl))) (by first | exact scal_ints _ | exact scal_slc _)) | exact .one (.nil (by decide) (by first | rfl | ((rw [hF]; rfl)))) | exact .agg (.cons (.v (by first | rfl | ((rw [hF]; rfl)))) (.cons (.v (by first | rfl | ((rw [hF]; rfl)))) (.cons (.own rfl rfl rfl rfl rfl rfl (by first | rfl | ((rw [hF]; rfl))) (scal_ints _)) .nil))) | exact .agg (.cons (.v (by first | rfl | ((rw [hF]; rfl)))) (.cons (.v (by first | rfl | ((rw [hF]; rfl)))) (.cons (.nil (by decide) (by first | rfl | ((rw [hF]; rfl)))) .nil))) | exact .agg (.cons (.v (by first | rfl | ((rw [hF]; rfl)))) (.cons (.v (by first | rfl | ((rw [hF]; rfl)))) .nil))) | exact .two (by repeat first | exact .nil | apply ExpL.cons | exact (by first | exact .one (.v (by first | rfl | ((rw [hF]; rfl)))) | exact .one (.own rfl rfl rfl rfl rfl rfl (by first | rfl | ((rw [hF]; rfl))) (by first | exact scal_ints _ | exact scal_slc _)) | exact .one (.nil (by decide) (by first | rfl | ((rw [hF]; rfl)))) | exact .agg (.cons (.v (by first | rfl | ((rw [hF]; rfl)))) (.cons (.v (by first | rfl | ((rw [hF]; rfl)))) (.cons (.own rfl rfl rfl rfl rfl rfl (by first | rfl | ((rw [hF]; rfl))) (scal_ints _)) .nil))) | exact .agg (.cons (.v (by first | rfl | ((rw [hF]; rfl)))) (.cons (.v (by first | rfl | ((rw [hF]; rfl)))) (.cons (.nil (by decide) (by first | rfl | ((rw [hF]; rfl)))) .nil))) | exact .agg (.cons (.v (by first | rfl | ((rw [hF]; rfl)))) (.cons (.v (by first | rfl | ((rw [hF]; rfl)))) .nil))))), (by decide)⟩
  have hv : validB h = true := by simpa using hb
  have hl12 := (valid_len hv).2
  have hF : carsF h = sortZ (posTo h.cells h.cells.length) := by rw [sortZ_cars]; simp [carsF, hv]
  repeat first | refine Ua ?_ | refine Ub ?_ | refine Uc ?_ | refine Ud ?_ | refine Ue ?_ | refine Ug ⟨by kernel_rfl, ?_⟩ | refine Ug ?_ | refine Uh ?_ | refine Ui ?_ | refine Uj ?_ | refine Uk rfl ?_ | refine Ul rfl ?_ | refine Um ?_ | refine Un ?_ | refine Uo ?_ | refine Up rfl ?_ | refine Uq ?_ | refine Ur ?_ | refine Us ?_ | refine Ut ?_ | refine Uu ?_ | refine Ux ?_ | refine Uv rfl rfl rfl rfl ?_ | refine Uw rfl rfl rfl ?_ | refine U0 z0 ?_ | refine U1 z1 ?_ | refine U9 zs ?_
  refine ax_loop (fun k : Nat => mkS [(12, .int (k : Int)), (11, .int (h.cells.length : Int)), (10, intsV h.cells), (3, .own 2 0)] ⟨3, [(1, some (hallRow h)), (2, some (intsRow (posTo h.cells k)))]⟩) (fun k => k ≤ h.cells.length) (fun k => h.cells.length - k) (0) (Nat.zero_le _) (Lw (ρ := [])) ?_
  intro k hk
  have hcl := posTo_len h.cells k
  repeat first | refine Ua ?_ | refine Ub ?_ | refine Uc ?_ | refine Ud ?_ | refine Ue ?_ | refine Ug ⟨by kernel_rfl, ?_⟩ | refine Ug ?_ | refine Uh ?_ | refine Ui ?_ | refine Uj ?_ | refine Uk rfl ?_ | refine Ul rfl ?_ | refine Um ?_ | refine Un ?_ | refine Uo ?_ | refine Up rfl ?_ | refine Uq ?_ | refine Ur ?_ | refine Us ?_ | refine Ut ?_ | refine Uu ?_ | refine Ux ?_ | refine Uv rfl rfl rfl rfl ?_ | refine Uw rfl rfl rfl ?_ | refine U0 z0 ?_ | refine U1 z1 ?_ | refine U9 zs ?_
  refine ax_cond rfl (fun hb2 => ?_) (fun hb2 => ?_)
  · have hlt : k < h.cells.length := by simpa using hb2
    repeat first | refine Ua ?_ | refine Ub ?_ | refine Uc ?_ | refine Ud ?_ | refine Ue ?_ | refine Ug ⟨by kernel_rfl, ?_⟩ | refine Ug ?_ | refine Uh ?_ | refine Ui ?_ | refine Uj ?_ | refine Uk rfl ?_ | refine Ul rfl ?_ | refine Um ?_ | refine Un ?_ | refine Uo ?_ | refine Up rfl ?_ | refine Uq ?_ | refine Ur ?_ | refine Us ?_ | refine Ut ?_ | refine Uu ?_ | refine Ux ?_ | refine Uv rfl rfl rfl rfl ?_ | refine Uw rfl rfl rfl ?_ | refine U0 z0 ?_ | refine U1 z1 ?_ | refine U9 zs ?_
    refine ax_cond rfl (fun hb3 => ?_) (fun hb3 => ?_)
    · have h1 : 0 < gi h.cells k := by simpa using hb3
      have e1 : posTo h.cells (k + 1) = posTo h.cells k ++ [gi h.cells k] := by rw [posTo_succ hlt, if_pos h1]
      repeat first | refine Ua ?_ | refine Ub ?_ | refine Uc ?_ | refine Ud ?_ | refine Ue ?_ | refine Ug ⟨by kernel_rfl, ?_⟩ | refine Ug ?_ | refine Uh ?_ | refine Ui ?_ | refine Uj ?_ | refine Uk rfl ?_ | refine Ul rfl ?_ | refine Um ?_ | refine Un ?_ | refine Uo ?_ | refine Up rfl ?_ | refine Uq ?_ | refine Ur ?_ | refine Us ?_ | refine Ut ?_ | refine Uu ?_ | refine Ux ?_ | refine Uv rfl rfl rfl rfl ?_ | refine Uw rfl rfl rfl ?_ | refine U0 z0 ?_ | refine U1 z1 ?_ | refine U9 zs ?_
      refine round_next (k + 1) (hlt) (by omega) (weak_of [] (by repeat first | exact .nil | refine LeEs.cons ?_ ?_ | exact .v (by first | rfl | (rw [e1])) | exact .own rfl rfl rfl rfl rfl | exact .ptr rfl rfl rfl rfl rfl rfl | exact .nil rfl rfl rfl | exact .sl (by first | rfl | (rw [e1])) | exact .both rfl rfl | exact .frz rfl rfl rfl rfl rfl (by first | rfl | (rw [e1])) rfl | exact .tab rfl | exact .any _) (by repeat first | exact .nil | refine LeHs.keep rfl ⟨rfl, rfl, rfl, .inl ⟨rfl, by first | rfl | (rw [e1])⟩⟩ ?_ | refine LeHs.keep rfl ⟨rfl, rfl, rfl, .inr ⟨(by first | exact .inl rfl | exact .inr rfl), by repeat first | exact .nil | refine LeVL.cons ?_ ?_ | exact .v (by first | rfl | (rw [e1])) | exact .own rfl rfl rfl rfl rfl | exact .sl (by first | rfl | (rw [e1])) | exact .both rfl rfl | exact .frz rfl rfl rfl rfl rfl (by first | rfl | (rw [e1])) rfl⟩⟩ ?_ | refine LeHs.fresh rfl rfl rfl (Nat.succ_pos _) rfl ?_) rfl rfl)
    · have h1 : ¬ 0 < gi h.cells k := by simpa using hb3
      have e1 : posTo h.cells (k + 1) = posTo h.cells k := by rw [posTo_succ hlt, if_neg h1]
      repeat first | refine Ua ?_ | refine Ub ?_ | refine Uc ?_ | refine Ud ?_ | refine Ue ?_ | refine Ug ⟨by kernel_rfl, ?_⟩ | refine Ug ?_ | refine Uh ?_ | refine Ui ?_ | refine Uj ?_ | refine Uk rfl ?_ | refine Ul rfl ?_ | refine Um ?_ | refine Un ?_ | refine Uo ?_ | refine Up rfl ?_ | refine Uq ?_ | refine Ur ?_ | refine Us ?_ | refine Ut ?_ | refine Uu ?_ | refine Ux ?_ | refine Uv rfl rfl rfl rfl ?_ | refine Uw rfl rfl rfl ?_ | refine U0 z0 ?_ | refine U1 z1 ?_ | refine U9 zs ?_
      refine round_next (k + 1) (hlt) (by omega) (weak_of [] (by repeat first | exact .nil | refine LeEs.cons ?_ ?_ | exact .v (by first | rfl | (rw [e1])) | exact .own rfl rfl rfl rfl rfl | exact .ptr rfl rfl rfl rfl rfl rfl | exact .nil rfl rfl rfl | exact .sl (by first | rfl | (rw [e1])) | exact .both rfl rfl | exact .frz rfl rfl rfl rfl rfl (by first | rfl | (rw [e1])) rfl | exact .tab rfl | exact .any _) (by repeat first | exact .nil | refine LeHs.keep rfl ⟨rfl, rfl, rfl, .inl ⟨rfl, by first | rfl | (rw [e1])⟩⟩ ?_ | refine LeHs.keep rfl ⟨rfl, rfl, rfl, .inr ⟨(by first | exact .inl rfl | exact .inr rfl), by repeat first | exact .nil | refine LeVL.cons ?_ ?_ | exact .v (by first | rfl | (rw [e1])) | exact .own rfl rfl rfl rfl rfl | exact .sl (by first | rfl | (rw [e1])) | exact .both rfl rfl | exact .frz rfl rfl rfl rfl rfl (by first | rfl | (rw [e1])) rfl⟩⟩ ?_ | refine LeHs.fresh rfl rfl rfl (Nat.succ_pos _) rfl ?_) rfl rfl)
  · have hkn : k = h.cells.length := by simp at hb2; omega
    repeat first | refine Ua ?_ | refine Ub ?_ | refine Uc ?_ | refine Ud ?_ | refine Ue ?_ | refine Ug ⟨by kernel_rfl, ?_⟩ | refine Ug ?_ | refine Uh ?_ | refine Ui ?_ | refine Uj ?_ | refine Uk rfl ?_ | refine Ul rfl ?_ | refine Um ?_ | refine Un ?_ | refine Uo ?_ | refine Up rfl ?_ | refine Uq ?_ | refine Ur ?_ | refine Us ?_ | refine Ut ?_ | refine Uu ?_ | refine Ux ?_ | refine Uv rfl rfl rfl rfl ?_ | refine Uw rfl rfl rfl ?_ | refine U0 z0 ?_ | refine U1 (by first | (apply st_turn1 (hfn := sort_t (posTo h.cells k) (by omega) ); exact rfl; exact rfl; exact mz; iterate 5 exact rfl) | exact z1 | fail) ?_ | refine U9 zs ?_
    exact ⟨.inl rfl, _, _, (by repeat first | exact .nil | apply ResL.cons | exact .tmp rfl | exact .agg rfl rfl rfl rfl rfl (Nat.le_of_ble_eq_true rfl) rfl | exact .cell rfl rfl rfl rfl rfl (Nat.le_of_ble_eq_true rfl) rfl), (by first | exact .one (by first | exact .one (.v (by first | rfl | (rw [hF, ← hkn]))) | exact .one (.own rfl rfl rfl rfl rfl rfl (by first | rfl | (rw [hF, ← hkn])) (by first | exact scal_ints _ | exact scal_slc _)) | exact .one (.nil (by decide) (by first | rfl | (rw [hF, ← hkn]))) | exact .agg (.cons (.v (by first | rfl | (rw [hF, ← hkn]))) (.cons (.v (by first | rfl | (rw [hF, ← hkn]))) (.cons (.own rfl rfl rfl rfl rfl rfl (by first | rfl | (rw [hF, ← hkn])) (scal_ints _)) .nil))) | exact .agg (.cons (.v (by first | rfl | (rw [hF, ← hkn]))) (.cons (.v (by first | rfl | (rw [hF, ← hkn]))) (.cons (.nil (by decide) (by first | rfl | (rw [hF, ← hkn]))) .nil))) | exact .agg (.cons (.v (by first | rfl | (rw [hF, ← hkn]))) (.cons (.v (by first | rfl | (rw [hF, ← hkn]))) .nil))) | exact .two (by repeat first | exact .nil | apply ExpL.cons | exact (by first | exact .one (.v (by first | rfl | (rw [hF, ← hkn]))) | exact .one (.own rfl rfl rfl rfl rfl rfl (by first | rfl | (rw [hF, ← hkn])) (by first | exact scal_ints _ | exact scal_slc _)) | exact .one (.nil (by decide) (by first | rfl | (rw [hF, ← hkn]))) | exact .agg (.cons (.v (by first | rfl | (rw [hF, ← hkn]))) (.cons (.v (by first | rfl | (rw [hF, ← hkn]))) (.cons (.own rfl rfl rfl rfl rfl rfl (by first | rfl | (rw [hF, ← hkn])) (scal_ints _)) .nil))) | exact .agg (.cons (.v (by first | rfl | (rw [hF, ← hkn]))) (.cons (.v (by first | rfl | (rw [hF, ← hkn]))) (.cons (.nil (by decide) (by first | rfl | (rw [hF, ← hkn]))) .nil))) | exact .agg (.cons (.v (by first | rfl | (rw [hF, ← hkn]))) (.cons (.v (by first | rfl | (rw [hF, ← hkn]))) .nil))))), (by decide)⟩

/-! plain facts -/
theorem gi_of_lt' {l : List Int} {j : Nat} (hj : j < l.length) : gi l j = l[j] := by simp [gi, List.getD, hj]
theorem upB_iff {a : List Int} : upB a = true ↔ a.Pairwise (· < ·) := by
  unfold upB
  rw [decide_eq_true_iff]
  constructor
  · intro h
    have hs : ∀ d i, i + d + 1 < a.length → gi a i < gi a (i + d + 1) := by
      intro d
      induction d with
      | zero => intro i hi; exact h i (by omega)
      | succ d ih =>
        intro i hi
        have h1 := ih i (by omega)
        have h2 := h (i + d + 1) (by omega)
        have : i + (d + 1) + 1 = i + d + 1 + 1 := by omega
        rw [this]; omega
    rw [List.pairwise_iff_getElem]
    intro i j hi hj hij
    have := hs (j - i - 1) i (by omega)
    rw [show i + (j - i - 1) + 1 = j by omega, gi_of_lt' hi, gi_of_lt' hj] at this
    exact this
  · intro h j hj
    rw [gi_of_lt' (by omega), gi_of_lt' (by omega)]
    exact List.pairwise_iff_getElem.1 h j (j+1) (by omega) (by omega) (by omega)
theorem cars_nil {h : PHall} (hv : validB h = false) : carsF h = [] := by simp [carsF, hv]
theorem cars_perm {h : PHall} (hv : validB h = true) : (carsF h).Perm (posTo h.cells h.cells.length) ∧ (carsF h).Pairwise (· ≤ ·) := by
  unfold carsF; rw [if_pos hv]; exact carsTo_both _ _ (Nat.le_refl _)
theorem free_pos {l : List Int} (h0 : ∀ k, k < l.length → 0 ≤ gi l k) : ∀ k, k ≤ l.length → (selTo (fun j => decide (gi l j = 0)) k).length + (posTo l k).length = k
  | 0, _ => by simp [selTo, posTo]
  | k+1, hk => by
    have ih := free_pos h0 k (by omega)
    have := h0 k (by omega)
    rw [posTo_succ (by omega)]
    by_cases e : gi l k = 0
    · rw [selTo_yes (by simp [e]), if_neg (by omega)]
      simp; omega
    · rw [selTo_no (by simp [e]), if_pos (by omega)]
      simp; omega
theorem free_cars {h : PHall} (hv : validB h = true) : (hallFreeF h).length + (carsF h).length = h.cells.length := by
  rw [(cars_perm hv).1.length_eq]
  unfold hallFreeF
  rw [if_pos hv]
  exact free_pos (fun k hk => ((valid_iff.1 hv).2.rng k hk).1) _ (Nat.le_refl _)
theorem mem_gi {l : List Int} {x : Int} : x ∈ l ↔ ∃ j, j < l.length ∧ gi l j = x := by
  constructor
  · intro h
    obtain ⟨i, hi, rfl⟩ := List.mem_iff_getElem.1 h
    exact ⟨i, hi, gi_of_lt' hi⟩
  · rintro ⟨j, hj, rfl⟩
    rw [gi_of_lt' hj]; exact List.getElem_mem hj
theorem mem_cars {h : PHall} {x : Int} : x ∈ carsF h ↔ validB h = true ∧ 0 < x ∧ x ∈ h.cells := by
  by_cases hv : validB h = true
  · rw [(cars_perm hv).1.mem_iff, posTo, List.take_length, List.mem_filter]
    simp [hv]
    exact And.comm
  · rw [cars_nil (by simpa using hv)]
    simp [hv]
theorem up_cars (h : PHall) : upB (carsF h) = true := by
  rw [upB_iff]
  by_cases hv : validB h = true
  · obtain ⟨h1, h2⟩ := cars_perm hv
    have hn : (posTo h.cells h.cells.length).Nodup := by
      unfold posTo
      rw [List.take_length]
      have hO := (valid_iff.1 hv).2
      rw [List.Nodup, List.pairwise_filter, List.pairwise_iff_getElem]
      intro i j hi hj hij h1 h2 e
      have := hO.one i j hi hj (by rw [gi_of_lt' hi]; simpa using h1) (by rw [gi_of_lt' hi, gi_of_lt' hj]; exact e)
      omega
    have hn' : (carsF h).Nodup := h1.nodup_iff.2 hn
    exact (h2.and hn').imp (fun hh => Int.lt_iff_le_and_ne.2 hh)
  · rw [cars_nil (by simpa using hv)]; exact List.Pairwise.nil
end Go.Proofs.YtnfjmcenjpoloaaDoor
