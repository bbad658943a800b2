/-
  The texts W1 W2 W3 in one.
-/
import Derived.Test.YtnfjmcenjpoloaaDoorP7
import Derived.Test.YtnfjmcenjpoloaaDoorP4
import Derived.Laws.StructEq
section
/-
  The drawn inputs: the reader's methods.
-/
set_option linter.unusedVariables false
set_option linter.unusedSimpArgs false
set_option maxRecDepth 100000
namespace Go.Proofs.YtnfjmcenjpoloaaDoor
open Go Go.RowKit Go.Park Go.Sym

/-- bytes -/
structure Bytes (l : List Int) : Prop where
  rng : ∀ j, j < l.length → 0 ≤ gi l j ∧ gi l j ≤ 255
  short : l.length ≤ 2000
def mixI (l : List Int) (p : Int) : Int := gi l (p % l.length).toNat * 131 + gi l ((p * 7 + 3) % l.length).toNat * 1117 + p * 29 + p / l.length * 53
abbrev rdR (x0 : Value) (l : List Int) (q : Int) : Row := ⟨103, 2, 0, true, true, [.both x0 (.sl 5 1 (byts l)), .int q]⟩
def pickF (l : List Int) (p n : Int) : Int :=
  if n < 1 ∨ l = [] then 0 else if p < l.length then gi l p.toNat % n else xorI (mixI l p) (mixI l p / 64) % n
theorem xorI_nonneg {a b : Int} (ha : 0 ≤ a ∧ a < 9223372036854775808) (hb : 0 ≤ b ∧ b < 9223372036854775808) : 0 ≤ xorI a b := by
  unfold xorI
  obtain ⟨x, rfl⟩ := Int.eq_ofNat_of_zero_le ha.1
  obtain ⟨y, rfl⟩ := Int.eq_ofNat_of_zero_le hb.1
  have e1 : BitVec.ofInt IntKind.i64.bits (x : Int) = BitVec.ofNat 64 x := by
    apply BitVec.eq_of_toNat_eq; simp [BitVec.toNat_ofInt]; rfl
  have e2 : BitVec.ofInt IntKind.i64.bits (y : Int) = BitVec.ofNat 64 y := by
    apply BitVec.eq_of_toNat_eq; simp [BitVec.toNat_ofInt]; rfl
  have h1 : (BitVec.ofInt IntKind.i64.bits (x : Int) ^^^ BitVec.ofInt IntKind.i64.bits (y : Int)).toNat = x ^^^ y := by
    rw [e1, e2]
    show (BitVec.ofNat 64 x ^^^ BitVec.ofNat 64 y).toNat = _
    rw [BitVec.toNat_xor, BitVec.toNat_ofNat, BitVec.toNat_ofNat, Nat.mod_eq_of_lt (by omega), Nat.mod_eq_of_lt (by omega)]
  rw [h1]
  have h2 : x ^^^ y < 2 ^ 63 := Nat.xor_lt_two_pow (by omega) (by omega)
  rw [IntWalk.i64_in _ (by omega)]
  omega
theorem mixI_ok {l : List Int} (hB : Bytes l) {p : Int} (h0 : 0 ≤ p ∧ p ≤ 1000000) (hne : l ≠ []) : 0 ≤ mixI l p ∧ mixI l p ≤ 1000000000 := by
  have hl : 0 < l.length := List.length_pos_iff.2 hne
  have a1 := Int.emod_nonneg p (b := (l.length : Int)) (by omega)
  have a2 := Int.emod_lt_of_pos p (b := (l.length : Int)) (by omega)
  have b1 := Int.emod_nonneg (p * 7 + 3) (b := (l.length : Int)) (by omega)
  have b2 := Int.emod_lt_of_pos (p * 7 + 3) (b := (l.length : Int)) (by omega)
  have c1 := hB.rng (p % l.length).toNat (by omega)
  have c2 := hB.rng ((p * 7 + 3) % l.length).toNat (by omega)
  have d1 : 0 ≤ p / l.length := Int.ediv_nonneg h0.1 (by omega)
  have d2 : p / l.length ≤ p := Int.ediv_le_self _ h0.1
  unfold mixI
  omega
theorem pick_range {l : List Int} (hB : Bytes l) {p n : Int} (h0 : 0 ≤ p ∧ p ≤ 1000000) : 0 ≤ pickF l p n ∧ (1 ≤ n → pickF l p n < n) := by
  unfold pickF
  split
  · rename_i h; exact ⟨Int.le_refl _, fun hn => by omega⟩
  · rename_i h
    have hn : 1 ≤ n := by omega
    have hne : l ≠ [] := fun e => h (.inr e)
    split
    · exact ⟨Int.emod_nonneg _ (by omega), fun _ => Int.emod_lt_of_pos _ (by omega)⟩
    · exact ⟨Int.emod_nonneg _ (by omega), fun _ => Int.emod_lt_of_pos _ (by omega)⟩

set_option maxHeartbeats 4000000 in
theorem pick_fn (x0 : Value) (l : List Int) (hB : Bytes l) (p : Int) (hp : 0 ≤ p ∧ p ≤ 1000000) (n : Int) : FnR Tryd.prog 51 103 x0 5 (byts l) p [.int n] (p + 1) (.int (pickF l p n)) := by
  have hs := hB.short
  suffices h : ∃ i : Unit, True ∧ FnR Tryd.prog 51 103 x0 5 (byts l) p [.int n] (p + 1) (.int (pickF l p n)) by obtain ⟨_, _, h⟩ := h; exact h
  refine fnr_go2 (Good := fun _ : Unit => True) (pos := fun _ => p + 1) (res := fun _ => .int (pickF l p n)) tabOk Tryd.func51 rfl (by kernel_rfl) Tryd.ntmps51 Tryd.results51 (by decide) ?_
  repeat first | refine Ua ?_ | refine Ub ?_ | refine Uc ?_ | refine Ud ?_ | refine Ue ?_ | refine Ug ⟨by kernel_rfl, ?_⟩ | refine Ug ?_ | refine Uh ?_ | refine Ui ?_ | refine Uj ?_ | refine Uk rfl ?_ | refine Ul rfl ?_ | refine Um ?_ | refine Un ?_ | refine Uo ?_ | refine Up rfl ?_ | refine Uq ?_ | refine Ur ?_ | refine Us ?_ | refine Ut ?_ | refine Uu ?_ | refine Ux ?_ | refine Uv rfl rfl rfl rfl ?_ | refine Uw rfl rfl rfl ?_ | refine U0 z0 ?_ | refine U1 z1 ?_ | refine U9 zs ?_
  refine rh_split rfl rfl (fun hb => ?_) (fun hb => ?_)
  · have hF : pickF l p n = 0 := by unfold pickF; rw [if_pos (.inl (by simpa using hb))]
    repeat first | refine Ua ?_ | refine Ub ?_ | refine Uc ?_ | refine Ud ?_ | refine Ue ?_ | refine Ug ⟨by kernel_rfl, ?_⟩ | refine Ug ?_ | refine Uh ?_ | refine Ui ?_ | refine Uj ?_ | refine Uk rfl ?_ | refine Ul rfl ?_ | refine Um ?_ | refine Un ?_ | refine Uo ?_ | refine Up rfl ?_ | refine Uq ?_ | refine Ur ?_ | refine Us ?_ | refine Ut ?_ | refine Uu ?_ | refine Ux ?_ | refine Uv rfl rfl rfl rfl ?_ | refine Uw rfl rfl rfl ?_ | refine U0 z0 ?_ | refine U1 z1 ?_ | refine U9 zs ?_
    exact ⟨⟨(), trivial, .inl rfl, rfl, _, _, (by repeat first | exact .nil | apply ResL.cons | exact .tmp rfl | exact .agg rfl rfl rfl rfl rfl (Nat.le_of_ble_eq_true rfl) rfl | exact .cell rfl rfl rfl rfl rfl (Nat.le_of_ble_eq_true rfl) rfl), (by first | exact .one (by first | exact .one (.v (by first | rfl | (rw [hF]))) | exact .one (.own rfl rfl rfl rfl rfl rfl (by first | rfl | (rw [hF])) (by first | exact scal_ints _ | exact scal_slc _)) | exact .one (.nil (by decide) (by first | rfl | (rw [hF]))) | exact .agg (.cons (.v (by first | rfl | (rw [hF]))) (.cons (.v (by first | rfl | (rw [hF]))) (.cons (.own rfl rfl rfl rfl rfl rfl (by first | rfl | (rw [hF])) (scal_ints _)) .nil))) | exact .agg (.cons (.v (by first | rfl | (rw [hF]))) (.cons (.v (by first | rfl | (rw [hF]))) (.cons (.nil (by decide) (by first | rfl | (rw [hF]))) .nil))) | exact .agg (.cons (.v (by first | rfl | (rw [hF]))) (.cons (.v (by first | rfl | (rw [hF]))) .nil))) | exact .two (by repeat first | exact .nil | apply ExpL.cons | exact (by first | exact .one (.v (by first | rfl | (rw [hF]))) | exact .one (.own rfl rfl rfl rfl rfl rfl (by first | rfl | (rw [hF])) (by first | exact scal_ints _ | exact scal_slc _)) | exact .one (.nil (by decide) (by first | rfl | (rw [hF]))) | exact .agg (.cons (.v (by first | rfl | (rw [hF]))) (.cons (.v (by first | rfl | (rw [hF]))) (.cons (.own rfl rfl rfl rfl rfl rfl (by first | rfl | (rw [hF])) (scal_ints _)) .nil))) | exact .agg (.cons (.v (by first | rfl | (rw [hF]))) (.cons (.v (by first | rfl | (rw [hF]))) (.cons (.nil (by decide) (by first | rfl | (rw [hF]))) .nil))) | exact .agg (.cons (.v (by first | rfl | (rw [hF]))) (.cons (.v (by first | rfl | (rw [hF]))) .nil))))), (by decide)⟩⟩
  have hn : 1 ≤ n := by have : ¬ n < 1 := by simpa using hb
                        omega
  repeat first | refine Ua ?_ | refine Ub ?_ | refine Uc ?_ | refine Ud ?_ | refine Ue ?_ | refine Ug ⟨by kernel_rfl, ?_⟩ | refine Ug ?_ | refine Uh ?_ | refine Ui ?_ | refine Uj ?_ | refine Uk rfl ?_ | refine Ul rfl ?_ | refine Um ?_ | refine Un ?_ | refine Uo ?_ | refine Up rfl ?_ | refine Uq ?_ | refine Ur ?_ | refine Us ?_ | refine Ut ?_ | refine Uu ?_ | refine Ux ?_ | refine Uv rfl rfl rfl rfl ?_ | refine Uw rfl rfl rfl ?_ | refine U0 z0 ?_ | refine U1 z1 ?_ | refine U9 zs ?_
  refine ax_cond rfl (fun hb1 => ?_) (fun hb1 => ?_)
  · have hF : pickF l p n = 0 := by unfold pickF; rw [if_pos (.inr (by simpa using hb1))]
    repeat first | refine Ua ?_ | refine Ub ?_ | refine Uc ?_ | refine Ud ?_ | refine Ue ?_ | refine Ug ⟨by kernel_rfl, ?_⟩ | refine Ug ?_ | refine Uh ?_ | refine Ui ?_ | refine Uj ?_ | refine Uk rfl ?_ | refine Ul rfl ?_ | refine Um ?_ | refine Un ?_ | refine Uo ?_ | refine Up rfl ?_ | refine Uq ?_ | refine Ur ?_ | refine Us ?_ | refine Ut ?_ | refine Uu ?_ | refine Ux ?_ | refine Uv rfl rfl rfl rfl ?_ | refine Uw rfl rfl rfl ?_ | refine U0 z0 ?_ | refine U1 z1 ?_ | refine U9 zs ?_
    exact ⟨⟨(), trivial, .inl rfl, rfl, _, _, (by repeat first | exact .nil | apply ResL.cons | exact .tmp rfl | exact .agg rfl rfl rfl rfl rfl (Nat.le_of_ble_eq_true rfl) rfl | exact .cell rfl rfl rfl rfl rfl (Nat.le_of_ble_eq_true rfl) rfl), (by first | exact .one (by first | exact .one (.v (by first | rfl | (rw [hF]))) | exact .one (.own rfl rfl rfl rfl rfl rfl (by first | rfl | (rw [hF])) (by first | exact scal_ints _ | exact scal_slc _)) | exact .one (.nil (by decide) (by first | rfl | (rw [hF]))) | exact .agg (.cons (.v (by first | rfl | (rw [hF]))) (.cons (.v (by first | rfl | (rw [hF]))) (.cons (.own rfl rfl rfl rfl rfl rfl (by first | rfl | (rw [hF])) (scal_ints _)) .nil))) | exact .agg (.cons (.v (by first | rfl | (rw [hF]))) (.cons (.v (by first | rfl | (rw [hF]))) (.cons (.nil (by decide) (by first | rfl | (rw [hF]))) .nil))) | exact .agg (.cons (.v (by first | rfl | (rw [hF]))) (.cons (.v (by first | rfl | (rw [hF]))) .nil))) | exact .two (by repeat first | exact .nil | apply ExpL.cons | exact (by first | exact .one (.v (by first | rfl | (rw [hF]))) | exact .one (.own rfl rfl rfl rfl rfl rfl (by first | rfl | (rw [hF])) (by first | exact scal_ints _ | exact scal_slc _)) | exact .one (.nil (by decide) (by first | rfl | (rw [hF]))) | exact .agg (.cons (.v (by first | rfl | (rw [hF]))) (.cons (.v (by first | rfl | (rw [hF]))) (.cons (.own rfl rfl rfl rfl rfl rfl (by first | rfl | (rw [hF])) (scal_ints _)) .nil))) | exact .agg (.cons (.v (by first | rfl | (rw [hF]))) (.cons (.v (by first | rfl | (rw [hF]))) (.cons (.nil (by decide) (by first | rfl | (rw [hF]))) .nil))) | exact .agg (.cons (.v (by first | rfl | (rw [hF]))) (.cons (.v (by first | rfl | (rw [hF]))) .nil))))), (by decide)⟩⟩
  have hne : l ≠ [] := by simpa using hb1
  have hl : 0 < l.length := List.length_pos_iff.2 hne
  repeat first | refine Ua ?_ | refine Ub ?_ | refine Uc ?_ | refine Ud ?_ | refine Ue ?_ | refine Ug ⟨by kernel_rfl, ?_⟩ | refine Ug ?_ | refine Uh ?_ | refine Ui ?_ | refine Uj ?_ | refine Uk rfl ?_ | refine Ul rfl ?_ | refine Um ?_ | refine Un ?_ | refine Uo ?_ | refine Up rfl ?_ | refine Uq ?_ | refine Ur ?_ | refine Us ?_ | refine Ut ?_ | refine Uu ?_ | refine Ux ?_ | refine Uv rfl rfl rfl rfl ?_ | refine Uw rfl rfl rfl ?_ | refine U0 z0 ?_ | refine U1 z1 ?_ | refine U9 zs ?_
  refine ax_cond rfl (fun hb2 => ?_) (fun hb2 => ?_)
  · have hlt : p < l.length := by simpa using hb2
    have hr := hB.rng p.toNat (by omega)
    have hF : pickF l p n = gi l p.toNat % n := by unfold pickF; rw [if_neg (by rintro (h | h); omega; exact hne h), if_pos hlt]
    repeat first | refine Ua ?_ | refine Ub ?_ | refine Uc ?_ | refine Ud ?_ | refine Ue ?_ | refine Ug ⟨by kernel_rfl, ?_⟩ | refine Ug ?_ | refine Uh ?_ | refine Ui ?_ | refine Uj ?_ | refine Uk rfl ?_ | refine Ul rfl ?_ | refine Um ?_ | refine Un ?_ | refine Uo ?_ | refine Up rfl ?_ | refine Uq ?_ | refine Ur ?_ | refine Us ?_ | refine Ut ?_ | refine Uu ?_ | refine Ux ?_ | refine Uv rfl rfl rfl rfl ?_ | refine Uw rfl rfl rfl ?_ | refine U0 z0 ?_ | refine U1 z1 ?_ | refine U9 zs ?_
    exact ⟨⟨(), trivial, .inl rfl, rfl, _, _, (by repeat first | exact .nil | apply ResL.cons | exact .tmp rfl | exact .agg rfl rfl rfl rfl rfl (Nat.le_of_ble_eq_true rfl) rfl | exact .cell rfl rfl rfl rfl rfl (Nat.le_of_ble_eq_true rfl) rfl), (by first | exact .one (by first | exact .one (.v (by first | rfl | (rw [hF]))) | exact .one (.own rfl rfl rfl rfl rfl rfl (by first | rfl | (rw [hF])) (by first | exact scal_ints _ | exact scal_slc _)) | exact .one (.nil (by decide) (by first | rfl | (rw [hF]))) | exact .agg (.cons (.v (by first | rfl | (rw [hF]))) (.cons (.v (by first | rfl | (rw [hF]))) (.cons (.own rfl rfl rfl rfl rfl rfl (by first | rfl | (rw [hF])) (scal_ints _)) .nil))) | exact .agg (.cons (.v (by first | rfl | (rw [hF]))) (.cons (.v (by first | rfl | (rw [hF]))) (.cons (.nil (by decide) (by first | rfl | (rw [hF]))) .nil))) | exact .agg (.cons (.v (by first | rfl | (rw [hF]))) (.cons (.v (by first | rfl | (rw [hF]))) .nil))) | exact .two (by repeat first | exact .nil | apply ExpL.cons | exact (by first | exact .one (.v (by first | rfl | (rw [hF]))) | exact .one (.own rfl rfl rfl rfl rfl rfl (by first | rfl | (rw [hF])) (by first | exact scal_ints _ | exact scal_slc _)) | exact .one (.nil (by decide) (by first | rfl | (rw [hF]))) | exact .agg (.cons (.v (by first | rfl | (rw [hF]))) (.cons (.v (by first | rfl | (rw [hF]))) (.cons (.own rfl rfl rfl rfl rfl rfl (by first | rfl | (rw [hF])) (scal_ints _)) .nil))) | exact .agg (.cons (.v (by first | rfl | (rw [hF]))) (.cons (.v (by first | rfl | (rw [hF]))) (.cons (.nil (by decide) (by first | rfl | (rw [hF]))) .nil))) | exact .agg (.cons (.v (by first | rfl | (rw [hF]))) (.cons (.v (by first | rfl | (rw [hF]))) .nil))))), (by decide)⟩⟩
  · have hlt : ¬ p < l.length := by simpa using hb2
    have hm := mixI_ok hB hp hne
    have hF : pickF l p n = xorI (mixI l p) (mixI l p / 64) % n := by unfold pickF; rw [if_neg (by rintro (h | h); omega; exact hne h), if_neg hlt]
    have a1 := Int.emod_nonneg p (b := (l.length : Int)) (by omega)
    have a2 := Int.emod_lt_of_pos p (b := (l.length : Int)) (by omega)
    have b1 := Int.emod_nonneg (p * 7 + 3) (b := (l.length : Int)) (by omega)
    have b2 := Int.emod_lt_of_pos (p * 7 + 3) (b := (l.length : Int)) (by omega)
    have c1 := hB.rng (p % l.length).toNat (by omega)
    have c2 := hB.rng ((p * 7 + 3) % l.length).toNat (by omega)
    have d1 : 0 ≤ p / l.length := Int.ediv_nonneg hp.1 (by omega)
    have d2 : p / l.length ≤ p := Int.ediv_le_self _ hp.1
    have hm' : 0 ≤ gi l (p % l.length).toNat * 131 + gi l ((p * 7 + 3) % l.length).toNat * 1117 + p * 29 + p / l.length * 53 ∧ gi l (p % l.length).toNat * 131 + gi l ((p * 7 + 3) % l.length).toNat * 1117 + p * 29 + p / l.length * 53 ≤ 1000000000 := hm
    have hx : 0 ≤ xorI (gi l (p % l.length).toNat * 131 + gi l ((p * 7 + 3) % l.length).toNat * 1117 + p * 29 + p / l.length * 53) ((gi l (p % l.length).toNat * 131 + gi l ((p * 7 + 3) % l.length).toNat * 1117 + p * 29 + p / l.length * 53) / 64) := xorI_nonneg (by omega) (by omega)
    repeat first | refine Ua ?_ | refine Ub ?_ | refine Uc ?_ | refine Ud ?_ | refine Ue ?_ | refine Ug ⟨by kernel_rfl, ?_⟩ | refine Ug ?_ | refine Uh ?_ | refine Ui ?_ | refine Uj ?_ | refine Uk rfl ?_ | refine Ul rfl ?_ | refine Um ?_ | refine Un ?_ | refine Uo ?_ | refine Up rfl ?_ | refine Uq ?_ | refine Ur ?_ | refine Us ?_ | refine Ut ?_ | refine Uu ?_ | refine Ux ?_ | refine Uv rfl rfl rfl rfl ?_ | refine Uw rfl rfl rfl ?_ | refine U0 z0 ?_ | refine U1 z1 ?_ | refine U9 zs ?_
    exact ⟨⟨(), trivial, .inl rfl, rfl, _, _, (by repeat first | exact .nil | apply ResL.cons | exact .tmp rfl | exact .agg rfl rfl rfl rfl rfl (Nat.le_of_ble_eq_true rfl) rfl | exact .cell rfl rfl rfl rfl rfl (Nat.le_of_ble_eq_true rfl) rfl), (by first | exact .one (by first | exact .one (.v (by first | rfl | ((rw [hF]; rfl)))) | exact .one (.own rfl rfl rfl rfl rfl rfl (by first | rfl | ((rw [hF]; rfl))) (by first | exact scal_ints _ | exact scal_slc _)) | exact .one (.nil (by decide) (by first | rfl | ((rw [hF]; rfl)))) | exact .agg (.cons (.v (by first | rfl | ((rw [hF]; rfl)))) (.cons (.v (by first | rfl | ((rw [hF]; rfl)))) (.cons (.own rfl rfl rfl rfl rfl rfl (by first | rfl | ((rw [hF]; rfl))) (scal_ints _)) .nil))) | exact .agg (.cons (.v (by first | rfl | ((rw [hF]; rfl)))) (.cons (.v (by first | rfl | ((rw [hF]; rfl)))) (.cons (.nil (by decide) (by first | rfl | ((rw [hF]; rfl)))) .nil))) | exact .agg (.cons (.v (by first | rfl | ((rw [hF]; rfl)))) (.cons (.v (by first | rfl | ((rw [hF]; rfl)))) .nil))) | exact .two (by repeat first | exact .nil | apply ExpL.cons | exact (by first | exact .one (.v (by first | rfl | ((rw [hF]; rfl)))) | exact .one (.own rfl rfl rfl rfl rfl rfl (by first | rfl | ((rw [hF]; rfl))) (by first | exact scal_ints _ | exact scal_slc _)) | exact .one (.nil (by decide) (by first | rfl | ((rw [hF]; rfl)))) | exact .agg (.cons (.v (by first | rfl | ((rw [hF]; rfl)))) (.cons (.v (by first | rfl | ((rw [hF]; rfl)))) (.cons (.own rfl rfl rfl rfl rfl rfl (by first | rfl | ((rw [hF]; rfl))) (scal_ints _)) .nil))) | exact .agg (.cons (.v (by first | rfl | ((rw [hF]; rfl)))) (.cons (.v (by first | rfl | ((rw [hF]; rfl)))) (.cons (.nil (by decide) (by first | rfl | ((rw [hF]; rfl)))) .nil))) | exact .agg (.cons (.v (by first | rfl | ((rw [hF]; rfl)))) (.cons (.v (by first | rfl | ((rw [hF]; rfl)))) .nil))))), (by decide)⟩⟩
def oddF (l : List Int) (p n : Int) : Bool := decide (0 < n) && decide (pickF l p n = n - 1)
set_option maxHeartbeats 4000000 in
theorem odd_fn (x0 : Value) (l : List Int) (hB : Bytes l) (p : Int) (hp : 0 ≤ p ∧ p ≤ 1000000) (n : Int) (hn : -1000 ≤ n ∧ n ≤ 1000) : ∃ q : Int, (p ≤ q ∧ q ≤ p + 1) ∧ FnR Tryd.prog 56 103 x0 5 (byts l) p [.int n] q (.bool (oddF l p n)) := by
  refine fnr_go2 (Good := fun q : Int => p ≤ q ∧ q ≤ p + 1) (pos := fun q => q) (res := fun _ => .bool (oddF l p n)) tabOk Tryd.func56 rfl (by kernel_rfl) Tryd.ntmps56 Tryd.results56 (by decide) ?_
  repeat first | refine Ua ?_ | refine Ub ?_ | refine Uc ?_ | refine Ud ?_ | refine Ue ?_ | refine Ug ⟨by kernel_rfl, ?_⟩ | refine Ug ?_ | refine Uh ?_ | refine Ui ?_ | refine Uj ?_ | refine Uk rfl ?_ | refine Ul rfl ?_ | refine Um ?_ | refine Un ?_ | refine Uo ?_ | refine Up rfl ?_ | refine Uq ?_ | refine Ur ?_ | refine Us ?_ | refine Ut ?_ | refine Uu ?_ | refine Ux ?_ | refine Uv rfl rfl rfl rfl ?_ | refine Uw rfl rfl rfl ?_ | refine U0 z0 ?_ | refine U1 z1 ?_ | refine U9 zs ?_
  refine rh_split rfl rfl (fun hb => ?_) (fun hb => ?_)
  · have h0 : 0 < n := by simpa using hb
    repeat first | refine Ua ?_ | refine Ub ?_ | refine Uc ?_ | refine Ud ?_ | refine Ue ?_ | refine Ug ⟨by kernel_rfl, ?_⟩ | refine Ug ?_ | refine Uh ?_ | refine Ui ?_ | refine Uj ?_ | refine Uk rfl ?_ | refine Ul rfl ?_ | refine Um ?_ | refine Un ?_ | refine Uo ?_ | refine Up rfl ?_ | refine Uq ?_ | refine Ur ?_ | refine Us ?_ | refine Ut ?_ | refine Uu ?_ | refine Ux ?_ | refine Uv rfl rfl rfl rfl ?_ | refine Uw rfl rfl rfl ?_ | refine U0 z0 ?_ | refine U1 (by first | (apply st_recv_v (hfn := pick_fn x0 l hB p hp n ); (iterate 4 exact rfl); exact fz; iterate 2 exact rfl) | exact z1 | fail) ?_ | refine U9 zs ?_
    exact ⟨⟨(p + 1), (by omega), .inl rfl, rfl, _, _, (by repeat first | exact .nil | apply ResL.cons | exact .tmp rfl | exact .agg rfl rfl rfl rfl rfl (Nat.le_of_ble_eq_true rfl) rfl | exact .cell rfl rfl rfl rfl rfl (Nat.le_of_ble_eq_true rfl) rfl), (by first | exact .one (by first | exact .one (.v (by first | rfl | (simp [oddF, h0]))) | exact .one (.own rfl rfl rfl rfl rfl rfl (by first | rfl | (simp [oddF, h0])) (by first | exact scal_ints _ | exact scal_slc _)) | exact .one (.nil (by decide) (by first | rfl | (simp [oddF, h0]))) | exact .agg (.cons (.v (by first | rfl | (simp [oddF, h0]))) (.cons (.v (by first | rfl | (simp [oddF, h0]))) (.cons (.own rfl rfl rfl rfl rfl rfl (by first | rfl | (simp [oddF, h0])) (scal_ints _)) .nil))) | exact .agg (.cons (.v (by first | rfl | (simp [oddF, h0]))) (.cons (.v (by first | rfl | (simp [oddF, h0]))) (.cons (.nil (by decide) (by first | rfl | (simp [oddF, h0]))) .nil))) | exact .agg (.cons (.v (by first | rfl | (simp [oddF, h0]))) (.cons (.v (by first | rfl | (simp [oddF, h0]))) .nil))) | exact .two (by repeat first | exact .nil | apply ExpL.cons | exact (by first | exact .one (.v (by first | rfl | (simp [oddF, h0]))) | exact .one (.own rfl rfl rfl rfl rfl rfl (by first | rfl | (simp [oddF, h0])) (by first | exact scal_ints _ | exact scal_slc _)) | exact .one (.nil (by decide) (by first | rfl | (simp [oddF, h0]))) | exact .agg (.cons (.v (by first | rfl | (simp [oddF, h0]))) (.cons (.v (by first | rfl | (simp [oddF, h0]))) (.cons (.own rfl rfl rfl rfl rfl rfl (by first | rfl | (simp [oddF, h0])) (scal_ints _)) .nil))) | exact .agg (.cons (.v (by first | rfl | (simp [oddF, h0]))) (.cons (.v (by first | rfl | (simp [oddF, h0]))) (.cons (.nil (by decide) (by first | rfl | (simp [oddF, h0]))) .nil))) | exact .agg (.cons (.v (by first | rfl | (simp [oddF, h0]))) (.cons (.v (by first | rfl | (simp [oddF, h0]))) .nil))))), (by decide)⟩⟩
  · have h0 : ¬ 0 < n := by simpa using hb
    repeat first | refine Ua ?_ | refine Ub ?_ | refine Uc ?_ | refine Ud ?_ | refine Ue ?_ | refine Ug ⟨by kernel_rfl, ?_⟩ | refine Ug ?_ | refine Uh ?_ | refine Ui ?_ | refine Uj ?_ | refine Uk rfl ?_ | refine Ul rfl ?_ | refine Um ?_ | refine Un ?_ | refine Uo ?_ | refine Up rfl ?_ | refine Uq ?_ | refine Ur ?_ | refine Us ?_ | refine Ut ?_ | refine Uu ?_ | refine Ux ?_ | refine Uv rfl rfl rfl rfl ?_ | refine Uw rfl rfl rfl ?_ | refine U0 z0 ?_ | refine U1 z1 ?_ | refine U9 zs ?_
    exact ⟨⟨p, (by omega), .inl rfl, rfl, _, _, (by repeat first | exact .nil | apply ResL.cons | exact .tmp rfl | exact .agg rfl rfl rfl rfl rfl (Nat.le_of_ble_eq_true rfl) rfl | exact .cell rfl rfl rfl rfl rfl (Nat.le_of_ble_eq_true rfl) rfl), (by first | exact .one (by first | exact .one (.v (by first | rfl | (simp [oddF, h0]))) | exact .one (.own rfl rfl rfl rfl rfl rfl (by first | rfl | (simp [oddF, h0])) (by first | exact scal_ints _ | exact scal_slc _)) | exact .one (.nil (by decide) (by first | rfl | (simp [oddF, h0]))) | exact .agg (.cons (.v (by first | rfl | (simp [oddF, h0]))) (.cons (.v (by first | rfl | (simp [oddF, h0]))) (.cons (.own rfl rfl rfl rfl rfl rfl (by first | rfl | (simp [oddF, h0])) (scal_ints _)) .nil))) | exact .agg (.cons (.v (by first | rfl | (simp [oddF, h0]))) (.cons (.v (by first | rfl | (simp [oddF, h0]))) (.cons (.nil (by decide) (by first | rfl | (simp [oddF, h0]))) .nil))) | exact .agg (.cons (.v (by first | rfl | (simp [oddF, h0]))) (.cons (.v (by first | rfl | (simp [oddF, h0]))) .nil))) | exact .two (by repeat first | exact .nil | apply ExpL.cons | exact (by first | exact .one (.v (by first | rfl | (simp [oddF, h0]))) | exact .one (.own rfl rfl rfl rfl rfl rfl (by first | rfl | (simp [oddF, h0])) (by first | exact scal_ints _ | exact scal_slc _)) | exact .one (.nil (by decide) (by first | rfl | (simp [oddF, h0]))) | exact .agg (.cons (.v (by first | rfl | (simp [oddF, h0]))) (.cons (.v (by first | rfl | (simp [oddF, h0]))) (.cons (.own rfl rfl rfl rfl rfl rfl (by first | rfl | (simp [oddF, h0])) (scal_ints _)) .nil))) | exact .agg (.cons (.v (by first | rfl | (simp [oddF, h0]))) (.cons (.v (by first | rfl | (simp [oddF, h0]))) (.cons (.nil (by decide) (by first | rfl | (simp [oddF, h0]))) .nil))) | exact .agg (.cons (.v (by first | rfl | (simp [oddF, h0]))) (.cons (.v (by first | rfl | (simp [oddF, h0]))) .nil))))), (by decide)⟩⟩
def cellDF (l : List Int) (p : Int) (n : Nat) : Int := pickF l p (n + 1) - pickF l (p + 1) 20 / 19
set_option maxHeartbeats 4000000 in
theorem l20Cell_fn (x0 : Value) (l : List Int) (hB : Bytes l) (p : Int) (hp : 0 ≤ p ∧ p ≤ 900000) (h : PHall) (hl : h.cells.length ≤ 1000) : FnR Tryd.prog 101 103 x0 5 (byts l) p [hallV h] (p + 1 + 1) (.int (cellDF l p h.cells.length)) := by
  have h1 := pick_range hB (p := p) (n := h.cells.length + 1) (by omega)
  have h2 := pick_range hB (p := p + 1) (n := 20) (by omega)
  have h3 := h2.2 (by omega)
  have h4 := h1.2 (by omega)
  suffices h : ∃ i : Unit, True ∧ FnR Tryd.prog 101 103 x0 5 (byts l) p [hallV h] (p + 1 + 1) (.int (cellDF l p h.cells.length)) by obtain ⟨_, _, h⟩ := h; exact h
  refine fnr_go2 (Good := fun _ : Unit => True) (pos := fun _ => p + 1 + 1) (res := fun _ => .int (cellDF l p h.cells.length)) tabOk Tryd.func101 rfl (by kernel_rfl) Tryd.ntmps101 Tryd.results101 (by decide) ?_
  repeat first | refine Ua ?_ | refine Ub ?_ | refine Uc ?_ | refine Ud ?_ | refine Ue ?_ | refine Ug ⟨by kernel_rfl, ?_⟩ | refine Ug ?_ | refine Uh ?_ | refine Ui ?_ | refine Uj ?_ | refine Uk rfl ?_ | refine Ul rfl ?_ | refine Um ?_ | refine Un ?_ | refine Uo ?_ | refine Up rfl ?_ | refine Uq ?_ | refine Ur ?_ | refine Us ?_ | refine Ut ?_ | refine Uu ?_ | refine Ux ?_ | refine Uv rfl rfl rfl rfl ?_ | refine Uw rfl rfl rfl ?_ | refine U0 z0 ?_ | refine U1 (by first | (apply st_recv_v (hfn := pick_fn x0 l hB p (by omega) (h.cells.length + 1) ); (iterate 4 exact rfl); exact fz; iterate 2 exact rfl) | (apply st_recv_v (hfn := pick_fn x0 l hB (p + 1) (by omega) 20 ); (iterate 4 exact rfl); exact fz; iterate 2 exact rfl) | exact z1 | fail) ?_ | refine U9 zs ?_
  exact ⟨⟨(), trivial, .inl rfl, rfl, _, _, (by repeat first | exact .nil | apply ResL.cons | exact .tmp rfl | exact .agg rfl rfl rfl rfl rfl (Nat.le_of_ble_eq_true rfl) rfl | exact .cell rfl rfl rfl rfl rfl (Nat.le_of_ble_eq_true rfl) rfl), (by first | exact .one (by first | exact .one (.v (by first | rfl | (rfl))) | exact .one (.own rfl rfl rfl rfl rfl rfl (by first | rfl | (rfl)) (by first | exact scal_ints _ | exact scal_slc _)) | exact .one (.nil (by decide) (by first | rfl | (rfl))) | exact .agg (.cons (.v (by first | rfl | (rfl))) (.cons (.v (by first | rfl | (rfl))) (.cons (.own rfl rfl rfl rfl rfl rfl (by first | rfl | (rfl)) (scal_ints _)) .nil))) | exact .agg (.cons (.v (by first | rfl | (rfl))) (.cons (.v (by first | rfl | (rfl))) (.cons (.nil (by decide) (by first | rfl | (rfl))) .nil))) | exact .agg (.cons (.v (by first | rfl | (rfl))) (.cons (.v (by first | rfl | (rfl))) .nil))) | exact .two (by repeat first | exact .nil | apply ExpL.cons | exact (by first | exact .one (.v (by first | rfl | (rfl))) | exact .one (.own rfl rfl rfl rfl rfl rfl (by first | rfl | (rfl)) (by first | exact scal_ints _ | exact scal_slc _)) | exact .one (.nil (by decide) (by first | rfl | (rfl))) | exact .agg (.cons (.v (by first | rfl | (rfl))) (.cons (.v (by first | rfl | (rfl))) (.cons (.own rfl rfl rfl rfl rfl rfl (by first | rfl | (rfl)) (scal_ints _)) .nil))) | exact .agg (.cons (.v (by first | rfl | (rfl))) (.cons (.v (by first | rfl | (rfl))) (.cons (.nil (by decide) (by first | rfl | (rfl))) .nil))) | exact .agg (.cons (.v (by first | rfl | (rfl))) (.cons (.v (by first | rfl | (rfl))) .nil))))), (by decide)⟩⟩
/-! halls that are drawn -/
/-- while cells are filled -/
structure Fill2 (cs : List Int) (n k : Nat) (id : Int) : Prop where
  len : cs.length = n
  le : k ≤ n
  low : 0 ≤ id
  high : id ≤ 5 * k
  rng : ∀ j, j < k → 0 ≤ gi cs j ∧ gi cs j ≤ id
  up : ∀ i j, i < j → j < k → 0 < gi cs j → gi cs i < gi cs j
  rest : ∀ j, k ≤ j → gi cs j = 0
theorem fill_start (n : Nat) : Fill2 (List.replicate n 0) n 0 0 := by
  refine ⟨by simp, Nat.zero_le _, by omega, by omega, fun j hj => by omega, fun i j _ hj => by omega, fun j _ => ?_⟩
  simp [gi, List.getD, List.getElem?_replicate]
  split <;> rfl
theorem Fill2.skip {cs : List Int} {n k : Nat} {id : Int} (F : Fill2 cs n k id) (hk : k < n) : Fill2 cs n (k+1) id := by
  have h0 := F.rest k (Nat.le_refl _)
  have hl := F.low
  have hh := F.high
  refine ⟨F.len, hk, F.low, by omega, fun j hj => ?_, fun i j hij hj hp => ?_, fun j hj => F.rest j (by omega)⟩
  · by_cases e : j = k
    · subst e; omega
    · exact F.rng j (by omega)
  · by_cases e : j = k
    · subst e; omega
    · exact F.up i j hij (by omega) hp
theorem Fill2.put {cs : List Int} {n k : Nat} {id d : Int} (F : Fill2 cs n k id) (hk : k < n) (hd : 0 ≤ d ∧ d ≤ 4) : Fill2 (cs.set k (id + 1 + d)) n (k+1) (id + 1 + d) := by
  have hl := F.low
  have hh := F.high
  have hlen := F.len
  have hg : ∀ j, gi (cs.set k (id + 1 + d)) j = if k = j then id + 1 + d else gi cs j := fun j => gi_upd (by rw [hlen]; exact hk)
  refine ⟨by simp [hlen], hk, by omega, by omega, fun j hj => ?_, fun i j hij hj hp => ?_, fun j hj => ?_⟩
  · rw [hg]
    split
    · omega
    · have := F.rng j (by omega); omega
  · rw [hg] at hp ⊢
    rw [hg]
    by_cases e : k = j
    · rw [if_pos e] at hp ⊢
      rw [if_neg (by omega)]
      have := F.rng i (by omega); omega
    · rw [if_neg e] at hp ⊢
      rw [if_neg (by omega)]
      exact F.up i j hij (by omega) hp
  · rw [hg, if_neg (by omega)]; exact F.rest j (by omega)
theorem Fill2.valid {cs : List Int} {n : Nat} {id w d : Int} (F : Fill2 cs n n id) (hw : 2 ≤ w ∧ w ≤ 4) (hd : 2 ≤ d ∧ d ≤ 3) (hn : (n : Int) = w * d) : validB ⟨w, d, cs⟩ = true := by
  have hl := F.len
  have hn12 : n ≤ 12 := by
    have : w * d ≤ 4 * 3 := Int.mul_le_mul hw.2 hd.2 (by omega) (by omega)
    omega
  have hh := F.high
  refine valid_iff.2 ⟨⟨hw, hd, by show (cs.length : Int) = _; rw [hl]; exact hn⟩, fun k hk => ?_, fun i j hi hj hp e => ?_⟩
  · have h3 := F.rng k (by rw [← hl]; exact hk)
    show 0 ≤ gi cs k ∧ gi cs k ≤ 99
    exact ⟨h3.1, by omega⟩
  · have hi' : i < n := by rw [← hl]; exact hi
    have hj' : j < n := by rw [← hl]; exact hj
    have e' : gi cs i = gi cs j := e
    have hp' : 0 < gi cs i := hp
    rcases Nat.lt_trichotomy i j with h1 | h1 | h1
    · have := F.up i j h1 hj' (by rw [← e]; exact hp); omega
    · exact h1
    · have := F.up j i h1 hi' hp; omega
set_option maxHeartbeats 8000000 in
theorem l20Hall_fn2 (x0 : Value) (l : List Int) (hB : Bytes l) (p : Int) (hp : 0 ≤ p ∧ p ≤ 900000) (n : Int) (hn : 0 ≤ n ∧ n ≤ 1000) : ∃ i : PHall × Int, (i.1.cells.length ≤ 13 ∧ p ≤ i.2 ∧ i.2 ≤ p + 60 ∧ (n = 0 → validB i.1 = true)) ∧ FnR Tryd.prog 57 103 x0 5 (byts l) p [.int n] i.2 (hallV i.1) := by
  refine fnr_go2 (Good := fun i : PHall × Int => i.1.cells.length ≤ 13 ∧ p ≤ i.2 ∧ i.2 ≤ p + 60 ∧ (n = 0 → validB i.1 = true)) (pos := fun i => i.2) (res := fun i => hallV i.1) tabOk Tryd.func57 rfl (by kernel_rfl) Tryd.ntmps57 Tryd.results57 (by decide) ?_
  have r0 := pick_range hB (p := p) (n := 3) (by omega)
  have r0' := r0.2 (by omega)
  have r1 := pick_range hB (p := p + 1) (n := 2) (by omega)
  have r1' := r1.2 (by omega)
  have r2 := pick_range hB (p := p + 1 + 1) (n := 5) (by omega)
  have r2' := r2.2 (by omega)
  have hE : hallEmptyF (2 + pickF l p 3) (2 + pickF l (p + 1) 2) = ⟨2 + pickF l p 3, 2 + pickF l (p + 1) 2, List.replicate ((2 + pickF l p 3) * (2 + pickF l (p + 1) 2)).toNat 0⟩ := by
    unfold hallEmptyF
    rw [if_pos ⟨inR_true.2 (by omega), inR_true.2 (by omega)⟩]
  obtain ⟨W, hW⟩ : ∃ W, W = 2 + pickF l p 3 := ⟨_, rfl⟩
  obtain ⟨D, hD⟩ : ∃ D, D = 2 + pickF l (p + 1) 2 := ⟨_, rfl⟩
  have hW2 : 2 ≤ W ∧ W ≤ 4 := by omega
  have hD2 : 2 ≤ D ∧ D ≤ 3 := by omega
  have hWD : 0 ≤ W * D ∧ W * D ≤ 12 := ⟨Int.mul_nonneg (by omega) (by omega), by have : W * D ≤ 4 * 3 := Int.mul_le_mul hW2.2 hD2.2 (by omega) (by omega); omega⟩
  obtain ⟨N, hN⟩ : ∃ N, N = (W * D).toNat := ⟨_, rfl⟩
  have hNi : (N : Int) = W * D := by omega
  have hN12 : N ≤ 12 := by omega
  have hspec := specHallEmpty_fn W D
  rw [← hW, ← hD, ← hN] at hE
  rw [hE] at hspec
  rw [hW, hD] at hspec
  repeat first | refine Ua ?_ | refine Ub ?_ | refine Uc ?_ | refine Ud ?_ | refine Ue ?_ | refine Ug ⟨by kernel_rfl, ?_⟩ | refine Ug ?_ | refine Uh ?_ | refine Ui ?_ | refine Uj ?_ | refine Uk rfl ?_ | refine Ul rfl ?_ | refine Um ?_ | refine Un ?_ | refine Uo ?_ | refine Up rfl ?_ | refine Uq ?_ | refine Ur ?_ | refine Us ?_ | refine Ut ?_ | refine Uu ?_ | refine Ux ?_ | refine Uv rfl rfl rfl rfl ?_ | refine Uw rfl rfl rfl ?_ | refine U0 z0 ?_ | refine U1 (by first | (apply st_recv_v (hfn := pick_fn x0 l hB p (by omega) 3 ); (iterate 4 exact rfl); exact fz; iterate 2 exact rfl) | (apply st_recv_v (hfn := pick_fn x0 l hB (p + 1) (by omega) 2 ); (iterate 4 exact rfl); exact fz; iterate 2 exact rfl) | (apply st_recv_v (hfn := pick_fn x0 l hB (p + 1 + 1) (by omega) 5 ); (iterate 4 exact rfl); exact fz; iterate 2 exact rfl) | (apply st_call_h (hfn := hspec ); exact rfl; exact fz; iterate 2 exact rfl) | exact z1 | fail) ?_ | refine U9 zs ?_
  refine ax_loop (fun i : Nat × Int × Int × List Int => mkS [(8, .int (i.1 : Int)), (7, .int i.2.1), (6, .int (1 + pickF l (p + 1 + 1) 5)), (5, .ptr 5 0 0), (4, .ptr 1 0 0), (0, .ptr 0 0 0), (1, .int n)] ⟨6, [(0, some (rdR x0 l i.2.2.1)), (1, some zeroRow), (4, some (intsRow i.2.2.2)), (5, some (boxRow W D 4 0))]⟩) (fun i => Fill2 i.2.2.2 N i.1 i.2.1 ∧ p + 3 ≤ i.2.2.1 ∧ i.2.2.1 ≤ p + 3 + 2 * i.1) (fun i => N - i.1) ((0, 0, p + 1 + 1 + 1, List.replicate N 0)) (⟨fill_start N, by show p + 3 ≤ p + 1 + 1 + 1; omega, by show p + 1 + 1 + 1 ≤ p + 3 + 2 * ((0 : Nat) : Int); omega⟩) (weak_of [] (by repeat first | exact .nil | refine LeEs.cons ?_ ?_ | exact .v (by first | rfl | (first | rfl | rw [hW] | rw [hD])) | exact .own rfl rfl rfl rfl rfl | exact .ptr rfl rfl rfl rfl rfl rfl | exact .nil rfl rfl rfl | exact .sl (by first | rfl | (first | rfl | rw [hW] | rw [hD])) | exact .both rfl rfl | exact .frz rfl rfl rfl rfl rfl (by first | rfl | (first | rfl | rw [hW] | rw [hD])) rfl | exact .tab rfl | exact .any _) (by repeat first | exact .nil | refine LeHs.keep rfl ⟨rfl, rfl, rfl, .inl ⟨rfl, by first | rfl | (first | rfl | rw [hW] | rw [hD])⟩⟩ ?_ | refine LeHs.keep rfl ⟨rfl, rfl, rfl, .inr ⟨(by first | exact .inl rfl | exact .inr rfl), by repeat first | exact .nil | refine LeVL.cons ?_ ?_ | exact .v (by first | rfl | (first | rfl | rw [hW] | rw [hD])) | exact .own rfl rfl rfl rfl rfl | exact .sl (by first | rfl | (first | rfl | rw [hW] | rw [hD])) | exact .both rfl rfl | exact .frz rfl rfl rfl rfl rfl (by first | rfl | (first | rfl | rw [hW] | rw [hD])) rfl⟩⟩ ?_ | refine LeHs.fresh rfl rfl rfl (Nat.succ_pos _) rfl ?_) rfl rfl) ?_
  rintro ⟨k, id, q, cs⟩ ⟨hF, hq0, hq1⟩
  dsimp only at hF hq0 hq1 ⊢
  have hlen := hF.len
  have hle := hF.le
  have hlo := hF.low
  have hhi := hF.high
  repeat first | refine Ua ?_ | refine Ub ?_ | refine Uc ?_ | refine Ud ?_ | refine Ue ?_ | refine Ug ⟨by kernel_rfl, ?_⟩ | refine Ug ?_ | refine Uh ?_ | refine Ui ?_ | refine Uj ?_ | refine Uk rfl ?_ | refine Ul rfl ?_ | refine Um ?_ | refine Un ?_ | refine Uo ?_ | refine Up rfl ?_ | refine Uq ?_ | refine Ur ?_ | refine Us ?_ | refine Ut ?_ | refine Uu ?_ | refine Ux ?_ | refine Uv rfl rfl rfl rfl ?_ | refine Uw rfl rfl rfl ?_ | refine U0 z0 ?_ | refine U1 z1 ?_ | refine U9 zs ?_
  refine ax_cond rfl (fun hb1 => ?_) (fun hb1 => ?_)
  · have hk : k < N := by simp at hb1; omega
    have s0 := pick_range hB (p := q) (n := 6) (by omega)
    have s1 := pick_range hB (p := q + 1) (n := 5) (by omega)
    have s1' := s1.2 (by omega)
    repeat first | refine Ua ?_ | refine Ub ?_ | refine Uc ?_ | refine Ud ?_ | refine Ue ?_ | refine Ug ⟨by kernel_rfl, ?_⟩ | refine Ug ?_ | refine Uh ?_ | refine Ui ?_ | refine Uj ?_ | refine Uk rfl ?_ | refine Ul rfl ?_ | refine Um ?_ | refine Un ?_ | refine Uo ?_ | refine Up rfl ?_ | refine Uq ?_ | refine Ur ?_ | refine Us ?_ | refine Ut ?_ | refine Uu ?_ | refine Ux ?_ | refine Uv rfl rfl rfl rfl ?_ | refine Uw rfl rfl rfl ?_ | refine U0 z0 ?_ | refine U1 (by first | (apply st_recv_v (hfn := pick_fn x0 l hB q (by omega) 6 ); (iterate 4 exact rfl); exact fz; iterate 2 exact rfl) | exact z1 | fail) ?_ | refine U9 zs ?_
    refine ax_cond rfl (fun hb2 => ?_) (fun hb2 => ?_)
    · repeat first | refine Ua ?_ | refine Ub ?_ | refine Uc ?_ | refine Ud ?_ | refine Ue ?_ | refine Ug ⟨by kernel_rfl, ?_⟩ | refine Ug ?_ | refine Uh ?_ | refine Ui ?_ | refine Uj ?_ | refine Uk rfl ?_ | refine Ul rfl ?_ | refine Um ?_ | refine Un ?_ | refine Uo ?_ | refine Up rfl ?_ | refine Uq ?_ | refine Ur ?_ | refine Us ?_ | refine Ut ?_ | refine Uu ?_ | refine Ux ?_ | refine Uv rfl rfl rfl rfl ?_ | refine Uw rfl rfl rfl ?_ | refine U0 z0 ?_ | refine U1 (by first | (apply st_recv_v (hfn := pick_fn x0 l hB (q + 1) (by omega) 5 ); (iterate 4 exact rfl); exact fz; iterate 2 exact rfl) | exact z1 | fail) ?_ | refine U9 zs ?_
      refine round_next ((k + 1, id + 1 + pickF l (q + 1) 5, q + 1 + 1, cs.set k (id + 1 + pickF l (q + 1) 5))) (⟨hF.put hk (by omega), by show p + 3 ≤ q + 1 + 1; omega, by show q + 1 + 1 ≤ p + 3 + 2 * ((k + 1 : Nat) : Int); omega⟩) ((by show N - (k + 1) < N - k; omega)) (Lw (ρ := []))
    · repeat first | refine Ua ?_ | refine Ub ?_ | refine Uc ?_ | refine Ud ?_ | refine Ue ?_ | refine Ug ⟨by kernel_rfl, ?_⟩ | refine Ug ?_ | refine Uh ?_ | refine Ui ?_ | refine Uj ?_ | refine Uk rfl ?_ | refine Ul rfl ?_ | refine Um ?_ | refine Un ?_ | refine Uo ?_ | refine Up rfl ?_ | refine Uq ?_ | refine Ur ?_ | refine Us ?_ | refine Ut ?_ | refine Uu ?_ | refine Ux ?_ | refine Uv rfl rfl rfl rfl ?_ | refine Uw rfl rfl rfl ?_ | refine U0 z0 ?_ | refine U1 z1 ?_ | refine U9 zs ?_
      refine round_next ((k + 1, id, q + 1, cs)) (⟨hF.skip hk, by show p + 3 ≤ q + 1; omega, by show q + 1 ≤ p + 3 + 2 * ((k + 1 : Nat) : Int); omega⟩) ((by show N - (k + 1) < N - k; omega)) (Lw (ρ := []))
  have hkN : k = N := by simp at hb1; omega
  subst hkN
  have hv := hF.valid hW2 hD2 hNi
  have t0 := pick_range hB (p := q) (n := 6) (by omega)
  have t0' := t0.2 (by omega)
  have hK0 : ((pickF l q 6).toNat : Int) = pickF l q 6 := by omega
  repeat first | refine Ua ?_ | refine Ub ?_ | refine Uc ?_ | refine Ud ?_ | refine Ue ?_ | refine Ug ⟨by kernel_rfl, ?_⟩ | refine Ug ?_ | refine Uh ?_ | refine Ui ?_ | refine Uj ?_ | refine Uk rfl ?_ | refine Ul rfl ?_ | refine Um ?_ | refine Un ?_ | refine Uo ?_ | refine Up rfl ?_ | refine Uq ?_ | refine Ur ?_ | refine Us ?_ | refine Ut ?_ | refine Uu ?_ | refine Ux ?_ | refine Uv rfl rfl rfl rfl ?_ | refine Uw rfl rfl rfl ?_ | refine U0 z0 ?_ | refine U1 (by first | (apply st_recv_v (hfn := pick_fn x0 l hB q (by omega) 6 ); (iterate 4 exact rfl); exact fz; iterate 2 exact rfl) | exact z1 | fail) ?_ | refine U9 zs ?_
  refine ax_loop (fun i : Nat × PHall × Int => mkS [(9, .int (i.1 : Int)), (5, .ptr 5 0 0), (4, .ptr 1 0 0), (0, .ptr 0 0 0), (1, .int n)] ⟨6, [(0, some (rdR x0 l i.2.2)), (1, some zeroRow), (4, some (intsRow i.2.1.cells)), (5, some (boxRow i.2.1.wide i.2.1.deep 4 0))]⟩) (fun i => validB i.2.1 = true ∧ i.2.1.cells.length = k ∧ q + 1 ≤ i.2.2 ∧ i.2.2 + i.1 ≤ q + 7) (fun i => i.1) (((pickF l q 6).toNat, ⟨W, D, cs⟩, q + 1)) (⟨hv, hlen, by show q + 1 ≤ q + 1; omega, by show q + 1 + (((pickF l q 6).toNat : Nat) : Int) ≤ q + 7; omega⟩) (weak_of [] (by repeat first | exact .nil | refine LeEs.cons ?_ ?_ | exact .v (by first | rfl | (first | rfl | rw [hK0])) | exact .own rfl rfl rfl rfl rfl | exact .ptr rfl rfl rfl rfl rfl rfl | exact .nil rfl rfl rfl | exact .sl (by first | rfl | (first | rfl | rw [hK0])) | exact .both rfl rfl | exact .frz rfl rfl rfl rfl rfl (by first | rfl | (first | rfl | rw [hK0])) rfl | exact .tab rfl | exact .any _) (by repeat first | exact .nil | refine LeHs.keep rfl ⟨rfl, rfl, rfl, .inl ⟨rfl, by first | rfl | (first | rfl | rw [hK0])⟩⟩ ?_ | refine LeHs.keep rfl ⟨rfl, rfl, rfl, .inr ⟨(by first | exact .inl rfl | exact .inr rfl), by repeat first | exact .nil | refine LeVL.cons ?_ ?_ | exact .v (by first | rfl | (first | rfl | rw [hK0])) | exact .own rfl rfl rfl rfl rfl | exact .sl (by first | rfl | (first | rfl | rw [hK0])) | exact .both rfl rfl | exact .frz rfl rfl rfl rfl rfl (by first | rfl | (first | rfl | rw [hK0])) rfl⟩⟩ ?_ | refine LeHs.fresh rfl rfl rfl (Nat.succ_pos _) rfl ?_) rfl rfl) ?_
  rintro ⟨K, h, q2⟩ ⟨hv2, hl2, hq2, hq3⟩
  dsimp only at hv2 hl2 hq2 hq3 ⊢
  have hls : (slidesAllF h).length ≤ 200 := by have := may_small h h.cells.length 0 (Nat.le_refl _) (Nat.zero_le _); simp [mayRow, selTo] at this; exact this
  repeat first | refine Ua ?_ | refine Ub ?_ | refine Uc ?_ | refine Ud ?_ | refine Ue ?_ | refine Ug ⟨by kernel_rfl, ?_⟩ | refine Ug ?_ | refine Uh ?_ | refine Ui ?_ | refine Uj ?_ | refine Uk rfl ?_ | refine Ul rfl ?_ | refine Um ?_ | refine Un ?_ | refine Uo ?_ | refine Up rfl ?_ | refine Uq ?_ | refine Ur ?_ | refine Us ?_ | refine Ut ?_ | refine Uu ?_ | refine Ux ?_ | refine Uv rfl rfl rfl rfl ?_ | refine Uw rfl rfl rfl ?_ | refine U0 z0 ?_ | refine U1 z1 ?_ | refine U9 zs ?_
  refine ax_cond rfl (fun hb3 => ?_) (fun hb3 => ?_)
  · have hK : 0 < K := by simpa using hb3
    obtain ⟨K, rfl⟩ : ∃ K', K = K' + 1 := ⟨K - 1, by omega⟩
    repeat first | refine Ua ?_ | refine Ub ?_ | refine Uc ?_ | refine Ud ?_ | refine Ue ?_ | refine Ug ⟨by kernel_rfl, ?_⟩ | refine Ug ?_ | refine Uh ?_ | refine Ui ?_ | refine Uj ?_ | refine Uk rfl ?_ | refine Ul rfl ?_ | refine Um ?_ | refine Un ?_ | refine Uo ?_ | refine Up rfl ?_ | refine Uq ?_ | refine Ur ?_ | refine Us ?_ | refine Ut ?_ | refine Uu ?_ | refine Ux ?_ | refine Uv rfl rfl rfl rfl ?_ | refine Uw rfl rfl rfl ?_ | refine U0 z0 ?_ | refine U1 (by first | (apply st_call_s (hfn := specSlidesAll_fn h (by have := lim_eq; omega) ); exact rfl; exact fz; iterate 2 exact rfl) | exact z1 | fail) ?_ | refine U9 zs ?_
    refine ax_cond rfl (fun hb4 => ?_) (fun hb4 => ?_)
    · have hpos : 0 < (slidesAllF h).length := by simpa using hb4
      have u0 := pick_range hB (p := q2) (n := ((slidesAllF h).length : Int)) (by omega)
      have u0' := u0.2 (by omega)
      obtain ⟨v1, v2, v3⟩ := slideDo_len hv2 (gs (slidesAllF h) (pickF l q2 (slidesAllF h).length).toNat).1 (gs (slidesAllF h) (pickF l q2 (slidesAllF h).length).toNat).2
      have v4 := slideDo_valid hv2 (gs (slidesAllF h) (pickF l q2 (slidesAllF h).length).toNat).1 (gs (slidesAllF h) (pickF l q2 (slidesAllF h).length).toNat).2
      repeat first | refine Ua ?_ | refine Ub ?_ | refine Uc ?_ | refine Ud ?_ | refine Ue ?_ | refine Ug ⟨by kernel_rfl, ?_⟩ | refine Ug ?_ | refine Uh ?_ | refine Ui ?_ | refine Uj ?_ | refine Uk rfl ?_ | refine Ul rfl ?_ | refine Um ?_ | refine Un ?_ | refine Uo ?_ | refine Up rfl ?_ | refine Uq ?_ | refine Ur ?_ | refine Us ?_ | refine Ut ?_ | refine Uu ?_ | refine Ux ?_ | refine Uv rfl rfl rfl rfl ?_ | refine Uw rfl rfl rfl ?_ | refine U0 z0 ?_ | refine U1 (by first | (apply st_recv_v (hfn := pick_fn x0 l hB q2 (by omega) ((slidesAllF h).length : Int) ); (iterate 4 exact rfl); exact fz; iterate 2 exact rfl) | (apply st_call_hv (hfn := specSlideDo_fn h (by have := lim_eq; omega) (gs (slidesAllF h) (pickF l q2 (slidesAllF h).length).toNat).1 (gs (slidesAllF h) (pickF l q2 (slidesAllF h).length).toNat).2 ); exact rfl; exact fz; iterate 2 exact rfl) | exact z1 | fail) ?_ | refine U9 zs ?_
      refine round_next ((K, (slideDoF h (gs (slidesAllF h) (pickF l q2 (slidesAllF h).length).toNat).1 (gs (slidesAllF h) (pickF l q2 (slidesAllF h).length).toNat).2).1, q2 + 1)) (⟨v4, v1.trans hl2, by show q + 1 ≤ q2 + 1; omega, by show q2 + 1 + (K : Int) ≤ q + 7; omega⟩) (Nat.lt_succ_self K) (Lw (ρ := [(4, 8)]))
    · repeat first | refine Ua ?_ | refine Ub ?_ | refine Uc ?_ | refine Ud ?_ | refine Ue ?_ | refine Ug ⟨by kernel_rfl, ?_⟩ | refine Ug ?_ | refine Uh ?_ | refine Ui ?_ | refine Uj ?_ | refine Uk rfl ?_ | refine Ul rfl ?_ | refine Um ?_ | refine Un ?_ | refine Uo ?_ | refine Up rfl ?_ | refine Uq ?_ | refine Ur ?_ | refine Us ?_ | refine Ut ?_ | refine Uu ?_ | refine Ux ?_ | refine Uv rfl rfl rfl rfl ?_ | refine Uw rfl rfl rfl ?_ | refine U0 z0 ?_ | refine U1 z1 ?_ | refine U9 zs ?_
      refine round_next ((K, h, q2)) (⟨hv2, hl2, hq2, by show q2 + (K : Int) ≤ q + 7; omega⟩) (Nat.lt_succ_self K) (Lw (ρ := []))
  obtain ⟨q3, hq4, hodd⟩ := odd_fn x0 l hB q2 (by omega) n (by omega)
  have l2 : ([1, 5] : List Int).length = 2 := rfl
  have l2' : ([-1, 100] : List Int).length = 2 := rfl
  have w0 := pick_range hB (p := q3 + 1) (n := 2) (by omega)
  have w0' := w0.2 (by omega)
  have h4 := (valid_len hv2).1
  have e1 : (h.cells.set 0 88).length = h.cells.length := by simp
  repeat first | refine Ua ?_ | refine Ub ?_ | refine Uc ?_ | refine Ud ?_ | refine Ue ?_ | refine Ug ⟨by kernel_rfl, ?_⟩ | refine Ug ?_ | refine Uh ?_ | refine Ui ?_ | refine Uj ?_ | refine Uk rfl ?_ | refine Ul rfl ?_ | refine Um ?_ | refine Un ?_ | refine Uo ?_ | refine Up rfl ?_ | refine Uq ?_ | refine Ur ?_ | refine Us ?_ | refine Ut ?_ | refine Uu ?_ | refine Ux ?_ | refine Uv rfl rfl rfl rfl ?_ | refine Uw rfl rfl rfl ?_ | refine U0 z0 ?_ | refine U1 (by first | (apply st_recv_v (hfn := hodd ); (iterate 4 exact rfl); exact fz; iterate 2 exact rfl) | exact z1 | fail) ?_ | refine U9 zs ?_
  refine ax_cond rfl (fun hb5 => ?_) (fun hb5 => ?_)
  · have hn0 : n = 0 → False := by rintro rfl; simp [oddF] at hb5
    repeat first | refine Ua ?_ | refine Ub ?_ | refine Uc ?_ | refine Ud ?_ | refine Ue ?_ | refine Ug ⟨by kernel_rfl, ?_⟩ | refine Ug ?_ | refine Uh ?_ | refine Ui ?_ | refine Uj ?_ | refine Uk rfl ?_ | refine Ul rfl ?_ | refine Um ?_ | refine Un ?_ | refine Uo ?_ | refine Up rfl ?_ | refine Uq ?_ | refine Ur ?_ | refine Us ?_ | refine Ut ?_ | refine Uu ?_ | refine Ux ?_ | refine Uv rfl rfl rfl rfl ?_ | refine Uw rfl rfl rfl ?_ | refine U0 z0 ?_ | refine U1 (by first | (apply st_recv_v (hfn := pick_fn x0 l hB q3 (by omega) 4 ); (iterate 4 exact rfl); exact fz; iterate 2 exact rfl) | exact z1 | fail) ?_ | refine U9 zs ?_
    refine ax_cond rfl (fun hb6 => ?_) (fun hb6 => ?_)
    · repeat first | refine Ua ?_ | refine Ub ?_ | refine Uc ?_ | refine Ud ?_ | refine Ue ?_ | refine Ug ⟨by kernel_rfl, ?_⟩ | refine Ug ?_ | refine Uh ?_ | refine Ui ?_ | refine Uj ?_ | refine Uk rfl ?_ | refine Ul rfl ?_ | refine Um ?_ | refine Un ?_ | refine Uo ?_ | refine Up rfl ?_ | refine Uq ?_ | refine Ur ?_ | refine Us ?_ | refine Ut ?_ | refine Uu ?_ | refine Ux ?_ | refine Uv rfl rfl rfl rfl ?_ | refine Uw rfl rfl rfl ?_ | refine U0 z0 ?_ | refine U1 (by first | (apply st_recv_v (hfn := pick_fn x0 l hB (q3 + 1) (by omega) 2 ); (iterate 4 exact rfl); exact fz; iterate 2 exact rfl) | exact z1 | fail) ?_ | refine U9 zs ?_
      exact ⟨⟨(⟨gi [1, 5] (pickF l (q3 + 1) 2).toNat, h.deep, h.cells⟩, q3 + 1 + 1), ⟨by show h.cells.length ≤ 13; omega, by show p ≤ q3 + 1 + 1; omega, (by show q3 + 1 + 1 ≤ p + 60; omega), fun e => (hn0 e).elim⟩, .inl rfl, rfl, Rx⟩⟩
    · repeat first | refine Ua ?_ | refine Ub ?_ | refine Uc ?_ | refine Ud ?_ | refine Ue ?_ | refine Ug ⟨by kernel_rfl, ?_⟩ | refine Ug ?_ | refine Uh ?_ | refine Ui ?_ | refine Uj ?_ | refine Uk rfl ?_ | refine Ul rfl ?_ | refine Um ?_ | refine Un ?_ | refine Uo ?_ | refine Up rfl ?_ | refine Uq ?_ | refine Ur ?_ | refine Us ?_ | refine Ut ?_ | refine Uu ?_ | refine Ux ?_ | refine Uv rfl rfl rfl rfl ?_ | refine Uw rfl rfl rfl ?_ | refine U0 z0 ?_ | refine U1 z1 ?_ | refine U9 zs ?_
      refine ax_cond rfl (fun hb7 => ?_) (fun hb7 => ?_)
      · repeat first | refine Ua ?_ | refine Ub ?_ | refine Uc ?_ | refine Ud ?_ | refine Ue ?_ | refine Ug ⟨by kernel_rfl, ?_⟩ | refine Ug ?_ | refine Uh ?_ | refine Ui ?_ | refine Uj ?_ | refine Uk rfl ?_ | refine Ul rfl ?_ | refine Um ?_ | refine Un ?_ | refine Uo ?_ | refine Up rfl ?_ | refine Uq ?_ | refine Ur ?_ | refine Us ?_ | refine Ut ?_ | refine Uu ?_ | refine Ux ?_ | refine Uv rfl rfl rfl rfl ?_ | refine Uw rfl rfl rfl ?_ | refine U0 z0 ?_ | refine U1 z1 ?_ | refine U9 zs ?_
        exact ⟨⟨(⟨h.wide, h.deep, h.cells ++ [0]⟩, q3 + 1), ⟨by show (h.cells ++ [0]).length ≤ 13; rw [List.length_append]; simp; omega, by show p ≤ q3 + 1; omega, (by show q3 + 1 ≤ p + 60; omega), fun e => (hn0 e).elim⟩, .inl rfl, rfl, Rx⟩⟩
      · repeat first | refine Ua ?_ | refine Ub ?_ | refine Uc ?_ | refine Ud ?_ | refine Ue ?_ | refine Ug ⟨by kernel_rfl, ?_⟩ | refine Ug ?_ | refine Uh ?_ | refine Ui ?_ | refine Uj ?_ | refine Uk rfl ?_ | refine Ul rfl ?_ | refine Um ?_ | refine Un ?_ | refine Uo ?_ | refine Up rfl ?_ | refine Uq ?_ | refine Ur ?_ | refine Us ?_ | refine Ut ?_ | refine Uu ?_ | refine Ux ?_ | refine Uv rfl rfl rfl rfl ?_ | refine Uw rfl rfl rfl ?_ | refine U0 z0 ?_ | refine U1 z1 ?_ | refine U9 zs ?_
        refine ax_cond rfl (fun hb8 => ?_) (fun hb8 => ?_)
        · repeat first | refine Ua ?_ | refine Ub ?_ | refine Uc ?_ | refine Ud ?_ | refine Ue ?_ | refine Ug ⟨by kernel_rfl, ?_⟩ | refine Ug ?_ | refine Uh ?_ | refine Ui ?_ | refine Uj ?_ | refine Uk rfl ?_ | refine Ul rfl ?_ | refine Um ?_ | refine Un ?_ | refine Uo ?_ | refine Up rfl ?_ | refine Uq ?_ | refine Ur ?_ | refine Us ?_ | refine Ut ?_ | refine Uu ?_ | refine Ux ?_ | refine Uv rfl rfl rfl rfl ?_ | refine Uw rfl rfl rfl ?_ | refine U0 z0 ?_ | refine U1 (by first | (apply st_recv_v (hfn := pick_fn x0 l hB (q3 + 1) (by omega) 2 ); (iterate 4 exact rfl); exact fz; iterate 2 exact rfl) | exact z1 | fail) ?_ | refine U9 zs ?_
          exact ⟨⟨(⟨h.wide, h.deep, h.cells.set 0 (gi [-1, 100] (pickF l (q3 + 1) 2).toNat)⟩, q3 + 1 + 1), ⟨by show (h.cells.set 0 _).length ≤ 13; rw [List.length_set]; omega, by show p ≤ q3 + 1 + 1; omega, (by show q3 + 1 + 1 ≤ p + 60; omega), fun e => (hn0 e).elim⟩, .inl rfl, rfl, Rx⟩⟩
        · repeat first | refine Ua ?_ | refine Ub ?_ | refine Uc ?_ | refine Ud ?_ | refine Ue ?_ | refine Ug ⟨by kernel_rfl, ?_⟩ | refine Ug ?_ | refine Uh ?_ | refine Ui ?_ | refine Uj ?_ | refine Uk rfl ?_ | refine Ul rfl ?_ | refine Um ?_ | refine Un ?_ | refine Uo ?_ | refine Up rfl ?_ | refine Uq ?_ | refine Ur ?_ | refine Us ?_ | refine Ut ?_ | refine Uu ?_ | refine Ux ?_ | refine Uv rfl rfl rfl rfl ?_ | refine Uw rfl rfl rfl ?_ | refine U0 z0 ?_ | refine U1 z1 ?_ | refine U9 zs ?_
          exact ⟨⟨(⟨h.wide, h.deep, (h.cells.set 0 88).set 1 88⟩, q3 + 1), ⟨by show ((h.cells.set 0 88).set 1 88).length ≤ 13; rw [List.length_set, List.length_set]; omega, by show p ≤ q3 + 1; omega, (by show q3 + 1 ≤ p + 60; omega), fun e => (hn0 e).elim⟩, .inl rfl, rfl, Rx⟩⟩
  · repeat first | refine Ua ?_ | refine Ub ?_ | refine Uc ?_ | refine Ud ?_ | refine Ue ?_ | refine Ug ⟨by kernel_rfl, ?_⟩ | refine Ug ?_ | refine Uh ?_ | refine Ui ?_ | refine Uj ?_ | refine Uk rfl ?_ | refine Ul rfl ?_ | refine Um ?_ | refine Un ?_ | refine Uo ?_ | refine Up rfl ?_ | refine Uq ?_ | refine Ur ?_ | refine Us ?_ | refine Ut ?_ | refine Uu ?_ | refine Ux ?_ | refine Uv rfl rfl rfl rfl ?_ | refine Uw rfl rfl rfl ?_ | refine U0 z0 ?_ | refine U1 z1 ?_ | refine U9 zs ?_
    exact ⟨⟨(h, q3), ⟨by show h.cells.length ≤ 13; omega, by show p ≤ q3; omega, (by show q3 ≤ p + 60; omega), fun _ => hv2⟩, .inl rfl, rfl, Rx⟩⟩
theorem l20Hall_fn (x0 : Value) (l : List Int) (hB : Bytes l) (p : Int) (hp : 0 ≤ p ∧ p ≤ 900000) (n : Int) (hn : 0 ≤ n ∧ n ≤ 1000) : ∃ i : PHall × Int, (i.1.cells.length ≤ 13 ∧ p ≤ i.2 ∧ i.2 ≤ p + 60) ∧ FnR Tryd.prog 57 103 x0 5 (byts l) p [.int n] i.2 (hallV i.1) := by
  obtain ⟨i, ⟨h1, h2, h3, _⟩, h4⟩ := l20Hall_fn2 x0 l hB p hp n hn
  exact ⟨i, ⟨h1, h2, h3⟩, h4⟩
end Go.Proofs.YtnfjmcenjpoloaaDoor
end

section
/-
  The drawn laws' own functions: comparisons, the fixed answer, the reader that is opened.
-/
set_option linter.unusedVariables false
set_option linter.unusedSimpArgs false
set_option maxRecDepth 100000
namespace Go.Proofs.YtnfjmcenjpoloaaDoor
open Go Go.RowKit Go.Park Go.Sym

section
variable {P : Program} {T' : List (Nat × TyI)} {f nt : Nat} {fn : Func} {c : Code} {rs : List ResultVar} {res : AV}
theorem fn_go0 (hT : TabOk P T') (hf : P.funcs[f]? = some fn) (hb : fn.body = some c) (hnm : (fn.name == "runtime.NumGoroutine") = false) (hnt : fn.ntmps = nt) (hrs : fn.results = rs.toArray) (hl : 0 ≤ nt) (h : AX P nt c (mkS [] ⟨1, []⟩) (ResOk T' rs res)) : FnS P f [] res :=
  fn_of_ax hT hf hb hnm hnt hrs (by simp) h
end
theorem gi_ext {a b : List Int} (hl : a.length = b.length) (h : ∀ j, j < a.length → gi a j = gi b j) : a = b := by
  apply List.ext_getElem?
  intro i
  by_cases hi : i < a.length
  · rw [gi_of_lt hi, gi_of_lt (by omega), h i hi]
  · rw [List.getElem?_eq_none (by omega), List.getElem?_eq_none (by omega)]
set_option maxHeartbeats 1000000 in
theorem sameInts_fn (a b : List Int) (ha : a.length ≤ lim) (hb : b.length ≤ lim) : FnS Tryd.prog 71 [intsV a, intsV b] (.bool (decide (a = b))) := by
  have ha' : a.length ≤ 1073741824 := ha
  have hb' : b.length ≤ 1073741824 := hb
  refine fn_go2 tabOk Tryd.func71 rfl (by kernel_rfl) Tryd.ntmps71 Tryd.results71 (by decide) ?_
  repeat first | refine Ua ?_ | refine Ub ?_ | refine Uc ?_ | refine Ud ?_ | refine Ue ?_ | refine Ug ⟨by kernel_rfl, ?_⟩ | refine Ug ?_ | refine Uh ?_ | refine Ui ?_ | refine Uj ?_ | refine Uk rfl ?_ | refine Ul rfl ?_ | refine Um ?_ | refine Un ?_ | refine Uo ?_ | refine Up rfl ?_ | refine Uq ?_ | refine Ur ?_ | refine Us ?_ | refine Ut ?_ | refine Uu ?_ | refine Ux ?_ | refine Uv rfl rfl rfl rfl ?_ | refine Uw rfl rfl rfl ?_ | refine U0 z0 ?_ | refine U1 z1 ?_ | refine U9 zs ?_
  refine ax_cond rfl (fun hl => ?_) (fun hl => ?_)
  · have hF : decide (a = b) = false := decide_eq_false (fun e => by subst e; simp at hl)
    repeat first | refine Ua ?_ | refine Ub ?_ | refine Uc ?_ | refine Ud ?_ | refine Ue ?_ | refine Ug ⟨by kernel_rfl, ?_⟩ | refine Ug ?_ | refine Uh ?_ | refine Ui ?_ | refine Uj ?_ | refine Uk rfl ?_ | refine Ul rfl ?_ | refine Um ?_ | refine Un ?_ | refine Uo ?_ | refine Up rfl ?_ | refine Uq ?_ | refine Ur ?_ | refine Us ?_ | refine Ut ?_ | refine Uu ?_ | refine Ux ?_ | refine Uv rfl rfl rfl rfl ?_ | refine Uw rfl rfl rfl ?_ | refine U0 z0 ?_ | refine U1 z1 ?_ | refine U9 zs ?_
    exact ⟨.inl rfl, _, _, (by repeat first | exact .nil | apply ResL.cons | exact .tmp rfl | exact .agg rfl rfl rfl rfl rfl (Nat.le_of_ble_eq_true rfl) rfl | exact .cell rfl rfl rfl rfl rfl (Nat.le_of_ble_eq_true rfl) rfl), (by first | exact .one (by first | exact .one (.v (by first | rfl | (rw [hF]))) | exact .one (.own rfl rfl rfl rfl rfl rfl (by first | rfl | (rw [hF])) (by first | exact scal_ints _ | exact scal_slc _)) | exact .one (.nil (by decide) (by first | rfl | (rw [hF]))) | exact .agg (.cons (.v (by first | rfl | (rw [hF]))) (.cons (.v (by first | rfl | (rw [hF]))) (.cons (.own rfl rfl rfl rfl rfl rfl (by first | rfl | (rw [hF])) (scal_ints _)) .nil))) | exact .agg (.cons (.v (by first | rfl | (rw [hF]))) (.cons (.v (by first | rfl | (rw [hF]))) (.cons (.nil (by decide) (by first | rfl | (rw [hF]))) .nil))) | exact .agg (.cons (.v (by first | rfl | (rw [hF]))) (.cons (.v (by first | rfl | (rw [hF]))) .nil))) | exact .two (by repeat first | exact .nil | apply ExpL.cons | exact (by first | exact .one (.v (by first | rfl | (rw [hF]))) | exact .one (.own rfl rfl rfl rfl rfl rfl (by first | rfl | (rw [hF])) (by first | exact scal_ints _ | exact scal_slc _)) | exact .one (.nil (by decide) (by first | rfl | (rw [hF]))) | exact .agg (.cons (.v (by first | rfl | (rw [hF]))) (.cons (.v (by first | rfl | (rw [hF]))) (.cons (.own rfl rfl rfl rfl rfl rfl (by first | rfl | (rw [hF])) (scal_ints _)) .nil))) | exact .agg (.cons (.v (by first | rfl | (rw [hF]))) (.cons (.v (by first | rfl | (rw [hF]))) (.cons (.nil (by decide) (by first | rfl | (rw [hF]))) .nil))) | exact .agg (.cons (.v (by first | rfl | (rw [hF]))) (.cons (.v (by first | rfl | (rw [hF]))) .nil))))), (by decide)⟩
  have hlen : a.length = b.length := by
    have : (a.length : Int) = (b.length : Int) := by simpa using hl
    omega
  repeat first | refine Ua ?_ | refine Ub ?_ | refine Uc ?_ | refine Ud ?_ | refine Ue ?_ | refine Ug ⟨by kernel_rfl, ?_⟩ | refine Ug ?_ | refine Uh ?_ | refine Ui ?_ | refine Uj ?_ | refine Uk rfl ?_ | refine Ul rfl ?_ | refine Um ?_ | refine Un ?_ | refine Uo ?_ | refine Up rfl ?_ | refine Uq ?_ | refine Ur ?_ | refine Us ?_ | refine Ut ?_ | refine Uu ?_ | refine Ux ?_ | refine Uv rfl rfl rfl rfl ?_ | refine Uw rfl rfl rfl ?_ | refine U0 z0 ?_ | refine U1 z1 ?_ | refine U9 zs ?_
  refine ax_loop (fun k : Nat => mkS [(5, .int (k : Int)), (0, intsV a), (1, intsV b)] ⟨1, []⟩) (fun k => k ≤ a.length ∧ ∀ j, j < k → gi a j = gi b j) (fun k => a.length - k) (0) (⟨Nat.zero_le _, fun j hj => by omega⟩) (Lw (ρ := [])) ?_
  rintro k ⟨hk, hj⟩
  repeat first | refine Ua ?_ | refine Ub ?_ | refine Uc ?_ | refine Ud ?_ | refine Ue ?_ | refine Ug ⟨by kernel_rfl, ?_⟩ | refine Ug ?_ | refine Uh ?_ | refine Ui ?_ | refine Uj ?_ | refine Uk rfl ?_ | refine Ul rfl ?_ | refine Um ?_ | refine Un ?_ | refine Uo ?_ | refine Up rfl ?_ | refine Uq ?_ | refine Ur ?_ | refine Us ?_ | refine Ut ?_ | refine Uu ?_ | refine Ux ?_ | refine Uv rfl rfl rfl rfl ?_ | refine Uw rfl rfl rfl ?_ | refine U0 z0 ?_ | refine U1 z1 ?_ | refine U9 zs ?_
  refine ax_cond rfl (fun h1 => ?_) (fun h1 => ?_)
  · have hlt : k < a.length := by simpa using h1
    repeat first | refine Ua ?_ | refine Ub ?_ | refine Uc ?_ | refine Ud ?_ | refine Ue ?_ | refine Ug ⟨by kernel_rfl, ?_⟩ | refine Ug ?_ | refine Uh ?_ | refine Ui ?_ | refine Uj ?_ | refine Uk rfl ?_ | refine Ul rfl ?_ | refine Um ?_ | refine Un ?_ | refine Uo ?_ | refine Up rfl ?_ | refine Uq ?_ | refine Ur ?_ | refine Us ?_ | refine Ut ?_ | refine Uu ?_ | refine Ux ?_ | refine Uv rfl rfl rfl rfl ?_ | refine Uw rfl rfl rfl ?_ | refine U0 z0 ?_ | refine U1 z1 ?_ | refine U9 zs ?_
    refine ax_cond rfl (fun h2 => ?_) (fun h2 => ?_)
    · have hF : decide (a = b) = false := decide_eq_false (fun e => by subst e; simp at h2)
      repeat first | refine Ua ?_ | refine Ub ?_ | refine Uc ?_ | refine Ud ?_ | refine Ue ?_ | refine Ug ⟨by kernel_rfl, ?_⟩ | refine Ug ?_ | refine Uh ?_ | refine Ui ?_ | refine Uj ?_ | refine Uk rfl ?_ | refine Ul rfl ?_ | refine Um ?_ | refine Un ?_ | refine Uo ?_ | refine Up rfl ?_ | refine Uq ?_ | refine Ur ?_ | refine Us ?_ | refine Ut ?_ | refine Uu ?_ | refine Ux ?_ | refine Uv rfl rfl rfl rfl ?_ | refine Uw rfl rfl rfl ?_ | refine U0 z0 ?_ | refine U1 z1 ?_ | refine U9 zs ?_
      exact ⟨.inl rfl, _, _, (by repeat first | exact .nil | apply ResL.cons | exact .tmp rfl | exact .agg rfl rfl rfl rfl rfl (Nat.le_of_ble_eq_true rfl) rfl | exact .cell rfl rfl rfl rfl rfl (Nat.le_of_ble_eq_true rfl) rfl), (by first | exact .one (by first | exact .one (.v (by first | rfl | (rw [hF]))) | exact .one (.own rfl rfl rfl rfl rfl rfl (by first | rfl | (rw [hF])) (by first | exact scal_ints _ | exact scal_slc _)) | exact .one (.nil (by decide) (by first | rfl | (rw [hF]))) | exact .agg (.cons (.v (by first | rfl | (rw [hF]))) (.cons (.v (by first | rfl | (rw [hF]))) (.cons (.own rfl rfl rfl rfl rfl rfl (by first | rfl | (rw [hF])) (scal_ints _)) .nil))) | exact .agg (.cons (.v (by first | rfl | (rw [hF]))) (.cons (.v (by first | rfl | (rw [hF]))) (.cons (.nil (by decide) (by first | rfl | (rw [hF]))) .nil))) | exact .agg (.cons (.v (by first | rfl | (rw [hF]))) (.cons (.v (by first | rfl | (rw [hF]))) .nil))) | exact .two (by repeat first | exact .nil | apply ExpL.cons | exact (by first | exact .one (.v (by first | rfl | (rw [hF]))) | exact .one (.own rfl rfl rfl rfl rfl rfl (by first | rfl | (rw [hF])) (by first | exact scal_ints _ | exact scal_slc _)) | exact .one (.nil (by decide) (by first | rfl | (rw [hF]))) | exact .agg (.cons (.v (by first | rfl | (rw [hF]))) (.cons (.v (by first | rfl | (rw [hF]))) (.cons (.own rfl rfl rfl rfl rfl rfl (by first | rfl | (rw [hF])) (scal_ints _)) .nil))) | exact .agg (.cons (.v (by first | rfl | (rw [hF]))) (.cons (.v (by first | rfl | (rw [hF]))) (.cons (.nil (by decide) (by first | rfl | (rw [hF]))) .nil))) | exact .agg (.cons (.v (by first | rfl | (rw [hF]))) (.cons (.v (by first | rfl | (rw [hF]))) .nil))))), (by decide)⟩
    · have he : gi a k = gi b k := by simpa using h2
      repeat first | refine Ua ?_ | refine Ub ?_ | refine Uc ?_ | refine Ud ?_ | refine Ue ?_ | refine Ug ⟨by kernel_rfl, ?_⟩ | refine Ug ?_ | refine Uh ?_ | refine Ui ?_ | refine Uj ?_ | refine Uk rfl ?_ | refine Ul rfl ?_ | refine Um ?_ | refine Un ?_ | refine Uo ?_ | refine Up rfl ?_ | refine Uq ?_ | refine Ur ?_ | refine Us ?_ | refine Ut ?_ | refine Uu ?_ | refine Ux ?_ | refine Uv rfl rfl rfl rfl ?_ | refine Uw rfl rfl rfl ?_ | refine U0 z0 ?_ | refine U1 z1 ?_ | refine U9 zs ?_
      refine round_next (k + 1) (⟨hlt, fun j hj' => by by_cases e : j = k; (subst e; exact he); exact hj j (by omega)⟩) (by omega) (Lw (ρ := []))
  · have hkn : k = a.length := by simp at h1; omega
    have hF : decide (a = b) = true := decide_eq_true (gi_ext hlen (fun j hj' => hj j (by omega)))
    repeat first | refine Ua ?_ | refine Ub ?_ | refine Uc ?_ | refine Ud ?_ | refine Ue ?_ | refine Ug ⟨by kernel_rfl, ?_⟩ | refine Ug ?_ | refine Uh ?_ | refine Ui ?_ | refine Uj ?_ | refine Uk rfl ?_ | refine Ul rfl ?_ | refine Um ?_ | refine Un ?_ | refine Uo ?_ | refine Up rfl ?_ | refine Uq ?_ | refine Ur ?_ | refine Us ?_ | refine Ut ?_ | refine Uu ?_ | refine Ux ?_ | refine Uv rfl rfl rfl rfl ?_ | refine Uw rfl rfl rfl ?_ | refine U0 z0 ?_ | refine U1 z1 ?_ | refine U9 zs ?_
    exact ⟨.inl rfl, _, _, (by repeat first | exact .nil | apply ResL.cons | exact .tmp rfl | exact .agg rfl rfl rfl rfl rfl (Nat.le_of_ble_eq_true rfl) rfl | exact .cell rfl rfl rfl rfl rfl (Nat.le_of_ble_eq_true rfl) rfl), (by first | exact .one (by first | exact .one (.v (by first | rfl | (rw [hF]))) | exact .one (.own rfl rfl rfl rfl rfl rfl (by first | rfl | (rw [hF])) (by first | exact scal_ints _ | exact scal_slc _)) | exact .one (.nil (by decide) (by first | rfl | (rw [hF]))) | exact .agg (.cons (.v (by first | rfl | (rw [hF]))) (.cons (.v (by first | rfl | (rw [hF]))) (.cons (.own rfl rfl rfl rfl rfl rfl (by first | rfl | (rw [hF])) (scal_ints _)) .nil))) | exact .agg (.cons (.v (by first | rfl | (rw [hF]))) (.cons (.v (by first | rfl | (rw [hF]))) (.cons (.nil (by decide) (by first | rfl | (rw [hF]))) .nil))) | exact .agg (.cons (.v (by first | rfl | (rw [hF]))) (.cons (.v (by first | rfl | (rw [hF]))) .nil))) | exact .two (by repeat first | exact .nil | apply ExpL.cons | exact (by first | exact .one (.v (by first | rfl | (rw [hF]))) | exact .one (.own rfl rfl rfl rfl rfl rfl (by first | rfl | (rw [hF])) (by first | exact scal_ints _ | exact scal_slc _)) | exact .one (.nil (by decide) (by first | rfl | (rw [hF]))) | exact .agg (.cons (.v (by first | rfl | (rw [hF]))) (.cons (.v (by first | rfl | (rw [hF]))) (.cons (.own rfl rfl rfl rfl rfl rfl (by first | rfl | (rw [hF])) (scal_ints _)) .nil))) | exact .agg (.cons (.v (by first | rfl | (rw [hF]))) (.cons (.v (by first | rfl | (rw [hF]))) (.cons (.nil (by decide) (by first | rfl | (rw [hF]))) .nil))) | exact .agg (.cons (.v (by first | rfl | (rw [hF]))) (.cons (.v (by first | rfl | (rw [hF]))) .nil))))), (by decide)⟩
set_option maxHeartbeats 1000000 in
theorem hasInt_fn (a : List Int) (ha : a.length ≤ lim) (x : Int) : FnS Tryd.prog 30 [intsV a, .int x] (.bool (decide (x ∈ a))) := by
  have ha' : a.length ≤ 1073741824 := ha
  refine fn_go2 tabOk Tryd.func30 rfl (by kernel_rfl) Tryd.ntmps30 Tryd.results30 (by decide) ?_
  repeat first | refine Ua ?_ | refine Ub ?_ | refine Uc ?_ | refine Ud ?_ | refine Ue ?_ | refine Ug ⟨by kernel_rfl, ?_⟩ | refine Ug ?_ | refine Uh ?_ | refine Ui ?_ | refine Uj ?_ | refine Uk rfl ?_ | refine Ul rfl ?_ | refine Um ?_ | refine Un ?_ | refine Uo ?_ | refine Up rfl ?_ | refine Uq ?_ | refine Ur ?_ | refine Us ?_ | refine Ut ?_ | refine Uu ?_ | refine Ux ?_ | refine Uv rfl rfl rfl rfl ?_ | refine Uw rfl rfl rfl ?_ | refine U0 z0 ?_ | refine U1 z1 ?_ | refine U9 zs ?_
  refine ax_loop (fun k : Nat => mkS [(5, .int (k : Int)), (0, intsV a), (1, .int x)] ⟨1, []⟩) (fun k => k ≤ a.length ∧ ∀ j, j < k → gi a j ≠ x) (fun k => a.length - k) (0) (⟨Nat.zero_le _, fun j hj => by omega⟩) (Lw (ρ := [])) ?_
  rintro k ⟨hk, hj⟩
  repeat first | refine Ua ?_ | refine Ub ?_ | refine Uc ?_ | refine Ud ?_ | refine Ue ?_ | refine Ug ⟨by kernel_rfl, ?_⟩ | refine Ug ?_ | refine Uh ?_ | refine Ui ?_ | refine Uj ?_ | refine Uk rfl ?_ | refine Ul rfl ?_ | refine Um ?_ | refine Un ?_ | refine Uo ?_ | refine Up rfl ?_ | refine Uq ?_ | refine Ur ?_ | refine Us ?_ | refine Ut ?_ | refine Uu ?_ | refine Ux ?_ | refine Uv rfl rfl rfl rfl ?_ | refine Uw rfl rfl rfl ?_ | refine U0 z0 ?_ | refine U1 z1 ?_ | refine U9 zs ?_
  refine ax_cond rfl (fun h1 => ?_) (fun h1 => ?_)
  · have hlt : k < a.length := by simpa using h1
    repeat first | refine Ua ?_ | refine Ub ?_ | refine Uc ?_ | refine Ud ?_ | refine Ue ?_ | refine Ug ⟨by kernel_rfl, ?_⟩ | refine Ug ?_ | refine Uh ?_ | refine Ui ?_ | refine Uj ?_ | refine Uk rfl ?_ | refine Ul rfl ?_ | refine Um ?_ | refine Un ?_ | refine Uo ?_ | refine Up rfl ?_ | refine Uq ?_ | refine Ur ?_ | refine Us ?_ | refine Ut ?_ | refine Uu ?_ | refine Ux ?_ | refine Uv rfl rfl rfl rfl ?_ | refine Uw rfl rfl rfl ?_ | refine U0 z0 ?_ | refine U1 z1 ?_ | refine U9 zs ?_
    refine ax_cond rfl (fun h2 => ?_) (fun h2 => ?_)
    · have he : gi a k = x := by simpa using h2
      have hF : decide (x ∈ a) = true := decide_eq_true (by rw [← he]; exact gi_mem hlt)
      repeat first | refine Ua ?_ | refine Ub ?_ | refine Uc ?_ | refine Ud ?_ | refine Ue ?_ | refine Ug ⟨by kernel_rfl, ?_⟩ | refine Ug ?_ | refine Uh ?_ | refine Ui ?_ | refine Uj ?_ | refine Uk rfl ?_ | refine Ul rfl ?_ | refine Um ?_ | refine Un ?_ | refine Uo ?_ | refine Up rfl ?_ | refine Uq ?_ | refine Ur ?_ | refine Us ?_ | refine Ut ?_ | refine Uu ?_ | refine Ux ?_ | refine Uv rfl rfl rfl rfl ?_ | refine Uw rfl rfl rfl ?_ | refine U0 z0 ?_ | refine U1 z1 ?_ | refine U9 zs ?_
      exact ⟨.inl rfl, _, _, (by repeat first | exact .nil | apply ResL.cons | exact .tmp rfl | exact .agg rfl rfl rfl rfl rfl (Nat.le_of_ble_eq_true rfl) rfl | exact .cell rfl rfl rfl rfl rfl (Nat.le_of_ble_eq_true rfl) rfl), (by first | exact .one (by first | exact .one (.v (by first | rfl | (rw [hF]))) | exact .one (.own rfl rfl rfl rfl rfl rfl (by first | rfl | (rw [hF])) (by first | exact scal_ints _ | exact scal_slc _)) | exact .one (.nil (by decide) (by first | rfl | (rw [hF]))) | exact .agg (.cons (.v (by first | rfl | (rw [hF]))) (.cons (.v (by first | rfl | (rw [hF]))) (.cons (.own rfl rfl rfl rfl rfl rfl (by first | rfl | (rw [hF])) (scal_ints _)) .nil))) | exact .agg (.cons (.v (by first | rfl | (rw [hF]))) (.cons (.v (by first | rfl | (rw [hF]))) (.cons (.nil (by decide) (by first | rfl | (rw [hF]))) .nil))) | exact .agg (.cons (.v (by first | rfl | (rw [hF]))) (.cons (.v (by first | rfl | (rw [hF]))) .nil))) | exact .two (by repeat first | exact .nil | apply ExpL.cons | exact (by first | exact .one (.v (by first | rfl | (rw [hF]))) | exact .one (.own rfl rfl rfl rfl rfl rfl (by first | rfl | (rw [hF])) (by first | exact scal_ints _ | exact scal_slc _)) | exact .one (.nil (by decide) (by first | rfl | (rw [hF]))) | exact .agg (.cons (.v (by first | rfl | (rw [hF]))) (.cons (.v (by first | rfl | (rw [hF]))) (.cons (.own rfl rfl rfl rfl rfl rfl (by first | rfl | (rw [hF])) (scal_ints _)) .nil))) | exact .agg (.cons (.v (by first | rfl | (rw [hF]))) (.cons (.v (by first | rfl | (rw [hF]))) (.cons (.nil (by decide) (by first | rfl | (rw [hF]))) .nil))) | exact .agg (.cons (.v (by first | rfl | (rw [hF]))) (.cons (.v (by first | rfl | (rw [hF]))) .nil))))), (by decide)⟩
    · have he : gi a k ≠ x := by simpa using h2
      repeat first | refine Ua ?_ | refine Ub ?_ | refine Uc ?_ | refine Ud ?_ | refine Ue ?_ | refine Ug ⟨by kernel_rfl, ?_⟩ | refine Ug ?_ | refine Uh ?_ | refine Ui ?_ | refine Uj ?_ | refine Uk rfl ?_ | refine Ul rfl ?_ | refine Um ?_ | refine Un ?_ | refine Uo ?_ | refine Up rfl ?_ | refine Uq ?_ | refine Ur ?_ | refine Us ?_ | refine Ut ?_ | refine Uu ?_ | refine Ux ?_ | refine Uv rfl rfl rfl rfl ?_ | refine Uw rfl rfl rfl ?_ | refine U0 z0 ?_ | refine U1 z1 ?_ | refine U9 zs ?_
      refine round_next (k + 1) (⟨hlt, fun j hj' => by by_cases e : j = k; (subst e; exact he); exact hj j (by omega)⟩) (by omega) (Lw (ρ := []))
  · have hkn : k = a.length := by simp at h1; omega
    have hF : decide (x ∈ a) = false := decide_eq_false (fun hm => by
      obtain ⟨j, e⟩ := List.mem_iff_getElem?.1 hm
      have hj' : j < a.length := (List.getElem?_eq_some_iff.1 e).1
      rw [gi_of_lt hj'] at e
      exact hj j (by omega) (by simpa using e))
    repeat first | refine Ua ?_ | refine Ub ?_ | refine Uc ?_ | refine Ud ?_ | refine Ue ?_ | refine Ug ⟨by kernel_rfl, ?_⟩ | refine Ug ?_ | refine Uh ?_ | refine Ui ?_ | refine Uj ?_ | refine Uk rfl ?_ | refine Ul rfl ?_ | refine Um ?_ | refine Un ?_ | refine Uo ?_ | refine Up rfl ?_ | refine Uq ?_ | refine Ur ?_ | refine Us ?_ | refine Ut ?_ | refine Uu ?_ | refine Ux ?_ | refine Uv rfl rfl rfl rfl ?_ | refine Uw rfl rfl rfl ?_ | refine U0 z0 ?_ | refine U1 z1 ?_ | refine U9 zs ?_
    exact ⟨.inl rfl, _, _, (by repeat first | exact .nil | apply ResL.cons | exact .tmp rfl | exact .agg rfl rfl rfl rfl rfl (Nat.le_of_ble_eq_true rfl) rfl | exact .cell rfl rfl rfl rfl rfl (Nat.le_of_ble_eq_true rfl) rfl), (by first | exact .one (by first | exact .one (.v (by first | rfl | (rw [hF]))) | exact .one (.own rfl rfl rfl rfl rfl rfl (by first | rfl | (rw [hF])) (by first | exact scal_ints _ | exact scal_slc _)) | exact .one (.nil (by decide) (by first | rfl | (rw [hF]))) | exact .agg (.cons (.v (by first | rfl | (rw [hF]))) (.cons (.v (by first | rfl | (rw [hF]))) (.cons (.own rfl rfl rfl rfl rfl rfl (by first | rfl | (rw [hF])) (scal_ints _)) .nil))) | exact .agg (.cons (.v (by first | rfl | (rw [hF]))) (.cons (.v (by first | rfl | (rw [hF]))) (.cons (.nil (by decide) (by first | rfl | (rw [hF]))) .nil))) | exact .agg (.cons (.v (by first | rfl | (rw [hF]))) (.cons (.v (by first | rfl | (rw [hF]))) .nil))) | exact .two (by repeat first | exact .nil | apply ExpL.cons | exact (by first | exact .one (.v (by first | rfl | (rw [hF]))) | exact .one (.own rfl rfl rfl rfl rfl rfl (by first | rfl | (rw [hF])) (by first | exact scal_ints _ | exact scal_slc _)) | exact .one (.nil (by decide) (by first | rfl | (rw [hF]))) | exact .agg (.cons (.v (by first | rfl | (rw [hF]))) (.cons (.v (by first | rfl | (rw [hF]))) (.cons (.own rfl rfl rfl rfl rfl rfl (by first | rfl | (rw [hF])) (scal_ints _)) .nil))) | exact .agg (.cons (.v (by first | rfl | (rw [hF]))) (.cons (.v (by first | rfl | (rw [hF]))) (.cons (.nil (by decide) (by first | rfl | (rw [hF]))) .nil))) | exact .agg (.cons (.v (by first | rfl | (rw [hF]))) (.cons (.v (by first | rfl | (rw [hF]))) .nil))))), (by decide)⟩
def upB (a : List Int) : Bool := decide (∀ j, j < a.length - 1 → gi a j < gi a (j+1))
def sameH (a b : PHall) : Bool := decide (a.wide = b.wide) && (decide (a.deep = b.deep) && decide (a.cells = b.cells))
theorem sameH_self (a : PHall) : sameH a a = true := by simp [sameH]
set_option maxHeartbeats 1000000 in
theorem sameHall_fn (a b : PHall) (ha : a.cells.length ≤ lim) (hb : b.cells.length ≤ lim) : FnS Tryd.prog 22 [hallV a, hallV b] (.bool (sameH a b)) := by
  have ha' : a.cells.length ≤ 1073741824 := ha
  have hb' : b.cells.length ≤ 1073741824 := hb
  refine fn_go2 tabOk Tryd.func22 rfl (by kernel_rfl) Tryd.ntmps22 Tryd.results22 (by decide) ?_
  repeat first | refine Ua ?_ | refine Ub ?_ | refine Uc ?_ | refine Ud ?_ | refine Ue ?_ | refine Ug ⟨by kernel_rfl, ?_⟩ | refine Ug ?_ | refine Uh ?_ | refine Ui ?_ | refine Uj ?_ | refine Uk rfl ?_ | refine Ul rfl ?_ | refine Um ?_ | refine Un ?_ | refine Uo ?_ | refine Up rfl ?_ | refine Uq ?_ | refine Ur ?_ | refine Us ?_ | refine Ut ?_ | refine Uu ?_ | refine Ux ?_ | refine Uv rfl rfl rfl rfl ?_ | refine Uw rfl rfl rfl ?_ | refine U0 z0 ?_ | refine U1 z1 ?_ | refine U9 zs ?_
  refine rh_split rfl rfl (fun h1 => ?_) (fun h1 => ?_)
  · repeat first | refine Ua ?_ | refine Ub ?_ | refine Uc ?_ | refine Ud ?_ | refine Ue ?_ | refine Ug ⟨by kernel_rfl, ?_⟩ | refine Ug ?_ | refine Uh ?_ | refine Ui ?_ | refine Uj ?_ | refine Uk rfl ?_ | refine Ul rfl ?_ | refine Um ?_ | refine Un ?_ | refine Uo ?_ | refine Up rfl ?_ | refine Uq ?_ | refine Ur ?_ | refine Us ?_ | refine Ut ?_ | refine Uu ?_ | refine Ux ?_ | refine Uv rfl rfl rfl rfl ?_ | refine Uw rfl rfl rfl ?_ | refine U0 z0 ?_ | refine U1 z1 ?_ | refine U9 zs ?_
    refine rh_split rfl rfl (fun h2 => ?_) (fun h2 => ?_)
    · repeat first | refine Ua ?_ | refine Ub ?_ | refine Uc ?_ | refine Ud ?_ | refine Ue ?_ | refine Ug ⟨by kernel_rfl, ?_⟩ | refine Ug ?_ | refine Uh ?_ | refine Ui ?_ | refine Uj ?_ | refine Uk rfl ?_ | refine Ul rfl ?_ | refine Um ?_ | refine Un ?_ | refine Uo ?_ | refine Up rfl ?_ | refine Uq ?_ | refine Ur ?_ | refine Us ?_ | refine Ut ?_ | refine Uu ?_ | refine Ux ?_ | refine Uv rfl rfl rfl rfl ?_ | refine Uw rfl rfl rfl ?_ | refine U0 (by first | (apply st_call (hfn := sameInts_fn a.cells b.cells ha hb ); exact rfl; exact fz) | exact z0 | fail) ?_ | refine U1 z1 ?_ | refine U9 zs ?_
      exact ⟨.inl rfl, _, _, (by repeat first | exact .nil | apply ResL.cons | exact .tmp rfl | exact .agg rfl rfl rfl rfl rfl (Nat.le_of_ble_eq_true rfl) rfl | exact .cell rfl rfl rfl rfl rfl (Nat.le_of_ble_eq_true rfl) rfl), (by first | exact .one (by first | exact .one (.v (by first | rfl | ((simp at h1 h2; simp [sameH, h1, h2])))) | exact .one (.own rfl rfl rfl rfl rfl rfl (by first | rfl | ((simp at h1 h2; simp [sameH, h1, h2]))) (by first | exact scal_ints _ | exact scal_slc _)) | exact .one (.nil (by decide) (by first | rfl | ((simp at h1 h2; simp [sameH, h1, h2])))) | exact .agg (.cons (.v (by first | rfl | ((simp at h1 h2; simp [sameH, h1, h2])))) (.cons (.v (by first | rfl | ((simp at h1 h2; simp [sameH, h1, h2])))) (.cons (.own rfl rfl rfl rfl rfl rfl (by first | rfl | ((simp at h1 h2; simp [sameH, h1, h2]))) (scal_ints _)) .nil))) | exact .agg (.cons (.v (by first | rfl | ((simp at h1 h2; simp [sameH, h1, h2])))) (.cons (.v (by first | rfl | ((simp at h1 h2; simp [sameH, h1, h2])))) (.cons (.nil (by decide) (by first | rfl | ((simp at h1 h2; simp [sameH, h1, h2])))) .nil))) | exact .agg (.cons (.v (by first | rfl | ((simp at h1 h2; simp [sameH, h1, h2])))) (.cons (.v (by first | rfl | ((simp at h1 h2; simp [sameH, h1, h2])))) .nil))) | exact .two (by repeat first | exact .nil | apply ExpL.cons | exact (by first | exact .one (.v (by first | rfl | ((simp at h1 h2; simp [sameH, h1, h2])))) | exact .one (.own rfl rfl rfl rfl rfl rfl (by first | rfl | ((simp at h1 h2; simp [sameH, h1, h2]))) (by first | exact scal_ints _ | exact scal_slc _)) | exact .one (.nil (by decide) (by first | rfl | ((simp at h1 h2; simp [sameH, h1, h2])))) | exact .agg (.cons (.v (by first | rfl | ((simp at h1 h2; simp [sameH, h1, h2])))) (.cons (.v (by first | rfl | ((simp at h1 h2; simp [sameH, h1, h2])))) (.cons (.own rfl rfl rfl rfl rfl rfl (by first | rfl | ((simp at h1 h2; simp [sameH, h1, h2]))) (scal_ints _)) .nil))) | exact .agg (.cons (.v (by first | rfl | ((simp at h1 h2; simp [sameH, h1, h2])))) (.cons (.v (by first | rfl | ((simp at h1 h2; simp [sameH, h1, h2])))) (.cons (.nil (by decide) (by first | rfl | ((simp at h1 h2; simp [sameH, h1, h2])))) .nil))) | exact .agg (.cons (.v (by first | rfl | ((simp at h1 h2; simp [sameH, h1, h2])))) (.cons (.v (by first | rfl | ((simp at h1 h2; simp [sameH, h1, h2])))) .nil))))), (by decide)⟩
    · repeat first | refine Ua ?_ | refine Ub ?_ | refine Uc ?_ | refine Ud ?_ | refine Ue ?_ | refine Ug ⟨by kernel_rfl, ?_⟩ | refine Ug ?_ | refine Uh ?_ | refine Ui ?_ | refine Uj ?_ | refine Uk rfl ?_ | refine Ul rfl ?_ | refine Um ?_ | refine Un ?_ | refine Uo ?_ | refine Up rfl ?_ | refine Uq ?_ | refine Ur ?_ | refine Us ?_ | refine Ut ?_ | refine Uu ?_ | refine Ux ?_ | refine Uv rfl rfl rfl rfl ?_ | refine Uw rfl rfl rfl ?_ | refine U0 z0 ?_ | refine U1 z1 ?_ | refine U9 zs ?_
      exact ⟨.inl rfl, _, _, (by repeat first | exact .nil | apply ResL.cons | exact .tmp rfl | exact .agg rfl rfl rfl rfl rfl (Nat.le_of_ble_eq_true rfl) rfl | exact .cell rfl rfl rfl rfl rfl (Nat.le_of_ble_eq_true rfl) rfl), (by first | exact .one (by first | exact .one (.v (by first | rfl | ((simp at h2; simp [sameH, h2])))) | exact .one (.own rfl rfl rfl rfl rfl rfl (by first | rfl | ((simp at h2; simp [sameH, h2]))) (by first | exact scal_ints _ | exact scal_slc _)) | exact .one (.nil (by decide) (by first | rfl | ((simp at h2; simp [sameH, h2])))) | exact .agg (.cons (.v (by first | rfl | ((simp at h2; simp [sameH, h2])))) (.cons (.v (by first | rfl | ((simp at h2; simp [sameH, h2])))) (.cons (.own rfl rfl rfl rfl rfl rfl (by first | rfl | ((simp at h2; simp [sameH, h2]))) (scal_ints _)) .nil))) | exact .agg (.cons (.v (by first | rfl | ((simp at h2; simp [sameH, h2])))) (.cons (.v (by first | rfl | ((simp at h2; simp [sameH, h2])))) (.cons (.nil (by decide) (by first | rfl | ((simp at h2; simp [sameH, h2])))) .nil))) | exact .agg (.cons (.v (by first | rfl | ((simp at h2; simp [sameH, h2])))) (.cons (.v (by first | rfl | ((simp at h2; simp [sameH, h2])))) .nil))) | exact .two (by repeat first | exact .nil | apply ExpL.cons | exact (by first | exact .one (.v (by first | rfl | ((simp at h2; simp [sameH, h2])))) | exact .one (.own rfl rfl rfl rfl rfl rfl (by first | rfl | ((simp at h2; simp [sameH, h2]))) (by first | exact scal_ints _ | exact scal_slc _)) | exact .one (.nil (by decide) (by first | rfl | ((simp at h2; simp [sameH, h2])))) | exact .agg (.cons (.v (by first | rfl | ((simp at h2; simp [sameH, h2])))) (.cons (.v (by first | rfl | ((simp at h2; simp [sameH, h2])))) (.cons (.own rfl rfl rfl rfl rfl rfl (by first | rfl | ((simp at h2; simp [sameH, h2]))) (scal_ints _)) .nil))) | exact .agg (.cons (.v (by first | rfl | ((simp at h2; simp [sameH, h2])))) (.cons (.v (by first | rfl | ((simp at h2; simp [sameH, h2])))) (.cons (.nil (by decide) (by first | rfl | ((simp at h2; simp [sameH, h2])))) .nil))) | exact .agg (.cons (.v (by first | rfl | ((simp at h2; simp [sameH, h2])))) (.cons (.v (by first | rfl | ((simp at h2; simp [sameH, h2])))) .nil))))), (by decide)⟩
  · repeat first | refine Ua ?_ | refine Ub ?_ | refine Uc ?_ | refine Ud ?_ | refine Ue ?_ | refine Ug ⟨by kernel_rfl, ?_⟩ | refine Ug ?_ | refine Uh ?_ | refine Ui ?_ | refine Uj ?_ | refine Uk rfl ?_ | refine Ul rfl ?_ | refine Um ?_ | refine Un ?_ | refine Uo ?_ | refine Up rfl ?_ | refine Uq ?_ | refine Ur ?_ | refine Us ?_ | refine Ut ?_ | refine Uu ?_ | refine Ux ?_ | refine Uv rfl rfl rfl rfl ?_ | refine Uw rfl rfl rfl ?_ | refine U0 z0 ?_ | refine U1 z1 ?_ | refine U9 zs ?_
    exact ⟨.inl rfl, _, _, (by repeat first | exact .nil | apply ResL.cons | exact .tmp rfl | exact .agg rfl rfl rfl rfl rfl (Nat.le_of_ble_eq_true rfl) rfl | exact .cell rfl rfl rfl rfl rfl (Nat.le_of_ble_eq_true rfl) rfl), (by first | exact .one (by first | exact .one (.v (by first | rfl | ((simp at h1; simp [sameH, h1])))) | exact .one (.own rfl rfl rfl rfl rfl rfl (by first | rfl | ((simp at h1; simp [sameH, h1]))) (by first | exact scal_ints _ | exact scal_slc _)) | exact .one (.nil (by decide) (by first | rfl | ((simp at h1; simp [sameH, h1])))) | exact .agg (.cons (.v (by first | rfl | ((simp at h1; simp [sameH, h1])))) (.cons (.v (by first | rfl | ((simp at h1; simp [sameH, h1])))) (.cons (.own rfl rfl rfl rfl rfl rfl (by first | rfl | ((simp at h1; simp [sameH, h1]))) (scal_ints _)) .nil))) | exact .agg (.cons (.v (by first | rfl | ((simp at h1; simp [sameH, h1])))) (.cons (.v (by first | rfl | ((simp at h1; simp [sameH, h1])))) (.cons (.nil (by decide) (by first | rfl | ((simp at h1; simp [sameH, h1])))) .nil))) | exact .agg (.cons (.v (by first | rfl | ((simp at h1; simp [sameH, h1])))) (.cons (.v (by first | rfl | ((simp at h1; simp [sameH, h1])))) .nil))) | exact .two (by repeat first | exact .nil | apply ExpL.cons | exact (by first | exact .one (.v (by first | rfl | ((simp at h1; simp [sameH, h1])))) | exact .one (.own rfl rfl rfl rfl rfl rfl (by first | rfl | ((simp at h1; simp [sameH, h1]))) (by first | exact scal_ints _ | exact scal_slc _)) | exact .one (.nil (by decide) (by first | rfl | ((simp at h1; simp [sameH, h1])))) | exact .agg (.cons (.v (by first | rfl | ((simp at h1; simp [sameH, h1])))) (.cons (.v (by first | rfl | ((simp at h1; simp [sameH, h1])))) (.cons (.own rfl rfl rfl rfl rfl rfl (by first | rfl | ((simp at h1; simp [sameH, h1]))) (scal_ints _)) .nil))) | exact .agg (.cons (.v (by first | rfl | ((simp at h1; simp [sameH, h1])))) (.cons (.v (by first | rfl | ((simp at h1; simp [sameH, h1])))) (.cons (.nil (by decide) (by first | rfl | ((simp at h1; simp [sameH, h1])))) .nil))) | exact .agg (.cons (.v (by first | rfl | ((simp at h1; simp [sameH, h1])))) (.cons (.v (by first | rfl | ((simp at h1; simp [sameH, h1])))) .nil))))), (by decide)⟩
theorem alive_text : textF ⟨2, 2, [0, 7, 0, 0]⟩ = ⟨#[46, 44, 55, 47, 46, 44, 46]⟩ := by
  have hv : validB ⟨2, 2, [0, 7, 0, 0]⟩ = true := by decide
  have h7 : Lib.decDigits 7 = [55] := by rw [Lib.decDigits]; rfl
  unfold textF
  rw [if_pos hv]
  simp only [textTo, List.length_cons, List.length_nil, sepB, cellB, gi]
  simp [h7]
theorem alive_none : textF ⟨0, 0, []⟩ = ⟨#[]⟩ := by unfold textF; rw [if_neg (by decide)]
set_option maxHeartbeats 1000000 in
theorem alive_fn : FnS Tryd.prog 18 [] (.bool true) := by
  have h0 : ([] : List Int).length ≤ lim := by simp
  have h4 : ([0, 7, 0, 0] : List Int).length ≤ lim := by have := lim_eq; simp; omega
  have hA := hallText_fn ⟨2, 2, [0, 7, 0, 0]⟩ h4
  have hB := hallText_fn ⟨0, 0, []⟩ h0
  rw [alive_text] at hA
  rw [alive_none] at hB
  refine fn_go0 tabOk Tryd.func18 rfl (by kernel_rfl) Tryd.ntmps18 Tryd.results18 (by decide) ?_
  repeat first | refine Ua ?_ | refine Ub ?_ | refine Uc ?_ | refine Ud ?_ | refine Ue ?_ | refine Ug ⟨by kernel_rfl, ?_⟩ | refine Ug ?_ | refine Uh ?_ | refine Ui ?_ | refine Uj ?_ | refine Uk rfl ?_ | refine Ul rfl ?_ | refine Um ?_ | refine Un ?_ | refine Uo ?_ | refine Up rfl ?_ | refine Uq ?_ | refine Ur ?_ | refine Us ?_ | refine Ut ?_ | refine Uu ?_ | refine Ux ?_ | refine Uv rfl rfl rfl rfl ?_ | refine Uw rfl rfl rfl ?_ | refine U0 (by first | (apply st_call (hfn := hA ); exact rfl; exact fz) | exact z0 | fail) ?_ | refine U1 z1 ?_ | refine U9 zs ?_
  refine rh_split rfl rfl (fun h1 => ?_) (fun h1 => ?_)
  · repeat first | refine Ua ?_ | refine Ub ?_ | refine Uc ?_ | refine Ud ?_ | refine Ue ?_ | refine Ug ⟨by kernel_rfl, ?_⟩ | refine Ug ?_ | refine Uh ?_ | refine Ui ?_ | refine Uj ?_ | refine Uk rfl ?_ | refine Ul rfl ?_ | refine Um ?_ | refine Un ?_ | refine Uo ?_ | refine Up rfl ?_ | refine Uq ?_ | refine Ur ?_ | refine Us ?_ | refine Ut ?_ | refine Uu ?_ | refine Ux ?_ | refine Uv rfl rfl rfl rfl ?_ | refine Uw rfl rfl rfl ?_ | refine U0 (by first | (apply st_call (hfn := hB ); exact rfl; exact fz) | exact z0 | fail) ?_ | refine U1 z1 ?_ | refine U9 zs ?_
    exact ⟨.inl rfl, Rx⟩
  · simp at h1
end Go.Proofs.YtnfjmcenjpoloaaDoor
end

section
/-
  The reader that is opened; the drawn inputs.
-/
set_option linter.unusedVariables false
set_option linter.unusedSimpArgs false
set_option maxRecDepth 100000
namespace Go.Proofs.YtnfjmcenjpoloaaDoor
open Go Go.RowKit Go.Park Go.Sym

def cutN (n : Nat) : Nat := if 2000 < n then 2000 else n
set_option maxHeartbeats 1000000 in
theorem open_any (w : World) (ao : Option Addr) (n c : Nat) (hn : n ≤ c) (hc : c ≤ maxLen) :
    Calls Tryd.prog 48 #[.slice ao n c] w fun e w' => e = .returned (.pointer (some ⟨w.heap.size, 0, none⟩)) ∧ w' = w.alloc (.cells #[.slice ao (cutN n) c, .int .i64 0] 103) := by
  unfold maxLen at hc
  by_cases h : 2000 < n
  · have H := Lib.hid (show cutN n = 2000 by simp [cutN, h])
    go_enter Tryd.func48, Tryd.ntmps48
    go_wp2
    go_ret
    exact ⟨rfl, by rw [H.out]⟩
  · have H := Lib.hid (show cutN n = n by simp [cutN, h])
    go_enter Tryd.func48, Tryd.ntmps48
    go_wp2
    go_ret
    exact ⟨rfl, by rw [H.out]⟩
theorem relC_take {cx : Cx} {b : Nat} : ∀ (k : Nat) (cs : List AV) (off : Nat), relC cx b off cs → relC cx b off (cs.take k)
  | 0, cs, off, h => by simp [relC]
  | k+1, [], off, h => by simp [relC]
  | k+1, x :: cs, off, h => by
    simp only [List.take_succ_cons, relC] at h ⊢
    exact ⟨h.1, relC_take k cs (off + 1) h.2⟩
theorem rel_take {cx : Cx} {t0 : Nat} {cs : List AV} {ao : Option Addr} {n c k : Nat} (h : relV cx (.sl t0 1 cs) (.slice ao n c)) (hk : k ≤ n) : relV cx (.sl t0 1 (cs.take k)) (.slice ao k c) := by
  simp only [relV] at h ⊢
  obtain ⟨hp, ao', n', c', e, h1, h2, h3, h4, h5⟩ := h
  cases e
  refine ⟨pureL_of fun x hx => pureL_mem hp x (List.mem_of_mem_take hx), ao, k, c, rfl, by omega, h2, h3, by rw [List.length_take]; omega, ?_⟩
  rcases h5 with h5 | ⟨b, off, rfl, hb, hc⟩
  · exact .inl (by rw [h5]; simp)
  · exact .inr ⟨b, off, rfl, hb, relC_take k _ _ hc⟩
/-- the reader of a code -/
def rdV (v0 : Value) : Value := match v0 with
  | .slice ao n c => .slice ao (cutN n) c
  | v => v
section
variable {nt : Nat} {E : List (Nat × AV)} {dst : Option Nat} {ty : Nat} {pos : String} {aft : Array Edge} {gd : Option (Nat × Bool)} {at' : Array TypeId}
theorem st_open {n : Nat} {l : List (Nat × Option Row)} {x : Operand} {v0 : Value} {bs : List Int} (hd : dstOk nt dst = true) (hx : (mkS E ⟨n, l⟩).ev x = .both v0 (.sl 5 1 (byts bs))) (hr : (mkS E ⟨n, l⟩).row n = none) (h0 : Nat.beq n 0 = false) :
    Does Tryd.prog nt ⟨dst, .call ⟨.value (.func 48), #[x], at'⟩, ty, pos, aft, gd⟩ ⟨fo x, [n]⟩ (.ptr n 0 0) [(n, some (rdR (rdV v0) (bs.take (cutN bs.length)) 0))] (mkS E ⟨n, l⟩) := by
  refine ⟨?_⟩
  intro τ hag F hF a w hS Q K hK
  obtain ⟨φ, Z, hS⟩ := hS
  have h1 := hS.ev x
  rw [hag.ev (σ := mkS E ⟨n, l⟩) (fun t ht => ht), hx] at h1
  simp only [relV] at h1
  obtain ⟨e0, hp, ao, m, c, e1, hm, hc, h3, h4, h5⟩ := h1
  have hv : v0 = .slice ao m c := by rw [← e0, e1]
  subst hv
  have hbm : bs.length = m := by rw [byts_length] at h4; omega
  have hrel : relV (cxOf φ Z τ w) (.sl 5 1 (byts bs)) (.slice ao m c) := by simp only [relV]; exact ⟨hp, ao, m, c, rfl, hm, hc, h3, h4, h5⟩
  have hcut : cutN m ≤ m := by unfold cutN; split <;> omega
  have htk := rel_take hrel hcut
  rw [byts_take] at htk
  have hrow := hr
  rw [← hag.2 n (by simp)] at hrow
  obtain ⟨φ', k1, k2, k3⟩ := alloc_row hS hrow (fun e => by subst e; simp at h0) (t := 103) (sz := 2) (n := 1) (pure := true) (box := true) (two_rel (p := 0) htk) (fun u hu => by
    simp at hu
    rcases hu with rfl | rfl <;> rfl) (by omega) (by simp) (by simp [maxLen]) (fun _ => by
    simp only [pureL, pureV]
    exact ⟨pureL_scal (scal_byts _), trivial, trivial⟩)
  unfold Oper.wp
  have hen : Sym.Enters Tryd.prog 48 := ⟨_, Tryd.func48, by kernel_rfl, rfl⟩
  have hrun : (execOp a.eval ⟨dst, .call ⟨.value (.func 48), #[x], at'⟩, ty, pos, aft, gd⟩).run Tryd.prog w = .ok (.enter 48 #[.slice ao m c]) w := by
    have e3 : a.eval x = .slice ao m c := e1
    simp [execOp, resolve, Act.eval, Deferred.ofValue, invoke, run_callFunc hen] at e3 ⊢
    rw [e3]
  rw [hrun, Oper.upon_enter]
  refine (open_any w ao m c hm hc).mono ?_
  rintro e w' ⟨rfl, rfl⟩
  show K (a.put dst _) _
  refine hK _ _ ⟨φ', Z, ?_⟩
  have k1' : SimAt F φ' Z (τ.rowsUpd [(n, some (rdR (rdV (.slice ao m c)) (bs.take (cutN bs.length)) 0))]) a (w.alloc (.cells #[.slice ao (cutN m) c, .int .i64 0] 103)) := by rw [hbm]; exact k1
  cases dst with
  | none => exact k1'
  | some d =>
    simp [dstOk] at hd
    refine k1'.put (by omega) ?_
    simp only [relV]
    exact ⟨φ' n, 0, by simp [cxOf, St.rowsUpd, overR], Nat.le_refl _, fun _ => ⟨w.heap.size, 1, 1, k2, rfl⟩⟩
end
theorem cut_bytes {bs : List Int} (h : ∀ j, j < bs.length → 0 ≤ gi bs j ∧ gi bs j ≤ 255) : Bytes (bs.take (cutN bs.length)) := by
  have hc : cutN bs.length ≤ bs.length ∧ cutN bs.length ≤ 2000 := by unfold cutN; split <;> omega
  have hl : (bs.take (cutN bs.length)).length = cutN bs.length := by rw [List.length_take]; omega
  refine ⟨fun j hj => ?_, by omega⟩
  have := h j (by omega)
  simp only [gi, List.getD_eq_getElem?_getD] at this ⊢
  rw [List.getElem?_take, if_pos (by omega)]
  exact this
/-- a code: its value, its bytes -/
abbrev codeV (v0 : Value) (bs : List Int) : AV := .both v0 (.sl 5 1 (byts bs))
def OkB (bs : List Int) : Prop := ∀ j, j < bs.length → 0 ≤ gi bs j ∧ gi bs j ≤ 255
set_option maxHeartbeats 2000000 in
theorem drawHallText_fn (v0 : Value) (bs : List Int) (hB : OkB bs) : ∃ h : PHall, h.cells.length ≤ 13 ∧ FnS Tryd.prog 37 [codeV v0 bs] (hallV h) := by
  obtain ⟨⟨h, q⟩, ⟨g1, g2, g3⟩, hH⟩ := l20Hall_fn (rdV v0) _ (cut_bytes hB) 0 (by omega) 6 (by omega)
  refine fnx_go1 (Good := fun h : PHall => h.cells.length ≤ 13) (res := fun h => hallV h) tabOk Tryd.func37 rfl (by kernel_rfl) Tryd.ntmps37 Tryd.results37 (by decide) ?_
  repeat first | refine Ua ?_ | refine Ub ?_ | refine Uc ?_ | refine Ud ?_ | refine Ue ?_ | refine Ug ⟨by kernel_rfl, ?_⟩ | refine Ug ?_ | refine Uh ?_ | refine Ui ?_ | refine Uj ?_ | refine Uk rfl ?_ | refine Ul rfl ?_ | refine Um ?_ | refine Un ?_ | refine Uo ?_ | refine Up rfl ?_ | refine Uq ?_ | refine Ur ?_ | refine Us ?_ | refine Ut ?_ | refine Uu ?_ | refine Ux ?_ | refine Uv rfl rfl rfl rfl ?_ | refine Uw rfl rfl rfl ?_ | refine U0 z0 ?_ | refine U1 (by first | (apply st_open; iterate 4 exact rfl) | exact z1 | fail) ?_ | refine U9 zs ?_ | refine U2 (by first | (apply st_recv_h (hfn := hH ); (iterate 4 exact rfl); exact fz; iterate 3 exact rfl) | fail) ?_
  exact ⟨⟨h, g1, .inl rfl, Rx⟩⟩
end Go.Proofs.YtnfjmcenjpoloaaDoor
end
