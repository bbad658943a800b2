/-
  The search of the program, and what is built on it.
-/
import Derived.Test.YtnfjmcenjpoloaaDoorRB
import Derived.Test.YtnfjmcenjpoloaaDoorQT
import Derived.Lib.TrailingZeros
set_option linter.unusedVariables false
set_option linter.unusedSimpArgs false
set_option maxRecDepth 100000
namespace Go.Proofs.YtnfjmcenjpoloaaDoor
open Go Go.RowKit Go.Park Go.Sym Go.Graph

/-- math/bits.deBruijn64tab, as it is laid -/
def bruijn : List AV := Lib.deBruijn64tab.map fun (z : Nat) => AV.v (.int .u8 (z : Int))
def tzAt (a : Nat) : Nat := 2 ^ a * 285870213051353865 % 18446744073709551616 / 288230376151711744
theorem tz_keys : ∀ a, a < 12 → (IntKind.u64.wrap (bits BinOp.and IntKind.u64 ((2 ^ a : Nat) : Int) (IntKind.u64.wrap (-((2 ^ a : Nat) : Int))) * 285870213051353865) / 288230376151711744 = ((tzAt a : Nat) : Int)) ∧ tzAt a < 64 ∧ Lib.deBruijn64tab.getD (tzAt a) 0 = a := by decide +kernel
theorem bruijn_cell {g : Nat} {w : World} (h : TabW g bruijn w) {j : Nat} (hj : j < 64) : w.cell? ⟨g, j, none⟩ = some (.int .u8 ((Lib.deBruijn64tab.getD j 0 : Nat) : Int)) := by
  have hx : bruijn[j]? = some (AV.v (.int .u8 ((Lib.deBruijn64tab.getD j 0 : Nat) : Int))) := by
    unfold bruijn
    rw [List.getElem?_map, List.getD_eq_getElem?_getD, List.getElem?_eq_getElem (by simpa [Lib.deBruijn64tab] using hj)]
    rfl
  obtain ⟨u, h1, _, h2⟩ := relC_get h.2.2 j _ hx
  simp only [relV] at h2
  subst h2
  simpa [cx0] using h1
set_option maxHeartbeats 1000000 in
theorem tz64_any (w : World) (x k idx : Nat) (hx0 : ((x : Int) == 0) = false)
    (key : IntKind.u64.wrap (bits BinOp.and IntKind.u64 (x : Int) (IntKind.u64.wrap (-(x : Int))) * 285870213051353865) / 288230376151711744 = (idx : Int)) (hi : idx < 64) (hk : k < 64) (hcell : w.cell? ⟨3, idx, none⟩ = some (.int .u8 (k : Int))) :
    Calls Tryd.prog 150 #[.int .u64 (x : Int)] w fun e w' => e = .returned (.int .i64 (k : Int)) ∧ w' = w := by
  go_enter Tryd.func150, Tryd.ntmps150
  go_wp2_with (simp only [key])
  go_ret
  exact ⟨rfl, rfl⟩
theorem tz64_fn (a : Nat) (ha : a < 12) : FnG Tryd.prog 3 bruijn 150 [.v (.int .u64 ((2 ^ a : Nat) : Int))] (.int (a : Int)) := by
  refine ⟨⟨_, Tryd.func150, by kernel_rfl, rfl⟩, fun w vs htw hp hx => ?_⟩
  simp only [relL, relV] at hx
  obtain ⟨v, _, rfl, rfl, rfl⟩ := hx
  obtain ⟨k1, k2, k3⟩ := tz_keys a ha
  have hc := bruijn_cell htw k2
  rw [k3] at hc
  have hpos : 0 < 2 ^ a := Nat.pow_pos (by omega)
  refine (tz64_any w (2 ^ a) a (tzAt a) ?_ k1 k2 (by omega) hc).mono ?_
  · generalize 2 ^ a = A at hpos ⊢
    cases A with
    | zero => omega
    | succ A => rfl
  · rintro e w' ⟨rfl, rfl⟩
    exact ⟨_, [], rfl, ⟨Below.refl _ _, by simp, by simp, by simp [relO]⟩⟩
set_option maxHeartbeats 1000000 in
theorem tz_fn (a : Nat) (ha : a < 12) : FnG Tryd.prog 3 bruijn 133 [.v (.int .u64 ((2 ^ a : Nat) : Int))] (.int (a : Int)) := by
  refine fng_go1 tabOk Tryd.func133 rfl (by kernel_rfl) Tryd.ntmps133 Tryd.results133 (by decide) ?_
  repeat first | refine Ua ?_ | refine Ub ?_ | refine Uc ?_ | refine Ud ?_ | refine Ue ?_ | refine Ug ⟨by kernel_rfl, ?_⟩ | refine Ug ?_ | refine Uh ?_ | refine Ui ?_ | refine Uj ?_ | refine Uk rfl ?_ | refine Ul rfl ?_ | refine Um ?_ | refine Un ?_ | refine Uo ?_ | refine Up rfl ?_ | refine Uq ?_ | refine Ur ?_ | refine Us ?_ | refine Ut ?_ | refine Uu ?_ | refine Ux ?_ | refine Uv rfl rfl rfl rfl ?_ | refine Uw rfl rfl rfl ?_ | refine U0 (by first | (apply st_callg (hfn := tz64_fn a ha ); exact rfl; exact fz; exact rfl) | exact z0 | fail) ?_ | refine U1 z1 ?_ | refine U9 zs ?_
  exact ⟨.inl rfl, Rx⟩
/-! slices.Reverse of slides -/
def tabS (n : Nat) (f : Nat → Int × Int) : List (Int × Int) := (List.range n).map f
theorem tabS_length (n : Nat) (f : Nat → Int × Int) : (tabS n f).length = n := by simp [tabS]
theorem gs_tabS {n : Nat} {f : Nat → Int × Int} {j : Nat} (h : j < n) : gs (tabS n f) j = f j := by simp [gs, tabS, List.getD, h]
theorem extS {a b : List (Int × Int)} (hl : a.length = b.length) (h : ∀ j, j < a.length → gs a j = gs b j) : a = b := by
  apply List.ext_getElem hl
  intro i h1 h2
  have := h i h1
  simpa [gs, List.getD, h1, h2] using this
theorem gs_set {l : List (Int × Int)} {i j : Nat} {x : Int × Int} (hj : j < l.length) : gs (l.set i x) j = if i = j then x else gs l j := by
  simp only [gs, List.getD, List.getElem?_set]
  by_cases e : i = j
  · subst e; simp [hj]
  · simp [e]
def revS (l : List (Int × Int)) (k : Nat) : List (Int × Int) := tabS l.length fun j => if j < k ∨ l.length - k ≤ j then gs l (l.length - 1 - j) else gs l j
theorem revS_len (l : List (Int × Int)) (k : Nat) : (revS l k).length = l.length := tabS_length _ _
theorem revS_zero (l : List (Int × Int)) : revS l 0 = l := extS (revS_len l 0) fun j hj => by
  rw [revS_len] at hj
  unfold revS
  rw [gs_tabS hj, if_neg (by omega)]
theorem revS_all {l : List (Int × Int)} {k : Nat} (hk : l.length ≤ 2 * k + 1) : revS l k = l.reverse := extS (by rw [revS_len]; simp) fun j hj => by
  rw [revS_len] at hj
  unfold revS
  rw [gs_tabS hj]
  have e : gs l.reverse j = gs l (l.length - 1 - j) := by
    simp only [gs, List.getD]
    rw [List.getElem?_reverse hj]
  rw [e]
  split
  · rfl
  · congr 1; omega
theorem revS_mid {l : List (Int × Int)} {k j : Nat} (h1 : k ≤ j) (h2 : j < l.length - k) : gs (revS l k) j = gs l j := by
  unfold revS
  rw [gs_tabS (by omega), if_neg (by omega)]
theorem revS_step {l : List (Int × Int)} {k : Nat} (hk : k < l.length - 1 - k) : ((revS l k).set k (gs l (l.length - 1 - k))).set (l.length - 1 - k) (gs l k) = revS l (k + 1) := extS (by simp [revS_len]) fun j hj => by
  have hj' : j < l.length := by simpa [revS_len] using hj
  rw [gs_set (by simpa [revS_len] using hj'), gs_set (by rw [revS_len]; exact hj')]
  unfold revS
  rw [gs_tabS hj', gs_tabS hj']
  by_cases h1 : l.length - 1 - k = j
  · rw [if_pos h1, if_pos (by omega)]; congr 1; omega
  · rw [if_neg h1]
    by_cases h2 : k = j
    · rw [if_pos h2, if_pos (by omega)]; congr 1; omega
    · rw [if_neg h2]
      by_cases h3 : j < k ∨ l.length - k ≤ j
      · rw [if_pos h3, if_pos (by omega)]
      · rw [if_neg h3, if_neg (by omega)]
theorem slc_ones : ∀ (l : List (Int × Int)) x, x ∈ slc l → ∃ v, x = AV.v v ∧ v.oneCell' = true
  | [], x, h => by simp [slc] at h
  | s :: l, x, h => by
    simp only [slc, List.mem_cons] at h
    rcases h with rfl | rfl | h
    · exact ⟨_, rfl, rfl⟩
    · exact ⟨_, rfl, rfl⟩
    · exact slc_ones l x h
set_option maxHeartbeats 4000000 in
theorem reverseS_t (l : List (Int × Int)) (hll : l.length ≤ lim) : FnT Tryd.prog 134 (fun t => t) 53 2 (slc l) (slc l.reverse) (.tuple #[]) := by
  have hl' : l.length ≤ 1073741824 := hll
  refine fnt_of_ax Tryd.func134 rfl (by kernel_rfl) Tryd.ntmps134 Tryd.results134 (by decide) (by decide) (scal_slc l) (slc_ones l) (scal_slc _) (by simp [slc_length]) (fun bx => ?_)
  repeat first | refine Ua ?_ | refine Ub ?_ | refine Uc ?_ | refine Ud ?_ | refine Ue ?_ | refine Ug ⟨by kernel_rfl, ?_⟩ | refine Ug ?_ | refine Uh ?_ | refine Ui ?_ | refine Uj ?_ | refine Uk rfl ?_ | refine Ul rfl ?_ | refine Um ?_ | refine Un ?_ | refine Uo ?_ | refine Up rfl ?_ | refine Uq ?_ | refine Ur ?_ | refine Us ?_ | refine Ut ?_ | refine Uu ?_ | refine Ux ?_ | refine Uv rfl rfl rfl rfl ?_ | refine Uw rfl rfl rfl ?_ | refine U0 z0 ?_ | refine U1 z1 ?_ | refine U9 zs ?_
  refine ax_loop (fun k : Nat => mkS [(2, .int (k : Int)), (3, .int ((l.length : Int) - 1 - k)), (0, .own 0 0)] ⟨1, [(0, some ⟨53, 2, 0, true, bx, slc (revS l k)⟩)]⟩) (fun k => 2 * k ≤ l.length + 1) (fun k => l.length - k) (0) (by omega) (weak_of [] (by repeat first | exact .nil | refine LeEs.cons ?_ ?_ | exact .v (by first | rfl | (first | exact congrArg slc (revS_zero l).symm | exact congrArg slc (revS_zero l) | (congr 1; omega))) | exact .own rfl rfl rfl rfl rfl | exact .ptr rfl rfl rfl rfl rfl rfl | exact .nil rfl rfl rfl | exact .sl (by first | rfl | (first | exact congrArg slc (revS_zero l).symm | exact congrArg slc (revS_zero l) | (congr 1; omega))) | exact .both rfl rfl | exact .frz rfl rfl rfl rfl rfl (by first | rfl | (first | exact congrArg slc (revS_zero l).symm | exact congrArg slc (revS_zero l) | (congr 1; omega))) rfl | exact .tab rfl | exact .any _) (by repeat first | exact .nil | refine LeHs.keep rfl ⟨rfl, rfl, rfl, .inl ⟨rfl, by first | rfl | (first | exact congrArg slc (revS_zero l).symm | exact congrArg slc (revS_zero l) | (congr 1; omega))⟩⟩ ?_ | refine LeHs.keep rfl ⟨rfl, rfl, rfl, .inr ⟨(by first | exact .inl rfl | exact .inr rfl), by repeat first | exact .nil | refine LeVL.cons ?_ ?_ | exact .v (by first | rfl | (first | exact congrArg slc (revS_zero l).symm | exact congrArg slc (revS_zero l) | (congr 1; omega))) | exact .own rfl rfl rfl rfl rfl | exact .sl (by first | rfl | (first | exact congrArg slc (revS_zero l).symm | exact congrArg slc (revS_zero l) | (congr 1; omega))) | exact .both rfl rfl | exact .frz rfl rfl rfl rfl rfl (by first | rfl | (first | exact congrArg slc (revS_zero l).symm | exact congrArg slc (revS_zero l) | (congr 1; omega))) rfl⟩⟩ ?_ | refine LeHs.fresh rfl rfl rfl (Nat.succ_pos _) rfl ?_) rfl rfl) ?_
  intro k hk
  have hrl := revS_len l k
  repeat first | refine Ua ?_ | refine Ub ?_ | refine Uc ?_ | refine Ud ?_ | refine Ue ?_ | refine Ug ⟨by kernel_rfl, ?_⟩ | refine Ug ?_ | refine Uh ?_ | refine Ui ?_ | refine Uj ?_ | refine Uk rfl ?_ | refine Ul rfl ?_ | refine Um ?_ | refine Un ?_ | refine Uo ?_ | refine Up rfl ?_ | refine Uq ?_ | refine Ur ?_ | refine Us ?_ | refine Ut ?_ | refine Uu ?_ | refine Ux ?_ | refine Uv rfl rfl rfl rfl ?_ | refine Uw rfl rfl rfl ?_ | refine U0 z0 ?_ | refine U1 z1 ?_ | refine U9 zs ?_
  refine ax_cond rfl (fun hb => ?_) (fun hb => ?_)
  · have hlt : k < l.length - 1 - k := by simp at hb; omega
    have ho : ((l.length : Int) - 1 - k).toNat = l.length - 1 - k := by omega
    have hm1 := revS_mid (l := l) (k := k) (j := k) (Nat.le_refl _) (by omega)
    have hm2 := revS_mid (l := l) (k := k) (j := l.length - 1 - k) (by omega) (by omega)
    have hst : slc (((revS l k).set k (gs (revS l k) ((l.length : Int) - 1 - k).toNat)).set ((l.length : Int) - 1 - k).toNat (gs (revS l k) k)) = slc (revS l (k + 1)) := by rw [ho, hm1, hm2, revS_step hlt]
    repeat first | refine Ua ?_ | refine Ub ?_ | refine Uc ?_ | refine Ud ?_ | refine Ue ?_ | refine Ug ⟨by kernel_rfl, ?_⟩ | refine Ug ?_ | refine Uh ?_ | refine Ui ?_ | refine Uj ?_ | refine Uk rfl ?_ | refine Ul rfl ?_ | refine Um ?_ | refine Un ?_ | refine Uo ?_ | refine Up rfl ?_ | refine Uq ?_ | refine Ur ?_ | refine Us ?_ | refine Ut ?_ | refine Uu ?_ | refine Ux ?_ | refine Uv rfl rfl rfl rfl ?_ | refine Uw rfl rfl rfl ?_ | refine U0 (by first | (apply st_ix_own_s tabOk; (iterate 11 exact rfl); exact rfl; (first | omega | (simp only [List.length_set]; omega))) | exact z0 | fail) ?_ | refine U1 z1 ?_ | refine U9 (by first | (apply st_st_slc tabOk; (iterate 8 exact rfl); (first | omega | (rw [List.length_set]; omega))) | exact zs | fail) ?_
    refine round_next (k + 1) (by omega) (by omega) (weak_of [] (by repeat first | exact .nil | refine LeEs.cons ?_ ?_ | exact .v (by first | rfl | (first | exact hst | exact hst.symm | (congr 1; omega))) | exact .own rfl rfl rfl rfl rfl | exact .ptr rfl rfl rfl rfl rfl rfl | exact .nil rfl rfl rfl | exact .sl (by first | rfl | (first | exact hst | exact hst.symm | (congr 1; omega))) | exact .both rfl rfl | exact .frz rfl rfl rfl rfl rfl (by first | rfl | (first | exact hst | exact hst.symm | (congr 1; omega))) rfl | exact .tab rfl | exact .any _) (by repeat first | exact .nil | refine LeHs.keep rfl ⟨rfl, rfl, rfl, .inl ⟨rfl, by first | rfl | (first | exact hst | exact hst.symm | (congr 1; omega))⟩⟩ ?_ | refine LeHs.keep rfl ⟨rfl, rfl, rfl, .inr ⟨(by first | exact .inl rfl | exact .inr rfl), by repeat first | exact .nil | refine LeVL.cons ?_ ?_ | exact .v (by first | rfl | (first | exact hst | exact hst.symm | (congr 1; omega))) | exact .own rfl rfl rfl rfl rfl | exact .sl (by first | rfl | (first | exact hst | exact hst.symm | (congr 1; omega))) | exact .both rfl rfl | exact .frz rfl rfl rfl rfl rfl (by first | rfl | (first | exact hst | exact hst.symm | (congr 1; omega))) rfl⟩⟩ ?_ | refine LeHs.fresh rfl rfl rfl (Nat.succ_pos _) rfl ?_) rfl rfl)
  · have hall := revS_all (l := l) (k := k) (by simp at hb; omega)
    rw [← hall]
    repeat first | refine Ua ?_ | refine Ub ?_ | refine Uc ?_ | refine Ud ?_ | refine Ue ?_ | refine Ug ⟨by kernel_rfl, ?_⟩ | refine Ug ?_ | refine Uh ?_ | refine Ui ?_ | refine Uj ?_ | refine Uk rfl ?_ | refine Ul rfl ?_ | refine Um ?_ | refine Un ?_ | refine Uo ?_ | refine Up rfl ?_ | refine Uq ?_ | refine Ur ?_ | refine Us ?_ | refine Ut ?_ | refine Uu ?_ | refine Ux ?_ | refine Uv rfl rfl rfl rfl ?_ | refine Uw rfl rfl rfl ?_ | refine U0 z0 ?_ | refine U1 z1 ?_ | refine U9 zs ?_
    exact ⟨.inr rfl, rfl⟩
/-! the way back -/
def encs (M : Nat) (Q : List St2) : List Int := Q.map fun s => ((encM M s : Nat) : Int)
theorem encs_len (M : Nat) (Q : List St2) : (encs M Q).length = Q.length := by simp [encs]
theorem gi_encs {M : Nat} {Q : List St2} {j : Nat} (h : j < Q.length) : gi (encs M Q) j = ((encM M (qOf Q j) : Nat) : Int) := by simp [gi, encs, qOf, List.getD, h]
theorem encs_app (M : Nat) (Q : List St2) (u : St2) : encs M (Q ++ [u]) = encs M Q ++ [((encM M u : Nat) : Int)] := by simp [encs]
theorem and_low {M x : Nat} {n : Nat} (hM : M = 2 ^ n) (hn : n ≤ 12) (hx : x < 2 ^ 63) : andI (x : Int) ((M : Int) - 1) = ((x % M : Nat) : Int) := by
  have hp : 0 < 2 ^ n := Nat.pow_pos (by omega)
  have h1 := pow_le hn
  have e : (M : Int) - 1 = ((M - 1 : Nat) : Int) := by rw [← hM] at hp; omega
  rw [e, andN hx (by rw [← hM] at h1; omega)]
  subst hM
  rw [Nat.and_two_pow_sub_one_eq_mod]
theorem bic_mv {n : Nat} {B : Nat → List Nat} {s u : St2} {a b : Nat} (hB : BOk n B) (hs : s.2 < 2 ^ n) (hu : u.2 < 2 ^ n) (m : IsMv n B s a b u) : bicI (u.2 : Int) (s.2 : Int) = ((2 ^ a : Nat) : Int) ∧ bicI (s.2 : Int) (u.2 : Int) = ((2 ^ b : Nat) : Int) := by
  obtain ⟨y, h1, h2, h3, h4, hb, hne⟩ := m.open hB
  have hp := pow_le hB.small
  have e1 : s.2 < 2 ^ 63 := by generalize 2 ^ n = M at *; omega
  have e2 : u.2 < 2 ^ 63 := by generalize 2 ^ n = M at *; omega
  refine ⟨bicN e2 e1 fun j => ?_, bicN e1 e2 fun j => ?_⟩
  · rw [h2, h1, bit_add a y h3, bit_add b y h4, Nat.testBit_two_pow]
    by_cases ja : j = a
    · subst ja; simp [h3, Ne.symm hne]
    · by_cases jb : j = b
      · subst jb; simp [h4, Ne.symm ja, ja]
      · simp [ja, jb, Ne.symm ja]
  · rw [h2, h1, bit_add a y h3, bit_add b y h4, Nat.testBit_two_pow]
    by_cases ja : j = a
    · subst ja; simp [h3, hne]
    · by_cases jb : j = b
      · subst jb; simp [h4, ja]
      · simp [ja, jb, Ne.symm jb]
abbrev tabE : Nat × AV := (tbi, .tab 3 bruijn)
set_option maxHeartbeats 8000000 in
theorem slidesTo_fn {n : Nat} {B : Nat → List Nat} {Q : List St2} {bf : List Int} {par cod : Nat → Nat} (hB : BOk n B) (hT : Trail n B Q bf par cod) (hbl : bf.length = n * 2 ^ n) (hQ : Q.length ≤ n * 2 ^ n) {i0 : Nat} (hi0 : i0 < Q.length) {p : List Nat} (hp : Laid par cod i0 p) :
    FnG Tryd.prog 3 bruijn 114 [.sl 21 1 (i32s bf), .int ((encM (2 ^ n) (qOf Q 0) : Nat) : Int), .int ((encM (2 ^ n) (qOf Q i0) : Nat) : Int), .int (n : Int)] (slcV (p.map slideOf)) := by
  have hn := hB.small
  have hM4 := pow_le hn
  have hshl := shl_one (a := n) (by omega)
  have hlt := hT.lt
  have hap := hT.apart
  have hmv := hT.mv
  have htb := hT.tab
  have hup := hT.up
  have hbic : ∀ j a b, j < Q.length → par j < Q.length → IsMv n B (qOf Q (par j)) a b (qOf Q j) → _ := fun j a b h1 h2 m => bic_mv hB (hlt _ h2).2 (hlt _ h1).2 m
  obtain ⟨M, hM⟩ : ∃ M, M = 2 ^ n := ⟨_, rfl⟩
  rw [← hM] at hM4 hshl hlt hap htb hbl hQ ⊢
  have hnM : n * M ≤ 12 * 4096 := Nat.mul_le_mul hn hM4
  have hen : ∀ j, j < Q.length → encM M (qOf Q j) < n * M := fun j hj => enc_lt (hlt j hj).1 (hlt j hj).2
  have hM1 : 1 ≤ M := by rw [hM]; exact Nat.pow_pos (by omega)
  refine fng_go4 tabOk Tryd.func114 rfl (by kernel_rfl) Tryd.ntmps114 Tryd.results114 (by decide) ?_
  repeat first | refine Ua ?_ | refine Ub ?_ | refine Uc ?_ | refine Ud ?_ | refine Ue ?_ | refine Ug ⟨by kernel_rfl, ?_⟩ | refine Ug ?_ | refine Uh ?_ | refine Ui ?_ | refine Uj ?_ | refine Uk rfl ?_ | refine Ul rfl ?_ | refine Um ?_ | refine Un ?_ | refine Uo ?_ | refine Up rfl ?_ | refine Uq ?_ | refine Ur ?_ | refine Us ?_ | refine Ut ?_ | refine Uu ?_ | refine Ux ?_ | refine Uv rfl rfl rfl rfl ?_ | refine Uw rfl rfl rfl ?_ | refine U0 (by first | (apply st_shlE; (iterate 3 exact rfl); exact hshl) | exact z0 | fail) ?_ | refine U1 z1 ?_ | refine U9 zs ?_
  refine ax_loop (fun i : Nat × List Nat => mkS [(2, .int ((encM M (qOf Q i.1) : Nat) : Int)), (1, .int ((encM M (qOf Q 0) : Nat) : Int)), (0, .sl 21 1 (i32s bf)), (9, .int ((M : Int) - 1)), (10, .own 1 0), tabE] ⟨2, [(1, some (slcRow (i.2.reverse.map slideOf)))]⟩) (fun i => i.1 < Q.length ∧ i.2.length + i.1 ≤ Q.length ∧ ∃ p', Laid par cod i.1 p' ∧ p = p' ++ i.2) (fun i => i.1) ((i0, [])) (⟨hi0, by show 0 + i0 ≤ Q.length; omega, p, hp, by simp⟩) (Lw (ρ := [])) ?_
  rintro ⟨j, r⟩ ⟨hj, hr, p', hp', hpe⟩
  dsimp only at hj hr hp' hpe ⊢
  have he := hen j hj
  repeat first | refine Ua ?_ | refine Ub ?_ | refine Uc ?_ | refine Ud ?_ | refine Ue ?_ | refine Ug ⟨by kernel_rfl, ?_⟩ | refine Ug ?_ | refine Uh ?_ | refine Ui ?_ | refine Uj ?_ | refine Uk rfl ?_ | refine Ul rfl ?_ | refine Um ?_ | refine Un ?_ | refine Uo ?_ | refine Up rfl ?_ | refine Uq ?_ | refine Ur ?_ | refine Us ?_ | refine Ut ?_ | refine Uu ?_ | refine Ux ?_ | refine Uv rfl rfl rfl rfl ?_ | refine Uw rfl rfl rfl ?_ | refine U0 z0 ?_ | refine U1 z1 ?_ | refine U9 zs ?_
  refine ax_cond rfl (fun hb => ?_) (fun hb => ?_)
  · have hj0 : 0 < j := by
      rcases Nat.eq_zero_or_pos j with e | e
      · subst e; simp at hb
      · exact e
    have hpj := hup j hj0 hj
    obtain ⟨a, b, m, hcod⟩ := hmv j hj0 hj
    obtain ⟨p2, hp2, hl2⟩ := laid_succ hj0 hp'
    have hpl : par j < Q.length := by omega
    have hep := hen (par j) hpl
    have htab := htb j hj0 hj
    obtain ⟨b1, b2⟩ := hbic j a b hj hpl m
    have ha12 : a < 12 := by have := m.la; omega
    have hb12 : b < 12 := by have := (hB.cells a m.la b m.lb).1; omega
    have hA1 := pow_le (n := a) (by omega)
    have hA2 := pow_le (n := b) (by omega)
    have tz1 := tz_fn a ha12
    have tz2 := tz_fn b hb12
    have l1 := and_low hM hn (x := encM M (qOf Q j)) (by omega)
    have l2 := and_low hM hn (x := encM M (qOf Q (par j))) (by omega)
    rw [enc_mod (hlt j hj).2] at l1
    rw [enc_mod (hlt (par j) hpl).2] at l2
    have hs : slideOf (cod j) = ((a : Int), (b : Int)) := by rw [hcod, slide_code (by omega)]
    obtain ⟨A, hA⟩ : ∃ A, A = 2 ^ a := ⟨_, rfl⟩
    obtain ⟨A', hA'⟩ : ∃ A', A' = 2 ^ b := ⟨_, rfl⟩
    rw [← hA] at hA1 tz1 b1
    rw [← hA'] at hA2 tz2 b2
    have hgl : gi bf (encM M (qOf Q j)) = ((encM M (qOf Q (par j)) : Nat) : Int) := htab
    have hmr : (r.reverse.map slideOf).length = r.length := by simp
    repeat first | refine Ua ?_ | refine Ub ?_ | refine Uc ?_ | refine Ud ?_ | refine Ue ?_ | refine Ug ⟨by kernel_rfl, ?_⟩ | refine Ug ?_ | refine Uh ?_ | refine Ui ?_ | refine Uj ?_ | refine Uk rfl ?_ | refine Ul rfl ?_ | refine Um ?_ | refine Un ?_ | refine Uo ?_ | refine Up rfl ?_ | refine Uq ?_ | refine Ur ?_ | refine Us ?_ | refine Ut ?_ | refine Uu ?_ | refine Ux ?_ | refine Uv rfl rfl rfl rfl ?_ | refine Uw rfl rfl rfl ?_ | refine U0 (by first | (apply st_ix_own_4 tabOk; (iterate 11 exact rfl); (first | with_reducible exact to0 | with_reducible exact to1 | with_reducible exact to2 | with_reducible exact toC _ | exact rfl); omega) | (apply st_ld_4 tabOk; (iterate 7 exact rfl); omega) | (apply st_len_own_4 tabOk; (iterate 8 exact rfl)) | (apply st_ix_sl_4 tabOk; (iterate 8 exact rfl); exact toC _; omega) | (apply st_ld_ip_4E tabOk; (iterate 4 exact rfl); omega; exact hgl) | (apply st_andE; (iterate 3 exact rfl); first | exact l1 | exact l2) | (apply st_bicE; (iterate 3 exact rfl); first | exact b1 | exact b2) | (apply st_callg (hfn := tz1 ); exact rfl; exact fz; exact rfl) | (apply st_callg (hfn := tz2 ); exact rfl; exact fz; exact rfl) | exact z0 | fail) ?_ | refine U1 (by first | (apply st_make_4 tabOk; (iterate 10 exact rfl); (show 4 * _ ≤ _; omega); (unfold maxLen; omega); exact rfl; exact rfl) | exact z1 | fail) ?_ | refine U9 (by first | (apply st_st_4 tabOk; (iterate 8 exact rfl); omega) | exact zs | fail) ?_
    have hrs : slc ((cod j :: r).reverse.map slideOf) = slc (r.reverse.map slideOf ++ [((a : Int), (b : Int))]) := by rw [List.reverse_cons, List.map_append, ← hs]; rfl
    refine round_next ((par j, cod j :: r)) (⟨hpl, by show (cod j :: r).length + par j ≤ Q.length; rw [List.length_cons]; omega, p2, hl2, by rw [hpe, hp2]; simp⟩) (hpj) (weak_of [(1, 1)] (by repeat first | exact .nil | refine LeEs.cons ?_ ?_ | exact .v (by first | rfl | (exact hrs)) | exact .own rfl rfl rfl rfl rfl | exact .ptr rfl rfl rfl rfl rfl rfl | exact .nil rfl rfl rfl | exact .sl (by first | rfl | (exact hrs)) | exact .both rfl rfl | exact .frz rfl rfl rfl rfl rfl (by first | rfl | (exact hrs)) rfl | exact .tab rfl | exact .any _) (by repeat first | exact .nil | refine LeHs.keep rfl ⟨rfl, rfl, rfl, .inl ⟨rfl, by first | rfl | (exact hrs)⟩⟩ ?_ | refine LeHs.keep rfl ⟨rfl, rfl, rfl, .inr ⟨(by first | exact .inl rfl | exact .inr rfl), by repeat first | exact .nil | refine LeVL.cons ?_ ?_ | exact .v (by first | rfl | (exact hrs)) | exact .own rfl rfl rfl rfl rfl | exact .sl (by first | rfl | (exact hrs)) | exact .both rfl rfl | exact .frz rfl rfl rfl rfl rfl (by first | rfl | (exact hrs)) rfl⟩⟩ ?_ | refine LeHs.fresh rfl rfl rfl (Nat.succ_pos _) rfl ?_) rfl rfl)
  · have hj0 : j = 0 := by
      have e : encM M (qOf Q j) = encM M (qOf Q 0) := by simp at hb; omega
      exact hap j hj e
    subst hj0
    obtain rfl := laid_zero hp'
    have hpr : p = r := by simpa using hpe
    subst hpr
    have hmr : (p.reverse.map slideOf).length = p.length := by simp
    have hrev : (p.reverse.map slideOf).reverse = p.map slideOf := by rw [← List.map_reverse, List.reverse_reverse]
    have hR := reverseS_t (p.reverse.map slideOf) (by have := lim_eq; omega)
    rw [hrev] at hR
    repeat first | refine Ua ?_ | refine Ub ?_ | refine Uc ?_ | refine Ud ?_ | refine Ue ?_ | refine Ug ⟨by kernel_rfl, ?_⟩ | refine Ug ?_ | refine Uh ?_ | refine Ui ?_ | refine Uj ?_ | refine Uk rfl ?_ | refine Ul rfl ?_ | refine Um ?_ | refine Un ?_ | refine Uo ?_ | refine Up rfl ?_ | refine Uq ?_ | refine Ur ?_ | refine Us ?_ | refine Ut ?_ | refine Uu ?_ | refine Ux ?_ | refine Uv rfl rfl rfl rfl ?_ | refine Uw rfl rfl rfl ?_ | refine U0 z0 ?_ | refine U1 (by first | (apply st_turn1 (hfn := hR ); exact rfl; exact rfl; exact mz; iterate 5 exact rfl) | exact z1 | fail) ?_ | refine U9 zs ?_
    exact ⟨.inl rfl, Rx⟩
end Go.Proofs.YtnfjmcenjpoloaaDoor
