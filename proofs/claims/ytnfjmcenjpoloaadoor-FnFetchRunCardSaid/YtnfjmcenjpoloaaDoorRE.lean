/-
  The search of the program: bringSearch, BringBest, BringLeast.
-/
import Derived.Test.YtnfjmcenjpoloaaDoorRC
set_option linter.unusedVariables false
set_option linter.unusedSimpArgs false
set_option maxRecDepth 100000
namespace Go.Proofs.YtnfjmcenjpoloaaDoor
open Go Go.RowKit Go.Park Go.Sym Go.Graph

def nbTo (h : PHall) (k : Nat) : List (List Int) := (List.range k).map fun j => besideF h ((j : Nat) : Int)
theorem nbTo_len (h : PHall) (k : Nat) : (nbTo h k).length = k := by simp [nbTo]
theorem nbTo_succ (h : PHall) (k : Nat) : nbTo h (k + 1) = nbTo h k ++ [besideF h ((k : Nat) : Int)] := by simp [nbTo, List.range_succ]
theorem gl_nbTo {h : PHall} {k j : Nat} (hj : j < k) : gl (nbTo h k) j = besideF h ((j : Nat) : Int) := by simp [gl, nbTo, List.getD, hj]
def fillN (N k : Nat) : List Int := List.replicate k (-1) ++ List.replicate (N - k) 0
theorem fillN_len {N k : Nat} (h : k ≤ N) : (fillN N k).length = N := by simp [fillN]; omega
theorem fillN_zero (N : Nat) : fillN N 0 = List.replicate N 0 := by simp [fillN]
theorem fillN_all (N : Nat) : fillN N N = List.replicate N (-1) := by simp [fillN]
theorem fillN_set {N k : Nat} (h : k < N) : (fillN N k).set k (-1) = fillN N (k + 1) := by
  unfold fillN
  rw [List.set_append_right _ _ (by simp)]
  obtain ⟨m, hm⟩ : ∃ m, N - k = m + 1 := ⟨N - k - 1, by omega⟩
  rw [hm, List.length_replicate, Nat.sub_self, List.replicate_succ, List.set_cons_zero, show N - (k + 1) = m by omega, List.replicate_succ']
  simp
abbrev nbRow (h : PHall) (n : Nat) : Row := ⟨23, 1, 0, true, false, lists 3 (nbTo h n)⟩
abbrev i32Row (zs : List Int) : Row := ⟨21, 1, 0, true, false, i32s zs⟩
/-- the cells beside, one by one -/
structure NbAt (h : PHall) (a j : Nat) (b : Nat) : Prop where
  val : gi (besideF h (a : Int)) j = (b : Int)
  mem : b ∈ nbN h a
  lt : b < h.cells.length
theorem nb_at {h : PHall} (hv : validB h = true) {a j : Nat} (ha : a < h.cells.length) (hj : j < (besideF h (a : Int)).length) : ∃ b, NbAt h a j b := by
  have hm := gi_mem hj
  have hlt := beside_lt hm
  refine ⟨(gi (besideF h (a : Int)) j).toNat, by omega, ?_, by omega⟩
  exact List.mem_map.2 ⟨_, hm, rfl⟩
theorem nb_up {h : PHall} (hv : validB h = true) {a : Nat} (ha : a < h.cells.length) {i j : Nat} (hij : i < j) (hj : j < (besideF h (a : Int)).length) : (gi (besideF h (a : Int)) i).toNat < (gi (besideF h (a : Int)) j).toNat := by
  have h1 := (nb_ok hv).asc a ha
  unfold nbN at h1
  rw [List.pairwise_map, List.pairwise_iff_getElem] at h1
  have := h1 i j (by omega) hj hij
  simpa [gi, List.getD, show i < (besideF h (a : Int)).length by omega, hj] using this
theorem nb_idx {h : PHall} {a b : Nat} (hb : b ∈ nbN h a) : ∃ j, j < (besideF h (a : Int)).length ∧ (gi (besideF h (a : Int)) j).toNat = b := by
  obtain ⟨x, hx, e⟩ := List.mem_map.1 hb
  obtain ⟨j, hj, rfl⟩ := List.mem_iff_getElem.1 hx
  exact ⟨j, hj, by simp [gi, List.getD, hj, e]⟩
/-- where the search stands within the cells beside one -/
structure Mid (h : PHall) (a j K : Nat) : Prop where
  lo : a * 16 ≤ K
  below : ∀ t, t < j → t < (besideF h (a : Int)).length → a * 16 + (gi (besideF h (a : Int)) t).toNat < K
  above : ∀ t, j ≤ t → t < (besideF h (a : Int)).length → K ≤ a * 16 + (gi (besideF h (a : Int)) t).toNat
theorem mid_start (h : PHall) (a : Nat) : Mid h a 0 (a * 16) := ⟨Nat.le_refl _, fun t ht => by omega, fun t _ _ => by omega⟩
theorem Mid.next {h : PHall} (hv : validB h = true) {a j K b : Nat} (ha : a < h.cells.length) (m : Mid h a j K) (hj : j < (besideF h (a : Int)).length) (hb : NbAt h a j b) : Mid h a (j + 1) (a * 16 + b + 1) := by
  have e : (gi (besideF h (a : Int)) j).toNat = b := by rw [hb.val]; simp
  refine ⟨by omega, fun t ht htl => ?_, fun t ht htl => ?_⟩
  · by_cases e1 : t = j
    · subst e1; omega
    · have := nb_up hv ha (i := t) (j := j) (by omega) hj; omega
  · have := nb_up hv ha (i := j) (j := t) (by omega) htl; omega
section
variable {h : PHall} {many : Nat} {s0 : St2} {Q : List St2} {bf : List Int} {i a j K b : Nat}
/-- no move has a code between -/
theorem mid_none (hv : validB h = true) (ha : a < h.cells.length) (m : Mid h a j K) {K' : Nat} (hK : K' ≤ a * 16 + 16) (hj : ∀ t, j ≤ t → t < (besideF h (a : Int)).length → K' ≤ a * 16 + (gi (besideF h (a : Int)) t).toNat) : ∀ s c u, (c, u) ∈ mvW h.cells.length many (nbN h) s → K ≤ c → c < K' → False := by
  intro s c u hm h1 h2
  obtain ⟨_, a', b', mm, rfl⟩ := mem_mvW.1 hm
  have h12 := (valid_len hv).2
  have hb' := ((nb_ok hv).cells a' mm.la b' mm.lb).1
  have hlo := m.lo
  obtain rfl : a' = a := by omega
  obtain ⟨t, ht, e⟩ := nb_idx mm.lb
  rcases Nat.lt_or_ge t j with h3 | h3
  · have := m.below t h3 ht; omega
  · have := hj t h3 ht; omega
theorem look_to (hv : validB h = true) (ha : a < h.cells.length) (L : Look h.cells.length many (nbN h) s0 Q bf i K) (m : Mid h a j K) (hj : j < (besideF h (a : Int)).length) (hb : NbAt h a j b) : Look h.cells.length many (nbN h) s0 Q bf i (a * 16 + b) := by
  have e : (gi (besideF h (a : Int)) j).toNat = b := by rw [hb.val]; simp
  have h1 := m.above j (Nat.le_refl _) hj
  have h12 := (valid_len hv).2
  have hlt := hb.lt
  refine L.skip (by omega) (mid_none hv ha m (by omega) (fun t ht htl => ?_) _)
  rcases Nat.lt_or_eq_of_le ht with h2 | h2
  · have := nb_up hv ha h2 htl; omega
  · subst h2; omega
theorem look_shut (hv : validB h = true) (ha : a < h.cells.length) (L : Look h.cells.length many (nbN h) s0 Q bf i (a * 16 + b)) (hb : (qOf Q i).2.testBit b = false) (hlt : b < h.cells.length) : Look h.cells.length many (nbN h) s0 Q bf i (a * 16 + b + 1) := by
  refine L.skip (by omega) fun c u hm h1 h2 => ?_
  obtain ⟨_, a', b', mm, e⟩ := mem_mvW.1 hm
  have h12 := (valid_len hv).2
  have hb' := ((nb_ok hv).cells a' mm.la b' mm.lb).1
  obtain rfl : a' = a := by omega
  obtain rfl : b' = b := by omega
  have := mm.free
  rw [hb] at this; cases this
theorem look_row (hv : validB h = true) (ha : a < h.cells.length) (L : Look h.cells.length many (nbN h) s0 Q bf i K) (m : Mid h a (besideF h (a : Int)).length K) (hK : K ≤ (a + 1) * 16) : Look h.cells.length many (nbN h) s0 Q bf i ((a + 1) * 16) :=
  L.skip hK (mid_none hv ha m (by omega) (fun t ht htl => by omega) _)
theorem look_car (hv : validB h = true) (L : Look h.cells.length many (nbN h) s0 Q bf i (a * 16)) (hf : (qOf Q i).2.testBit a = true) : Look h.cells.length many (nbN h) s0 Q bf i ((a + 1) * 16) := by
  refine L.skip (by omega) fun c u hm h1 h2 => ?_
  obtain ⟨_, a', b', mm, e⟩ := mem_mvW.1 hm
  have h12 := (valid_len hv).2
  have hb' := ((nb_ok hv).cells a' mm.la b' mm.lb).1
  obtain rfl : a' = a := by omega
  have := mm.hasCar
  rw [hf] at this; cases this
theorem look_done (hv : validB h = true) (L : Look h.cells.length many (nbN h) s0 Q bf i (h.cells.length * 16)) (hc : (qOf Q i).1 ≠ 0) : Look h.cells.length many (nbN h) s0 Q bf (i + 1) 0 := by
  refine L.next (fun c u hm => ?_) hc
  obtain ⟨_, a', b', mm, e⟩ := mem_mvW.1 hm
  have h12 := (valid_len hv).2
  have hb' := ((nb_ok hv).cells a' mm.la b' mm.lb).1
  have := mm.la
  omega
end
theorem and_bit0 {x a : Nat} (hx : x < 2 ^ 63) (ha : a ≤ 62) : andI (x : Int) ((2 ^ a : Nat) : Int) = (if x.testBit a = true then ((2 ^ a : Nat) : Int) else 0) := by
  have h1 : 2 ^ a ≤ 2 ^ 62 := Nat.pow_le_pow_right (by omega) ha
  rw [andN hx (by omega), and_bit]
  split <;> rfl
theorem two_pos (a : Nat) : 0 < 2 ^ a := Nat.pow_pos (by omega)
set_option maxHeartbeats 16000000 in
theorem bringSearch_fn (h : PHall) (hl : h.cells.length ≤ lim) (id : Int) (c : Nat) (hf : hallFindF h id = c) : FnG Tryd.prog 3 bruijn 104 [hallV h, .int (c : Int)] (.tup [slcV (bestAt h c).1, .bool (bestAt h c).2]) := by
  have hw0 := wf_of hf
  obtain ⟨hv, hid0, hcl, hcid⟩ := find_at hf
  have hB := nb_ok hv
  have hn := hB.small
  have hn2 := (valid_len hv).1
  obtain ⟨M, hM⟩ : ∃ M, M = 2 ^ h.cells.length := ⟨_, rfl⟩
  have hM4 : M ≤ 4096 := by rw [hM]; exact pow_le hn
  have hM1 : 1 ≤ M := by rw [hM]; exact two_pos _
  have hcM : c * M ≤ 12 * 4096 := Nat.mul_le_mul (by omega) hM4
  have hnM : h.cells.length * M ≤ 12 * 4096 := Nat.mul_le_mul hn hM4
  have hsh1 : ShlOk (c : Int) (h.cells.length : Int) ((c * M : Nat) : Int) := by rw [hM]; exact shl_nat (by omega) (by rw [← hM]; omega)
  have hsh2 : ShlOk (h.cells.length : Int) (h.cells.length : Int) ((h.cells.length * M : Nat) : Int) := by rw [hM]; exact shl_nat (by omega) (by rw [← hM]; omega)
  refine fng_go2 tabOk Tryd.func104 rfl (by kernel_rfl) Tryd.ntmps104 Tryd.results104 (by decide) ?_
  repeat first | refine Ua ?_ | refine Ub ?_ | refine Uc ?_ | refine Ud ?_ | refine Ue ?_ | refine Ug ⟨by kernel_rfl, ?_⟩ | refine Ug ?_ | refine Uh ?_ | refine Ui ?_ | refine Uj ?_ | refine Uk rfl ?_ | refine Ul rfl ?_ | refine Um ?_ | refine Un ?_ | refine Uo ?_ | refine Up rfl ?_ | refine Uq ?_ | refine Ur ?_ | refine Us ?_ | refine Ut ?_ | refine Uu ?_ | refine Ux ?_ | refine Uv rfl rfl rfl rfl ?_ | refine Uw rfl rfl rfl ?_ | refine U0 (by first | (apply st_shlE; (iterate 3 exact rfl); exact hsh1) | exact z0 | fail) ?_ | refine U1 (by first | (apply st_make_l (t' := 3) tabOk; (iterate 10 exact rfl); (show 24 * _ ≤ _; omega); (unfold maxLen; omega); exact rfl; exact rfl) | exact z1 | fail) ?_ | refine U9 zs ?_
  refine ax_loop (fun k : Nat => mkS [(32, .int (k : Int)), (31, .int (h.cells.length : Int)), (30, intsV h.cells), (2, .ptr 1 0 0), (6, .int (h.cells.length : Int)), (7, .own 2 0), (8, .int ((c * M + setTo h.cells k : Nat) : Int)), tabE] ⟨3, [(1, some (hallRow h)), (2, some ⟨23, 1, 0, true, false, besL 3 (nbTo h k) h.cells.length⟩)]⟩) (fun k => k ≤ h.cells.length) (fun k => h.cells.length - k) (0) (Nat.zero_le _) (Lw (ρ := [])) ?_
  intro k hk
  have hnl := nbTo_len h k
  have hstl := setTo_lt h.cells k
  have hpk := pow_le (n := k) (by omega)
  repeat first | refine Ua ?_ | refine Ub ?_ | refine Uc ?_ | refine Ud ?_ | refine Ue ?_ | refine Ug ⟨by kernel_rfl, ?_⟩ | refine Ug ?_ | refine Uh ?_ | refine Ui ?_ | refine Uj ?_ | refine Uk rfl ?_ | refine Ul rfl ?_ | refine Um ?_ | refine Un ?_ | refine Uo ?_ | refine Up rfl ?_ | refine Uq ?_ | refine Ur ?_ | refine Us ?_ | refine Ut ?_ | refine Uu ?_ | refine Ux ?_ | refine Uv rfl rfl rfl rfl ?_ | refine Uw rfl rfl rfl ?_ | refine U0 z0 ?_ | refine U1 z1 ?_ | refine U9 zs ?_
  refine ax_cond rfl (fun hb => ?_) (fun hb => ?_)
  · have hlt : k < h.cells.length := by simpa using hb
    have hsk := shl_one (a := k) (by omega)
    have e0 : besL 3 (nbTo h (k + 1)) h.cells.length = besL 3 (nbTo h k ++ [besideF h (k : Int)]) h.cells.length := by rw [nbTo_succ]
    repeat first | refine Ua ?_ | refine Ub ?_ | refine Uc ?_ | refine Ud ?_ | refine Ue ?_ | refine Ug ⟨by kernel_rfl, ?_⟩ | refine Ug ?_ | refine Uh ?_ | refine Ui ?_ | refine Uj ?_ | refine Uk rfl ?_ | refine Ul rfl ?_ | refine Um ?_ | refine Un ?_ | refine Uo ?_ | refine Up rfl ?_ | refine Uq ?_ | refine Ur ?_ | refine Us ?_ | refine Ut ?_ | refine Uu ?_ | refine Ux ?_ | refine Uv rfl rfl rfl rfl ?_ | refine Uw rfl rfl rfl ?_ | refine U0 (by first | (apply st_call_f (hfn := cellsBeside_fn h hl (k : Int) ); exact rfl; exact fz) | (apply st_ix_own_l tabOk; (iterate 11 exact rfl); (first | with_reducible exact to0 | with_reducible exact to1 | with_reducible exact to2 | with_reducible exact toC _ | exact rfl); omega) | (apply st_ld_l tabOk; (iterate 7 exact rfl); omega) | (apply st_ix_sl_l tabOk; (iterate 8 exact rfl); (first | with_reducible exact to0 | with_reducible exact to1 | with_reducible exact to2 | with_reducible exact toC _ | exact rfl); omega) | (apply st_ld_ip_l tabOk; (iterate 4 exact rfl); omega) | (apply st_ix_bes tabOk; (iterate 11 exact rfl); (first | with_reducible exact to0 | with_reducible exact to1 | with_reducible exact to2 | with_reducible exact toC _ | exact rfl); omega) | exact z0 | fail) ?_ | refine U1 (by first | (apply st_lit1_l tabOk; (iterate 8 exact rfl)) | (apply st_app_l tabOk; (iterate 22 exact rfl); (first | omega | (simp only [List.length_cons, List.length_nil, List.length_append]; omega))) | exact z1 | fail) ?_ | refine U9 (by first | (apply st_st_bes tabOk; (iterate 8 exact rfl); omega) | exact zs | fail) ?_
    refine ax_cond rfl (fun hb1 => ?_) (fun hb1 => ?_)
    · have h0 : gi h.cells k = 0 := by simpa using hb1
      have hor : orI ((c * M + setTo h.cells k : Nat) : Int) ((2 ^ k : Nat) : Int) = ((c * M + setTo h.cells (k + 1) : Nat) : Int) := by
        have hb2 : (c * M + setTo h.cells k).testBit k = false := by
          have := enc_bit (s := (c, setTo h.cells k)) (n := h.cells.length) hlt (Nat.lt_of_lt_of_le hstl (Nat.pow_le_pow_right (by omega) hk))
          unfold encM at this
          rw [← hM] at this
          simp only at this
          rw [this, setTo_bit]; simp
        rw [orN (by omega) (by omega), or_clear hb2]
        simp only [setTo]
        rw [if_pos h0, Nat.add_assoc]
      repeat first | refine Ua ?_ | refine Ub ?_ | refine Uc ?_ | refine Ud ?_ | refine Ue ?_ | refine Ug ⟨by kernel_rfl, ?_⟩ | refine Ug ?_ | refine Uh ?_ | refine Ui ?_ | refine Uj ?_ | refine Uk rfl ?_ | refine Ul rfl ?_ | refine Um ?_ | refine Un ?_ | refine Uo ?_ | refine Up rfl ?_ | refine Uq ?_ | refine Ur ?_ | refine Us ?_ | refine Ut ?_ | refine Uu ?_ | refine Ux ?_ | refine Uv rfl rfl rfl rfl ?_ | refine Uw rfl rfl rfl ?_ | refine U0 (by first | (apply st_shlE; (iterate 3 exact rfl); exact hsk) | (apply st_orE; (iterate 3 exact rfl); exact hor) | exact z0 | fail) ?_ | refine U1 z1 ?_ | refine U9 zs ?_
      refine round_next (k + 1) (hlt) (by omega) (weak_of [] (by repeat first | exact .nil | refine LeEs.cons ?_ ?_ | exact .v (by first | rfl | (rw [e0])) | exact .own rfl rfl rfl rfl rfl | exact .ptr rfl rfl rfl rfl rfl rfl | exact .nil rfl rfl rfl | exact .sl (by first | rfl | (rw [e0])) | exact .both rfl rfl | exact .frz rfl rfl rfl rfl rfl (by first | rfl | (rw [e0])) rfl | exact .tab rfl | exact .any _) (by repeat first | exact .nil | refine LeHs.keep rfl ⟨rfl, rfl, rfl, .inl ⟨rfl, by first | rfl | (rw [e0])⟩⟩ ?_ | refine LeHs.keep rfl ⟨rfl, rfl, rfl, .inr ⟨(by first | exact .inl rfl | exact .inr rfl), by repeat first | exact .nil | refine LeVL.cons ?_ ?_ | exact .v (by first | rfl | (rw [e0])) | exact .own rfl rfl rfl rfl rfl | exact .sl (by first | rfl | (rw [e0])) | exact .both rfl rfl | exact .frz rfl rfl rfl rfl rfl (by first | rfl | (rw [e0])) rfl⟩⟩ ?_ | refine LeHs.fresh rfl rfl rfl (Nat.succ_pos _) rfl ?_) rfl rfl)
    · have h0 : ¬ gi h.cells k = 0 := by simpa using hb1
      have e1 : ((c * M + setTo h.cells (k + 1) : Nat) : Int) = ((c * M + setTo h.cells k : Nat) : Int) := by simp only [setTo]; rw [if_neg h0]; rfl
      repeat first | refine Ua ?_ | refine Ub ?_ | refine Uc ?_ | refine Ud ?_ | refine Ue ?_ | refine Ug ⟨by kernel_rfl, ?_⟩ | refine Ug ?_ | refine Uh ?_ | refine Ui ?_ | refine Uj ?_ | refine Uk rfl ?_ | refine Ul rfl ?_ | refine Um ?_ | refine Un ?_ | refine Uo ?_ | refine Up rfl ?_ | refine Uq ?_ | refine Ur ?_ | refine Us ?_ | refine Ut ?_ | refine Uu ?_ | refine Ux ?_ | refine Uv rfl rfl rfl rfl ?_ | refine Uw rfl rfl rfl ?_ | refine U0 z0 ?_ | refine U1 z1 ?_ | refine U9 zs ?_
      refine round_next (k + 1) (hlt) (by omega) (weak_of [] (by repeat first | exact .nil | refine LeEs.cons ?_ ?_ | exact .v (by first | rfl | (first | rw [e0] | rw [e1])) | exact .own rfl rfl rfl rfl rfl | exact .ptr rfl rfl rfl rfl rfl rfl | exact .nil rfl rfl rfl | exact .sl (by first | rfl | (first | rw [e0] | rw [e1])) | exact .both rfl rfl | exact .frz rfl rfl rfl rfl rfl (by first | rfl | (first | rw [e0] | rw [e1])) rfl | exact .tab rfl | exact .any _) (by repeat first | exact .nil | refine LeHs.keep rfl ⟨rfl, rfl, rfl, .inl ⟨rfl, by first | rfl | (first | rw [e0] | rw [e1])⟩⟩ ?_ | refine LeHs.keep rfl ⟨rfl, rfl, rfl, .inr ⟨(by first | exact .inl rfl | exact .inr rfl), by repeat first | exact .nil | refine LeVL.cons ?_ ?_ | exact .v (by first | rfl | (first | rw [e0] | rw [e1])) | exact .own rfl rfl rfl rfl rfl | exact .sl (by first | rfl | (first | rw [e0] | rw [e1])) | exact .both rfl rfl | exact .frz rfl rfl rfl rfl rfl (by first | rfl | (first | rw [e0] | rw [e1])) rfl⟩⟩ ?_ | refine LeHs.fresh rfl rfl rfl (Nat.succ_pos _) rfl ?_) rfl rfl)
  · have hkn : k = h.cells.length := by simp at hb; omega
    subst hkn
    have hbe : besL 3 (nbTo h h.cells.length) h.cells.length = lists 3 (nbTo h h.cells.length) := by
      have := besL_end (t := 3) (ls := nbTo h h.cells.length)
      rw [nbTo_len] at this; exact this
    have hnl0 := nbTo_len h h.cells.length
    obtain ⟨s0, hs0⟩ : ∃ s0 : St2, s0 = (c, setN h) := ⟨_, rfl⟩
    have hw0' : Wf h.cells.length (hallFreeF h).length s0 := by rw [hs0]; exact hw0
    have he0 : c * M + setTo h.cells h.cells.length = encM M s0 := by rw [hs0]; rfl
    have hlt0 : encM M s0 < h.cells.length * M := by have := enc_lt (M := M) hw0'.1 (by rw [hM]; exact hw0'.2.1); exact this
    rw [he0]
    repeat first | refine Ua ?_ | refine Ub ?_ | refine Uc ?_ | refine Ud ?_ | refine Ue ?_ | refine Ug ⟨by kernel_rfl, ?_⟩ | refine Ug ?_ | refine Uh ?_ | refine Ui ?_ | refine Uj ?_ | refine Uk rfl ?_ | refine Ul rfl ?_ | refine Um ?_ | refine Un ?_ | refine Uo ?_ | refine Up rfl ?_ | refine Uq ?_ | refine Ur ?_ | refine Us ?_ | refine Ut ?_ | refine Uu ?_ | refine Ux ?_ | refine Uv rfl rfl rfl rfl ?_ | refine Uw rfl rfl rfl ?_ | refine U0 (by first | (apply st_shlE; (iterate 3 exact rfl); exact hsh2) | (apply st_ix_own_4 tabOk; (iterate 11 exact rfl); (first | with_reducible exact to0 | with_reducible exact to1 | with_reducible exact to2 | with_reducible exact toC _ | exact rfl); omega) | (apply st_ld_4 tabOk; (iterate 7 exact rfl); omega) | (apply st_len_own_4 tabOk; (iterate 8 exact rfl)) | exact z0 | fail) ?_ | refine U1 (by first | (apply st_make_4 tabOk; (iterate 10 exact rfl); (show 4 * _ ≤ _; omega); (unfold maxLen; omega); exact rfl; exact rfl) | exact z1 | fail) ?_ | refine U9 (by first | (apply st_st_4 tabOk; (iterate 8 exact rfl); omega) | exact zs | fail) ?_
    refine ax_loop (fun k : Nat => mkS [(56, .int (k : Int)), (55, .int ((h.cells.length * M : Nat) : Int)), (11, .own 3 0), (6, .int (h.cells.length : Int)), (7, .own 2 0), (8, .int ((encM M s0 : Nat) : Int)), tabE] ⟨4, [(2, some (nbRow h h.cells.length)), (3, some (i32Row (fillN (h.cells.length * M) k)))]⟩) (fun k => k ≤ h.cells.length * M) (fun k => h.cells.length * M - k) (0) (Nat.zero_le _) (weak_of [] (by repeat first | exact .nil | refine LeEs.cons ?_ ?_ | exact .v (by first | rfl | (first | exact hbe | exact hbe.symm | rw [fillN_zero] | (simp only [List.length_replicate]))) | exact .own rfl rfl rfl rfl rfl | exact .ptr rfl rfl rfl rfl rfl rfl | exact .nil rfl rfl rfl | exact .sl (by first | rfl | (first | exact hbe | exact hbe.symm | rw [fillN_zero] | (simp only [List.length_replicate]))) | exact .both rfl rfl | exact .frz rfl rfl rfl rfl rfl (by first | rfl | (first | exact hbe | exact hbe.symm | rw [fillN_zero] | (simp only [List.length_replicate]))) rfl | exact .tab rfl | exact .any _) (by repeat first | exact .nil | refine LeHs.keep rfl ⟨rfl, rfl, rfl, .inl ⟨rfl, by first | rfl | (first | exact hbe | exact hbe.symm | rw [fillN_zero] | (simp only [List.length_replicate]))⟩⟩ ?_ | refine LeHs.keep rfl ⟨rfl, rfl, rfl, .inr ⟨(by first | exact .inl rfl | exact .inr rfl), by repeat first | exact .nil | refine LeVL.cons ?_ ?_ | exact .v (by first | rfl | (first | exact hbe | exact hbe.symm | rw [fillN_zero] | (simp only [List.length_replicate]))) | exact .own rfl rfl rfl rfl rfl | exact .sl (by first | rfl | (first | exact hbe | exact hbe.symm | rw [fillN_zero] | (simp only [List.length_replicate]))) | exact .both rfl rfl | exact .frz rfl rfl rfl rfl rfl (by first | rfl | (first | exact hbe | exact hbe.symm | rw [fillN_zero] | (simp only [List.length_replicate]))) rfl⟩⟩ ?_ | refine LeHs.fresh rfl rfl rfl (Nat.succ_pos _) rfl ?_) rfl rfl) ?_
    intro k hk
    have hfl := fillN_len hk
    repeat first | refine Ua ?_ | refine Ub ?_ | refine Uc ?_ | refine Ud ?_ | refine Ue ?_ | refine Ug ⟨by kernel_rfl, ?_⟩ | refine Ug ?_ | refine Uh ?_ | refine Ui ?_ | refine Uj ?_ | refine Uk rfl ?_ | refine Ul rfl ?_ | refine Um ?_ | refine Un ?_ | refine Uo ?_ | refine Up rfl ?_ | refine Uq ?_ | refine Ur ?_ | refine Us ?_ | refine Ut ?_ | refine Uu ?_ | refine Ux ?_ | refine Uv rfl rfl rfl rfl ?_ | refine Uw rfl rfl rfl ?_ | refine U0 z0 ?_ | refine U1 z1 ?_ | refine U9 zs ?_
    refine ax_cond rfl (fun hb2 => ?_) (fun hb2 => ?_)
    · have hlt : k < h.cells.length * M := by simp at hb2; omega
      have hfs : i32s ((fillN (h.cells.length * M) k).set k (-1)) = i32s (fillN (h.cells.length * M) (k + 1)) := by rw [fillN_set hlt]
      repeat first | refine Ua ?_ | refine Ub ?_ | refine Uc ?_ | refine Ud ?_ | refine Ue ?_ | refine Ug ⟨by kernel_rfl, ?_⟩ | refine Ug ?_ | refine Uh ?_ | refine Ui ?_ | refine Uj ?_ | refine Uk rfl ?_ | refine Ul rfl ?_ | refine Um ?_ | refine Un ?_ | refine Uo ?_ | refine Up rfl ?_ | refine Uq ?_ | refine Ur ?_ | refine Us ?_ | refine Ut ?_ | refine Uu ?_ | refine Ux ?_ | refine Uv rfl rfl rfl rfl ?_ | refine Uw rfl rfl rfl ?_ | refine U0 (by first | (apply st_ix_own_4 tabOk; (iterate 11 exact rfl); (first | with_reducible exact to0 | with_reducible exact to1 | with_reducible exact to2 | with_reducible exact toC _ | exact rfl); omega) | (apply st_ld_4 tabOk; (iterate 7 exact rfl); omega) | (apply st_len_own_4 tabOk; (iterate 8 exact rfl)) | exact z0 | fail) ?_ | refine U1 (by first | (apply st_make_4 tabOk; (iterate 10 exact rfl); (show 4 * _ ≤ _; omega); (unfold maxLen; omega); exact rfl; exact rfl) | exact z1 | fail) ?_ | refine U9 (by first | (apply st_st_4 tabOk; (iterate 8 exact rfl); omega) | exact zs | fail) ?_
      refine round_next (k + 1) (hlt) (by omega) (weak_of [] (by repeat first | exact .nil | refine LeEs.cons ?_ ?_ | exact .v (by first | rfl | (first | exact hfs | exact hfs.symm)) | exact .own rfl rfl rfl rfl rfl | exact .ptr rfl rfl rfl rfl rfl rfl | exact .nil rfl rfl rfl | exact .sl (by first | rfl | (first | exact hfs | exact hfs.symm)) | exact .both rfl rfl | exact .frz rfl rfl rfl rfl rfl (by first | rfl | (first | exact hfs | exact hfs.symm)) rfl | exact .tab rfl | exact .any _) (by repeat first | exact .nil | refine LeHs.keep rfl ⟨rfl, rfl, rfl, .inl ⟨rfl, by first | rfl | (first | exact hfs | exact hfs.symm)⟩⟩ ?_ | refine LeHs.keep rfl ⟨rfl, rfl, rfl, .inr ⟨(by first | exact .inl rfl | exact .inr rfl), by repeat first | exact .nil | refine LeVL.cons ?_ ?_ | exact .v (by first | rfl | (first | exact hfs | exact hfs.symm)) | exact .own rfl rfl rfl rfl rfl | exact .sl (by first | rfl | (first | exact hfs | exact hfs.symm)) | exact .both rfl rfl | exact .frz rfl rfl rfl rfl rfl (by first | rfl | (first | exact hfs | exact hfs.symm)) rfl⟩⟩ ?_ | refine LeHs.fresh rfl rfl rfl (Nat.succ_pos _) rfl ?_) rfl rfl)
    have hkN : k = h.cells.length * M := by simp at hb2; omega
    subst hkN
    have hfa : i32s ((List.replicate (h.cells.length * M) (-1)).set (encM M s0) ((encM M s0 : Nat) : Int)) = i32s ((fillN (h.cells.length * M) (h.cells.length * M)).set (encM M s0) ((encM M s0 : Nat) : Int)) := by rw [fillN_all]
    have L0 := look_start (B := nbN h) hw0'
    rw [← hM] at L0
    repeat first | refine Ua ?_ | refine Ub ?_ | refine Uc ?_ | refine Ud ?_ | refine Ue ?_ | refine Ug ⟨by kernel_rfl, ?_⟩ | refine Ug ?_ | refine Uh ?_ | refine Ui ?_ | refine Uj ?_ | refine Uk rfl ?_ | refine Ul rfl ?_ | refine Um ?_ | refine Un ?_ | refine Uo ?_ | refine Up rfl ?_ | refine Uq ?_ | refine Ur ?_ | refine Us ?_ | refine Ut ?_ | refine Uu ?_ | refine Ux ?_ | refine Uv rfl rfl rfl rfl ?_ | refine Uw rfl rfl rfl ?_ | refine U0 (by first | (apply st_ix_own_4 tabOk; (iterate 11 exact rfl); (first | with_reducible exact to0 | with_reducible exact to1 | with_reducible exact to2 | with_reducible exact toC _ | exact rfl); omega) | (apply st_ld_4 tabOk; (iterate 7 exact rfl); omega) | (apply st_len_own_4 tabOk; (iterate 8 exact rfl)) | exact z0 | fail) ?_ | refine U1 (by first | (apply st_make_4 tabOk; (iterate 10 exact rfl); (show 4 * _ ≤ _; omega); (unfold maxLen; omega); exact rfl; exact rfl) | exact z1 | fail) ?_ | refine U9 (by first | (apply st_st_4 tabOk; (iterate 8 exact rfl); omega) | exact zs | fail) ?_
    refine ax_loop (fun i : List St2 × List Int × Nat => mkS [(14, .int (i.2.2 : Int)), (13, .own 4 0), (11, .own 3 0), (8, .int ((encM M s0 : Nat) : Int)), (6, .int (h.cells.length : Int)), (7, .own 2 0), tabE] ⟨5, [(2, some (nbRow h h.cells.length)), (3, some (i32Row i.2.1)), (4, some (intsRow (encs M i.1)))]⟩) (fun i => Look h.cells.length (hallFreeF h).length (nbN h) s0 i.1 i.2.1 i.2.2 0 ∧ i.2.2 ≤ i.1.length) (fun i => h.cells.length * M - i.2.2) (([s0], (List.replicate (h.cells.length * M) (-1)).set (encM M s0) ((encM M s0 : Nat) : Int), 0)) (⟨L0, Nat.zero_le _⟩) (weak_of [] (by repeat first | exact .nil | refine LeEs.cons ?_ ?_ | exact .v (by first | rfl | (first | exact hfa | exact hfa.symm)) | exact .own rfl rfl rfl rfl rfl | exact .ptr rfl rfl rfl rfl rfl rfl | exact .nil rfl rfl rfl | exact .sl (by first | rfl | (first | exact hfa | exact hfa.symm)) | exact .both rfl rfl | exact .frz rfl rfl rfl rfl rfl (by first | rfl | (first | exact hfa | exact hfa.symm)) rfl | exact .tab rfl | exact .any _) (by repeat first | exact .nil | refine LeHs.keep rfl ⟨rfl, rfl, rfl, .inl ⟨rfl, by first | rfl | (first | exact hfa | exact hfa.symm)⟩⟩ ?_ | refine LeHs.keep rfl ⟨rfl, rfl, rfl, .inr ⟨(by first | exact .inl rfl | exact .inr rfl), by repeat first | exact .nil | refine LeVL.cons ?_ ?_ | exact .v (by first | rfl | (first | exact hfa | exact hfa.symm)) | exact .own rfl rfl rfl rfl rfl | exact .sl (by first | rfl | (first | exact hfa | exact hfa.symm)) | exact .both rfl rfl | exact .frz rfl rfl rfl rfl rfl (by first | rfl | (first | exact hfa | exact hfa.symm)) rfl⟩⟩ ?_ | refine LeHs.fresh rfl rfl rfl (Nat.succ_pos _) rfl ?_) rfl rfl) ?_
    rintro ⟨Q, bf, i⟩ ⟨L, hi⟩
    dsimp only at L hi ⊢
    have hbl := L.len
    have hQl := L.le
    rw [← hM] at hbl hQl
    have hel := encs_len M Q
    repeat first | refine Ua ?_ | refine Ub ?_ | refine Uc ?_ | refine Ud ?_ | refine Ue ?_ | refine Ug ⟨by kernel_rfl, ?_⟩ | refine Ug ?_ | refine Uh ?_ | refine Ui ?_ | refine Uj ?_ | refine Uk rfl ?_ | refine Ul rfl ?_ | refine Um ?_ | refine Un ?_ | refine Uo ?_ | refine Up rfl ?_ | refine Uq ?_ | refine Ur ?_ | refine Us ?_ | refine Ut ?_ | refine Uu ?_ | refine Ux ?_ | refine Uv rfl rfl rfl rfl ?_ | refine Uw rfl rfl rfl ?_ | refine U0 z0 ?_ | refine U1 z1 ?_ | refine U9 zs ?_
    refine ax_cond rfl (fun hb3 => ?_) (fun hb3 => ?_)
    · have hlt : i < Q.length := by simp at hb3; omega
      have hw := L.wf hlt
      have hhome := L.home
      obtain ⟨s, hs⟩ : ∃ s, s = qOf Q i := ⟨_, rfl⟩
      rw [← hs] at hw
      have hs2 : s.2 < M := by rw [hM]; exact hw.2.1
      have he := enc_lt (M := M) hw.1 hs2
      have hshr : ShrOk ((encM M s : Nat) : Int) (h.cells.length : Int) ((s.1 : Nat) : Int) := by
        have := shr_nat (x := encM M s) (a := h.cells.length) (by omega)
        rw [← hM, enc_div hs2] at this; exact this
      have hgq : gi (encs M Q) i = ((encM M s : Nat) : Int) := by rw [gi_encs hlt, hs]
      repeat first | refine Ua ?_ | refine Ub ?_ | refine Uc ?_ | refine Ud ?_ | refine Ue ?_ | refine Ug ⟨by kernel_rfl, ?_⟩ | refine Ug ?_ | refine Uh ?_ | refine Ui ?_ | refine Uj ?_ | refine Uk rfl ?_ | refine Ul rfl ?_ | refine Um ?_ | refine Un ?_ | refine Uo ?_ | refine Up rfl ?_ | refine Uq ?_ | refine Ur ?_ | refine Us ?_ | refine Ut ?_ | refine Uu ?_ | refine Ux ?_ | refine Uv rfl rfl rfl rfl ?_ | refine Uw rfl rfl rfl ?_ | refine U0 (by first | (apply st_ld_intsE tabOk; (iterate 7 exact rfl); omega; exact hgq) | (apply st_shrE; (iterate 3 exact rfl); exact hshr) | exact z0 | fail) ?_ | refine U1 z1 ?_ | refine U9 zs ?_
      refine ax_cond rfl (fun hb4 => ?_) (fun hb4 => ?_)
      · have hc0 : s.1 = 0 := by simp at hb4; omega
        obtain ⟨par, cod, p, hbest, hlaid, htr⟩ := L.found hB hlt (by rw [← hs]; exact hc0)
        have hS := slidesTo_fn hB htr L.len L.le hlt hlaid
        rw [hhome, ← hs, ← hM] at hS
        have hA : bestAt h c = (p.map slideOf, true) := bestAt_some (by rw [← hs0]; exact bestP_some hB hbest)
        rw [hA]
        repeat first | refine Ua ?_ | refine Ub ?_ | refine Uc ?_ | refine Ud ?_ | refine Ue ?_ | refine Ug ⟨by kernel_rfl, ?_⟩ | refine Ug ?_ | refine Uh ?_ | refine Ui ?_ | refine Uj ?_ | refine Uk rfl ?_ | refine Ul rfl ?_ | refine Um ?_ | refine Un ?_ | refine Uo ?_ | refine Up rfl ?_ | refine Uq ?_ | refine Ur ?_ | refine Us ?_ | refine Ut ?_ | refine Uu ?_ | refine Ux ?_ | refine Uv rfl rfl rfl rfl ?_ | refine Uw rfl rfl rfl ?_ | refine U0 z0 ?_ | refine U1 (by first | (apply st_callg_s (hfn := hS ); exact rfl; exact fz; iterate 3 exact rfl) | exact z1 | fail) ?_ | refine U9 zs ?_
        exact ⟨.inl rfl, Rx⟩
      · have hc0 : s.1 ≠ 0 := by simp at hb4; omega
        repeat first | refine Ua ?_ | refine Ub ?_ | refine Uc ?_ | refine Ud ?_ | refine Ue ?_ | refine Ug ⟨by kernel_rfl, ?_⟩ | refine Ug ?_ | refine Uh ?_ | refine Ui ?_ | refine Uj ?_ | refine Uk rfl ?_ | refine Ul rfl ?_ | refine Um ?_ | refine Un ?_ | refine Uo ?_ | refine Up rfl ?_ | refine Uq ?_ | refine Ur ?_ | refine Us ?_ | refine Ut ?_ | refine Uu ?_ | refine Ux ?_ | refine Uv rfl rfl rfl rfl ?_ | refine Uw rfl rfl rfl ?_ | refine U0 z0 ?_ | refine U1 z1 ?_ | refine U9 zs ?_
        refine ax_loop (fun i3 : List St2 × List Int × Nat => mkS [(91, .int (i3.2.2 : Int)), (90, .int (h.cells.length : Int)), (16, .int ((s.1 : Nat) : Int)), (15, .int ((encM M s : Nat) : Int)), (14, .int (i : Int)), (13, .own 4 0), (11, .own 3 0), (8, .int ((encM M s0 : Nat) : Int)), (6, .int (h.cells.length : Int)), (7, .own 2 0), tabE] ⟨5, [(2, some (nbRow h h.cells.length)), (3, some (i32Row i3.2.1)), (4, some (intsRow (encs M i3.1)))]⟩) (fun i3 => Look h.cells.length (hallFreeF h).length (nbN h) s0 i3.1 i3.2.1 i (i3.2.2 * 16) ∧ i3.2.2 ≤ h.cells.length ∧ i < i3.1.length ∧ qOf i3.1 i = s) (fun i3 => h.cells.length - i3.2.2) ((Q, bf, 0)) (⟨L, Nat.zero_le _, hlt, hs.symm⟩) (Lw (ρ := [])) ?_
        rintro ⟨Q1, bf1, f⟩ ⟨L1, hf1, hi1, hs1⟩
        dsimp only at L1 hf1 hi1 hs1 ⊢
        have hel1 := encs_len M Q1
        repeat first | refine Ua ?_ | refine Ub ?_ | refine Uc ?_ | refine Ud ?_ | refine Ue ?_ | refine Ug ⟨by kernel_rfl, ?_⟩ | refine Ug ?_ | refine Uh ?_ | refine Ui ?_ | refine Uj ?_ | refine Uk rfl ?_ | refine Ul rfl ?_ | refine Um ?_ | refine Un ?_ | refine Uo ?_ | refine Up rfl ?_ | refine Uq ?_ | refine Ur ?_ | refine Us ?_ | refine Ut ?_ | refine Uu ?_ | refine Ux ?_ | refine Uv rfl rfl rfl rfl ?_ | refine Uw rfl rfl rfl ?_ | refine U0 z0 ?_ | refine U1 z1 ?_ | refine U9 zs ?_
        refine ax_cond rfl (fun hb5 => ?_) (fun hb5 => ?_)
        · have hflt : f < h.cells.length := by simp at hb5; omega
          have hsf := shl_one (a := f) (by omega)
          have hpf := two_pos f
          have hpf2 := pow_le (n := f) (by omega)
          have hand := and_bit0 (x := encM M s) (a := f) (by omega) (by omega)
          have hbf : (encM M s).testBit f = s.2.testBit f := by rw [hM]; exact enc_bit hflt hw.2.1
          rw [hbf] at hand
          by_cases hbit : s.2.testBit f = true
          · rw [if_pos hbit] at hand
            repeat first | refine Ua ?_ | refine Ub ?_ | refine Uc ?_ | refine Ud ?_ | refine Ue ?_ | refine Ug ⟨by kernel_rfl, ?_⟩ | refine Ug ?_ | refine Uh ?_ | refine Ui ?_ | refine Uj ?_ | refine Uk rfl ?_ | refine Ul rfl ?_ | refine Um ?_ | refine Un ?_ | refine Uo ?_ | refine Up rfl ?_ | refine Uq ?_ | refine Ur ?_ | refine Us ?_ | refine Ut ?_ | refine Uu ?_ | refine Ux ?_ | refine Uv rfl rfl rfl rfl ?_ | refine Uw rfl rfl rfl ?_ | refine U0 (by first | (apply st_shlE; (iterate 3 exact rfl); exact hsf) | (apply st_andE; (iterate 3 exact rfl); exact hand) | exact z0 | fail) ?_ | refine U1 z1 ?_ | refine U9 zs ?_
            refine ax_cond rfl (fun hb6 => ?_) (fun hb6 => ?_)
            · skip
              repeat first | refine Ua ?_ | refine Ub ?_ | refine Uc ?_ | refine Ud ?_ | refine Ue ?_ | refine Ug ⟨by kernel_rfl, ?_⟩ | refine Ug ?_ | refine Uh ?_ | refine Ui ?_ | refine Uj ?_ | refine Uk rfl ?_ | refine Ul rfl ?_ | refine Um ?_ | refine Un ?_ | refine Uo ?_ | refine Up rfl ?_ | refine Uq ?_ | refine Ur ?_ | refine Us ?_ | refine Ut ?_ | refine Uu ?_ | refine Ux ?_ | refine Uv rfl rfl rfl rfl ?_ | refine Uw rfl rfl rfl ?_ | refine U0 z0 ?_ | refine U1 z1 ?_ | refine U9 zs ?_
              refine round_next ((Q1, bf1, f + 1)) (⟨look_car hv L1 (by rw [hs1]; exact hbit), hflt, hi1, hs1⟩) ((by show h.cells.length - (f + 1) < h.cells.length - f; omega)) (Lw (ρ := []))
            · exfalso
              have : ((2 ^ f : Nat) : Int) = 0 := by simpa using hb6
              omega
          · rw [if_neg hbit] at hand
            have hbit' : s.2.testBit f = false := by simpa using hbit
            have hgl := gl_nbTo (h := h) hflt
            have hbsl := beside_small (h := h) (f : Int)
            repeat first | refine Ua ?_ | refine Ub ?_ | refine Uc ?_ | refine Ud ?_ | refine Ue ?_ | refine Ug ⟨by kernel_rfl, ?_⟩ | refine Ug ?_ | refine Uh ?_ | refine Ui ?_ | refine Uj ?_ | refine Uk rfl ?_ | refine Ul rfl ?_ | refine Um ?_ | refine Un ?_ | refine Uo ?_ | refine Up rfl ?_ | refine Uq ?_ | refine Ur ?_ | refine Us ?_ | refine Ut ?_ | refine Uu ?_ | refine Ux ?_ | refine Uv rfl rfl rfl rfl ?_ | refine Uw rfl rfl rfl ?_ | refine U0 (by first | (apply st_shlE; (iterate 3 exact rfl); exact hsf) | (apply st_andE; (iterate 3 exact rfl); exact hand) | (apply st_ld_lE tabOk; (iterate 7 exact rfl); omega; exact hgl) | (apply st_ix_own_l tabOk; (iterate 11 exact rfl); (first | with_reducible exact to0 | with_reducible exact to1 | with_reducible exact to2 | with_reducible exact toC _ | exact rfl); omega) | (apply st_ld_l tabOk; (iterate 7 exact rfl); omega) | (apply st_ix_sl_l tabOk; (iterate 8 exact rfl); (first | with_reducible exact to0 | with_reducible exact to1 | with_reducible exact to2 | with_reducible exact toC _ | exact rfl); omega) | (apply st_ld_ip_l tabOk; (iterate 4 exact rfl); omega) | (apply st_ix_bes tabOk; (iterate 11 exact rfl); (first | with_reducible exact to0 | with_reducible exact to1 | with_reducible exact to2 | with_reducible exact toC _ | exact rfl); omega) | exact z0 | fail) ?_ | refine U1 (by first | (apply st_lit1_l tabOk; (iterate 8 exact rfl)) | (apply st_app_l tabOk; (iterate 22 exact rfl); (first | omega | (simp only [List.length_cons, List.length_nil, List.length_append]; omega))) | exact z1 | fail) ?_ | refine U9 (by first | (apply st_st_bes tabOk; (iterate 8 exact rfl); omega) | exact zs | fail) ?_
            refine ax_loop (fun i4 : List St2 × List Int × Nat × Nat => mkS [(104, .int (i4.2.2.1 : Int)), (103, .int ((besideF h (f : Int)).length : Int)), (102, intsV (besideF h (f : Int))), (17, .int (f : Int)), (91, .int (f : Int)), (90, .int (h.cells.length : Int)), (16, .int ((s.1 : Nat) : Int)), (15, .int ((encM M s : Nat) : Int)), (14, .int (i : Int)), (13, .own 4 0), (11, .own 3 0), (8, .int ((encM M s0 : Nat) : Int)), (6, .int (h.cells.length : Int)), (7, .own 2 0), tabE] ⟨5, [(2, some (nbRow h h.cells.length)), (3, some (i32Row i4.2.1)), (4, some (intsRow (encs M i4.1)))]⟩) (fun i4 => Look h.cells.length (hallFreeF h).length (nbN h) s0 i4.1 i4.2.1 i i4.2.2.2 ∧ Mid h f i4.2.2.1 i4.2.2.2 ∧ i4.2.2.1 ≤ (besideF h (f : Int)).length ∧ i4.2.2.2 ≤ (f + 1) * 16 ∧ i < i4.1.length ∧ qOf i4.1 i = s) (fun i4 => (besideF h (f : Int)).length - i4.2.2.1) ((Q1, bf1, 0, f * 16)) (⟨L1, mid_start h f, Nat.zero_le _, by show f * 16 ≤ (f + 1) * 16; omega, hi1, hs1⟩) (Lw (ρ := [])) ?_
            rintro ⟨Q2, bf2, j, K⟩ ⟨L2, hmid, hj, hK, hi2, hs2'⟩
            dsimp only at L2 hmid hj hK hi2 hs2' ⊢
            have hel2 := encs_len M Q2
            have hbl2 := L2.len
            have hQl2 := L2.le
            rw [← hM] at hbl2 hQl2
            repeat first | refine Ua ?_ | refine Ub ?_ | refine Uc ?_ | refine Ud ?_ | refine Ue ?_ | refine Ug ⟨by kernel_rfl, ?_⟩ | refine Ug ?_ | refine Uh ?_ | refine Ui ?_ | refine Uj ?_ | refine Uk rfl ?_ | refine Ul rfl ?_ | refine Um ?_ | refine Un ?_ | refine Uo ?_ | refine Up rfl ?_ | refine Uq ?_ | refine Ur ?_ | refine Us ?_ | refine Ut ?_ | refine Uu ?_ | refine Ux ?_ | refine Uv rfl rfl rfl rfl ?_ | refine Uw rfl rfl rfl ?_ | refine U0 z0 ?_ | refine U1 z1 ?_ | refine U9 zs ?_
            refine ax_cond rfl (fun hb7 => ?_) (fun hb7 => ?_)
            · have hjlt : j < (besideF h (f : Int)).length := by simp at hb7; omega
              obtain ⟨b, hb⟩ := nb_at hv hflt hjlt
              have hblt := hb.lt
              have Lk := look_to hv hflt L2 hmid hjlt hb
              have hmn := hmid.next hv hflt hjlt hb
              have hsb := shl_one (a := b) (by omega)
              have hpb := two_pos b
              have hpb2 := pow_le (n := b) (by omega)
              have hval := hb.val
              have handb := and_bit0 (x := encM M s) (a := b) (by omega) (by omega)
              have hbb : (encM M s).testBit b = s.2.testBit b := by rw [hM]; exact enc_bit hblt hw.2.1
              rw [hbb] at handb
              by_cases hfree : s.2.testBit b = true
              · rw [if_pos hfree] at handb
                obtain ⟨u, hu⟩ : ∃ u : St2, u = (if s.1 = f then b else s.1, s.2 + 2 ^ f - 2 ^ b) := ⟨_, rfl⟩
                have mv : IsMv h.cells.length (nbN h) s f b u := ⟨hflt, hb.mem, hbit', hfree, hu⟩
                have hwu := mv.wf hB hw
                have heu := enc_lt (M := M) hwu.1 (by rw [hM]; exact hwu.2.1)
                have hx := mv_xor hB hw.2.1 mv
                have hto := mv_to (M := M) mv
                rw [← hM] at hx
                have heu2 : encM M (s.1, u.2) < h.cells.length * M := enc_lt (M := M) hw.1 (by rw [hM]; exact hwu.2.1)
                have hstep := Lk.step hB hi2 (by rw [hs2']; exact mv) rfl
                rw [hs2', ← hM] at hstep
                have hxl : encM M s ^^^ 2 ^ f < 2 ^ 63 := Nat.xor_lt_two_pow (by omega) (by omega)
                have hx1 : xorI ((encM M s : Nat) : Int) ((2 ^ f : Nat) : Int) = ((encM M s ^^^ 2 ^ f : Nat) : Int) := xorN (by omega) (by omega)
                have hx2 : xorI ((encM M s ^^^ 2 ^ f : Nat) : Int) ((2 ^ b : Nat) : Int) = ((encM M (s.1, u.2) : Nat) : Int) := by rw [xorN hxl (by omega), hx]
                have hshm : ShlOk ((b : Int) - (f : Int)) (h.cells.length : Int) (((b : Int) - (f : Int)) * (M : Int)) := by rw [hM]; exact shl_int hn (by omega)
                repeat first | refine Ua ?_ | refine Ub ?_ | refine Uc ?_ | refine Ud ?_ | refine Ue ?_ | refine Ug ⟨by kernel_rfl, ?_⟩ | refine Ug ?_ | refine Uh ?_ | refine Ui ?_ | refine Uj ?_ | refine Uk rfl ?_ | refine Ul rfl ?_ | refine Um ?_ | refine Un ?_ | refine Uo ?_ | refine Up rfl ?_ | refine Uq ?_ | refine Ur ?_ | refine Us ?_ | refine Ut ?_ | refine Uu ?_ | refine Ux ?_ | refine Uv rfl rfl rfl rfl ?_ | refine Uw rfl rfl rfl ?_ | refine U0 (by first | (apply st_ld_ipE tabOk; (iterate 4 exact rfl); omega; exact hval) | (apply st_shlE; (iterate 3 exact rfl); exact hsb) | (apply st_andE; (iterate 3 exact rfl); exact handb) | exact z0 | fail) ?_ | refine U1 z1 ?_ | refine U9 zs ?_
                refine ax_cond rfl (fun hb8 => ?_) (fun hb8 => ?_)
                · exfalso
                  have : ((2 ^ b : Nat) : Int) = 0 := by simpa using hb8
                  omega
                repeat first | refine Ua ?_ | refine Ub ?_ | refine Uc ?_ | refine Ud ?_ | refine Ue ?_ | refine Ug ⟨by kernel_rfl, ?_⟩ | refine Ug ?_ | refine Uh ?_ | refine Ui ?_ | refine Uj ?_ | refine Uk rfl ?_ | refine Ul rfl ?_ | refine Um ?_ | refine Un ?_ | refine Uo ?_ | refine Up rfl ?_ | refine Uq ?_ | refine Ur ?_ | refine Us ?_ | refine Ut ?_ | refine Uu ?_ | refine Ux ?_ | refine Uv rfl rfl rfl rfl ?_ | refine Uw rfl rfl rfl ?_ | refine U0 (by first | (apply st_shlE; (iterate 3 exact rfl); first | exact hsf | exact hsb) | (apply st_xorE; (iterate 3 exact rfl); first | exact hx1 | exact hx2) | exact z0 | fail) ?_ | refine U1 z1 ?_ | refine U9 zs ?_
                refine ax_meet (mkS [(20, .int ((encM M u : Nat) : Int)), (19, .int (b : Int)), (104, .int (j : Int)), (103, .int ((besideF h (f : Int)).length : Int)), (102, intsV (besideF h (f : Int))), (17, .int (f : Int)), (91, .int (f : Int)), (90, .int (h.cells.length : Int)), (16, .int ((s.1 : Nat) : Int)), (15, .int ((encM M s : Nat) : Int)), (14, .int (i : Int)), (13, .own 4 0), (11, .own 3 0), (8, .int ((encM M s0 : Nat) : Int)), (6, .int (h.cells.length : Int)), (7, .own 2 0), tabE] ⟨5, [(2, some (nbRow h h.cells.length)), (3, some (i32Row bf2)), (4, some (intsRow (encs M Q2)))]⟩) ?_ ?_
                · refine ax_cond rfl (fun hb9 => ?_) (fun hb9 => ?_)
                  · have hfs : f = s.1 := by simp at hb9; omega
                    have hsum : ((encM M (s.1, u.2) : Nat) : Int) + ((b : Int) - (f : Int)) * (M : Int) = ((encM M u : Nat) : Int) := by rw [hto, if_pos hfs]
                    repeat first | refine Ua ?_ | refine Ub ?_ | refine Uc ?_ | refine Ud ?_ | refine Ue ?_ | refine Ug ⟨by kernel_rfl, ?_⟩ | refine Ug ?_ | refine Uh ?_ | refine Ui ?_ | refine Uj ?_ | refine Uk rfl ?_ | refine Ul rfl ?_ | refine Um ?_ | refine Un ?_ | refine Uo ?_ | refine Up rfl ?_ | refine Uq ?_ | refine Ur ?_ | refine Us ?_ | refine Ut ?_ | refine Uu ?_ | refine Ux ?_ | refine Uv rfl rfl rfl rfl ?_ | refine Uw rfl rfl rfl ?_ | refine U0 (by first | (apply st_shlE; (iterate 3 exact rfl); exact hshm) | (apply st_add; (iterate 3 exact rfl); exact hsum; omega) | exact z0 | fail) ?_ | refine U1 z1 ?_ | refine U9 zs ?_
                    refine meet_here (Lw (ρ := []))
                  · have hfs : ¬ f = s.1 := by simp at hb9; omega
                    have hsum : ((encM M u : Nat) : Int) = ((encM M (s.1, u.2) : Nat) : Int) := by rw [hto, if_neg hfs]; simp
                    repeat first | refine Ua ?_ | refine Ub ?_ | refine Uc ?_ | refine Ud ?_ | refine Ue ?_ | refine Ug ⟨by kernel_rfl, ?_⟩ | refine Ug ?_ | refine Uh ?_ | refine Ui ?_ | refine Uj ?_ | refine Uk rfl ?_ | refine Ul rfl ?_ | refine Um ?_ | refine Un ?_ | refine Uo ?_ | refine Up rfl ?_ | refine Uq ?_ | refine Ur ?_ | refine Us ?_ | refine Ut ?_ | refine Uu ?_ | refine Ux ?_ | refine Uv rfl rfl rfl rfl ?_ | refine Uw rfl rfl rfl ?_ | refine U0 z0 ?_ | refine U1 z1 ?_ | refine U9 zs ?_
                    refine meet_here (weak_of [] (by repeat first | exact .nil | refine LeEs.cons ?_ ?_ | exact .v (by first | rfl | (first | rw [hsum] | exact congrArg _ hsum)) | exact .own rfl rfl rfl rfl rfl | exact .ptr rfl rfl rfl rfl rfl rfl | exact .nil rfl rfl rfl | exact .sl (by first | rfl | (first | rw [hsum] | exact congrArg _ hsum)) | exact .both rfl rfl | exact .frz rfl rfl rfl rfl rfl (by first | rfl | (first | rw [hsum] | exact congrArg _ hsum)) rfl | exact .tab rfl | exact .any _) (by repeat first | exact .nil | refine LeHs.keep rfl ⟨rfl, rfl, rfl, .inl ⟨rfl, by first | rfl | (first | rw [hsum] | exact congrArg _ hsum)⟩⟩ ?_ | refine LeHs.keep rfl ⟨rfl, rfl, rfl, .inr ⟨(by first | exact .inl rfl | exact .inr rfl), by repeat first | exact .nil | refine LeVL.cons ?_ ?_ | exact .v (by first | rfl | (first | rw [hsum] | exact congrArg _ hsum)) | exact .own rfl rfl rfl rfl rfl | exact .sl (by first | rfl | (first | rw [hsum] | exact congrArg _ hsum)) | exact .both rfl rfl | exact .frz rfl rfl rfl rfl rfl (by first | rfl | (first | rw [hsum] | exact congrArg _ hsum)) rfl⟩⟩ ?_ | refine LeHs.fresh rfl rfl rfl (Nat.succ_pos _) rfl ?_) rfl rfl)
                repeat first | refine Ua ?_ | refine Ub ?_ | refine Uc ?_ | refine Ud ?_ | refine Ue ?_ | refine Ug ⟨by kernel_rfl, ?_⟩ | refine Ug ?_ | refine Uh ?_ | refine Ui ?_ | refine Uj ?_ | refine Uk rfl ?_ | refine Ul rfl ?_ | refine Um ?_ | refine Un ?_ | refine Uo ?_ | refine Up rfl ?_ | refine Uq ?_ | refine Ur ?_ | refine Us ?_ | refine Ut ?_ | refine Uu ?_ | refine Ux ?_ | refine Uv rfl rfl rfl rfl ?_ | refine Uw rfl rfl rfl ?_ | refine U0 (by first | (apply st_ix_own_4 tabOk; (iterate 11 exact rfl); (first | with_reducible exact to0 | with_reducible exact to1 | with_reducible exact to2 | with_reducible exact toC _ | exact rfl); omega) | (apply st_ld_4 tabOk; (iterate 7 exact rfl); omega) | (apply st_len_own_4 tabOk; (iterate 8 exact rfl)) | exact z0 | fail) ?_ | refine U1 (by first | (apply st_make_4 tabOk; (iterate 10 exact rfl); (show 4 * _ ≤ _; omega); (unfold maxLen; omega); exact rfl; exact rfl) | exact z1 | fail) ?_ | refine U9 (by first | (apply st_st_4 tabOk; (iterate 8 exact rfl); omega) | exact zs | fail) ?_
                refine ax_cond rfl (fun hb10 => ?_) (fun hb10 => ?_)
                · have hnew : gI bf2 (encM M u) < 0 := by show gi bf2 (encM M u) < 0; simpa using hb10
                  have hqs : ints (encs M (Q2 ++ [u])) = ints (encs M Q2 ++ [((encM M u : Nat) : Int)]) := by rw [encs_app]
                  repeat first | refine Ua ?_ | refine Ub ?_ | refine Uc ?_ | refine Ud ?_ | refine Ue ?_ | refine Ug ⟨by kernel_rfl, ?_⟩ | refine Ug ?_ | refine Uh ?_ | refine Ui ?_ | refine Uj ?_ | refine Uk rfl ?_ | refine Ul rfl ?_ | refine Um ?_ | refine Un ?_ | refine Uo ?_ | refine Up rfl ?_ | refine Uq ?_ | refine Ur ?_ | refine Us ?_ | refine Ut ?_ | refine Uu ?_ | refine Ux ?_ | refine Uv rfl rfl rfl rfl ?_ | refine Uw rfl rfl rfl ?_ | refine U0 (by first | (apply st_ix_own_4 tabOk; (iterate 11 exact rfl); (first | with_reducible exact to0 | with_reducible exact to1 | with_reducible exact to2 | with_reducible exact toC _ | exact rfl); omega) | (apply st_ld_4 tabOk; (iterate 7 exact rfl); omega) | (apply st_len_own_4 tabOk; (iterate 8 exact rfl)) | exact z0 | fail) ?_ | refine U1 (by first | (apply st_make_4 tabOk; (iterate 10 exact rfl); (show 4 * _ ≤ _; omega); (unfold maxLen; omega); exact rfl; exact rfl) | exact z1 | fail) ?_ | refine U9 (by first | (apply st_st_4 tabOk; (iterate 8 exact rfl); omega) | exact zs | fail) ?_
                  refine round_next ((Q2 ++ [u], bf2.set (encM M u) ((encM M s : Nat) : Int), j + 1, f * 16 + b + 1)) (⟨hstep.1 hnew, hmn, hjlt, by show f * 16 + b + 1 ≤ (f + 1) * 16; omega, by show i < (Q2 ++ [u]).length; simp; omega, by show qOf (Q2 ++ [u]) i = s; rw [qOf_left hi2]; exact hs2'⟩) ((by show (besideF h (f : Int)).length - (j + 1) < (besideF h (f : Int)).length - j; omega)) (weak_of [] (by repeat first | exact .nil | refine LeEs.cons ?_ ?_ | exact .v (by first | rfl | (first | exact hqs | exact hqs.symm)) | exact .own rfl rfl rfl rfl rfl | exact .ptr rfl rfl rfl rfl rfl rfl | exact .nil rfl rfl rfl | exact .sl (by first | rfl | (first | exact hqs | exact hqs.symm)) | exact .both rfl rfl | exact .frz rfl rfl rfl rfl rfl (by first | rfl | (first | exact hqs | exact hqs.symm)) rfl | exact .tab rfl | exact .any _) (by repeat first | exact .nil | refine LeHs.keep rfl ⟨rfl, rfl, rfl, .inl ⟨rfl, by first | rfl | (first | exact hqs | exact hqs.symm)⟩⟩ ?_ | refine LeHs.keep rfl ⟨rfl, rfl, rfl, .inr ⟨(by first | exact .inl rfl | exact .inr rfl), by repeat first | exact .nil | refine LeVL.cons ?_ ?_ | exact .v (by first | rfl | (first | exact hqs | exact hqs.symm)) | exact .own rfl rfl rfl rfl rfl | exact .sl (by first | rfl | (first | exact hqs | exact hqs.symm)) | exact .both rfl rfl | exact .frz rfl rfl rfl rfl rfl (by first | rfl | (first | exact hqs | exact hqs.symm)) rfl⟩⟩ ?_ | refine LeHs.fresh rfl rfl rfl (Nat.succ_pos _) rfl ?_) rfl rfl)
                · have hold : ¬ gI bf2 (encM M u) < 0 := by show ¬ gi bf2 (encM M u) < 0; simpa using hb10
                  repeat first | refine Ua ?_ | refine Ub ?_ | refine Uc ?_ | refine Ud ?_ | refine Ue ?_ | refine Ug ⟨by kernel_rfl, ?_⟩ | refine Ug ?_ | refine Uh ?_ | refine Ui ?_ | refine Uj ?_ | refine Uk rfl ?_ | refine Ul rfl ?_ | refine Um ?_ | refine Un ?_ | refine Uo ?_ | refine Up rfl ?_ | refine Uq ?_ | refine Ur ?_ | refine Us ?_ | refine Ut ?_ | refine Uu ?_ | refine Ux ?_ | refine Uv rfl rfl rfl rfl ?_ | refine Uw rfl rfl rfl ?_ | refine U0 z0 ?_ | refine U1 z1 ?_ | refine U9 zs ?_
                  refine round_next ((Q2, bf2, j + 1, f * 16 + b + 1)) (⟨hstep.2 hold, hmn, hjlt, by show f * 16 + b + 1 ≤ (f + 1) * 16; omega, hi2, hs2'⟩) ((by show (besideF h (f : Int)).length - (j + 1) < (besideF h (f : Int)).length - j; omega)) (Lw (ρ := []))
              · rw [if_neg hfree] at handb
                have hshut : s.2.testBit b = false := by simpa using hfree
                repeat first | refine Ua ?_ | refine Ub ?_ | refine Uc ?_ | refine Ud ?_ | refine Ue ?_ | refine Ug ⟨by kernel_rfl, ?_⟩ | refine Ug ?_ | refine Uh ?_ | refine Ui ?_ | refine Uj ?_ | refine Uk rfl ?_ | refine Ul rfl ?_ | refine Um ?_ | refine Un ?_ | refine Uo ?_ | refine Up rfl ?_ | refine Uq ?_ | refine Ur ?_ | refine Us ?_ | refine Ut ?_ | refine Uu ?_ | refine Ux ?_ | refine Uv rfl rfl rfl rfl ?_ | refine Uw rfl rfl rfl ?_ | refine U0 (by first | (apply st_ld_ipE tabOk; (iterate 4 exact rfl); omega; exact hval) | (apply st_shlE; (iterate 3 exact rfl); exact hsb) | (apply st_andE; (iterate 3 exact rfl); exact handb) | exact z0 | fail) ?_ | refine U1 z1 ?_ | refine U9 zs ?_
                refine round_next ((Q2, bf2, j + 1, f * 16 + b + 1)) (⟨look_shut hv hflt Lk (by rw [hs2']; exact hshut) hblt, hmn, hjlt, by show f * 16 + b + 1 ≤ (f + 1) * 16; omega, hi2, hs2'⟩) ((by show (besideF h (f : Int)).length - (j + 1) < (besideF h (f : Int)).length - j; omega)) (Lw (ρ := []))
            · have hjn : j = (besideF h (f : Int)).length := by simp at hb7; omega
              subst hjn
              repeat first | refine Ua ?_ | refine Ub ?_ | refine Uc ?_ | refine Ud ?_ | refine Ue ?_ | refine Ug ⟨by kernel_rfl, ?_⟩ | refine Ug ?_ | refine Uh ?_ | refine Ui ?_ | refine Uj ?_ | refine Uk rfl ?_ | refine Ul rfl ?_ | refine Um ?_ | refine Un ?_ | refine Uo ?_ | refine Up rfl ?_ | refine Uq ?_ | refine Ur ?_ | refine Us ?_ | refine Ut ?_ | refine Uu ?_ | refine Ux ?_ | refine Uv rfl rfl rfl rfl ?_ | refine Uw rfl rfl rfl ?_ | refine U0 z0 ?_ | refine U1 z1 ?_ | refine U9 zs ?_
              refine round_next ((Q2, bf2, f + 1)) (⟨look_row hv hflt L2 hmid hK, hflt, hi2, hs2'⟩) ((by show h.cells.length - (f + 1) < h.cells.length - f; omega)) (Lw (ρ := []))
        · have hfn : f = h.cells.length := by simp at hb5; omega
          subst hfn
          repeat first | refine Ua ?_ | refine Ub ?_ | refine Uc ?_ | refine Ud ?_ | refine Ue ?_ | refine Ug ⟨by kernel_rfl, ?_⟩ | refine Ug ?_ | refine Uh ?_ | refine Ui ?_ | refine Uj ?_ | refine Uk rfl ?_ | refine Ul rfl ?_ | refine Um ?_ | refine Un ?_ | refine Uo ?_ | refine Up rfl ?_ | refine Uq ?_ | refine Ur ?_ | refine Us ?_ | refine Ut ?_ | refine Uu ?_ | refine Ux ?_ | refine Uv rfl rfl rfl rfl ?_ | refine Uw rfl rfl rfl ?_ | refine U0 z0 ?_ | refine U1 z1 ?_ | refine U9 zs ?_
          refine round_next ((Q1, bf1, i + 1)) (⟨look_done hv L1 (by rw [hs1]; exact hc0), hi1⟩) ((by have := L1.le; rw [← hM] at this; show h.cells.length * M - (i + 1) < h.cells.length * M - i; omega)) (Lw (ρ := []))
    · have hiQ : i = Q.length := by simp at hb3; omega
      have hA : bestAt h c = ([], false) := bestAt_none (by rw [← hs0]; exact bestP_none (L.none (by omega)))
      rw [hA]
      repeat first | refine Ua ?_ | refine Ub ?_ | refine Uc ?_ | refine Ud ?_ | refine Ue ?_ | refine Ug ⟨by kernel_rfl, ?_⟩ | refine Ug ?_ | refine Uh ?_ | refine Ui ?_ | refine Uj ?_ | refine Uk rfl ?_ | refine Ul rfl ?_ | refine Um ?_ | refine Un ?_ | refine Uo ?_ | refine Up rfl ?_ | refine Uq ?_ | refine Ur ?_ | refine Us ?_ | refine Ut ?_ | refine Uu ?_ | refine Ux ?_ | refine Uv rfl rfl rfl rfl ?_ | refine Uw rfl rfl rfl ?_ | refine U0 z0 ?_ | refine U1 z1 ?_ | refine U9 zs ?_
      exact ⟨.inl rfl, Rx⟩
theorem bringBest_fn (h : PHall) (hl : h.cells.length ≤ lim) (id : Int) : FnG Tryd.prog 3 bruijn 66 [hallV h, .int id] (.tup [slcV (bestF h id).1, .bool (bestF h id).2]) := by
  have hlow := find_low h id
  refine fng_go2 tabOk Tryd.func66 rfl (by kernel_rfl) Tryd.ntmps66 Tryd.results66 (by decide) ?_
  repeat first | refine Ua ?_ | refine Ub ?_ | refine Uc ?_ | refine Ud ?_ | refine Ue ?_ | refine Ug ⟨by kernel_rfl, ?_⟩ | refine Ug ?_ | refine Uh ?_ | refine Ui ?_ | refine Uj ?_ | refine Uk rfl ?_ | refine Ul rfl ?_ | refine Um ?_ | refine Un ?_ | refine Uo ?_ | refine Up rfl ?_ | refine Uq ?_ | refine Ur ?_ | refine Us ?_ | refine Ut ?_ | refine Uu ?_ | refine Ux ?_ | refine Uv rfl rfl rfl rfl ?_ | refine Uw rfl rfl rfl ?_ | refine U0 (by first | (apply st_call (hfn := hallFind_fn h hl id ); exact rfl; exact fz) | exact z0 | fail) ?_ | refine U1 z1 ?_ | refine U9 zs ?_
  refine ax_cond rfl (fun hb => ?_) (fun hb => ?_)
  · have hF : bestF h id = ([], false) := bestF_no (by simpa using hb)
    rw [hF]
    repeat first | refine Ua ?_ | refine Ub ?_ | refine Uc ?_ | refine Ud ?_ | refine Ue ?_ | refine Ug ⟨by kernel_rfl, ?_⟩ | refine Ug ?_ | refine Uh ?_ | refine Ui ?_ | refine Uj ?_ | refine Uk rfl ?_ | refine Ul rfl ?_ | refine Um ?_ | refine Un ?_ | refine Uo ?_ | refine Up rfl ?_ | refine Uq ?_ | refine Ur ?_ | refine Us ?_ | refine Ut ?_ | refine Uu ?_ | refine Ux ?_ | refine Uv rfl rfl rfl rfl ?_ | refine Uw rfl rfl rfl ?_ | refine U0 z0 ?_ | refine U1 z1 ?_ | refine U9 zs ?_
    exact ⟨.inl rfl, Rx⟩
  · have h0 : ¬ hallFindF h id < 0 := by simpa using hb
    obtain ⟨c, hc⟩ : ∃ c : Nat, hallFindF h id = c := ⟨(hallFindF h id).toNat, by omega⟩
    have hS := bringSearch_fn h hl id c hc
    rw [← hc, ← bestF_at hc] at hS
    repeat first | refine Ua ?_ | refine Ub ?_ | refine Uc ?_ | refine Ud ?_ | refine Ue ?_ | refine Ug ⟨by kernel_rfl, ?_⟩ | refine Ug ?_ | refine Uh ?_ | refine Ui ?_ | refine Uj ?_ | refine Uk rfl ?_ | refine Ul rfl ?_ | refine Um ?_ | refine Un ?_ | refine Uo ?_ | refine Up rfl ?_ | refine Uq ?_ | refine Ur ?_ | refine Us ?_ | refine Ut ?_ | refine Uu ?_ | refine Ux ?_ | refine Uv rfl rfl rfl rfl ?_ | refine Uw rfl rfl rfl ?_ | refine U0 z0 ?_ | refine U1 (by first | (apply st_callg_sv (hfn := hS ); exact rfl; exact fz; iterate 3 exact rfl) | exact z1 | fail) ?_ | refine U9 zs ?_
    exact ⟨.inl rfl, Rx⟩
theorem bringLeast_fn (h : PHall) (hl : h.cells.length ≤ lim) (id : Int) : FnG Tryd.prog 3 bruijn 26 [hallV h, .int id] (.int (leastF h id)) := by
  refine fng_go2 tabOk Tryd.func26 rfl (by kernel_rfl) Tryd.ntmps26 Tryd.results26 (by decide) ?_
  repeat first | refine Ua ?_ | refine Ub ?_ | refine Uc ?_ | refine Ud ?_ | refine Ue ?_ | refine Ug ⟨by kernel_rfl, ?_⟩ | refine Ug ?_ | refine Uh ?_ | refine Ui ?_ | refine Uj ?_ | refine Uk rfl ?_ | refine Ul rfl ?_ | refine Um ?_ | refine Un ?_ | refine Uo ?_ | refine Up rfl ?_ | refine Uq ?_ | refine Ur ?_ | refine Us ?_ | refine Ut ?_ | refine Uu ?_ | refine Ux ?_ | refine Uv rfl rfl rfl rfl ?_ | refine Uw rfl rfl rfl ?_ | refine U0 z0 ?_ | refine U1 (by first | (apply st_callg_sv (hfn := bringBest_fn h hl id ); exact rfl; exact fz; iterate 3 exact rfl) | exact z1 | fail) ?_ | refine U9 zs ?_
  refine ax_cond rfl (fun hb => ?_) (fun hb => ?_)
  · have hF : leastF h id = -1 := by unfold leastF; rw [if_neg (by simpa using hb)]
    rw [hF]
    repeat first | refine Ua ?_ | refine Ub ?_ | refine Uc ?_ | refine Ud ?_ | refine Ue ?_ | refine Ug ⟨by kernel_rfl, ?_⟩ | refine Ug ?_ | refine Uh ?_ | refine Ui ?_ | refine Uj ?_ | refine Uk rfl ?_ | refine Ul rfl ?_ | refine Um ?_ | refine Un ?_ | refine Uo ?_ | refine Up rfl ?_ | refine Uq ?_ | refine Ur ?_ | refine Us ?_ | refine Ut ?_ | refine Uu ?_ | refine Ux ?_ | refine Uv rfl rfl rfl rfl ?_ | refine Uw rfl rfl rfl ?_ | refine U0 z0 ?_ | refine U1 z1 ?_ | refine U9 zs ?_
    exact ⟨.inl rfl, Rx⟩
  · have hF : leastF h id = ((bestF h id).1.length : Int) := by unfold leastF; rw [if_pos (by simpa using hb)]
    rw [hF]
    repeat first | refine Ua ?_ | refine Ub ?_ | refine Uc ?_ | refine Ud ?_ | refine Ue ?_ | refine Ug ⟨by kernel_rfl, ?_⟩ | refine Ug ?_ | refine Uh ?_ | refine Ui ?_ | refine Uj ?_ | refine Uk rfl ?_ | refine Ul rfl ?_ | refine Um ?_ | refine Un ?_ | refine Uo ?_ | refine Up rfl ?_ | refine Uq ?_ | refine Ur ?_ | refine Us ?_ | refine Ut ?_ | refine Uu ?_ | refine Ux ?_ | refine Uv rfl rfl rfl rfl ?_ | refine Uw rfl rfl rfl ?_ | refine U0 z0 ?_ | refine U1 z1 ?_ | refine U9 zs ?_
    exact ⟨.inl rfl, Rx⟩
end Go.Proofs.YtnfjmcenjpoloaaDoor
