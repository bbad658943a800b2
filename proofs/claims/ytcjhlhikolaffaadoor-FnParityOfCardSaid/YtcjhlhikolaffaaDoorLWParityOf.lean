/-
  Proved: FnParityOf returns true for every argument, and its argument reads afterwards as it read before (the card). No condition.
-/
import Derived.Test.YtcjhlhikolaffaaDoorRow3
import Derived.Test.YtcjhlhikolaffaaDoorMain
import Derived.Test.YtcjhlhikolaffaaDoorRS
import Derived.Test.YtcjhlhikolaffaaDoorWE
import Derived.Test.YtcjhlhikolaffaaDoorWD
import Derived.Test.YtcjhlhikolaffaaDoorW5
set_option linter.unusedVariables false
set_option linter.unusedSimpArgs false
set_option maxRecDepth 100000
namespace Go.Proofs.YtcjhlhikolaffaaDoor
open Go Go.RowKit Go.Park Go.Sym
open Go.ChangeShapes Go.WideShapes Go.ChangeAt

theorem mem_row {h : PHall} {k m : Nat} {s : Int × Int} : s ∈ mayRow h k m ↔ ∃ j : Nat, j < m ∧ slideMayB h k j = true ∧ s = ((k : Int), (j : Int)) := by
  unfold mayRow
  rw [List.mem_map]
  constructor
  · rintro ⟨x, hx, rfl⟩
    obtain ⟨j, h1, h2, rfl⟩ := selTo_mem.1 hx
    exact ⟨j, h1, h2, rfl⟩
  · rintro ⟨j, h1, h2, rfl⟩
    exact ⟨j, selTo_mem.2 ⟨j, h1, h2, rfl⟩, rfl⟩
theorem mem_to {h : PHall} {n : Nat} {s : Int × Int} : s ∈ mayTo h n ↔ ∃ k : Nat, k < n ∧ s ∈ mayRow h k h.cells.length := by
  induction n with
  | zero => simp [mayTo]
  | succ n ih =>
    rw [mayTo, List.mem_append, ih]
    constructor
    · rintro (⟨k, h1, h2⟩ | h2)
      · exact ⟨k, by omega, h2⟩
      · exact ⟨n, by omega, h2⟩
    · rintro ⟨k, h1, h2⟩
      by_cases e : k = n
      · subst e; exact .inr h2
      · exact .inl ⟨k, by omega, h2⟩
theorem mem_all {h : PHall} {s : Int × Int} : s ∈ slidesAllF h ↔ slideMayB h s.1 s.2 = true := by
  unfold slidesAllF
  rw [mem_to]
  constructor
  · rintro ⟨k, _, h2⟩
    obtain ⟨j, _, h3, rfl⟩ := mem_row.1 h2
    exact h3
  · intro hm
    obtain ⟨h1, h2, _⟩ := may_cells hm
    have ha := hasCell_iff.1 h1
    have hb := hasCell_iff.1 h2
    obtain ⟨a, b⟩ := s
    dsimp only at hm ha hb
    refine ⟨a.toNat, by omega, mem_row.2 ⟨b.toNat, by omega, ?_, ?_⟩⟩
    · rw [Int.toNat_of_nonneg ha.1, Int.toNat_of_nonneg hb.1]; exact hm
    · rw [Int.toNat_of_nonneg ha.1, Int.toNat_of_nonneg hb.1]
set_option maxHeartbeats 4000000 in
theorem drawParityOf_fn (v0 : Value) (bs : List Int) (hB : OkB bs) : ∃ h : PHall, h.cells.length ≤ 13 ∧ FnS Tryd.prog 24 [codeV v0 bs] (hallV h) := by
  have hC := cut_bytes hB
  obtain ⟨⟨h, id, q⟩, ⟨g1, g2, g3⟩, hH⟩ := l20Crowd_fn (rdV v0) _ hC 0 (by omega) 9 (by omega)
  dsimp only at g1 g2 g3 hH
  have hlim := lim_eq
  have hfl := free_len h
  refine fnx_go1 (Good := fun h : PHall => h.cells.length ≤ 13) (res := fun h => hallV h) tabOk Tryd.func24 rfl (by kernel_rfl) Tryd.ntmps24 Tryd.results24 (by decide) ?_
  repeat first | refine Ua ?_ | refine Ub ?_ | refine Uc ?_ | refine Ud ?_ | refine Ue ?_ | refine Ug ⟨by kernel_rfl, ?_⟩ | refine Ug ?_ | refine Uh ?_ | refine Ui ?_ | refine Uj ?_ | refine Uk rfl ?_ | refine Ul rfl ?_ | refine Um ?_ | refine Un ?_ | refine Uo ?_ | refine Up rfl ?_ | refine Uq ?_ | refine Ur ?_ | refine Us ?_ | refine Ut ?_ | refine Uu ?_ | refine Ux ?_ | refine Uv rfl rfl rfl rfl ?_ | refine Uw rfl rfl rfl ?_ | refine U0 z0 ?_ | refine U1 (by first | (apply st_open; iterate 4 exact rfl) | (apply st_call_s (hfn := specHallFree_fn h (by omega) ); exact rfl; exact fz; iterate 2 exact rfl) | exact z1 | fail) ?_ | refine U9 zs ?_ | refine U2 (by first | (apply st_recv_hv (hfn := hH ); (iterate 4 exact rfl); exact fz; iterate 3 exact rfl) | fail) ?_
  refine ax_loop (fun i : List Int × Nat × Int => mkS [(7, .int (i.2.1 : Int)), (6, .own 6 0), (4, .ptr 5 0 0), (3, .ptr 2 0 0), (2, .ptr 1 0 0)] ⟨7, [(1, some zeroRow), (2, some (rdR (rdV v0) (bs.take (cutN bs.length)) i.2.2)), (3, some (intsRow i.1)), (5, some (boxRow h.wide h.deep 3 0)), (6, some (intsRow (hallFreeF h)))]⟩) (fun i => i.1.length = h.cells.length ∧ 1 ≤ i.2.1 ∧ i.2.1 ≤ 100 ∧ q ≤ i.2.2 ∧ i.2.2 ≤ q + 10 * i.2.1) (fun i => (hallFreeF h).length - i.2.1) ((h.cells, 1, q)) (⟨rfl, Nat.le_refl _, by show (1 : Nat) ≤ 100; omega, Int.le_refl _, by show q ≤ q + 10 * ((1 : Nat) : Int); omega⟩) (Lw (ρ := [])) ?_
  rintro ⟨cs, k, q2⟩ ⟨e1, e2, e3, e4, e5⟩
  dsimp only at e1 e2 e3 e4 e5 ⊢
  repeat first | refine Ua ?_ | refine Ub ?_ | refine Uc ?_ | refine Ud ?_ | refine Ue ?_ | refine Ug ⟨by kernel_rfl, ?_⟩ | refine Ug ?_ | refine Uh ?_ | refine Ui ?_ | refine Uj ?_ | refine Uk rfl ?_ | refine Ul rfl ?_ | refine Um ?_ | refine Un ?_ | refine Uo ?_ | refine Up rfl ?_ | refine Uq ?_ | refine Ur ?_ | refine Us ?_ | refine Ut ?_ | refine Uu ?_ | refine Ux ?_ | refine Uv rfl rfl rfl rfl ?_ | refine Uw rfl rfl rfl ?_ | refine U0 z0 ?_ | refine U1 z1 ?_ | refine U9 zs ?_
  refine rh_split rfl rfl (fun hb => ?_) (fun hb => ?_)
  · have hlt : k < (hallFreeF h).length := by simpa using hb
    obtain ⟨_, c0, c1, c2⟩ := free_cell hlt
    have u := pick_tri hC (p := q2) (n := 8) (by omega) (by omega)
    repeat first | refine Ua ?_ | refine Ub ?_ | refine Uc ?_ | refine Ud ?_ | refine Ue ?_ | refine Ug ⟨by kernel_rfl, ?_⟩ | refine Ug ?_ | refine Uh ?_ | refine Ui ?_ | refine Uj ?_ | refine Uk rfl ?_ | refine Ul rfl ?_ | refine Um ?_ | refine Un ?_ | refine Uo ?_ | refine Up rfl ?_ | refine Uq ?_ | refine Ur ?_ | refine Us ?_ | refine Ut ?_ | refine Uu ?_ | refine Ux ?_ | refine Uv rfl rfl rfl rfl ?_ | refine Uw rfl rfl rfl ?_ | refine U0 z0 ?_ | refine U1 (by first | (apply st_recv_v (hfn := pick_fn (rdV v0) _ hC q2 (by omega) 8 ); (iterate 4 exact rfl); exact fz; iterate 2 exact rfl) | exact z1 | fail) ?_ | refine U9 zs ?_
    refine ax_cond rfl (fun hb2 => ?_) (fun hb2 => ?_)
    · repeat first | refine Ua ?_ | refine Ub ?_ | refine Uc ?_ | refine Ud ?_ | refine Ue ?_ | refine Ug ⟨by kernel_rfl, ?_⟩ | refine Ug ?_ | refine Uh ?_ | refine Ui ?_ | refine Uj ?_ | refine Uk rfl ?_ | refine Ul rfl ?_ | refine Um ?_ | refine Un ?_ | refine Uo ?_ | refine Up rfl ?_ | refine Uq ?_ | refine Ur ?_ | refine Us ?_ | refine Ut ?_ | refine Uu ?_ | refine Ux ?_ | refine Uv rfl rfl rfl rfl ?_ | refine Uw rfl rfl rfl ?_ | refine U0 z0 ?_ | refine U1 z1 ?_ | refine U9 zs ?_
      refine round_next ((cs.set (gi (hallFreeF h) k).toNat (30 + (k : Int)), k + 1, q2 + 1)) (⟨by rw [List.length_set]; exact e1, by show 1 ≤ k + 1; omega, by show k + 1 ≤ 100; omega, by show q ≤ q2 + 1; omega, by show q2 + 1 ≤ q + 10 * ((k + 1 : Nat) : Int); omega⟩) (by show (hallFreeF h).length - (k + 1) < (hallFreeF h).length - k; omega) (Lw (ρ := []))
    · repeat first | refine Ua ?_ | refine Ub ?_ | refine Uc ?_ | refine Ud ?_ | refine Ue ?_ | refine Ug ⟨by kernel_rfl, ?_⟩ | refine Ug ?_ | refine Uh ?_ | refine Ui ?_ | refine Uj ?_ | refine Uk rfl ?_ | refine Ul rfl ?_ | refine Um ?_ | refine Un ?_ | refine Uo ?_ | refine Up rfl ?_ | refine Uq ?_ | refine Ur ?_ | refine Us ?_ | refine Ut ?_ | refine Uu ?_ | refine Ux ?_ | refine Uv rfl rfl rfl rfl ?_ | refine Uw rfl rfl rfl ?_ | refine U0 z0 ?_ | refine U1 z1 ?_ | refine U9 zs ?_
      exact ⟨⟨⟨h.wide, h.deep, cs⟩, by show cs.length ≤ 13; omega, .inl rfl, Rx⟩⟩
  · repeat first | refine Ua ?_ | refine Ub ?_ | refine Uc ?_ | refine Ud ?_ | refine Ue ?_ | refine Ug ⟨by kernel_rfl, ?_⟩ | refine Ug ?_ | refine Uh ?_ | refine Ui ?_ | refine Uj ?_ | refine Uk rfl ?_ | refine Ul rfl ?_ | refine Um ?_ | refine Un ?_ | refine Uo ?_ | refine Up rfl ?_ | refine Uq ?_ | refine Ur ?_ | refine Us ?_ | refine Ut ?_ | refine Uu ?_ | refine Ux ?_ | refine Uv rfl rfl rfl rfl ?_ | refine Uw rfl rfl rfl ?_ | refine U0 z0 ?_ | refine U1 z1 ?_ | refine U9 zs ?_
    exact ⟨⟨⟨h.wide, h.deep, cs⟩, by show cs.length ≤ 13; omega, .inl rfl, Rx⟩⟩
set_option maxHeartbeats 4000000 in
theorem fnParityOf_fn (v0 : Value) (bs : List Int) (hB : OkB bs) : FnS Tryd.prog 4 [codeV v0 bs] (.bool true) := by
  obtain ⟨h, g1, hH⟩ := drawParityOf_fn v0 bs hB
  have hlim := lim_eq
  have hl : h.cells.length ≤ lim := by omega
  have hP := parityOf_fn h hl
  have hP2 := specParityOf_fn h hl
  have hF := hallFree_fn h hl
  have hfl := free_len h
  by_cases h1 : (hallFreeF h).length = 1
  · have hpos : 0 < (hallFreeF h).length := by omega
    obtain ⟨hv, _⟩ := free_cell hpos
    have hx : 0 ≤ parityF h ∧ parityF h ≤ 1 := by unfold parityF; rw [if_pos h1]; omega
    have hx2 : decide (parityF h < 0) = false := decide_eq_false (by omega)
    have hls : (slidesAllF h).length ≤ 200 := by have := may_small h h.cells.length 0 (Nat.le_refl _) (Nat.zero_le _); simp [mayRow, selTo] at this; exact this
    refine fn_go1 tabOk Tryd.func4 rfl (by kernel_rfl) Tryd.ntmps4 Tryd.results4 (by decide) ?_
    repeat first | refine Ua ?_ | refine Ub ?_ | refine Uc ?_ | refine Ud ?_ | refine Ue ?_ | refine Ug ⟨by kernel_rfl, ?_⟩ | refine Ug ?_ | refine Uh ?_ | refine Ui ?_ | refine Uj ?_ | refine Uk rfl ?_ | refine Ul rfl ?_ | refine Um ?_ | refine Un ?_ | refine Uo ?_ | refine Up rfl ?_ | refine Uq ?_ | refine Ur ?_ | refine Us ?_ | refine Ut ?_ | refine Uu ?_ | refine Ux ?_ | refine Uv rfl rfl rfl rfl ?_ | refine Uw rfl rfl rfl ?_ | refine U0 z0 ?_ | refine U1 z1 ?_ | refine U9 zs ?_
    refine ax_cond rfl (fun hb0 => ?_) (fun hb0 => ?_)
    · repeat first | refine Ua ?_ | refine Ub ?_ | refine Uc ?_ | refine Ud ?_ | refine Ue ?_ | refine Ug ⟨by kernel_rfl, ?_⟩ | refine Ug ?_ | refine Uh ?_ | refine Ui ?_ | refine Uj ?_ | refine Uk rfl ?_ | refine Ul rfl ?_ | refine Um ?_ | refine Un ?_ | refine Uo ?_ | refine Up rfl ?_ | refine Uq ?_ | refine Ur ?_ | refine Us ?_ | refine Ut ?_ | refine Uu ?_ | refine Ux ?_ | refine Uv rfl rfl rfl rfl ?_ | refine Uw rfl rfl rfl ?_ | refine U0 z0 ?_ | refine U1 z1 ?_ | refine U9 zs ?_
      exact ⟨.inl rfl, Rx⟩
    repeat first | refine Ua ?_ | refine Ub ?_ | refine Uc ?_ | refine Ud ?_ | refine Ue ?_ | refine Ug ⟨by kernel_rfl, ?_⟩ | refine Ug ?_ | refine Uh ?_ | refine Ui ?_ | refine Uj ?_ | refine Uk rfl ?_ | refine Ul rfl ?_ | refine Um ?_ | refine Un ?_ | refine Uo ?_ | refine Up rfl ?_ | refine Uq ?_ | refine Ur ?_ | refine Us ?_ | refine Ut ?_ | refine Uu ?_ | refine Ux ?_ | refine Af (h := ?_) | refine At (h := ?_) | refine Uv rfl rfl rfl rfl ?_ | refine Uw rfl rfl rfl ?_ | refine U0 (by first | (apply st_call (hfn := hP ); exact rfl; exact fz) | (apply st_call (hfn := hP2 ); exact rfl; exact fz) | exact z0 | fail) ?_ | refine U1 (by first | (apply st_call_h (hfn := hH ); exact rfl; exact fz; iterate 2 exact rfl) | (apply st_call_s (hfn := slidesAll_fn h hl ); exact rfl; exact fz; iterate 2 exact rfl) | exact z1 | fail) ?_ | refine U9 zs ?_ | refine Kf (h := ?_) | refine Kt (h := ?_)
    refine ax_loop (fun k : Nat => mkS [(6, .int (k : Int)), (5, .own 3 0), (4, .int (parityF h)), (3, .ptr 2 0 0)] ⟨4, [(1, some (intsRow h.cells)), (2, some (boxRow h.wide h.deep 1 0)), (3, some (slcRow (slidesAllF h)))]⟩) (fun k => k ≤ (slidesAllF h).length) (fun k => (slidesAllF h).length - k) (0) (Nat.zero_le _) (Lw (ρ := [])) ?_
    intro k hk
    repeat first | refine Ua ?_ | refine Ub ?_ | refine Uc ?_ | refine Ud ?_ | refine Ue ?_ | refine Ug ⟨by kernel_rfl, ?_⟩ | refine Ug ?_ | refine Uh ?_ | refine Ui ?_ | refine Uj ?_ | refine Uk rfl ?_ | refine Ul rfl ?_ | refine Um ?_ | refine Un ?_ | refine Uo ?_ | refine Up rfl ?_ | refine Uq ?_ | refine Ur ?_ | refine Us ?_ | refine Ut ?_ | refine Uu ?_ | refine Ux ?_ | refine Uv rfl rfl rfl rfl ?_ | refine Uw rfl rfl rfl ?_ | refine U0 z0 ?_ | refine U1 z1 ?_ | refine U9 zs ?_
    refine ax_cond rfl (fun hb2 => ?_) (fun hb2 => ?_)
    · have hlt : k < (slidesAllF h).length := by simpa using hb2
      have hm : gs (slidesAllF h) k ∈ slidesAllF h := by
        have : gs (slidesAllF h) k = (slidesAllF h)[k] := by simp [gs, List.getD, hlt]
        rw [this]; exact List.getElem_mem hlt
      have hm := mem_all.1 hm
      have hd : (slideDoF h (gs (slidesAllF h) k).1 (gs (slidesAllF h) k).2).2 = true := by unfold slideDoF; rw [if_pos hv, if_pos hm]
      obtain ⟨m, _, _, e⟩ := may_of_do hd
      have hD := slideDo_fn h hl (gs (slidesAllF h) k).1 (gs (slidesAllF h) k).2
      have hel : (slidH h (gs (slidesAllF h) k).1.toNat (gs (slidesAllF h) k).2.toNat).cells.length ≤ 13 := by rw [slid_len]; exact g1
      have hQ := parityOf_fn (slidH h (gs (slidesAllF h) k).1.toNat (gs (slidesAllF h) k).2.toNat) (by omega)
      rw [e] at hD
      rw [parity_slid m] at hQ
      repeat first | refine Ua ?_ | refine Ub ?_ | refine Uc ?_ | refine Ud ?_ | refine Ue ?_ | refine Ug ⟨by kernel_rfl, ?_⟩ | refine Ug ?_ | refine Uh ?_ | refine Ui ?_ | refine Uj ?_ | refine Uk rfl ?_ | refine Ul rfl ?_ | refine Um ?_ | refine Un ?_ | refine Uo ?_ | refine Up rfl ?_ | refine Uq ?_ | refine Ur ?_ | refine Us ?_ | refine Ut ?_ | refine Uu ?_ | refine Ux ?_ | refine Af (h := ?_) | refine At (h := ?_) | refine Uv rfl rfl rfl rfl ?_ | refine Uw rfl rfl rfl ?_ | refine U0 (by first | (apply st_call (hfn := hQ ); exact rfl; exact fz) | exact z0 | fail) ?_ | refine U1 (by first | (apply st_call_hv (hfn := hD ); exact rfl; exact fz; iterate 2 exact rfl) | exact z1 | fail) ?_ | refine U9 zs ?_ | refine Kf (h := ?_) | refine Kt (h := ?_)
      refine round_next (k + 1) (hlt) (by omega) (Lw (ρ := []))
    · repeat first | refine Ua ?_ | refine Ub ?_ | refine Uc ?_ | refine Ud ?_ | refine Ue ?_ | refine Ug ⟨by kernel_rfl, ?_⟩ | refine Ug ?_ | refine Uh ?_ | refine Ui ?_ | refine Uj ?_ | refine Uk rfl ?_ | refine Ul rfl ?_ | refine Um ?_ | refine Un ?_ | refine Uo ?_ | refine Up rfl ?_ | refine Uq ?_ | refine Ur ?_ | refine Us ?_ | refine Ut ?_ | refine Uu ?_ | refine Ux ?_ | refine Uv rfl rfl rfl rfl ?_ | refine Uw rfl rfl rfl ?_ | refine U0 z0 ?_ | refine U1 z1 ?_ | refine U9 zs ?_
      clear hk hb2
      refine ax_loop (fun a : Nat => mkS [(9, .int (a : Int)), (4, .int (parityF h)), (3, .ptr 2 0 0)] ⟨4, [(1, some (intsRow h.cells)), (2, some (boxRow h.wide h.deep 1 0))]⟩) (fun a => a ≤ h.cells.length) (fun a => h.cells.length - a) (0) (Nat.zero_le _) (Lw (ρ := [])) ?_
      intro a ha
      repeat first | refine Ua ?_ | refine Ub ?_ | refine Uc ?_ | refine Ud ?_ | refine Ue ?_ | refine Ug ⟨by kernel_rfl, ?_⟩ | refine Ug ?_ | refine Uh ?_ | refine Ui ?_ | refine Uj ?_ | refine Uk rfl ?_ | refine Ul rfl ?_ | refine Um ?_ | refine Un ?_ | refine Uo ?_ | refine Up rfl ?_ | refine Uq ?_ | refine Ur ?_ | refine Us ?_ | refine Ut ?_ | refine Uu ?_ | refine Ux ?_ | refine Uv rfl rfl rfl rfl ?_ | refine Uw rfl rfl rfl ?_ | refine U0 z0 ?_ | refine U1 z1 ?_ | refine U9 zs ?_
      refine ax_cond rfl (fun hb2 => ?_) (fun hb2 => ?_)
      · have hla : a < h.cells.length := by simpa using hb2
        repeat first | refine Ua ?_ | refine Ub ?_ | refine Uc ?_ | refine Ud ?_ | refine Ue ?_ | refine Ug ⟨by kernel_rfl, ?_⟩ | refine Ug ?_ | refine Uh ?_ | refine Ui ?_ | refine Uj ?_ | refine Uk rfl ?_ | refine Ul rfl ?_ | refine Um ?_ | refine Un ?_ | refine Uo ?_ | refine Up rfl ?_ | refine Uq ?_ | refine Ur ?_ | refine Us ?_ | refine Ut ?_ | refine Uu ?_ | refine Ux ?_ | refine Uv rfl rfl rfl rfl ?_ | refine Uw rfl rfl rfl ?_ | refine U0 z0 ?_ | refine U1 z1 ?_ | refine U9 zs ?_
        refine ax_loop (fun b : Nat => mkS [(10, .int (b : Int)), (9, .int (a : Int)), (4, .int (parityF h)), (3, .ptr 2 0 0)] ⟨4, [(1, some (intsRow h.cells)), (2, some (boxRow h.wide h.deep 1 0))]⟩) (fun b => b ≤ a) (fun b => a - b) (0) (Nat.zero_le _) (Lw (ρ := [])) ?_
        intro b hb3
        repeat first | refine Ua ?_ | refine Ub ?_ | refine Uc ?_ | refine Ud ?_ | refine Ue ?_ | refine Ug ⟨by kernel_rfl, ?_⟩ | refine Ug ?_ | refine Uh ?_ | refine Ui ?_ | refine Uj ?_ | refine Uk rfl ?_ | refine Ul rfl ?_ | refine Um ?_ | refine Un ?_ | refine Uo ?_ | refine Up rfl ?_ | refine Uq ?_ | refine Ur ?_ | refine Us ?_ | refine Ut ?_ | refine Uu ?_ | refine Ux ?_ | refine Uv rfl rfl rfl rfl ?_ | refine Uw rfl rfl rfl ?_ | refine U0 z0 ?_ | refine U1 z1 ?_ | refine U9 zs ?_
        refine ax_cond rfl (fun hb4 => ?_) (fun hb4 => ?_)
        · have hlb : b < a := by simpa using hb4
          have hlb2 : b < h.cells.length := by omega
          have hQ := parityOf_fn (exchH h a b) (by rw [exch_len]; exact hl)
          have hc1 : (([] : List Int) ++ h.cells).length = h.cells.length := by simp
          have hc2 : ((([] : List Int) ++ h.cells).set a (gi h.cells b)).length = h.cells.length := by simp
          have hex : hallV (exchH h a b) = .agg [.v (.int .i64 h.wide), .v (.int .i64 h.deep), .sl 3 1 (ints (((([] : List Int) ++ h.cells).set a (gi h.cells b)).set b (gi h.cells a)))] := rfl
          repeat first | refine Ua ?_ | refine Ub ?_ | refine Uc ?_ | refine Ud ?_ | refine Ue ?_ | refine Ug ⟨by kernel_rfl, ?_⟩ | refine Ug ?_ | refine Uh ?_ | refine Ui ?_ | refine Uj ?_ | refine Uk rfl ?_ | refine Ul rfl ?_ | refine Um ?_ | refine Un ?_ | refine Uo ?_ | refine Up rfl ?_ | refine Uq ?_ | refine Ur ?_ | refine Us ?_ | refine Ut ?_ | refine Uu ?_ | refine Ux ?_ | refine Uv rfl rfl rfl rfl ?_ | refine Uw rfl rfl rfl ?_ | refine U0 z0 ?_ | refine U1 z1 ?_ | refine U9 zs ?_
          refine rh_split rfl rfl (fun hb5 => ?_) (fun hb5 => ?_)
          · repeat first | refine Ua ?_ | refine Ub ?_ | refine Uc ?_ | refine Ud ?_ | refine Ue ?_ | refine Ug ⟨by kernel_rfl, ?_⟩ | refine Ug ?_ | refine Uh ?_ | refine Ui ?_ | refine Uj ?_ | refine Uk rfl ?_ | refine Ul rfl ?_ | refine Um ?_ | refine Un ?_ | refine Uo ?_ | refine Up rfl ?_ | refine Uq ?_ | refine Ur ?_ | refine Us ?_ | refine Ut ?_ | refine Uu ?_ | refine Ux ?_ | refine Uv rfl rfl rfl rfl ?_ | refine Uw rfl rfl rfl ?_ | refine U0 z0 ?_ | refine U1 z1 ?_ | refine U9 zs ?_
            refine rh_split rfl rfl (fun hb6 => ?_) (fun hb6 => ?_)
            · rw [parity_exch hv h1 hla hlb2 (by omega) (by have := of_decide_eq_true hb5; omega) (by have := of_decide_eq_true hb6; omega)] at hQ
              repeat first | refine Ua ?_ | refine Ub ?_ | refine Uc ?_ | refine Ud ?_ | refine Ue ?_ | refine Ug ⟨by kernel_rfl, ?_⟩ | refine Ug ?_ | refine Uh ?_ | refine Ui ?_ | refine Uj ?_ | refine Uk rfl ?_ | refine Ul rfl ?_ | refine Um ?_ | refine Un ?_ | refine Uo ?_ | refine Up rfl ?_ | refine Uq ?_ | refine Ur ?_ | refine Us ?_ | refine Ut ?_ | refine Uu ?_ | refine Ux ?_ | refine Af (h := ?_) | refine At (h := ?_) | refine Uv rfl rfl rfl rfl ?_ | refine Uw rfl rfl rfl ?_ | refine U0 (by first | (apply st_call (hfn := hQ ); exact rfl; exact fz) | exact z0 | fail) ?_ | refine U1 z1 ?_ | refine U9 zs ?_ | refine Kf (h := ?_) | refine Kt (h := ?_)
              refine round_next (b + 1) (hlb) (by omega) (Lw (ρ := []))
            · repeat first | refine Ua ?_ | refine Ub ?_ | refine Uc ?_ | refine Ud ?_ | refine Ue ?_ | refine Ug ⟨by kernel_rfl, ?_⟩ | refine Ug ?_ | refine Uh ?_ | refine Ui ?_ | refine Uj ?_ | refine Uk rfl ?_ | refine Ul rfl ?_ | refine Um ?_ | refine Un ?_ | refine Uo ?_ | refine Up rfl ?_ | refine Uq ?_ | refine Ur ?_ | refine Us ?_ | refine Ut ?_ | refine Uu ?_ | refine Ux ?_ | refine Uv rfl rfl rfl rfl ?_ | refine Uw rfl rfl rfl ?_ | refine U0 z0 ?_ | refine U1 z1 ?_ | refine U9 zs ?_
              refine round_next (b + 1) (hlb) (by omega) (Lw (ρ := []))
          · repeat first | refine Ua ?_ | refine Ub ?_ | refine Uc ?_ | refine Ud ?_ | refine Ue ?_ | refine Ug ⟨by kernel_rfl, ?_⟩ | refine Ug ?_ | refine Uh ?_ | refine Ui ?_ | refine Uj ?_ | refine Uk rfl ?_ | refine Ul rfl ?_ | refine Um ?_ | refine Un ?_ | refine Uo ?_ | refine Up rfl ?_ | refine Uq ?_ | refine Ur ?_ | refine Us ?_ | refine Ut ?_ | refine Uu ?_ | refine Ux ?_ | refine Uv rfl rfl rfl rfl ?_ | refine Uw rfl rfl rfl ?_ | refine U0 z0 ?_ | refine U1 z1 ?_ | refine U9 zs ?_
            refine round_next (b + 1) (hlb) (by omega) (Lw (ρ := []))
        · repeat first | refine Ua ?_ | refine Ub ?_ | refine Uc ?_ | refine Ud ?_ | refine Ue ?_ | refine Ug ⟨by kernel_rfl, ?_⟩ | refine Ug ?_ | refine Uh ?_ | refine Ui ?_ | refine Uj ?_ | refine Uk rfl ?_ | refine Ul rfl ?_ | refine Um ?_ | refine Un ?_ | refine Uo ?_ | refine Up rfl ?_ | refine Uq ?_ | refine Ur ?_ | refine Us ?_ | refine Ut ?_ | refine Uu ?_ | refine Ux ?_ | refine Uv rfl rfl rfl rfl ?_ | refine Uw rfl rfl rfl ?_ | refine U0 z0 ?_ | refine U1 z1 ?_ | refine U9 zs ?_
          have hab : b = a := by have := (decide_eq_false_iff_not.1 hb4); omega
          refine round_next (a + 1) (hla) (by omega) (Lw (ρ := []))
      · repeat first | refine Ua ?_ | refine Ub ?_ | refine Uc ?_ | refine Ud ?_ | refine Ue ?_ | refine Ug ⟨by kernel_rfl, ?_⟩ | refine Ug ?_ | refine Uh ?_ | refine Ui ?_ | refine Uj ?_ | refine Uk rfl ?_ | refine Ul rfl ?_ | refine Um ?_ | refine Un ?_ | refine Uo ?_ | refine Up rfl ?_ | refine Uq ?_ | refine Ur ?_ | refine Us ?_ | refine Ut ?_ | refine Uu ?_ | refine Ux ?_ | refine Uv rfl rfl rfl rfl ?_ | refine Uw rfl rfl rfl ?_ | refine U0 z0 ?_ | refine U1 z1 ?_ | refine U9 zs ?_
        exact ⟨.inl rfl, Rx⟩
  · have hx : parityF h = -1 := by unfold parityF; rw [if_neg h1]
    rw [hx] at hP hP2
    have hb : decide (((hallFreeF h).length : Int) = 1) = false := decide_eq_false (by omega)
    refine fn_go1 tabOk Tryd.func4 rfl (by kernel_rfl) Tryd.ntmps4 Tryd.results4 (by decide) ?_
    repeat first | refine Ua ?_ | refine Ub ?_ | refine Uc ?_ | refine Ud ?_ | refine Ue ?_ | refine Ug ⟨by kernel_rfl, ?_⟩ | refine Ug ?_ | refine Uh ?_ | refine Ui ?_ | refine Uj ?_ | refine Uk rfl ?_ | refine Ul rfl ?_ | refine Um ?_ | refine Un ?_ | refine Uo ?_ | refine Up rfl ?_ | refine Uq ?_ | refine Ur ?_ | refine Us ?_ | refine Ut ?_ | refine Uu ?_ | refine Ux ?_ | refine Uv rfl rfl rfl rfl ?_ | refine Uw rfl rfl rfl ?_ | refine U0 z0 ?_ | refine U1 z1 ?_ | refine U9 zs ?_
    refine ax_cond rfl (fun hb0 => ?_) (fun hb0 => ?_)
    · repeat first | refine Ua ?_ | refine Ub ?_ | refine Uc ?_ | refine Ud ?_ | refine Ue ?_ | refine Ug ⟨by kernel_rfl, ?_⟩ | refine Ug ?_ | refine Uh ?_ | refine Ui ?_ | refine Uj ?_ | refine Uk rfl ?_ | refine Ul rfl ?_ | refine Um ?_ | refine Un ?_ | refine Uo ?_ | refine Up rfl ?_ | refine Uq ?_ | refine Ur ?_ | refine Us ?_ | refine Ut ?_ | refine Uu ?_ | refine Ux ?_ | refine Uv rfl rfl rfl rfl ?_ | refine Uw rfl rfl rfl ?_ | refine U0 z0 ?_ | refine U1 z1 ?_ | refine U9 zs ?_
      exact ⟨.inl rfl, Rx⟩
    repeat first | refine Ua ?_ | refine Ub ?_ | refine Uc ?_ | refine Ud ?_ | refine Ue ?_ | refine Ug ⟨by kernel_rfl, ?_⟩ | refine Ug ?_ | refine Uh ?_ | refine Ui ?_ | refine Uj ?_ | refine Uk rfl ?_ | refine Ul rfl ?_ | refine Um ?_ | refine Un ?_ | refine Uo ?_ | refine Up rfl ?_ | refine Uq ?_ | refine Ur ?_ | refine Us ?_ | refine Ut ?_ | refine Uu ?_ | refine Ux ?_ | refine Af (h := ?_) | refine At (h := ?_) | refine Uv rfl rfl rfl rfl ?_ | refine Uw rfl rfl rfl ?_ | refine U0 (by first | (apply st_call (hfn := hP ); exact rfl; exact fz) | (apply st_call (hfn := hP2 ); exact rfl; exact fz) | (apply st_call (hfn := alive_fn ); exact rfl; exact fz) | exact z0 | fail) ?_ | refine U1 (by first | (apply st_call_h (hfn := hH ); exact rfl; exact fz; iterate 2 exact rfl) | (apply st_call_s (hfn := hF ); exact rfl; exact fz; iterate 2 exact rfl) | exact z1 | fail) ?_ | refine U9 zs ?_ | refine Kf (h := ?_) | refine Kt (h := ?_)
    exact ⟨.inl rfl, Rx⟩

theorem fnParityOf_walk (w : World) (v0 : Value) (b0 : List Int) (q0 : RawBytes w v0 b0) : Calls Tryd.prog 4 #[v0] w (Gives (.bool true) w) := by
  refine ((fnParityOf_fn v0 b0 q0.choose_spec.choose_spec.2.2.2.2).2 w [v0] (by simp only [pureL, pureV]; exact ⟨pure_byts b0, trivial⟩) (by simp only [relL]; exact ⟨_, _, rfl, rel_of_rawBytes q0, rfl⟩)).mono fun e w' hh => gives_v_of hh

set_option maxRecDepth 100000 in
theorem fnParityOf_lifted (os : Os) (started : os.Started) (H : Type) (enc : TypeId × Value → H) :
    ReturnsInHanded {} Tryd.checked os 4 .any (fun w args => (Rows.fnParityOfSpec.pre enc Tryd.prog Tryd.f4 Rows.fnParityOfRow.domain false w args ∧ laidMetH Tryd.prog laidL w) ∧ sizedMet enc Tryd.prog Tryd.f4 (OpenSpec.ofChange Rows.fnParityOfSpec) false w args)
      (Rows.fnParityOfSpec.post enc Tryd.prog Tryd.f4 false true false false) := by
  refine returnsInHanded_of_change_and (C := Tryd.checked) (X := fun w _ => laidMetH Tryd.prog laidL w) (fun _ _ _ hh h => h.of_heap hh) Tryd.own started (by kernel_rfl) Tryd.func4
    (ChangeSpec.witness_shaped (enc := enc) (C := Tryd.checked) (os := os) (X := fun w _ => laidMetH Tryd.prog laidL w) false (World.doorLaid Tryd.prog 400 os) #[.slice none 0 0] 8 rfl (World.shaped_of_RefB (by kernel_rfl) (by kernel_rfl)) (by kernel_rfl) (by kernel_rfl) (by kernel_rfl) (door_met os _)) ?_
  intro W base args ds gs before hval0 hW _ _ _ _
  have hval : ∀ (j : Nat) t v, Tryd.f4.params[j]? = some t → args[j]? = some v → Value.okWide Tryd.prog W .any base t v := hval0
  have hW' := hW
  obtain ⟨p, q, hA0, hV, rfl, hfz, hnd⟩ := hW
  have hA : DataW.TrodAll enc Tryd.prog W 0 (fun _ => true) true Tryd.f4.params.toList args.toList ds p := hA0
  rw [Tryd.params4] at hA hval
  obtain ⟨v0, vs0, d0, ds0, p0, q0, hargs, rfl, rfl, h0, r0⟩ := trodAll_cons hA
  obtain ⟨rfl, rfl, rfl⟩ := trodAll_nil r0
  obtain rfl : args = #[v0] := by cases args; simp_all
  obtain ⟨rfl, rfl⟩ := trodVars_none hV
  have lt0 := lt_of_trod h0
  obtain ⟨b0, w0⟩ := open_raw_bytes_arg (fun _ => rfl) (hval 0 22 v0 rfl rfl) h0
  clear hA0 hval0
  refine (fnParityOf_walk W v0 b0 w0).mono fun e W' ⟨he, bel⟩ => ?_
  subst he
  exact ⟨_, rfl, _, _, _, [], _, [], hW', trodAll_mk1 (shut_bool Tryd.underlying4 _), (trodAll_cons_mk (Below.trod Tryd.laidOut (by kernel_rfl) (of_decide_eq_true (by kernel_rfl)) h0 bel lt0) trodAll_mk0), rfl, bel.frame _, fun h => by cases h⟩

theorem fnParityOf_over : Rows.fnParityOfRow.holds Tryd.pinned (OpenSpec.ofChange Rows.fnParityOfSpec) :=
  OpenClaim.holds_of_wide 4 Tryd.f4 rfl rfl rfl rfl rfl rfl rfl ⟨rfl, rfl, rfl, rfl, rfl⟩ rfl rfl rfl rfl rfl (by kernel_rfl) Tryd.func4 (by kernel_rfl)
    (of_decide_eq_true (by kernel_rfl)) (by unfold Func.isWrapper; rw [if_neg (of_decide_eq_false (by kernel_rfl))]; exact ⟨rfl, rfl⟩)
    (fun os started H enc _ => fnParityOf_lifted os started H enc)

theorem fnParityOf_holds : Rows.FnParityOfCardSaid :=
  Claim7.holds_tied_plain_at .later [] [.data, .data, .data] true mainIsB false
    fnParityOf_over (fun _ h => by cases h) (by kernel_rfl) (fun _ h => by cases h) fnParityOf_row_tie rfl ⟨rfl, rfl⟩ mainFact rfl
    (fun f fn hf hfn => by
      obtain rfl : f = 4 := Option.some.inj ((show Tryd.prog.funcNamed "loop.example/parkinghouse/laws.FnParityOf" = some 4 by kernel_rfl).symm.trans hf) |>.symm
      obtain rfl : fn = Tryd.f4 := (Option.some.inj (Tryd.func4.symm.trans hfn)).symm
      exact ⟨noLooks, fun j t ht => by
        rw [Tryd.params4] at ht
        have hm : t ∈ [22] := by simpa using Array.mem_of_getElem? ht
        have hall : ([22].all fun u => !Tryd.prog.wantsStandIn u) = true := by kernel_rfl
        exact (show Tryd.prog.wantsStandIn t = false by simpa using List.all_eq_true.1 hall t hm)⟩)
    (by kernel_rfl)

#print axioms fnParityOf_holds

end Go.Proofs.YtcjhlhikolaffaaDoor
