/-
  Drawn runs; drawn halls with a parity.
-/
import Derived.Test.YtnfjmcenjpoloaaDoorRS
import Derived.Test.YtnfjmcenjpoloaaDoorWE
import Derived.Test.YtnfjmcenjpoloaaDoorWD
import Derived.Test.YtnfjmcenjpoloaaDoorW5
import Derived.Test.YtnfjmcenjpoloaaDoorWF
set_option linter.unusedVariables false
set_option linter.unusedSimpArgs false
set_option maxRecDepth 100000
namespace Go.Proofs.YtnfjmcenjpoloaaDoor
open Go Go.RowKit Go.Park Go.Sym
theorem mem_row {h : PHall} {k m : Nat} {s : Int × Int} : s ∈ mayRow h k m ↔ ∃ j : Nat, j < m ∧ slideMayB h k j = true ∧ s = ((k : Int), (j : Int)) := by
  unfold mayRow
  rw [List.mem_map]
  constructor
  · rintro ⟨x, hx, rfl⟩
    obtain ⟨j, h1, h2, rfl⟩ := selTo_mem.1 hx
    exact ⟨j, h1, h2, rfl⟩
  · rintro ⟨j, h1, h2, rfl⟩
    exact ⟨j, selTo_mem.2 ⟨j, h1, h2, rfl⟩, rfl⟩
theorem mem_to {h : PHall} {n : Nat} {s : Int × Int} : s ∈ mayTo h n ↔ ∃ k : Nat, k < n ∧ s ∈ mayRow h k h.cells.length := by
  induction n with
  | zero => simp [mayTo]
  | succ n ih =>
    rw [mayTo, List.mem_append, ih]
    constructor
    · rintro (⟨k, h1, h2⟩ | h2)
      · exact ⟨k, by omega, h2⟩
      · exact ⟨n, by omega, h2⟩
    · rintro ⟨k, h1, h2⟩
      by_cases e : k = n
      · subst e; exact .inr h2
      · exact .inl ⟨k, by omega, h2⟩
theorem mem_all {h : PHall} {s : Int × Int} : s ∈ slidesAllF h ↔ slideMayB h s.1 s.2 = true := by
  unfold slidesAllF
  rw [mem_to]
  constructor
  · rintro ⟨k, _, h2⟩
    obtain ⟨j, _, h3, rfl⟩ := mem_row.1 h2
    exact h3
  · intro hm
    obtain ⟨h1, h2, _⟩ := may_cells hm
    have ha := hasCell_iff.1 h1
    have hb := hasCell_iff.1 h2
    obtain ⟨a, b⟩ := s
    dsimp only at hm ha hb
    refine ⟨a.toNat, by omega, mem_row.2 ⟨b.toNat, by omega, ?_, ?_⟩⟩
    · rw [Int.toNat_of_nonneg ha.1, Int.toNat_of_nonneg hb.1]; exact hm
    · rw [Int.toNat_of_nonneg ha.1, Int.toNat_of_nonneg hb.1]
set_option maxHeartbeats 4000000 in
theorem drawParityOf_fn (v0 : Value) (bs : List Int) (hB : OkB bs) : ∃ h : PHall, h.cells.length ≤ 13 ∧ FnS Tryd.prog 49 [codeV v0 bs] (hallV h) := by
  have hC := cut_bytes hB
  obtain ⟨⟨h, id, q⟩, ⟨g1, g2, g3⟩, hH⟩ := l20Crowd_fn (rdV v0) _ hC 0 (by omega) 9 (by omega)
  dsimp only at g1 g2 g3 hH
  have hlim := lim_eq
  have hfl := free_len h
  refine fnx_go1 (Good := fun h : PHall => h.cells.length ≤ 13) (res := fun h => hallV h) tabOk Tryd.func49 rfl (by kernel_rfl) Tryd.ntmps49 Tryd.results49 (by decide) ?_
  repeat first | refine Ua ?_ | refine Ub ?_ | refine Uc ?_ | refine Ud ?_ | refine Ue ?_ | refine Ug ⟨by kernel_rfl, ?_⟩ | refine Ug ?_ | refine Uh ?_ | refine Ui ?_ | refine Uj ?_ | refine Uk rfl ?_ | refine Ul rfl ?_ | refine Um ?_ | refine Un ?_ | refine Uo ?_ | refine Up rfl ?_ | refine Uq ?_ | refine Ur ?_ | refine Us ?_ | refine Ut ?_ | refine Uu ?_ | refine Ux ?_ | refine Uv rfl rfl rfl rfl ?_ | refine Uw rfl rfl rfl ?_ | refine U0 z0 ?_ | refine U1 (by first | (apply st_open; iterate 4 exact rfl) | (apply st_call_s (hfn := specHallFree_fn h (by omega) ); exact rfl; exact fz; iterate 2 exact rfl) | exact z1 | fail) ?_ | refine U9 zs ?_ | refine U2 (by first | (apply st_recv_hv (hfn := hH ); (iterate 4 exact rfl); exact fz; iterate 3 exact rfl) | fail) ?_
  refine ax_loop (fun i : List Int × Nat × Int => mkS [(7, .int (i.2.1 : Int)), (6, .own 6 0), (4, .ptr 5 0 0), (3, .ptr 2 0 0), (2, .ptr 1 0 0)] ⟨7, [(1, some zeroRow), (2, some (rdR (rdV v0) (bs.take (cutN bs.length)) i.2.2)), (3, some (intsRow i.1)), (5, some (boxRow h.wide h.deep 3 0)), (6, some (intsRow (hallFreeF h)))]⟩) (fun i => i.1.length = h.cells.length ∧ 1 ≤ i.2.1 ∧ i.2.1 ≤ 100 ∧ q ≤ i.2.2 ∧ i.2.2 ≤ q + 10 * i.2.1) (fun i => (hallFreeF h).length - i.2.1) ((h.cells, 1, q)) (⟨rfl, Nat.le_refl _, by show (1 : Nat) ≤ 100; omega, Int.le_refl _, by show q ≤ q + 10 * ((1 : Nat) : Int); omega⟩) (Lw (ρ := [])) ?_
  rintro ⟨cs, k, q2⟩ ⟨e1, e2, e3, e4, e5⟩
  dsimp only at e1 e2 e3 e4 e5 ⊢
  repeat first | refine Ua ?_ | refine Ub ?_ | refine Uc ?_ | refine Ud ?_ | refine Ue ?_ | refine Ug ⟨by kernel_rfl, ?_⟩ | refine Ug ?_ | refine Uh ?_ | refine Ui ?_ | refine Uj ?_ | refine Uk rfl ?_ | refine Ul rfl ?_ | refine Um ?_ | refine Un ?_ | refine Uo ?_ | refine Up rfl ?_ | refine Uq ?_ | refine Ur ?_ | refine Us ?_ | refine Ut ?_ | refine Uu ?_ | refine Ux ?_ | refine Uv rfl rfl rfl rfl ?_ | refine Uw rfl rfl rfl ?_ | refine U0 z0 ?_ | refine U1 z1 ?_ | refine U9 zs ?_
  refine rh_split rfl rfl (fun hb => ?_) (fun hb => ?_)
  · have hlt : k < (hallFreeF h).length := by simpa using hb
    obtain ⟨_, c0, c1, c2⟩ := free_cell hlt
    have u := pick_tri hC (p := q2) (n := 8) (by omega) (by omega)
    repeat first | refine Ua ?_ | refine Ub ?_ | refine Uc ?_ | refine Ud ?_ | refine Ue ?_ | refine Ug ⟨by kernel_rfl, ?_⟩ | refine Ug ?_ | refine Uh ?_ | refine Ui ?_ | refine Uj ?_ | refine Uk rfl ?_ | refine Ul rfl ?_ | refine Um ?_ | refine Un ?_ | refine Uo ?_ | refine Up rfl ?_ | refine Uq ?_ | refine Ur ?_ | refine Us ?_ | refine Ut ?_ | refine Uu ?_ | refine Ux ?_ | refine Uv rfl rfl rfl rfl ?_ | refine Uw rfl rfl rfl ?_ | refine U0 z0 ?_ | refine U1 (by first | (apply st_recv_v (hfn := pick_fn (rdV v0) _ hC q2 (by omega) 8 ); (iterate 4 exact rfl); exact fz; iterate 2 exact rfl) | exact z1 | fail) ?_ | refine U9 zs ?_
    refine ax_cond rfl (fun hb2 => ?_) (fun hb2 => ?_)
    · repeat first | refine Ua ?_ | refine Ub ?_ | refine Uc ?_ | refine Ud ?_ | refine Ue ?_ | refine Ug ⟨by kernel_rfl, ?_⟩ | refine Ug ?_ | refine Uh ?_ | refine Ui ?_ | refine Uj ?_ | refine Uk rfl ?_ | refine Ul rfl ?_ | refine Um ?_ | refine Un ?_ | refine Uo ?_ | refine Up rfl ?_ | refine Uq ?_ | refine Ur ?_ | refine Us ?_ | refine Ut ?_ | refine Uu ?_ | refine Ux ?_ | refine Uv rfl rfl rfl rfl ?_ | refine Uw rfl rfl rfl ?_ | refine U0 z0 ?_ | refine U1 z1 ?_ | refine U9 zs ?_
      refine round_next ((cs.set (gi (hallFreeF h) k).toNat (30 + (k : Int)), k + 1, q2 + 1)) (⟨by rw [List.length_set]; exact e1, by show 1 ≤ k + 1; omega, by show k + 1 ≤ 100; omega, by show q ≤ q2 + 1; omega, by show q2 + 1 ≤ q + 10 * ((k + 1 : Nat) : Int); omega⟩) (by show (hallFreeF h).length - (k + 1) < (hallFreeF h).length - k; omega) (Lw (ρ := []))
    · repeat first | refine Ua ?_ | refine Ub ?_ | refine Uc ?_ | refine Ud ?_ | refine Ue ?_ | refine Ug ⟨by kernel_rfl, ?_⟩ | refine Ug ?_ | refine Uh ?_ | refine Ui ?_ | refine Uj ?_ | refine Uk rfl ?_ | refine Ul rfl ?_ | refine Um ?_ | refine Un ?_ | refine Uo ?_ | refine Up rfl ?_ | refine Uq ?_ | refine Ur ?_ | refine Us ?_ | refine Ut ?_ | refine Uu ?_ | refine Ux ?_ | refine Uv rfl rfl rfl rfl ?_ | refine Uw rfl rfl rfl ?_ | refine U0 z0 ?_ | refine U1 z1 ?_ | refine U9 zs ?_
      exact ⟨⟨⟨h.wide, h.deep, cs⟩, by show cs.length ≤ 13; omega, .inl rfl, Rx⟩⟩
  · repeat first | refine Ua ?_ | refine Ub ?_ | refine Uc ?_ | refine Ud ?_ | refine Ue ?_ | refine Ug ⟨by kernel_rfl, ?_⟩ | refine Ug ?_ | refine Uh ?_ | refine Ui ?_ | refine Uj ?_ | refine Uk rfl ?_ | refine Ul rfl ?_ | refine Um ?_ | refine Un ?_ | refine Uo ?_ | refine Up rfl ?_ | refine Uq ?_ | refine Ur ?_ | refine Us ?_ | refine Ut ?_ | refine Uu ?_ | refine Ux ?_ | refine Uv rfl rfl rfl rfl ?_ | refine Uw rfl rfl rfl ?_ | refine U0 z0 ?_ | refine U1 z1 ?_ | refine U9 zs ?_
    exact ⟨⟨⟨h.wide, h.deep, cs⟩, by show cs.length ≤ 13; omega, .inl rfl, Rx⟩⟩
set_option maxHeartbeats 4000000 in
theorem drawSlideRun_fn (v0 : Value) (bs : List Int) (hB : OkB bs) : ∃ i : PHall × List (Int × Int), (i.1.cells.length ≤ 13 ∧ i.2.length ≤ 61) ∧ FnS Tryd.prog 14 [codeV v0 bs] (.tup [hallV i.1, slcV i.2]) := by
  have hC := cut_bytes hB
  obtain ⟨q0, ⟨d1, d2⟩, hO⟩ := odd_fn (rdV v0) _ hC 0 (by omega) 30 (by omega)
  obtain ⟨⟨h1, q1⟩, ⟨g1, g2, g3⟩, hH⟩ := l20Hall_fn (rdV v0) _ hC q0 (by omega) 0 (by omega)
  obtain ⟨⟨h2, out, q2⟩, ⟨k1, k2, k3, k4⟩, hS⟩ := l20Slides_fn (rdV v0) _ hC q0 (by omega) 9 (by omega)
  dsimp only at g1 g2 g3 hH k1 k2 k3 k4 hS
  have hlim := lim_eq
  refine fnx_go1 (Good := fun i : PHall × List (Int × Int) => i.1.cells.length ≤ 13 ∧ i.2.length ≤ 61) (res := fun i => .tup [hallV i.1, slcV i.2]) tabOk Tryd.func14 rfl (by kernel_rfl) Tryd.ntmps14 Tryd.results14 (by decide) ?_
  repeat first | refine Ua ?_ | refine Ub ?_ | refine Uc ?_ | refine Ud ?_ | refine Ue ?_ | refine Ug ⟨by kernel_rfl, ?_⟩ | refine Ug ?_ | refine Uh ?_ | refine Ui ?_ | refine Uj ?_ | refine Uk rfl ?_ | refine Ul rfl ?_ | refine Um ?_ | refine Un ?_ | refine Uo ?_ | refine Up rfl ?_ | refine Uq ?_ | refine Ur ?_ | refine Us ?_ | refine Ut ?_ | refine Uu ?_ | refine Ux ?_ | refine Uv rfl rfl rfl rfl ?_ | refine Uw rfl rfl rfl ?_ | refine U0 z0 ?_ | refine U1 (by first | (apply st_open; iterate 4 exact rfl) | (apply st_recv_v (hfn := hO ); (iterate 4 exact rfl); exact fz; iterate 2 exact rfl) | exact z1 | fail) ?_ | refine U9 zs ?_
  refine ax_cond rfl (fun hb => ?_) (fun hb => ?_)
  · repeat first | refine Ua ?_ | refine Ub ?_ | refine Uc ?_ | refine Ud ?_ | refine Ue ?_ | refine Ug ⟨by kernel_rfl, ?_⟩ | refine Ug ?_ | refine Uh ?_ | refine Ui ?_ | refine Uj ?_ | refine Uk rfl ?_ | refine Ul rfl ?_ | refine Um ?_ | refine Un ?_ | refine Uo ?_ | refine Up rfl ?_ | refine Uq ?_ | refine Ur ?_ | refine Us ?_ | refine Ut ?_ | refine Uu ?_ | refine Ux ?_ | refine Uv rfl rfl rfl rfl ?_ | refine Uw rfl rfl rfl ?_ | refine U0 z0 ?_ | refine U1 (by first | (apply st_make_s (m := 61) tabOk; (iterate 10 exact rfl); (show 16 * _ ≤ _; omega); (unfold maxLen; omega); exact rfl; exact rfl) | exact z1 | fail) ?_ | refine U9 zs ?_ | refine U2 (by first | (apply st_recv_h (hfn := hH ); (iterate 4 exact rfl); exact fz; iterate 3 exact rfl) | fail) ?_
    exact ⟨⟨(h1, List.replicate 61 (0, 0)), ⟨g1, by simp⟩, .inl rfl, Rx⟩⟩
  · repeat first | refine Ua ?_ | refine Ub ?_ | refine Uc ?_ | refine Ud ?_ | refine Ue ?_ | refine Ug ⟨by kernel_rfl, ?_⟩ | refine Ug ?_ | refine Uh ?_ | refine Ui ?_ | refine Uj ?_ | refine Uk rfl ?_ | refine Ul rfl ?_ | refine Um ?_ | refine Un ?_ | refine Uo ?_ | refine Up rfl ?_ | refine Uq ?_ | refine Ur ?_ | refine Us ?_ | refine Ut ?_ | refine Uu ?_ | refine Ux ?_ | refine Uv rfl rfl rfl rfl ?_ | refine Uw rfl rfl rfl ?_ | refine U0 z0 ?_ | refine U1 z1 ?_ | refine U9 zs ?_ | refine U3 (by first | (apply st_recv_hs (hfn := hS ); (iterate 4 exact rfl); exact fz; iterate 4 exact rfl) | fail) ?_
    exact ⟨⟨(h2, out), ⟨k1, by show out.length ≤ 61; omega⟩, .inl rfl, Rx⟩⟩
theorem find_iff {h : PHall} (hv : validB h = true) {c : Int} (h1 : 1 ≤ c) : 0 ≤ hallFindF h c ↔ c ∈ h.cells := by
  constructor
  · intro hf
    obtain ⟨_, _, h3, h4⟩ := find_ok (h := h) (id := c) (by omega)
    exact mem_gi.2 ⟨_, by omega, h4⟩
  · intro hm
    obtain ⟨j, hj, e⟩ := mem_gi.1 hm
    rw [find_is hv h1 hj e]; omega
end Go.Proofs.YtnfjmcenjpoloaaDoor
