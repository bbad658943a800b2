/-
  BringLeast and BringBest of the reference.
-/
import Derived.Test.YtnfjmcenjpoloaaDoorRF
import Derived.Test.YtnfjmcenjpoloaaDoorRQ
import Derived.Test.YtnfjmcenjpoloaaDoorP7
set_option linter.unusedVariables false
set_option linter.unusedSimpArgs false
set_option maxRecDepth 100000
namespace Go.Proofs.YtnfjmcenjpoloaaDoor
open Go Go.RowKit Go.Park Go.Sym Go.Graph

theorem left_at {n many : Nat} {L : List Int} {s : St2} (hw : Wf n many s) : Go.Graph.leftOf n many L s = gi L (encM 4096 s) := by unfold Go.Graph.leftOf; rw [if_pos hw]; rfl
set_option maxHeartbeats 4000000 in
theorem specBringLeast_fn (h : PHall) (hl : h.cells.length ≤ lim) (id : Int) : FnS Tryd.prog 32 [hallV h, .int id] (.int (leastF h id)) := by
  have hlow := find_low h id
  by_cases h0 : hallFindF h id < 0
  · have hF : leastF h id = -1 := by unfold leastF; rw [bestF_no h0]; simp
    rw [hF]
    refine fn_go2 tabOk Tryd.func32 rfl (by kernel_rfl) Tryd.ntmps32 Tryd.results32 (by decide) ?_
    repeat first | refine Ua ?_ | refine Ub ?_ | refine Uc ?_ | refine Ud ?_ | refine Ue ?_ | refine Ug ⟨by kernel_rfl, ?_⟩ | refine Ug ?_ | refine Uh ?_ | refine Ui ?_ | refine Uj ?_ | refine Uk rfl ?_ | refine Ul rfl ?_ | refine Um ?_ | refine Un ?_ | refine Uo ?_ | refine Up rfl ?_ | refine Uq ?_ | refine Ur ?_ | refine Us ?_ | refine Ut ?_ | refine Uu ?_ | refine Ux ?_ | refine Uv rfl rfl rfl rfl ?_ | refine Uw rfl rfl rfl ?_ | refine U0 (by first | (apply st_call (hfn := specHallFind_fn h hl id ); exact rfl; exact fz) | exact z0 | fail) ?_ | refine U1 z1 ?_ | refine U9 zs ?_
    refine ax_cond rfl (fun hb => ?_) (fun hb => ?_)
    · skip
      repeat first | refine Ua ?_ | refine Ub ?_ | refine Uc ?_ | refine Ud ?_ | refine Ue ?_ | refine Ug ⟨by kernel_rfl, ?_⟩ | refine Ug ?_ | refine Uh ?_ | refine Ui ?_ | refine Uj ?_ | refine Uk rfl ?_ | refine Ul rfl ?_ | refine Um ?_ | refine Un ?_ | refine Uo ?_ | refine Up rfl ?_ | refine Uq ?_ | refine Ur ?_ | refine Us ?_ | refine Ut ?_ | refine Uu ?_ | refine Ux ?_ | refine Uv rfl rfl rfl rfl ?_ | refine Uw rfl rfl rfl ?_ | refine U0 z0 ?_ | refine U1 z1 ?_ | refine U9 zs ?_
      exact ⟨.inl rfl, Rx⟩
    · exact absurd h0 (by simpa using hb)
  · obtain ⟨c, hc⟩ : ∃ c : Nat, hallFindF h id = c := ⟨(hallFindF h id).toNat, by omega⟩
    obtain ⟨hv, _, hcl, _⟩ := find_at hc
    have h12 := (valid_len hv).2
    have hw := wf_of hc
    obtain ⟨L, ⟨hL, hD⟩, hLf⟩ := l2Left_fn h hl hv
    have hleast := least_of hc hD
    rw [left_at hw] at hleast
    obtain ⟨hs2, he⟩ := wf_4096 h12 hw
    have hsum : (c : Int) * 4096 + ((setN h : Nat) : Int) = ((encM 4096 (c, setN h) : Nat) : Int) := by unfold encM; simp only; omega
    have hfind := specHallFind_fn h hl id
    rw [hc] at hfind
    have hset : setN h < 4096 := hs2
    refine fn_go2 tabOk Tryd.func32 rfl (by kernel_rfl) Tryd.ntmps32 Tryd.results32 (by decide) ?_
    repeat first | refine Ua ?_ | refine Ub ?_ | refine Uc ?_ | refine Ud ?_ | refine Ue ?_ | refine Ug ⟨by kernel_rfl, ?_⟩ | refine Ug ?_ | refine Uh ?_ | refine Ui ?_ | refine Uj ?_ | refine Uk rfl ?_ | refine Ul rfl ?_ | refine Um ?_ | refine Un ?_ | refine Uo ?_ | refine Up rfl ?_ | refine Uq ?_ | refine Ur ?_ | refine Us ?_ | refine Ut ?_ | refine Uu ?_ | refine Ux ?_ | refine Uv rfl rfl rfl rfl ?_ | refine Uw rfl rfl rfl ?_ | refine U0 (by first | (apply st_call (hfn := hfind ); exact rfl; exact fz) | (apply st_call (hfn := l2Free_fn h hl hv ); exact rfl; exact fz) | (apply st_add; (iterate 3 exact rfl); exact hsum; omega) | (apply st_ld_intsE tabOk; (iterate 7 exact rfl); omega; exact hleast.symm) | exact z0 | fail) ?_ | refine U1 (by first | (apply st_call_s (hfn := hLf ); exact rfl; exact fz; iterate 2 exact rfl) | exact z1 | fail) ?_ | refine U9 zs ?_
    exact ⟨.inl rfl, Rx⟩
theorem slide_st {now : PHall} {id : Int} {a : Nat} (hf : hallFindF now id = a) {s : Int × Int} (hs : slideMayB now s.1 s.2 = true) : ∃ u : St2, slideDoF now s.1 s.2 = (slidH now s.1.toNat s.2.toNat, true) ∧ hallFindF (slidH now s.1.toNat s.2.toNat) id = (u.1 : Int) ∧ setN (slidH now s.1.toNat s.2.toNat) = u.2 ∧ (codeOf s, u) ∈ mvW now.cells.length (hallFreeF now).length (nbN now) (a, setN now) ∧ validB (slidH now s.1.toNat s.2.toNat) = true := by
  obtain ⟨m, e1, e2⟩ := may_nat hs
  have hdo := m.slid
  rw [e1, e2] at hdo
  exact ⟨_, hdo, m.find hf, rfl, mem_mvW.2 ⟨wf_of hf, _, _, m.mv a, rfl⟩, m.ok⟩
theorem free_len_slid {h : PHall} {a b : Nat} (m : May h a b) : (hallFreeF (slidH h a b)).length = (hallFreeF h).length := by
  have hw : ∀ c : Nat, c < h.cells.length → gi h.cells c ≠ 0 → bitsF (setN (slidH h a b)) = bitsF (setN h) := fun c hc h0 => by
    have w : Wf h.cells.length (bitsF (setN h)) (c, setN h) := ⟨hc, set_lt h, by show (setN h).testBit c = false; rw [set_bit]; simp [h0], rfl⟩
    exact ((m.mv c).wf (nb_ok m.valid) w).2.2.2
  rw [← bits_set m.ok, ← bits_set m.valid]
  exact hw a m.la m.car
/-- where the descent stands -/
structure Desc (h : PHall) (id : Int) (L : List Int) (p : List Nat) (now : PHall) (rem : List Nat) (out : List (Int × Int)) (a : Nat) : Prop where
  valid : validB now = true
  wide : now.wide = h.wide
  len : now.cells.length = h.cells.length
  many : (hallFreeF now).length = (hallFreeF h).length
  find : hallFindF now id = a
  way : ∃ t, Greedy (mvW h.cells.length (hallFreeF h).length (nbN h)) (goalW h.cells.length (hallFreeF h).length) (Go.Graph.leftOf h.cells.length (hallFreeF h).length L) (a, setN now) rem t
  whole : out ++ rem.map slideOf = p.map slideOf
/-- the slide that is looked for -/
structure Hit (h : PHall) (id : Int) (L : List Int) (now : PHall) (a : Nat) (m : Nat) (k0 : Nat) : Prop where
  lt : k0 < (slidesAllF now).length
  here : ∀ u : St2, (codeOf (gs (slidesAllF now) k0), u) ∈ mvW h.cells.length (hallFreeF h).length (nbN h) (a, setN now) → gi L (encM 4096 u) = (m : Int) - 1
  before : ∀ k, k < k0 → ∀ u : St2, (codeOf (gs (slidesAllF now) k), u) ∈ mvW h.cells.length (hallFreeF h).length (nbN h) (a, setN now) → gi L (encM 4096 u) ≠ (m : Int) - 1
theorem gs_mem {l : List (Int × Int)} {k : Nat} (hk : k < l.length) : gs l k ∈ l := by simp [gs, List.getD, hk]
theorem Desc.nb {h : PHall} {id : Int} {L : List Int} {p : List Nat} {now : PHall} {rem : List Nat} {out : List (Int × Int)} {a : Nat} (hv : validB h = true) (d : Desc h id L p now rem out a) : nbN now = nbN h := nb_same d.valid hv d.wide d.len
theorem Desc.slide {h : PHall} {id : Int} {L : List Int} {p : List Nat} {now : PHall} {rem : List Nat} {out : List (Int × Int)} {a : Nat} (hv : validB h = true) (d : Desc h id L p now rem out a) {k : Nat} (hk : k < (slidesAllF now).length) : ∃ u : St2, slideDoF now (gs (slidesAllF now) k).1 (gs (slidesAllF now) k).2 = (slidH now (gs (slidesAllF now) k).1.toNat (gs (slidesAllF now) k).2.toNat, true) ∧ hallFindF (slidH now (gs (slidesAllF now) k).1.toNat (gs (slidesAllF now) k).2.toNat) id = (u.1 : Int) ∧ setN (slidH now (gs (slidesAllF now) k).1.toNat (gs (slidesAllF now) k).2.toNat) = u.2 ∧ (codeOf (gs (slidesAllF now) k), u) ∈ mvW h.cells.length (hallFreeF h).length (nbN h) (a, setN now) ∧ validB (slidH now (gs (slidesAllF now) k).1.toNat (gs (slidesAllF now) k).2.toNat) = true := by
  obtain ⟨u, h1, h2, h3, h4, h5⟩ := slide_st d.find (mem_slidesAll.1 (gs_mem hk))
  rw [d.len, d.many, d.nb hv] at h4
  exact ⟨u, h1, h2, h3, h4, h5⟩
theorem mv_wf {n many : Nat} {B : Nat → List Nat} (hB : BOk n B) {s u : St2} {c : Nat} (h : (c, u) ∈ mvW n many B s) : Wf n many u := by
  obtain ⟨hw, a, b, m, _⟩ := mem_mvW.1 h
  exact m.wf hB hw
theorem desc_hit {h : PHall} {id : Int} {L : List Int} {p : List Nat} {now : PHall} {out : List (Int × Int)} {a : Nat} (hv : validB h = true) (hD : Dist (mvW h.cells.length (hallFreeF h).length (nbN h)) (goalW h.cells.length (hallFreeF h).length) (Go.Graph.leftOf h.cells.length (hallFreeF h).length L)) {rem : List Nat} (d : Desc h id L p now rem out a) (ha : 0 < a) :
    ∃ c rem' k0, rem = c :: rem' ∧ gi L (encM 4096 (a, setN now)) = ((rem'.length + 1 : Nat) : Int) ∧ Hit h id L now a (rem'.length + 1) k0 ∧ gs (slidesAllF now) k0 = slideOf c ∧
      ∀ u : St2, (codeOf (gs (slidesAllF now) k0), u) ∈ mvW h.cells.length (hallFreeF h).length (nbN h) (a, setN now) → hallFindF (slidH now (gs (slidesAllF now) k0).1.toNat (gs (slidesAllF now) k0).2.toNat) id = (u.1 : Int) → Desc h id L p (slidH now (gs (slidesAllF now) k0).1.toNat (gs (slidesAllF now) k0).2.toNat) rem' (out ++ [gs (slidesAllF now) k0]) u.1 := by
  have hB := nb_ok hv
  have h12 := (valid_len hv).2
  obtain ⟨t, hg⟩ := d.way
  have hlen := hg.length hD
  cases hg with
  | nil hgl => exact absurd hgl.2 (by show ¬ a = 0; omega)
  | @cons _ u0 _ c rem' hm hd hf hk =>
    obtain ⟨hw, x, y, m, hc⟩ := mem_mvW.1 hm
    have hn := d.nb hv
    have m' : IsMv now.cells.length (nbN now) (a, setN now) x y u0 := by rw [d.len, hn]; exact m
    have my := may_of_mv d.valid m'
    have hy16 : y < 16 := by have := my.lb; have := (valid_len d.valid).2; omega
    have hsl : slideOf c = ((x : Int), (y : Int)) := by rw [hc, slide_code hy16]
    have hmem : slideOf c ∈ slidesAllF now := mem_slidesAll.2 (by rw [hsl]; exact my.may)
    obtain ⟨k0, hk0, he⟩ := List.mem_iff_getElem.1 hmem
    have hgs : gs (slidesAllF now) k0 = slideOf c := by simp [gs, List.getD, hk0, he]
    have hcode : codeOf (slideOf c) = c := by rw [hsl, hc]; simp [codeOf]
    have hl0 : Go.Graph.leftOf h.cells.length (hallFreeF h).length L (a, setN now) = ((rem'.length + 1 : Nat) : Int) := by rw [hlen]; simp
    refine ⟨c, rem', k0, rfl, by rw [← left_at hw]; exact hl0, ⟨hk0, fun u hu => ?_, fun k hk1 u hu e => ?_⟩, hgs, fun u hu hfu => ?_⟩
    · rw [hgs, hcode] at hu
      obtain rfl := mvW_fn hB _ _ _ _ hu hm
      rw [← left_at (mv_wf hB hu), hd, hl0]
    · have hup := slidesAll_up d.valid
      have hk1l : k < (slidesAllF now).length := by omega
      have h1 := List.pairwise_iff_getElem.1 hup k k0 hk1l hk0 hk1
      have h2 : codeOf (gs (slidesAllF now) k) < c := by
        rw [he, hcode] at h1
        simpa [gs, List.getD, hk1l] using h1
      have h3 := hf _ u hu (by rw [left_at (mv_wf hB hu), hl0]; exact e)
      rcases h3 with h3 | ⟨h3, _⟩ <;> omega
    · rw [hgs, hcode] at hu
      obtain rfl := mvW_fn hB _ _ _ _ hu hm
      have hs1 : (slideOf c).1.toNat = x := by rw [hsl]; simp
      have hs2 : (slideOf c).2.toNat = y := by rw [hsl]; simp
      rw [hgs] at hfu ⊢
      rw [hs1, hs2] at hfu ⊢
      have hset : setN (slidH now x y) = u.2 := by have := m'.fn (my.mv a); rw [this]
      refine ⟨my.ok, d.wide, (slid_len _ _ _).trans d.len, (free_len_slid my).trans d.many, hfu, ⟨t, ?_⟩, ?_⟩
      · rw [hset]; exact hk
      · have := d.whole
        rw [List.map_cons] at this
        rw [List.append_assoc]; exact this
set_option maxHeartbeats 16000000 in
theorem specBringBest_fn (h : PHall) (hl : h.cells.length ≤ lim) (id : Int) : FnS Tryd.prog 68 [hallV h, .int id] (.tup [slcV (bestF h id).1, .bool (bestF h id).2]) := by
  have hlow := find_low h id
  by_cases h0 : hallFindF h id < 0
  · rw [bestF_no h0]
    refine fn_go2 tabOk Tryd.func68 rfl (by kernel_rfl) Tryd.ntmps68 Tryd.results68 (by decide) ?_
    repeat first | refine Ua ?_ | refine Ub ?_ | refine Uc ?_ | refine Ud ?_ | refine Ue ?_ | refine Ug ⟨by kernel_rfl, ?_⟩ | refine Ug ?_ | refine Uh ?_ | refine Ui ?_ | refine Uj ?_ | refine Uk rfl ?_ | refine Ul rfl ?_ | refine Um ?_ | refine Un ?_ | refine Uo ?_ | refine Up rfl ?_ | refine Uq ?_ | refine Ur ?_ | refine Us ?_ | refine Ut ?_ | refine Uu ?_ | refine Ux ?_ | refine Uv rfl rfl rfl rfl ?_ | refine Uw rfl rfl rfl ?_ | refine U0 (by first | (apply st_call (hfn := specHallFind_fn h hl id ); exact rfl; exact fz) | exact z0 | fail) ?_ | refine U1 z1 ?_ | refine U9 zs ?_
    refine ax_cond rfl (fun hb => ?_) (fun hb => ?_)
    · skip
      repeat first | refine Ua ?_ | refine Ub ?_ | refine Uc ?_ | refine Ud ?_ | refine Ue ?_ | refine Ug ⟨by kernel_rfl, ?_⟩ | refine Ug ?_ | refine Uh ?_ | refine Ui ?_ | refine Uj ?_ | refine Uk rfl ?_ | refine Ul rfl ?_ | refine Um ?_ | refine Un ?_ | refine Uo ?_ | refine Up rfl ?_ | refine Uq ?_ | refine Ur ?_ | refine Us ?_ | refine Ut ?_ | refine Uu ?_ | refine Ux ?_ | refine Uv rfl rfl rfl rfl ?_ | refine Uw rfl rfl rfl ?_ | refine U0 z0 ?_ | refine U1 z1 ?_ | refine U9 zs ?_
      exact ⟨.inl rfl, Rx⟩
    · exact absurd h0 (by simpa using hb)
  · obtain ⟨c, hc⟩ : ∃ c : Nat, hallFindF h id = c := ⟨(hallFindF h id).toNat, by omega⟩
    obtain ⟨hv, _, hcl, _⟩ := find_at hc
    have h12 := (valid_len hv).2
    have hB := nb_ok hv
    have hw := wf_of hc
    obtain ⟨L, ⟨hL, hD⟩, hLf⟩ := l2Left_fn h hl hv
    have hleast := least_of hc hD
    rw [left_at hw] at hleast
    obtain ⟨hs2, he⟩ := wf_4096 h12 hw
    have hsum : (c : Int) * 4096 + ((setN h : Nat) : Int) = ((encM 4096 (c, setN h) : Nat) : Int) := by unfold encM; simp only; omega
    have hfind := specHallFind_fn h hl id
    rw [hc] at hfind
    have hset : setN h < 4096 := hs2
    refine fn_go2 tabOk Tryd.func68 rfl (by kernel_rfl) Tryd.ntmps68 Tryd.results68 (by decide) ?_
    repeat first | refine Ua ?_ | refine Ub ?_ | refine Uc ?_ | refine Ud ?_ | refine Ue ?_ | refine Ug ⟨by kernel_rfl, ?_⟩ | refine Ug ?_ | refine Uh ?_ | refine Ui ?_ | refine Uj ?_ | refine Uk rfl ?_ | refine Ul rfl ?_ | refine Um ?_ | refine Un ?_ | refine Uo ?_ | refine Up rfl ?_ | refine Uq ?_ | refine Ur ?_ | refine Us ?_ | refine Ut ?_ | refine Uu ?_ | refine Ux ?_ | refine Uv rfl rfl rfl rfl ?_ | refine Uw rfl rfl rfl ?_ | refine U0 (by first | (apply st_call (hfn := hfind ); exact rfl; exact fz) | (apply st_call (hfn := l2Free_fn h hl hv ); exact rfl; exact fz) | (apply st_add; (iterate 3 exact rfl); exact hsum; omega) | (apply st_ld_intsE tabOk; (iterate 7 exact rfl); omega; exact hleast.symm) | exact z0 | fail) ?_ | refine U1 (by first | (apply st_call_s (hfn := hLf ); exact rfl; exact fz; iterate 2 exact rfl) | exact z1 | fail) ?_ | refine U9 zs ?_
    refine ax_cond rfl (fun hb1 => ?_) (fun hb1 => ?_)
    · have hF : bestF h id = ([], false) := by
        have hneg : leastF h id < 0 := by simpa using hb1
        by_cases hbt : (bestF h id).2 = true
        · exfalso; unfold leastF at hneg; rw [if_pos hbt] at hneg; omega
        · rw [bestF_at hc] at hbt ⊢
          unfold bestAt at hbt ⊢
          split
          · rename_i p e; rw [e] at hbt; simp at hbt
          · rfl
      rw [hF]
      repeat first | refine Ua ?_ | refine Ub ?_ | refine Uc ?_ | refine Ud ?_ | refine Ue ?_ | refine Ug ⟨by kernel_rfl, ?_⟩ | refine Ug ?_ | refine Uh ?_ | refine Ui ?_ | refine Uj ?_ | refine Uk rfl ?_ | refine Ul rfl ?_ | refine Um ?_ | refine Un ?_ | refine Uo ?_ | refine Up rfl ?_ | refine Uq ?_ | refine Ur ?_ | refine Us ?_ | refine Ut ?_ | refine Uu ?_ | refine Ux ?_ | refine Uv rfl rfl rfl rfl ?_ | refine Uw rfl rfl rfl ?_ | refine U0 z0 ?_ | refine U1 z1 ?_ | refine U9 zs ?_
      exact ⟨.inl rfl, Rx⟩
    have hnn : 0 ≤ leastF h id := by have : ¬ leastF h id < 0 := by simpa using hb1
                                     omega
    obtain ⟨kk, hkk⟩ : ∃ k : Nat, leastF h id = k := ⟨(leastF h id).toNat, by omega⟩
    have hlk : Go.Graph.leftOf h.cells.length (hallFreeF h).length L (c, setN h) = (kk : Int) := by rw [left_at hw, ← hleast, hkk]
    obtain ⟨p, tt, hgr⟩ := hD.greedy (mvW_fn hB) kk _ hlk
    have hbest : IsBest (mvW h.cells.length (hallFreeF h).length (nbN h)) (goalW h.cells.length (hallFreeF h).length) (c, setN h) p := ⟨⟨tt, hgr.path, hgr.ends⟩, fun hp ht => hgr.best (mvW_small hB) hD hp ht⟩
    have hF : bestF h id = (p.map slideOf, true) := by rw [bestF_at hc]; exact bestAt_some (bestP_some hB hbest)
    rw [hF]
    have hd0 : Desc h id L p h p [] c := ⟨hv, rfl, rfl, rfl, hc, ⟨tt, hgr⟩, by simp⟩
    repeat first | refine Ua ?_ | refine Ub ?_ | refine Uc ?_ | refine Ud ?_ | refine Ue ?_ | refine Ug ⟨by kernel_rfl, ?_⟩ | refine Ug ?_ | refine Uh ?_ | refine Ui ?_ | refine Uj ?_ | refine Uk rfl ?_ | refine Ul rfl ?_ | refine Um ?_ | refine Un ?_ | refine Uo ?_ | refine Up rfl ?_ | refine Uq ?_ | refine Ur ?_ | refine Us ?_ | refine Ut ?_ | refine Uu ?_ | refine Ux ?_ | refine Uv rfl rfl rfl rfl ?_ | refine Uw rfl rfl rfl ?_ | refine U0 z0 ?_ | refine U1 (by first | (apply st_call_h (hfn := l1Hall_fn h hl (valid_ne hv) ); exact rfl; exact fz; iterate 2 exact rfl) | exact z1 | fail) ?_ | refine U9 zs ?_
    refine ax_loop (fun i : PHall × List Nat × List (Int × Int) × Nat => mkS [(9, .ptr 5 0 0), (8, .own 3 0), (7, .int (i.2.2.2 : Int)), (6, .own 2 0), (1, .int id)] ⟨6, [(2, some (slcRow i.2.2.1)), (3, some (intsRow L)), (4, some (intsRow i.1.cells)), (5, some (boxRow i.1.wide i.1.deep 4 0))]⟩) (fun i => Desc h id L p i.1 i.2.1 i.2.2.1 i.2.2.2) (fun i => i.2.1.length) ((h, p, [], c)) (hd0) (Lw (ρ := [])) ?_
    rintro ⟨now, rem, out, a⟩ d
    dsimp only at d ⊢
    have dl := d.len
    have dv := d.valid
    have nl : now.cells.length ≤ lim := by omega
    repeat first | refine Ua ?_ | refine Ub ?_ | refine Uc ?_ | refine Ud ?_ | refine Ue ?_ | refine Ug ⟨by kernel_rfl, ?_⟩ | refine Ug ?_ | refine Uh ?_ | refine Ui ?_ | refine Uj ?_ | refine Uk rfl ?_ | refine Ul rfl ?_ | refine Um ?_ | refine Un ?_ | refine Uo ?_ | refine Up rfl ?_ | refine Uq ?_ | refine Ur ?_ | refine Us ?_ | refine Ut ?_ | refine Uu ?_ | refine Ux ?_ | refine Uv rfl rfl rfl rfl ?_ | refine Uw rfl rfl rfl ?_ | refine U0 z0 ?_ | refine U1 z1 ?_ | refine U9 zs ?_
    refine ax_cond rfl (fun hb2 => ?_) (fun hb2 => ?_)
    · have ha : 0 < a := by simpa using hb2
      obtain ⟨c1, rem', k0, hrem, hval, hit, hgs, hnext⟩ := desc_hit hv hD d ha
      have hk0 := hit.lt
      have hls : (slidesAllF now).length ≤ 200 := by have := may_small now now.cells.length 0 (Nat.le_refl _) (Nat.zero_le _); simp [mayRow, selTo] at this; exact this
      obtain ⟨S, hS⟩ : ∃ S, S = slidesAllF now := ⟨_, rfl⟩
      have hall : FnS Tryd.prog 52 [hallV now] (slcV S) := by rw [hS]; exact specSlidesAll_fn now nl
      have hsl := fun k (hk : k < S.length) => d.slide hv (k := k) (by rw [← hS]; exact hk)
      have hdo := fun k => specSlideDo_fn now nl (gs S k).1 (gs S k).2
      have hhere := hit.here
      have hbef := hit.before
      rw [← hS] at hk0 hls hgs hnext hhere hbef
      rw [← hS] at hsl
      obtain ⟨X, hX⟩ : ∃ X : Nat → PHall, X = fun k => slidH now (gs S k).1.toNat (gs S k).2.toNat := ⟨_, rfl⟩
      have hXk : ∀ k, slidH now (gs S k).1.toNat (gs S k).2.toNat = X k := fun k => by rw [hX]
      have hXl : ∀ k, (X k).cells.length = now.cells.length := fun k => by rw [hX]; exact slid_len _ _ _
      have hdos : ∀ k, k < S.length → FnS Tryd.prog 53 [hallV now, .agg [.int (gs S k).1, .int (gs S k).2]] (.tup [hallV (X k), .bool true]) := fun k hk => by
        obtain ⟨u, f1, _⟩ := hsl k hk
        have := hdo k
        rw [f1, hXk] at this
        exact this
      rw [hXk] at hnext
      simp only [hXk] at hsl
      clear hdo hX
      have hdo0 := hdos 0 (by omega)
      have hwN : Wf h.cells.length (hallFreeF h).length (a, setN now) := by have := wf_of d.find; rw [dl, d.many] at this; exact this
      obtain ⟨hN2, hNe⟩ := wf_4096 h12 hwN
      have hN2' : setN now < 4096 := hN2
      have hsumN : (a : Int) * 4096 + ((setN now : Nat) : Int) = ((encM 4096 (a, setN now) : Nat) : Int) := by unfold encM; simp only; omega
      have hfN := l2Free_fn now nl dv
      have hout : out.length ≤ 60 ∧ rem'.length ≤ 60 := by
        have h1 := best_len h id
        rw [hF] at h1
        have h2 := congrArg List.length d.whole
        rw [List.length_append, hrem] at h2
        have h3 : (p.map slideOf).length ≤ 60 := h1
        simp only [List.length_map, List.length_cons] at h2 h3
        omega
      obtain ⟨hout, hrl⟩ := hout
      repeat first | refine Ua ?_ | refine Ub ?_ | refine Uc ?_ | refine Ud ?_ | refine Ue ?_ | refine Ug ⟨by kernel_rfl, ?_⟩ | refine Ug ?_ | refine Uh ?_ | refine Ui ?_ | refine Uj ?_ | refine Uk rfl ?_ | refine Ul rfl ?_ | refine Um ?_ | refine Un ?_ | refine Uo ?_ | refine Up rfl ?_ | refine Uq ?_ | refine Ur ?_ | refine Us ?_ | refine Ut ?_ | refine Uu ?_ | refine Ux ?_ | refine Uv rfl rfl rfl rfl ?_ | refine Uw rfl rfl rfl ?_ | refine U0 z0 ?_ | refine U1 (by first | (apply st_call_s (hfn := hall ); exact rfl; exact fz; iterate 2 exact rfl) | (apply st_call_hv (hfn := hdo0 ); exact rfl; exact fz; iterate 2 exact rfl) | exact z1 | fail) ?_ | refine U9 zs ?_
      refine ax_loop (fun k : Nat => mkS [(12, .ptr 8 0 0), (11, .int (k : Int)), (10, .own 6 0), (9, .ptr 5 0 0), (8, .own 3 0), (7, .int (a : Int)), (6, .own 2 0), (1, .int id)] ⟨9, [(2, some (slcRow out)), (3, some (intsRow L)), (4, some (intsRow now.cells)), (5, some (boxRow now.wide now.deep 4 0)), (6, some (slcRow S)), (7, some (intsRow (X k).cells)), (8, some (boxRow (X k).wide (X k).deep 7 0))]⟩) (fun k => k ≤ k0) (fun k => k0 - k) (0) (Nat.zero_le _) (Lw (ρ := [])) ?_
      intro k hk
      obtain ⟨u, f1, f2, f3, f4, f5⟩ := hsl k (by omega)
      have hwu := mv_wf hB f4
      obtain ⟨hu2, heu⟩ := wf_4096 h12 hwu
      have hXlk := hXl k
      have hfX := specHallFind_fn (X k) (by omega) id
      rw [f2] at hfX
      have hsX := l2Free_fn (X k) (by omega) f5
      rw [f3] at hsX
      have hu1 := hwu.1
      have hsumX : ((u.1 : Nat) : Int) * 4096 + ((u.2 : Nat) : Int) = ((encM 4096 u : Nat) : Int) := by unfold encM; omega
      repeat first | refine Ua ?_ | refine Ub ?_ | refine Uc ?_ | refine Ud ?_ | refine Ue ?_ | refine Ug ⟨by kernel_rfl, ?_⟩ | refine Ug ?_ | refine Uh ?_ | refine Ui ?_ | refine Uj ?_ | refine Uk rfl ?_ | refine Ul rfl ?_ | refine Um ?_ | refine Un ?_ | refine Uo ?_ | refine Up rfl ?_ | refine Uq ?_ | refine Ur ?_ | refine Us ?_ | refine Ut ?_ | refine Uu ?_ | refine Ux ?_ | refine Uv rfl rfl rfl rfl ?_ | refine Uw rfl rfl rfl ?_ | refine U0 (by first | (apply st_call (hfn := hfX ); exact rfl; exact fz) | (apply st_call (hfn := hsX ); exact rfl; exact fz) | (apply st_call (hfn := hfN ); exact rfl; exact fz) | (apply st_add; (iterate 3 exact rfl); (first | exact hsumX | exact hsumN); omega) | (apply st_ld_intsE tabOk; (iterate 7 exact rfl); omega; first | exact hval | exact rfl) | exact z0 | fail) ?_ | refine U1 z1 ?_ | refine U9 zs ?_
      trace_state
      refine ax_cond rfl (fun hb3 => ?_) (fun hb3 => ?_)
      · have hne : k ≠ k0 := fun e => by
          subst e
          have h1 := hhere u f4
          have h2 : ¬ gi L (encM 4096 u) = (rem'.length : Int) := by simpa using hb3
          omega
        have hdo1 := hdos (k + 1) (by omega)
        repeat first | refine Ua ?_ | refine Ub ?_ | refine Uc ?_ | refine Ud ?_ | refine Ue ?_ | refine Ug ⟨by kernel_rfl, ?_⟩ | refine Ug ?_ | refine Uh ?_ | refine Ui ?_ | refine Uj ?_ | refine Uk rfl ?_ | refine Ul rfl ?_ | refine Um ?_ | refine Un ?_ | refine Uo ?_ | refine Up rfl ?_ | refine Uq ?_ | refine Ur ?_ | refine Us ?_ | refine Ut ?_ | refine Uu ?_ | refine Ux ?_ | refine Uv rfl rfl rfl rfl ?_ | refine Uw rfl rfl rfl ?_ | refine U0 z0 ?_ | refine U1 (by first | (apply st_call_hv (hfn := hdo1 ); exact rfl; exact fz; iterate 2 exact rfl) | exact z1 | fail) ?_ | refine U9 zs ?_
        trace_state
        refine round_next (k + 1) (by omega) (by omega) (Lw (ρ := [(7, 9)]))
      · have hk0e : k = k0 := by
          rcases Nat.lt_or_eq_of_le hk with e | e
          · exfalso
            have h1 := hbef k e u f4
            have h2 : gi L (encM 4096 u) = (rem'.length : Int) := by simpa using hb3
            omega
          · exact e
        subst hk0e
        have hn1 := hnext u f4 f2
        repeat first | refine Ua ?_ | refine Ub ?_ | refine Uc ?_ | refine Ud ?_ | refine Ue ?_ | refine Ug ⟨by kernel_rfl, ?_⟩ | refine Ug ?_ | refine Uh ?_ | refine Ui ?_ | refine Uj ?_ | refine Uk rfl ?_ | refine Ul rfl ?_ | refine Um ?_ | refine Un ?_ | refine Uo ?_ | refine Up rfl ?_ | refine Uq ?_ | refine Ur ?_ | refine Us ?_ | refine Ut ?_ | refine Uu ?_ | refine Ux ?_ | refine Uv rfl rfl rfl rfl ?_ | refine Uw rfl rfl rfl ?_ | refine U0 (by first | (apply st_call (hfn := hfX ); exact rfl; exact fz) | exact z0 | fail) ?_ | refine U1 z1 ?_ | refine U9 zs ?_
        trace_state
        refine round_next ((X k, rem', out ++ [gs S k], u.1)) (hn1) ((by rw [hrem]; simp)) (Lw (ρ := [(4, 7)]))
    · have ha : a = 0 := by simp at hb2; omega
      have hrem : rem = [] := by
        obtain ⟨t1, hg1⟩ := d.way
        have h1 := hg1.length hD
        rw [hD.zero _ ⟨by have := wf_of d.find; rw [dl, d.many] at this; exact this, ha⟩] at h1
        exact List.eq_nil_of_length_eq_zero (by omega)
      have hw1 := d.whole
      rw [hrem] at hw1
      simp only [List.map_nil, List.append_nil] at hw1
      rw [← hw1]
      repeat first | refine Ua ?_ | refine Ub ?_ | refine Uc ?_ | refine Ud ?_ | refine Ue ?_ | refine Ug ⟨by kernel_rfl, ?_⟩ | refine Ug ?_ | refine Uh ?_ | refine Ui ?_ | refine Uj ?_ | refine Uk rfl ?_ | refine Ul rfl ?_ | refine Um ?_ | refine Un ?_ | refine Uo ?_ | refine Up rfl ?_ | refine Uq ?_ | refine Ur ?_ | refine Us ?_ | refine Ut ?_ | refine Uu ?_ | refine Ux ?_ | refine Uv rfl rfl rfl rfl ?_ | refine Uw rfl rfl rfl ?_ | refine U0 z0 ?_ | refine U1 z1 ?_ | refine U9 zs ?_
      exact ⟨.inl rfl, Rx⟩
end Go.Proofs.YtnfjmcenjpoloaaDoor
