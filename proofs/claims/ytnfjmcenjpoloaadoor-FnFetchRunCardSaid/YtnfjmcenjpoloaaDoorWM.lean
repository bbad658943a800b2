/-
  FnFetchRun.
-/
import Derived.Test.YtnfjmcenjpoloaaDoorWL
import Derived.Test.YtnfjmcenjpoloaaDoorRH
set_option linter.unusedVariables false
set_option linter.unusedSimpArgs false
set_option maxRecDepth 100000
namespace Go.Proofs.YtnfjmcenjpoloaaDoor
open Go Go.RowKit Go.Park Go.Sym
theorem fetch_yes {h : PHall} {id : Int} (hf : ¬ (fetchF h id).2 < 0) : (bestF h id).2 = true := by
  cases hb : (bestF h id).2 with
  | true => rfl
  | false =>
    exfalso; apply hf
    unfold fetchF
    split
    · rw [if_neg (by rw [hb]; simp)]; show (-1 : Int) < 0; omega
    · show (-1 : Int) < 0; omega
theorem fetched_at {h : PHall} {l : List Int} (hv : validB h = true) : ∀ k, fineG fetchF h l k → validB (stG fetchF h l k) = true ∧ (hallFreeF (stG fetchF h l k)).length = (hallFreeF h).length + k ∧ ∀ y, 0 < y → (y ∈ (stG fetchF h l k).cells ↔ y ∈ h.cells ∧ ∀ j, j < k → y ≠ gi l j)
  | 0, _ => ⟨hv, rfl, fun y _ => ⟨fun h => ⟨h, fun j hj => by omega⟩, fun h => h.1⟩⟩
  | k+1, hf => by
    obtain ⟨i1, i2, i3⟩ := fetched_at hv k (fun j hj => hf j (by omega))
    obtain ⟨_, _, _, G⟩ := fetch_good (fetch_yes (hf k (by omega)))
    refine ⟨G.valid, by have := G.free; show (hallFreeF (fetchF _ _).1).length = _; omega, fun y hy => ?_⟩
    show y ∈ (fetchF _ _).1.cells ↔ _
    rw [G.cars y hy, i3 y hy]
    exact ⟨fun ⟨⟨a, b⟩, c⟩ => ⟨a, fun j hj => by by_cases e : j = k; (subst e; exact c); exact b j (by omega)⟩, fun ⟨a, b⟩ => ⟨⟨a, fun j hj => b j (by omega)⟩, b k (by omega)⟩⟩
theorem fine_to (h : PHall) (l : List Int) : ∀ m, m ≤ l.length → fineG fetchF h l m ∨ ∃ n, n < m ∧ fineG fetchF h l n ∧ (fetchF (stG fetchF h l n) (gi l n)).2 < 0
  | 0, _ => .inl (fun j hj => by omega)
  | m+1, hm => by
    rcases fine_to h l m (by omega) with hf | ⟨n, h1, h2, h3⟩
    · by_cases hd : (fetchF (stG fetchF h l m) (gi l m)).2 < 0
      · exact .inr ⟨m, by omega, hf, hd⟩
      · exact .inl (fun j hj => by by_cases e : j = m; (subst e; exact hd); exact hf j (by omega))
    · exact .inr ⟨n, by omega, h2, h3⟩
structure FetchedGood (h : PHall) (l : List Int) (X : PHall) (n : Nat) : Prop where
  le : n ≤ l.length
  valid : validB X = true
  free : (hallFreeF X).length = (hallFreeF h).length + n
  gone : ∀ j, j < n → hallFindF X (gi l j) < 0
  left : ∀ y, 0 < y → y ∈ h.cells → (∀ j, j < n → y ≠ gi l j) → y ∈ X.cells
  stop : n < l.length → hallFindF X (gi l n) < 0 ∨ hallFreeF X = []
theorem fetched_good {h : PHall} {l : List Int} (hv : validB h = true) : ∃ n X s, fetchRunF h l = (X, ((n : Nat) : Int), s) ∧ FetchedGood h l X n := by
  have key : ∃ n, n ≤ l.length ∧ fineG fetchF h l n ∧ (n < l.length → (fetchF (stG fetchF h l n) (gi l n)).2 < 0) := by
    rcases fine_to h l l.length (Nat.le_refl _) with hf | ⟨n, h1, h2, h3⟩
    · exact ⟨_, Nat.le_refl _, hf, fun h => by omega⟩
    · exact ⟨n, by omega, h2, fun _ => h3⟩
  obtain ⟨n, hn, hf, hs⟩ := key
  obtain ⟨g1, g2, g3⟩ := fetched_at hv n hf
  refine ⟨n, stG fetchF h l n, sumG fetchF h l n, ?_, hn, g1, g2, fun j hj => ?_, fun y hy hm hne => (g3 y hy).2 ⟨hm, hne⟩, fun hlt => ?_⟩
  · unfold fetchRunF
    rw [if_pos hv]
    by_cases e : n < l.length
    · rw [runG_stop hf e (hs e)]
    · obtain rfl : n = l.length := by omega
      rw [runG_end hf]
  · refine Decidable.byContradiction fun hc => ?_
    obtain ⟨_, p1, p2, p3⟩ := find_ok hc
    have hm : gi l j ∈ (stG fetchF h l n).cells := mem_gi.2 ⟨_, by omega, p3⟩
    exact ((g3 _ (by omega)).1 hm).2 j hj rfl
  · have hb : ¬ (bestF (stG fetchF h l n) (gi l n)).2 = true := fun hb => by
      have := (fetch_good hb).2.2.1
      have := hs hlt
      omega
    rcases best_cases (stG fetchF h l n) (gi l n) with ⟨_, _, e⟩ | ⟨c, _, _, e, _⟩
    · rcases e with e | e
      · exact .inl e
      · exact .inr e.2
    · exact absurd e hb
/-- free cells, and the first k cars found and not named twice -/
def goodTo (h : PHall) (l : List Int) : Nat → Bool
  | 0 => decide ((0 : Int) < (hallFreeF h).length)
  | k+1 => goodTo h l k && (decide (0 ≤ hallFindF h (gi l k)) && !decide (gi l k ∈ l.take k))
theorem goodTo_iff {h : PHall} {l : List Int} : ∀ k, goodTo h l k = true → 0 < (hallFreeF h).length ∧ ∀ j, j < k → 0 ≤ hallFindF h (gi l j) ∧ gi l j ∉ l.take j
  | 0, hg => ⟨by have := of_decide_eq_true hg; omega, fun j hj => by omega⟩
  | k+1, hg => by
    simp only [goodTo, Bool.and_eq_true, decide_eq_true_eq, Bool.not_eq_true', decide_eq_false_iff_not] at hg
    obtain ⟨i1, i2⟩ := goodTo_iff k hg.1
    exact ⟨i1, fun j hj => by by_cases e : j = k; (subst e; exact hg.2); exact i2 j (by omega)⟩
theorem good_all {h X : PHall} {l : List Int} {n : Nat} (G : FetchedGood h l X n) (hg : goodTo h l l.length = true) : n = l.length := by
  obtain ⟨h1, h2⟩ := goodTo_iff _ hg
  refine Decidable.byContradiction fun hne => ?_
  have hlt : n < l.length := by have := G.le; omega
  obtain ⟨f1, f2⟩ := h2 n hlt
  obtain ⟨hv, p1, p2, p3⟩ := find_ok (h := h) (id := gi l n) (by omega)
  rcases G.stop hlt with e | e
  · have hm : gi l n ∈ X.cells := G.left _ (by omega) (mem_gi.2 ⟨_, by omega, p3⟩) fun j hj he => f2 (by
      rw [he]
      have : gi (l.take n) j = gi l j := by simp [gi, List.getD, List.getElem?_take, hj]
      rw [← this]
      exact gi_mem (by rw [List.length_take]; omega))
    have := (find_iff G.valid p1).2 hm
    omega
  · have := G.free
    rw [e] at this
    simp at this
    omega
theorem ints_take2 (l : List Int) (n : Nat) : ints (l.take n) = (ints l).take (n * 1) := by rw [Nat.mul_one, ints_take]
set_option maxHeartbeats 8000000 in
theorem fnFetchRun_fn (v0 : Value) (bs : List Int) (hB : OkB bs) : FnG Tryd.prog 3 bruijn 5 [codeV v0 bs] (.bool true) := by
  obtain ⟨⟨h, ids⟩, ⟨g1, g2⟩, hH⟩ := drawFetchRun_fn v0 bs hB
  dsimp only at g1 g2 hH
  have hlim := lim_eq
  have hl : h.cells.length ≤ lim := by omega
  have hP := fetchRun_fn h hl ids (by omega)
  have hP2 := specFetchRun_fn h hl ids (by omega)
  have hV := specHallValid_fn h hl
  by_cases hv : validB h = true
  · rw [hv] at hV
    obtain ⟨n, X, s, e, G⟩ := fetched_good (l := ids) hv
    have hxl := fetchRunF_len h ids
    rw [e] at hP hP2 hxl
    dsimp only at hP hP2 hxl
    have hall := good_all G
    have hX : X.cells.length ≤ lim := by omega
    have hS := sameHall_fn X X hX hX
    rw [sameH_self] at hS
    have hV2 := hallValid_fn X hX
    rw [G.valid] at hV2
    have hF := hallFree_fn h hl
    have hC := hallCars_fn h hl
    have hC2 := hallCars_fn X hX
    have hcl := carsF_len h
    have hcl2 := carsF_len X
    have hfr := G.free
    have hle := G.le
    have k1 := free_cars hv
    have k2 := free_cars G.valid
    have k3 : X.cells.length = h.cells.length := by
      have := (stG_ok (fun h x hv => fetchF_ok hv x) (l := ids) hv n).2
      have e2 : (fetchRunF h ids).1.cells.length = h.cells.length := by
        unfold fetchRunF; rw [if_pos hv]
        exact (runG_ok (fun h x hv => fetchF_ok hv x) hv).2
      rw [e] at e2
      exact e2
    refine fng_go1 tabOk Tryd.func5 rfl (by kernel_rfl) Tryd.ntmps5 Tryd.results5 (by decide) ?_
    repeat first | refine Ua ?_ | refine Ub ?_ | refine Uc ?_ | refine Ud ?_ | refine Ue ?_ | refine Ug ⟨by kernel_rfl, ?_⟩ | refine Ug ?_ | refine Uh ?_ | refine Ui ?_ | refine Uj ?_ | refine Uk rfl ?_ | refine Ul rfl ?_ | refine Um ?_ | refine Un ?_ | refine Uo ?_ | refine Up rfl ?_ | refine Uq ?_ | refine Ur ?_ | refine Us ?_ | refine Ut ?_ | refine Uu ?_ | refine Ux ?_ | refine Uv rfl rfl rfl rfl ?_ | refine Uw rfl rfl rfl ?_ | refine U0 z0 ?_ | refine U1 z1 ?_ | refine U9 zs ?_
    refine ax_cond rfl (fun hb0 => ?_) (fun hb0 => ?_)
    · repeat first | refine Ua ?_ | refine Ub ?_ | refine Uc ?_ | refine Ud ?_ | refine Ue ?_ | refine Ug ⟨by kernel_rfl, ?_⟩ | refine Ug ?_ | refine Uh ?_ | refine Ui ?_ | refine Uj ?_ | refine Uk rfl ?_ | refine Ul rfl ?_ | refine Um ?_ | refine Un ?_ | refine Uo ?_ | refine Up rfl ?_ | refine Uq ?_ | refine Ur ?_ | refine Us ?_ | refine Ut ?_ | refine Uu ?_ | refine Ux ?_ | refine Uv rfl rfl rfl rfl ?_ | refine Uw rfl rfl rfl ?_ | refine U0 z0 ?_ | refine U1 z1 ?_ | refine U9 zs ?_
      exact ⟨.inl rfl, Rx⟩
    repeat first | refine Ua ?_ | refine Ub ?_ | refine Uc ?_ | refine Ud ?_ | refine Ue ?_ | refine Ug ⟨by kernel_rfl, ?_⟩ | refine Ug ?_ | refine Uh ?_ | refine Ui ?_ | refine Uj ?_ | refine Uk rfl ?_ | refine Ul rfl ?_ | refine Um ?_ | refine Un ?_ | refine Uo ?_ | refine Up rfl ?_ | refine Uq ?_ | refine Ur ?_ | refine Us ?_ | refine Ut ?_ | refine Uu ?_ | refine Ux ?_ | refine Af (h := ?_) | refine At (h := ?_) | refine Uv rfl rfl rfl rfl ?_ | refine Uw rfl rfl rfl ?_ | refine U0 (by first | (apply st_call (hfn := hS ); exact rfl; exact fz) | (apply st_call (hfn := hV ); exact rfl; exact fz) | exact z0 | fail) ?_ | refine U1 (by first | (apply st_callg_hvv (hfn := hP ); exact rfl; exact fz; iterate 3 exact rfl) | (apply st_call_hvv (hfn := hP2 ); exact rfl; exact fz; iterate 2 exact rfl) | (apply st_call_s (hfn := hF ); exact rfl; exact fz; iterate 2 exact rfl) | exact z1 | fail) ?_ | refine U9 zs ?_ | refine U2 (by first | (apply st_call_hs (hfn := hH ); exact rfl; exact fz; iterate 3 exact rfl) | fail) ?_ | refine Kf (h := ?_) | refine Kt (h := ?_)
    refine ax_loop (fun k : Nat => mkS [(12, .int (k : Int)), (11, .bool (goodTo h ids k)), (6, .int (n : Int)), (5, .ptr 5 0 0), (4, .own 2 0), (3, .ptr 3 0 0), tabE] ⟨9, [(1, some (intsRow h.cells)), (2, some (intsRow ids)), (3, some (boxRow h.wide h.deep 1 0)), (4, some (intsRow X.cells)), (5, some (boxRow X.wide X.deep 4 0))]⟩) (fun k => k ≤ ids.length) (fun k => ids.length - k) (0) (Nat.zero_le _) (Lw (ρ := [])) ?_
    intro k hk
    have hA := hallFind_fn h hl (gi ids k)
    have tk : (ids.take k).length ≤ lim := by rw [List.length_take]; omega
    have hI := hasInt_fn (ids.take k) tk (gi ids k)
    repeat first | refine Ua ?_ | refine Ub ?_ | refine Uc ?_ | refine Ud ?_ | refine Ue ?_ | refine Ug ⟨by kernel_rfl, ?_⟩ | refine Ug ?_ | refine Uh ?_ | refine Ui ?_ | refine Uj ?_ | refine Uk rfl ?_ | refine Ul rfl ?_ | refine Um ?_ | refine Un ?_ | refine Uo ?_ | refine Up rfl ?_ | refine Uq ?_ | refine Ur ?_ | refine Us ?_ | refine Ut ?_ | refine Uu ?_ | refine Ux ?_ | refine Uv rfl rfl rfl rfl ?_ | refine Uw rfl rfl rfl ?_ | refine U0 z0 ?_ | refine U1 z1 ?_ | refine U9 zs ?_
    refine ax_cond rfl (fun hb1 => ?_) (fun hb1 => ?_)
    · have hlt : k < ids.length := by simpa using hb1
      cases hg : goodTo h ids k with
      | false =>
        repeat first | refine Ua ?_ | refine Ub ?_ | refine Uc ?_ | refine Ud ?_ | refine Ue ?_ | refine Ug ⟨by kernel_rfl, ?_⟩ | refine Ug ?_ | refine Uh ?_ | refine Ui ?_ | refine Uj ?_ | refine Uk rfl ?_ | refine Ul rfl ?_ | refine Um ?_ | refine Un ?_ | refine Uo ?_ | refine Up rfl ?_ | refine Uq ?_ | refine Ur ?_ | refine Us ?_ | refine Ut ?_ | refine Uu ?_ | refine Ux ?_ | refine Af (h := ?_) | refine At (h := ?_) | refine Uv rfl rfl rfl rfl ?_ | refine Uw rfl rfl rfl ?_ | refine U0 z0 ?_ | refine U1 z1 ?_ | refine U9 zs ?_ | refine Kf (h := ?_) | refine Kt (h := ?_)
        refine round_next (k + 1) (hlt) (by omega) (weak_of [] (by repeat first | exact .nil | refine LeEs.cons ?_ ?_ | exact .v (by first | rfl | (simp [goodTo, hg])) | exact .own rfl rfl rfl rfl rfl | exact .ptr rfl rfl rfl rfl rfl rfl | exact .nil rfl rfl rfl | exact .sl (by first | rfl | (simp [goodTo, hg])) | exact .both rfl rfl | exact .frz rfl rfl rfl rfl rfl (by first | rfl | (simp [goodTo, hg])) rfl | exact .tab rfl | exact .any _) (by repeat first | exact .nil | refine LeHs.keep rfl ⟨rfl, rfl, rfl, .inl ⟨rfl, by first | rfl | (simp [goodTo, hg])⟩⟩ ?_ | refine LeHs.keep rfl ⟨rfl, rfl, rfl, .inr ⟨(by first | exact .inl rfl | exact .inr rfl), by repeat first | exact .nil | refine LeVL.cons ?_ ?_ | exact .v (by first | rfl | (simp [goodTo, hg])) | exact .own rfl rfl rfl rfl rfl | exact .sl (by first | rfl | (simp [goodTo, hg])) | exact .both rfl rfl | exact .frz rfl rfl rfl rfl rfl (by first | rfl | (simp [goodTo, hg])) rfl⟩⟩ ?_ | refine LeHs.fresh rfl rfl rfl (Nat.succ_pos _) rfl ?_) rfl rfl)
      | true =>
        by_cases hf : 0 ≤ hallFindF h (gi ids k)
        · repeat first | refine Ua ?_ | refine Ub ?_ | refine Uc ?_ | refine Ud ?_ | refine Ue ?_ | refine Ug ⟨by kernel_rfl, ?_⟩ | refine Ug ?_ | refine Uh ?_ | refine Ui ?_ | refine Uj ?_ | refine Uk rfl ?_ | refine Ul rfl ?_ | refine Um ?_ | refine Un ?_ | refine Uo ?_ | refine Up rfl ?_ | refine Uq ?_ | refine Ur ?_ | refine Us ?_ | refine Ut ?_ | refine Uu ?_ | refine Ux ?_ | refine Af (h := ?_) | refine At (h := ?_) | refine Uv rfl rfl rfl rfl ?_ | refine Uw rfl rfl rfl ?_ | refine U0 (by first | (apply st_call (hfn := hA ); exact rfl; exact fz) | (apply does_upto_own tabOk; (iterate 10 exact rfl); (refine ⟨by omega, ?_⟩; show k * 1 ≤ (ints ids).length; rw [ints_length]; omega)) | (apply st_call (hfn := hI); exact rfl; (apply FrzA.cons; exact .one (.pre rfl rfl rfl rfl (ints_take2 _ _)); apply FrzA.cons; exact .one (.v _); exact .nil)) | exact z0 | fail) ?_ | refine U1 z1 ?_ | refine U9 zs ?_ | refine Kf (h := ?_) | refine Kt (h := ?_)
          refine round_next (k + 1) (hlt) (by omega) (weak_of [] (by repeat first | exact .nil | refine LeEs.cons ?_ ?_ | exact .v (by first | rfl | (simp [goodTo, hg, hf])) | exact .own rfl rfl rfl rfl rfl | exact .ptr rfl rfl rfl rfl rfl rfl | exact .nil rfl rfl rfl | exact .sl (by first | rfl | (simp [goodTo, hg, hf])) | exact .both rfl rfl | exact .frz rfl rfl rfl rfl rfl (by first | rfl | (simp [goodTo, hg, hf])) rfl | exact .tab rfl | exact .any _) (by repeat first | exact .nil | refine LeHs.keep rfl ⟨rfl, rfl, rfl, .inl ⟨rfl, by first | rfl | (simp [goodTo, hg, hf])⟩⟩ ?_ | refine LeHs.keep rfl ⟨rfl, rfl, rfl, .inr ⟨(by first | exact .inl rfl | exact .inr rfl), by repeat first | exact .nil | refine LeVL.cons ?_ ?_ | exact .v (by first | rfl | (simp [goodTo, hg, hf])) | exact .own rfl rfl rfl rfl rfl | exact .sl (by first | rfl | (simp [goodTo, hg, hf])) | exact .both rfl rfl | exact .frz rfl rfl rfl rfl rfl (by first | rfl | (simp [goodTo, hg, hf])) rfl⟩⟩ ?_ | refine LeHs.fresh rfl rfl rfl (Nat.succ_pos _) rfl ?_) rfl rfl)
        · repeat first | refine Ua ?_ | refine Ub ?_ | refine Uc ?_ | refine Ud ?_ | refine Ue ?_ | refine Ug ⟨by kernel_rfl, ?_⟩ | refine Ug ?_ | refine Uh ?_ | refine Ui ?_ | refine Uj ?_ | refine Uk rfl ?_ | refine Ul rfl ?_ | refine Um ?_ | refine Un ?_ | refine Uo ?_ | refine Up rfl ?_ | refine Uq ?_ | refine Ur ?_ | refine Us ?_ | refine Ut ?_ | refine Uu ?_ | refine Ux ?_ | refine Af (h := ?_) | refine At (h := ?_) | refine Uv rfl rfl rfl rfl ?_ | refine Uw rfl rfl rfl ?_ | refine U0 (by first | (apply st_call (hfn := hA ); exact rfl; exact fz) | exact z0 | fail) ?_ | refine U1 z1 ?_ | refine U9 zs ?_ | refine Kf (h := ?_) | refine Kt (h := ?_)
          refine round_next (k + 1) (hlt) (by omega) (weak_of [] (by repeat first | exact .nil | refine LeEs.cons ?_ ?_ | exact .v (by first | rfl | (simp [goodTo, hg, hf])) | exact .own rfl rfl rfl rfl rfl | exact .ptr rfl rfl rfl rfl rfl rfl | exact .nil rfl rfl rfl | exact .sl (by first | rfl | (simp [goodTo, hg, hf])) | exact .both rfl rfl | exact .frz rfl rfl rfl rfl rfl (by first | rfl | (simp [goodTo, hg, hf])) rfl | exact .tab rfl | exact .any _) (by repeat first | exact .nil | refine LeHs.keep rfl ⟨rfl, rfl, rfl, .inl ⟨rfl, by first | rfl | (simp [goodTo, hg, hf])⟩⟩ ?_ | refine LeHs.keep rfl ⟨rfl, rfl, rfl, .inr ⟨(by first | exact .inl rfl | exact .inr rfl), by repeat first | exact .nil | refine LeVL.cons ?_ ?_ | exact .v (by first | rfl | (simp [goodTo, hg, hf])) | exact .own rfl rfl rfl rfl rfl | exact .sl (by first | rfl | (simp [goodTo, hg, hf])) | exact .both rfl rfl | exact .frz rfl rfl rfl rfl rfl (by first | rfl | (simp [goodTo, hg, hf])) rfl⟩⟩ ?_ | refine LeHs.fresh rfl rfl rfl (Nat.succ_pos _) rfl ?_) rfl rfl)
    · have hkn : k = ids.length := by simp at hb1; omega
      subst hkn
      clear hI tk hA
      repeat first | refine Ua ?_ | refine Ub ?_ | refine Uc ?_ | refine Ud ?_ | refine Ue ?_ | refine Ug ⟨by kernel_rfl, ?_⟩ | refine Ug ?_ | refine Uh ?_ | refine Ui ?_ | refine Uj ?_ | refine Uk rfl ?_ | refine Ul rfl ?_ | refine Um ?_ | refine Un ?_ | refine Uo ?_ | refine Up rfl ?_ | refine Uq ?_ | refine Ur ?_ | refine Us ?_ | refine Ut ?_ | refine Uu ?_ | refine Ux ?_ | refine Uv rfl rfl rfl rfl ?_ | refine Uw rfl rfl rfl ?_ | refine U0 z0 ?_ | refine U1 z1 ?_ | refine U9 zs ?_
      refine ax_loop (fun m : Nat => mkS [(13, .int (m : Int)), (11, .bool (goodTo h ids ids.length)), (6, .int (n : Int)), (5, .ptr 5 0 0), (4, .own 2 0), (3, .ptr 3 0 0), tabE] ⟨9, [(1, some (intsRow h.cells)), (2, some (intsRow ids)), (3, some (boxRow h.wide h.deep 1 0)), (4, some (intsRow X.cells)), (5, some (boxRow X.wide X.deep 4 0))]⟩) (fun m => m ≤ n) (fun m => n - m) (0) (Nat.zero_le _) (Lw (ρ := [])) ?_
      intro m hm
      repeat first | refine Ua ?_ | refine Ub ?_ | refine Uc ?_ | refine Ud ?_ | refine Ue ?_ | refine Ug ⟨by kernel_rfl, ?_⟩ | refine Ug ?_ | refine Uh ?_ | refine Ui ?_ | refine Uj ?_ | refine Uk rfl ?_ | refine Ul rfl ?_ | refine Um ?_ | refine Un ?_ | refine Uo ?_ | refine Up rfl ?_ | refine Uq ?_ | refine Ur ?_ | refine Us ?_ | refine Ut ?_ | refine Uu ?_ | refine Ux ?_ | refine Uv rfl rfl rfl rfl ?_ | refine Uw rfl rfl rfl ?_ | refine U0 z0 ?_ | refine U1 z1 ?_ | refine U9 zs ?_
      refine rh_split rfl rfl (fun hb2 => ?_) (fun hb2 => ?_)
      · have hmn : m < n := by have := of_decide_eq_true hb2; omega
        have hgone := G.gone m hmn
        have hA2 := hallFind_fn X hX (gi ids m)
        repeat first | refine Ua ?_ | refine Ub ?_ | refine Uc ?_ | refine Ud ?_ | refine Ue ?_ | refine Ug ⟨by kernel_rfl, ?_⟩ | refine Ug ?_ | refine Uh ?_ | refine Ui ?_ | refine Uj ?_ | refine Uk rfl ?_ | refine Ul rfl ?_ | refine Um ?_ | refine Un ?_ | refine Uo ?_ | refine Up rfl ?_ | refine Uq ?_ | refine Ur ?_ | refine Us ?_ | refine Ut ?_ | refine Uu ?_ | refine Ux ?_ | refine Uv rfl rfl rfl rfl ?_ | refine Uw rfl rfl rfl ?_ | refine U0 z0 ?_ | refine U1 z1 ?_ | refine U9 zs ?_
        refine ax_cond rfl (fun hb3 => ?_) (fun hb3 => ?_)
        · repeat first | refine Ua ?_ | refine Ub ?_ | refine Uc ?_ | refine Ud ?_ | refine Ue ?_ | refine Ug ⟨by kernel_rfl, ?_⟩ | refine Ug ?_ | refine Uh ?_ | refine Ui ?_ | refine Uj ?_ | refine Uk rfl ?_ | refine Ul rfl ?_ | refine Um ?_ | refine Un ?_ | refine Uo ?_ | refine Up rfl ?_ | refine Uq ?_ | refine Ur ?_ | refine Us ?_ | refine Ut ?_ | refine Uu ?_ | refine Ux ?_ | refine Af (h := ?_) | refine At (h := ?_) | refine Uv rfl rfl rfl rfl ?_ | refine Uw rfl rfl rfl ?_ | refine U0 (by first | (apply st_call (hfn := hA2 ); exact rfl; exact fz) | exact z0 | fail) ?_ | refine U1 z1 ?_ | refine U9 zs ?_ | refine Kf (h := ?_) | refine Kt (h := ?_)
          refine round_next (m + 1) (hmn) (by omega) (Lw (ρ := []))
        · exfalso; have := of_decide_eq_false hb3; omega
      · repeat first | refine Ua ?_ | refine Ub ?_ | refine Uc ?_ | refine Ud ?_ | refine Ue ?_ | refine Ug ⟨by kernel_rfl, ?_⟩ | refine Ug ?_ | refine Uh ?_ | refine Ui ?_ | refine Uj ?_ | refine Uk rfl ?_ | refine Ul rfl ?_ | refine Um ?_ | refine Un ?_ | refine Uo ?_ | refine Up rfl ?_ | refine Uq ?_ | refine Ur ?_ | refine Us ?_ | refine Ut ?_ | refine Uu ?_ | refine Ux ?_ | refine Uv rfl rfl rfl rfl ?_ | refine Uw rfl rfl rfl ?_ | refine U0 z0 ?_ | refine U1 z1 ?_ | refine U9 zs ?_
        cases hg : goodTo h ids ids.length with
        | false =>
          repeat first | refine Ua ?_ | refine Ub ?_ | refine Uc ?_ | refine Ud ?_ | refine Ue ?_ | refine Ug ⟨by kernel_rfl, ?_⟩ | refine Ug ?_ | refine Uh ?_ | refine Ui ?_ | refine Uj ?_ | refine Uk rfl ?_ | refine Ul rfl ?_ | refine Um ?_ | refine Un ?_ | refine Uo ?_ | refine Up rfl ?_ | refine Uq ?_ | refine Ur ?_ | refine Us ?_ | refine Ut ?_ | refine Uu ?_ | refine Ux ?_ | refine Af (h := ?_) | refine At (h := ?_) | refine Uv rfl rfl rfl rfl ?_ | refine Uw rfl rfl rfl ?_ | refine U0 (by first | (apply st_call (hfn := hV2 ); exact rfl; exact fz) | exact z0 | fail) ?_ | refine U1 (by first | (apply st_call_s (hfn := hC2 ); exact rfl; exact fz; iterate 2 exact rfl) | (apply st_call_s (hfn := hC ); exact rfl; exact fz; iterate 2 exact rfl) | exact z1 | fail) ?_ | refine U9 zs ?_ | refine Kf (h := ?_) | refine Kt (h := ?_)
          exact ⟨.inl rfl, Rx⟩
        | true =>
          have hnl := hall hg
          repeat first | refine Ua ?_ | refine Ub ?_ | refine Uc ?_ | refine Ud ?_ | refine Ue ?_ | refine Ug ⟨by kernel_rfl, ?_⟩ | refine Ug ?_ | refine Uh ?_ | refine Ui ?_ | refine Uj ?_ | refine Uk rfl ?_ | refine Ul rfl ?_ | refine Um ?_ | refine Un ?_ | refine Uo ?_ | refine Up rfl ?_ | refine Uq ?_ | refine Ur ?_ | refine Us ?_ | refine Ut ?_ | refine Uu ?_ | refine Ux ?_ | refine Af (h := ?_) | refine At (h := ?_) | refine Uv rfl rfl rfl rfl ?_ | refine Uw rfl rfl rfl ?_ | refine U0 (by first | (apply st_call (hfn := hV2 ); exact rfl; exact fz) | exact z0 | fail) ?_ | refine U1 (by first | (apply st_call_s (hfn := hC2 ); exact rfl; exact fz; iterate 2 exact rfl) | (apply st_call_s (hfn := hC ); exact rfl; exact fz; iterate 2 exact rfl) | exact z1 | fail) ?_ | refine U9 zs ?_ | refine Kf (h := ?_) | refine Kt (h := ?_)
          exact ⟨.inl rfl, Rx⟩
  · have hv : validB h = false := by simpa using hv
    rw [hv] at hV
    have e : fetchRunF h ids = (zeroHall, 0, 0) := by unfold fetchRunF; rw [if_neg (by simp [hv])]
    rw [e] at hP hP2
    dsimp only at hP hP2
    have hz : zeroHall.cells.length ≤ lim := by simp [zeroHall, hlim]
    have hS := sameHall_fn zeroHall zeroHall hz hz
    rw [sameH_self] at hS
    refine fng_go1 tabOk Tryd.func5 rfl (by kernel_rfl) Tryd.ntmps5 Tryd.results5 (by decide) ?_
    repeat first | refine Ua ?_ | refine Ub ?_ | refine Uc ?_ | refine Ud ?_ | refine Ue ?_ | refine Ug ⟨by kernel_rfl, ?_⟩ | refine Ug ?_ | refine Uh ?_ | refine Ui ?_ | refine Uj ?_ | refine Uk rfl ?_ | refine Ul rfl ?_ | refine Um ?_ | refine Un ?_ | refine Uo ?_ | refine Up rfl ?_ | refine Uq ?_ | refine Ur ?_ | refine Us ?_ | refine Ut ?_ | refine Uu ?_ | refine Ux ?_ | refine Uv rfl rfl rfl rfl ?_ | refine Uw rfl rfl rfl ?_ | refine U0 z0 ?_ | refine U1 z1 ?_ | refine U9 zs ?_
    refine ax_cond rfl (fun hb0 => ?_) (fun hb0 => ?_)
    · repeat first | refine Ua ?_ | refine Ub ?_ | refine Uc ?_ | refine Ud ?_ | refine Ue ?_ | refine Ug ⟨by kernel_rfl, ?_⟩ | refine Ug ?_ | refine Uh ?_ | refine Ui ?_ | refine Uj ?_ | refine Uk rfl ?_ | refine Ul rfl ?_ | refine Um ?_ | refine Un ?_ | refine Uo ?_ | refine Up rfl ?_ | refine Uq ?_ | refine Ur ?_ | refine Us ?_ | refine Ut ?_ | refine Uu ?_ | refine Ux ?_ | refine Uv rfl rfl rfl rfl ?_ | refine Uw rfl rfl rfl ?_ | refine U0 z0 ?_ | refine U1 z1 ?_ | refine U9 zs ?_
      exact ⟨.inl rfl, Rx⟩
    repeat first | refine Ua ?_ | refine Ub ?_ | refine Uc ?_ | refine Ud ?_ | refine Ue ?_ | refine Ug ⟨by kernel_rfl, ?_⟩ | refine Ug ?_ | refine Uh ?_ | refine Ui ?_ | refine Uj ?_ | refine Uk rfl ?_ | refine Ul rfl ?_ | refine Um ?_ | refine Un ?_ | refine Uo ?_ | refine Up rfl ?_ | refine Uq ?_ | refine Ur ?_ | refine Us ?_ | refine Ut ?_ | refine Uu ?_ | refine Ux ?_ | refine Af (h := ?_) | refine At (h := ?_) | refine Uv rfl rfl rfl rfl ?_ | refine Uw rfl rfl rfl ?_ | refine U0 (by first | (apply st_call (hfn := hS ); exact rfl; exact fz) | (apply st_call (hfn := hV ); exact rfl; exact fz) | (apply st_call (hfn := alive_fn ); exact rfl; exact fz) | exact z0 | fail) ?_ | refine U1 (by first | (apply st_callg_hvv (hfn := hP ); exact rfl; exact fz; iterate 3 exact rfl) | (apply st_call_hvv (hfn := hP2 ); exact rfl; exact fz; iterate 2 exact rfl) | exact z1 | fail) ?_ | refine U9 zs ?_ | refine U2 (by first | (apply st_call_hs (hfn := hH ); exact rfl; exact fz; iterate 3 exact rfl) | fail) ?_ | refine Kf (h := ?_) | refine Kt (h := ?_)
    exact ⟨.inl rfl, Rx⟩
end Go.Proofs.YtnfjmcenjpoloaaDoor
