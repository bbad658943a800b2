/-
  An owned row cut short; its end, and what is appended out of it.
-/
import Derived.Test.YtnfjmcenjpoloaaDoorWF
set_option linter.unusedVariables false
set_option linter.unusedSimpArgs false
set_option maxRecDepth 100000
namespace Go.Sym
open Go Go.RowKit
section
variable {P : Program} {T : List (Nat × TyI)} {nt : Nat} {dst : Option Nat} {ty : Nat} {pos : String} {aft : Array Edge} {gd : Option (Nat × Bool)} {E : List (Nat × AV)} {H : Hp} {σ : St}
theorem pureL_take {cs : List AV} (h : pureL cs) (k : Nat) : pureL (cs.take k) := pureL_of fun x hx => pureL_mem h x (List.mem_of_mem_take hx)
theorem pureL_drop {cs : List AV} (h : pureL cs) (k : Nat) : pureL (cs.drop k) := pureL_of fun x hx => pureL_mem h x (List.mem_of_mem_drop hx)
theorem relL_take {cx : Cx} : ∀ {cs : List AV} {us : List Value} (k : Nat), relL cx cs us → relL cx (cs.take k) (us.take k)
  | cs, us, 0, _ => by simp [relL]
  | [], us, k+1, h => by simp only [relL] at h; subst h; simp [relL]
  | x :: cs, us, k+1, h => by
    simp only [relL] at h
    obtain ⟨u, vs, rfl, h1, h2⟩ := h
    simp only [List.take_succ_cons, relL]
    exact ⟨u, _, rfl, h1, relL_take k h2⟩
theorem relL_drop {cx : Cx} : ∀ {cs : List AV} {us : List Value} (k : Nat), relL cx cs us → relL cx (cs.drop k) (us.drop k)
  | cs, us, 0, h => h
  | [], us, k+1, h => by simp only [relL] at h; subst h; simp [relL]
  | x :: cs, us, k+1, h => by
    simp only [relL] at h
    obtain ⟨u, vs, rfl, h1, h2⟩ := h
    simp only [List.drop_succ_cons]
    exact relL_drop k h2
theorem does_cut (hT : TabOk P T) {t e r k o : Nat} {x y : Operand} {i j : TyI} {row : Row} {z : Int} (hd : dstOk nt dst = true) (hx : σ.ev x = .own r k) (hr : σ.row r = some row) (hv : row.ver = k) (hbx : row.box = false) (h0 : r ≠ 0) (hy : σ.ev y = .int z) (ht : lkT T t = some i) (hu : i.u = .slice e) (he : lkT T e = some j) (hs : j.size = row.sz) (ho : z.toNat = o) (hz : 0 ≤ z ∧ o * row.sz ≤ row.cs.length) :
    Does P nt ⟨dst, .slice t x none (some y) none, ty, pos, aft, gd⟩ ⟨fo x ++ fo y, [r]⟩ (.own r (k + 1)) [(r, some ⟨row.ty, row.sz, k + 1, row.pure, false, row.cs.take (o * row.sz)⟩)] σ :=
  does_run hd fun τ hag F φ Z a w hF hS => by
    have e2 := ev_v hag hS hy (by simp +contextual)
    have hr' : τ.row r = some row := by rw [hag.2 r (by simp)]; exact hr
    have e1 := own_open hS hr' hv (ev_rel hag hS hx (by simp +contextual))
    obtain ⟨n, xs, hm⟩ := rowMem hS hr'
    have hrr := hS.rows r row hr'
    have h5 := hrr.sz
    have h6 := hm.len
    obtain ⟨inf, d, hk⟩ := hT.known ht
    obtain ⟨inf2, d2, hk2⟩ := hT.known he
    obtain ⟨m, rfl⟩ := Int.eq_ofNat_of_zero_le hz.1
    have hm0 : m = o := by simpa using ho
    subst hm0
    have hkn : m ≤ n := by
      have h8 : m * row.sz ≤ n * row.sz := by omega
      exact Nat.le_of_mul_le_mul_right h8 h5
    have hmn : m * row.sz ≤ n * row.sz := Nat.mul_le_mul_right _ hkn
    have hxs : xs.length = n * row.sz := hm.own.1
    obtain ⟨t', hrun, hown, hblk⟩ : ∃ t', (execOp a.eval ⟨dst, .slice t x none (some y) none, ty, pos, aft, gd⟩).run P w = .ok (.value t') w ∧ w.ownsRow 0 row.ty row.sz t' m (xs.take (m * row.sz)) ∧ ∀ g, t'.ownBlock = some g → (φ r).ownBlock = some g := by
      rcases hm.own.2 with ⟨h1, h2⟩ | ⟨g, cap, cur, h1, hb, hg, h3, h4, hcs, htk⟩
      · have : m = 0 := by omega
        subst this
        refine ⟨.slice none 0 0, ?_, ⟨by simp, .inl ⟨rfl, rfl⟩⟩, fun g hg => by simp [Value.ownBlock] at hg⟩
        simp [execOp, e1, h1, e2, Instr.sliceAt, Instr.slice, Instr.sliceBounds, Instr.sliceBound, asIntOf, run_underlying (hk.slice hu), run_sizeOf_known hk2.info]
      · have hkn' : (m : Int) ≤ (cap : Int) := by omega
        refine ⟨.slice (some ⟨g, 0, none⟩) m cap, ?_, ⟨by rw [List.length_take]; omega, .inr ⟨g, cap, cur, rfl, hb, hg, by omega, h4, hcs, ?_⟩⟩, fun g' hg' => by rw [h1]; exact hg'⟩
        · by_cases hc0 : cap = 0
          · have : m = 0 := by omega
            subst this hc0
            simp [execOp, e1, h1, e2, Instr.sliceAt, Instr.slice, Instr.sliceBounds, Instr.sliceBound, asIntOf, run_underlying (hk.slice hu), run_sizeOf_known hk2.info]
          · simp [execOp, e1, h1, e2, Instr.sliceAt, Instr.slice, Instr.sliceBounds, Instr.sliceBound, asIntOf, run_underlying (hk.slice hu), run_sizeOf_known hk2.info, hkn', hc0, Addr.add]
            try (intro hh; omega)
        · rw [← htk, List.take_take, Nat.min_eq_left hmn]
    have htn := hS.turn (r := r) (row := row) (row' := ⟨row.ty, row.sz, k + 1, row.pure, false, row.cs.take (m * row.sz)⟩) (t' := t') (w' := w) hr' (World.grownBy.refl w _) (by simp; omega) (fun h => by simp at h; omega)
      (fun hcx => by
        refine ⟨h5, ?_, fun h => by simp at h, ?_, m, xs.take (m * row.sz), ?_, ?_, relL_take _ (relL_mono hcx _ _ hm.rel), ?_⟩
        · intro hp
          exact pureL_take (hrr.pur hp) _
        · intro g hg
          rcases hrr.blk g (hblk g hg) with h' | h'
          · exact .inl h'
          · rw [hbx] at h'; cases h'.1
        · exact hown
        · simp only [List.length_take]; omega
        · intro u hu
          exact hm.one u (List.mem_of_mem_take hu))
      (fun g hg => .inl (hblk g hg)) (fun h => absurd h h0)
    rw [set_eq_upd] at htn
    refine ⟨t', w, _, Z, hrun, htn.1, ?_⟩
    simp only [relV, cxOf, St.rowsUpd, overR]
    simp
    exact ⟨_, _, ⟨rfl, rfl⟩, Nat.le_refl _, fun _ => rfl⟩
theorem does_from_own (hT : TabOk P T) {t e r k o n : Nat} {x y : Operand} {i j : TyI} {row : Row} {z : Int} (hd : dstOk nt dst = true) (hx : σ.ev x = .own r k) (hr : σ.row r = some row) (hv : row.ver = k) (hy : σ.ev y = .int z) (ht : lkT T t = some i) (hu : i.u = .slice e) (he : lkT T e = some j) (hs : j.size = 1) (hsz : row.sz = 1) (ho : z.toNat = o) (hn : row.cs.length = n) (hz : 0 ≤ z ∧ o ≤ n) :
    Does P nt ⟨dst, .slice t x (some y) none none, ty, pos, aft, gd⟩ ⟨fo x ++ fo y, [r]⟩ (.sub r k o (n - o)) [] σ :=
  does_pure hd fun τ hag F φ Z a w hF hS => by
    have e2 := ev_v hag hS hy (by simp +contextual)
    have hr' : τ.row r = some row := by rw [hag.2 r (by simp)]; exact hr
    have e1 := own_open hS hr' hv (ev_rel hag hS hx (by simp +contextual))
    obtain ⟨n', xs, hm⟩ := rowMem hS hr'
    have h6 := hm.len
    rw [hsz, Nat.mul_one] at h6
    have hnn : n' = n := by omega
    subst hnn
    obtain ⟨inf, d, hk⟩ := hT.known ht
    obtain ⟨inf2, d2, hk2⟩ := hT.known he
    obtain ⟨m, rfl⟩ := Int.eq_ofNat_of_zero_le hz.1
    have hm0 : m = o := by simpa using ho
    subst hm0
    have hkn : m ≤ n' := hz.2
    have hkn' : (m : Int) ≤ (n' : Int) := by omega
    rcases hm.own.2 with ⟨h1, h2⟩ | ⟨g, cap, cur, h1, _, _, h3, h4, _⟩
    · have : m = 0 := by omega
      subst this
      subst h2
      refine ⟨.slice none 0 0, ?_, ?_⟩
      · simp [execOp, e1, h1, e2, Instr.sliceAt, Instr.slice, Instr.sliceBounds, Instr.sliceBound, asIntOf, run_underlying (hk.slice hu), run_sizeOf_known hk2.info]
      · simp only [relV]
        exact ⟨_, _, rowTip hS hr', by omega, fun _ => ⟨none, 0, rfl, by omega, by unfold maxLen; omega, .inl trivial⟩⟩
    · refine ⟨.slice (if cap = m then some ⟨g, 0, none⟩ else (some (⟨g, 0, none⟩ : Addr)).map (·.add m)) (n' - m) (cap - m), ?_, ?_⟩
      · simp [execOp, e1, h1, e2, Instr.sliceAt, Instr.slice, Instr.sliceBounds, Instr.sliceBound, asIntOf, run_underlying (hk.slice hu), run_sizeOf_known hk2.info, hk2.size, hs, hkn']
        try (intro hh; omega)
      · simp only [relV]
        refine ⟨_, _, rowTip hS hr', by omega, fun _ => ⟨_, _, rfl, by omega, by omega, ?_⟩⟩
        by_cases hcn : n' = m
        · left; omega
        · right
          exact ⟨g, n', cap, h1, by rw [if_neg (by omega)]; simp [Addr.add]; (try (intro hh; omega))⟩
theorem src_sub {y : Operand} {r k off n : Nat} {row : Row} {R : Foot} (hy : σ.ev y = .sub r k off n) (hr : σ.row r = some row) (hv : row.ver = k) (hsz : row.sz = 1) (hb : off + n ≤ row.cs.length) (hR : ∀ t, t ∈ fo y → t ∈ R.e) (hR' : r ∈ R.r) : Src R σ y 1 ((row.cs.drop off).take n) row.pure := by
  intro τ hag F φ Z a w hS
  have hr' : τ.row r = some row := by rw [hag.2 r hR']; exact hr
  obtain ⟨ao, c, e1, h1, h2, h3⟩ := sub_open hS hr' hv (ev_rel hag hS hy hR)
  obtain ⟨n', xs, hm⟩ := rowMem hS hr'
  have h6 := hm.len
  rw [hsz, Nat.mul_one] at h6
  have hxs : xs.length = n' := by have := hm.own.1; rw [hsz, Nat.mul_one] at this; exact this
  refine ⟨n, (xs.drop off).take n, ⟨?_, by rw [List.length_take, List.length_drop]; omega, relL_take _ (relL_drop _ hm.rel), fun v hv => hm.one v (List.mem_of_mem_drop (List.mem_of_mem_take hv))⟩, fun hp => pureL_take (pureL_drop ((hS.rows r row hr').pur hp) _) _⟩
  rcases h3 with h3 | ⟨g, m, c', ht, rfl⟩
  · subst h3
    cases ao with
    | none => left; exact ⟨c, e1, rfl⟩
    | some ad => right; exact ⟨ad, c, e1, by simp⟩
  · right
    refine ⟨_, c, e1, fun j v hj => ?_⟩
    have hcell := hm.own.cells (g := g) (by rw [ht]; rfl)
    rw [List.getElem?_take] at hj
    split at hj
    · rw [List.getElem?_drop] at hj
      have := hcell (off + j) v hj
      rw [Addr.add_lit] at this ⊢
      simpa [cxOf] using this
    · cases hj
theorem st_cut (hT : TabOk P T) {t e r k o : Nat} {x y : Operand} {i j : TyI} {row : Row} {zs : List Int} {z : Int} (hd : dstOk nt dst = true) (hx : (mkS E H).ev x = .own r k) (hr : (mkS E H).row r = some row) (hc : row.cs = ints zs) (hv : row.ver = k) (hbx : row.box = false) (hp : row.pure = true) (h0 : Nat.beq r 0 = false) (hsz : row.sz = 1) (hy : (mkS E H).ev y = .int z) (ht : lkT T t = some i) (hu : i.u = .slice e) (he : lkT T e = some j) (hs : j.size = 1) (ho : z.toNat = o) (hz : 0 ≤ z ∧ o ≤ zs.length) :
    Does P nt ⟨dst, .slice t x none (some y) none, ty, pos, aft, gd⟩ ⟨fo x ++ fo y, [r]⟩ (.own r (k + 1)) [(r, some ⟨row.ty, 1, k + 1, true, false, ints (zs.take o)⟩)] (mkS E H) := by
  have := does_cut (P := P) (nt := nt) (dst := dst) (ty := ty) (pos := pos) (aft := aft) (gd := gd) hT hd hx hr hv hbx (fun h => by rw [h] at h0; simp at h0) hy ht hu he (by rw [hs, hsz]) ho ⟨hz.1, by rw [hsz, hc, ints_length]; omega⟩
  rw [hsz, hc, hp, Nat.mul_one, ints_take] at this
  exact this
theorem ints_drop' (l : List Int) : ∀ k, (ints l).drop k = ints (l.drop k) := by intro k; simp [ints, List.map_drop]
theorem st_app_sub (hT : TabOk P T) {t e : Nat} {x y : Operand} {i j : TyI} {r k r2 k2 off n : Nat} {row row2 : Row} {zs ys : List Int} (hd : dstOk nt dst = true) (hx : (mkS E H).ev x = .own r k) (hr : (mkS E H).row r = some row) (hc : row.cs = ints zs) (hv : row.ver = k) (hbx : row.box = false) (hp : row.pure = true) (h0 : Nat.beq r 0 = false)
    (hy : (mkS E H).ev y = .sub r2 k2 off n) (hr2 : (mkS E H).row r2 = some row2) (hc2 : row2.cs = ints ys) (hv2 : row2.ver = k2) (hp2 : row2.pure = true) (hs2 : row2.sz = 1)
    (ht : lkT T t = some i) (hu : i.u = .slice e) (he : lkT T e = some j) (hty : row.ty = e) (hsz : row.sz = 1) (hs : j.size = 1) (hzl : j.zero.length = 1) (hby : j.bytes = 8) (hn : off + n ≤ ys.length) (hb : zs.length + ys.length ≤ 4294967296) :
    Does P nt ⟨dst, .call ⟨.builtin .append, #[x, y], #[t, t]⟩, ty, pos, aft, gd⟩ ⟨fo x ++ fo y, [r, r2]⟩ (.own r (k + 1)) [(r, some ⟨row.ty, 1, k + 1, true, false, ints (zs ++ (ys.drop off).take n)⟩)] (mkS E H) := by
  have hsrc := src_sub (R := ⟨fo x ++ fo y, [r, r2]⟩) hy hr2 hv2 hs2 (by rw [hc2, ints_length]; exact hn) (by simp +contextual) (by simp)
  rw [hc2, ints_drop', ints_take] at hsrc
  have := does_append (P := P) (ty := ty) (pos := pos) (aft := aft) (gd := gd) hT hd hx hr hv hbx (fun h => by rw [h] at h0; simp at h0) ht hu he hty (by rw [hsz, hs]) (by rw [hzl, hs]) (by rw [hs]; exact hsrc) (by simp +contextual) (by simp) (by rw [hc, ints_length, ints_length, hby, List.length_take, List.length_drop]; omega)
  rw [hc, ints_append, hp, hp2, hsz] at this; exact this
end
end Go.Sym
