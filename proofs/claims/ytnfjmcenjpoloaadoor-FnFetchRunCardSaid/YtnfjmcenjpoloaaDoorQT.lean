/-
  Functions that lean on a variable of a package: still memory of a block known ahead, on abstract states.
-/
import Derived.Test.YtnfjmcenjpoloaaDoorP6
set_option linter.unusedVariables false
set_option linter.unusedSimpArgs false
namespace Go.Sym
open Go Go.RowKit Go.Park Go.Proofs.YtnfjmcenjpoloaaDoor

/-- the slot of a state under which the variable stands (no function has so many) -/
abbrev tbi : Nat := 1000000
/-- block g holds these cells -/
def TabW (g : Nat) (cs : List AV) (w : World) : Prop := pureL cs ∧ g < w.heap.size ∧ relC (cx0 w (fun b => b < w.heap.size)) g 0 cs
/-- f, of these arguments, gives this, and leaves what was there, where block g holds these cells -/
def FnG (P : Program) (g : Nat) (cs : List AV) (f : Nat) (args : List AV) (res : AV) : Prop :=
  Enters P f ∧ ∀ w vs, TabW g cs w → pureL args → relL (cx0 w (fun b => b < w.heap.size)) args vs → Calls P f vs.toArray w fun e w' => ∃ v bs, e = .returned v ∧ FnPost w w' res v bs
theorem FnS.g {P : Program} {g : Nat} {cs : List AV} {f : Nat} {args : List AV} {res : AV} (h : FnS P f args res) : FnG P g cs f args res := ⟨h.1, fun w vs _ hp hx => h.2 w vs hp hx⟩
theorem does_callg {P : Program} {g0 : Nat} {cs0 : List AV} {nt : Nat} {σ : St} {dst : Option Nat} {ty : Nat} {pos : String} {aft : Array Edge} {gd : Option (Nat × Bool)} {f : Nat} {args : List Operand} {at' : Array TypeId} {ts : List AV} {res : AV} {u es : List Nat} (n : Nat) (hd : dstOk nt dst = true)
    (hfn : FnG P g0 cs0 f ts res) (htb : σ.env tbi = .tab g0 cs0) (hfz : FrzA σ args ts u es) (h0 : 0 < n) {ids : List Nat} (hids : ∀ m, n ≤ m → m < (ado n res).2.2 → m ∈ ids) (hfr : ∀ m, m ∈ ids → σ.row m = none) :
    Does P nt ⟨dst, .call ⟨.value (.func f), args.toArray, at'⟩, ty, pos, aft, gd⟩ ⟨tbi :: es, u ++ ids⟩ (ado n res).1 (ado n res).2.1 σ := by
  refine ⟨?_⟩
  intro τ hag F hF a w hS Q K hK
  obtain ⟨φ, Z, hS⟩ := hS
  obtain ⟨h1, h2⟩ := frzA_rel (Z1 := fun b => b < w.heap.size) hS hS.zlt hfz (fun r hr => hag.2 r (by simp [hr])) (fun _ _ _ _ _ _ h => h) (fun t ht => hag.1 t (by simp [ht]))
  have htw : TabW g0 cs0 w := by
    have h3 := hS.env tbi
    rw [hag.1 tbi (by simp), htb] at h3
    have hp : pureV (.tab g0 cs0) := by simp only [relV] at h3; simpa [pureV] using h3.1
    have h4 := relV_pure (cx := cxOf φ Z τ w) (cx' := cx0 w (fun b => b < w.heap.size)) ⟨fun b hb => ⟨hS.zlt b hb, rfl⟩⟩ _ _ hp h3
    simp only [relV] at h4
    exact h4
  have hc := hfn.2 w (args.map a.eval) htw h2 h1
  unfold Oper.wp
  have hrun : (execOp a.eval ⟨dst, .call ⟨.value (.func f), args.toArray, at'⟩, ty, pos, aft, gd⟩).run P w = .ok (.enter f (args.map a.eval).toArray) w := by
    simp [execOp, resolve, Act.eval, Deferred.ofValue, invoke, run_callFunc hfn.1]
  rw [hrun, Oper.upon_enter]
  refine hc.mono ?_
  rintro e w' ⟨v, bs, rfl, hp⟩
  show K (a.put dst v) w'
  refine hK v w' ?_
  let Z' : Nat → Prop := fun b => Z b ∨ (w.heap.size ≤ b ∧ b < w'.heap.size ∧ b ∉ bs)
  have hS' : SimAt F φ Z' τ a w' := hS.grow hp.below (fun b h => .inl h) (fun b h => by
    rcases h with h | h
    · exact .inl h
    · exact .inr ⟨h.1, h.2.1⟩)
  obtain ⟨φ', k1, k2⟩ := ado_sim (Z := Z') (fun b h => .inr h) res n φ τ a w' v bs hS' hp.rel h0 (fun m e1 e2 => by
      rw [hag.2 m (by simp [hids m e1 e2])]; exact hfr m (hids m e1 e2)) hp.nodup (fun b hb => by
    have hge := hp.ge b hb
    refine ⟨Nat.le_trans hS.keep.size hge, ?_, fun s hs hg => ?_⟩
    · rintro (h | h)
      · have := hS.zlt b h; omega
      · exact h.2.2 hb
    · obtain ⟨row, hrow⟩ := Option.isSome_iff_exists.1 hs
      have := (hS.rows s row hrow).lt hg
      simp [cxOf] at this; omega)
  refine ⟨φ', Z', ?_⟩
  cases dst with
  | none => exact k1.sim
  | some d =>
    simp [dstOk] at hd
    exact k1.sim.put (by omega) k2
section
variable {P : Program} {T : List (Nat × TyI)} {nt : Nat} {E : List (Nat × AV)} {H : Hp} {dst : Option Nat} {ty : Nat} {pos : String} {aft : Array Edge} {gd : Option (Nat × Bool)} {f : Nat} {args : List Operand} {at' : Array TypeId} {ts : List AV} {u es : List Nat} {g0 : Nat} {cs0 : List AV}
theorem st_callg {c : Value} (hd : dstOk nt dst = true) (hfn : FnG P g0 cs0 f ts (.v c)) (hfz : FrzA (mkS E H) args ts u es) (htb : lkE E tbi = .tab g0 cs0) :
    Does P nt ⟨dst, .call ⟨.value (.func f), args.toArray, at'⟩, ty, pos, aft, gd⟩ ⟨tbi :: es, u ++ []⟩ (.v c) [] (mkS E H) :=
  does_callg 1 hd hfn htb hfz (by omega) (ids := []) (fun m h1 h2 => by simp [ado] at h2; omega) (by simp)
theorem st_callg_s {n : Nat} {l : List (Nat × Option Row)} {t sz : Nat} {cs : List AV} (hd : dstOk nt dst = true) (hfn : FnG P g0 cs0 f ts (.sl t sz cs)) (hfz : FrzA (mkS E ⟨n, l⟩) args ts u es) (htb : lkE E tbi = .tab g0 cs0) (hr : (mkS E ⟨n, l⟩).row n = none) (h0 : Nat.beq n 0 = false) :
    Does P nt ⟨dst, .call ⟨.value (.func f), args.toArray, at'⟩, ty, pos, aft, gd⟩ ⟨tbi :: es, u ++ [n]⟩ (.own n 0) [(n, some ⟨t, sz, 0, true, false, cs⟩)] (mkS E ⟨n, l⟩) :=
  does_callg n hd hfn htb hfz (Nat.pos_of_ne_zero fun h => by subst h; simp at h0) (ids := [n]) (fun m h1 h2 => by simp [ado] at h2; simp; omega) (by simpa using hr)
theorem st_callg_hv {n : Nat} {l : List (Nat × Option Row)} {t sz : Nat} {cs : List AV} {a b c : Value} (hd : dstOk nt dst = true) (hfn : FnG P g0 cs0 f ts (.tup [.agg [.v a, .v b, .sl t sz cs], .v c])) (hfz : FrzA (mkS E ⟨n, l⟩) args ts u es) (htb : lkE E tbi = .tab g0 cs0) (hr : (mkS E ⟨n, l⟩).row n = none) (h0 : Nat.beq n 0 = false) :
    Does P nt ⟨dst, .call ⟨.value (.func f), args.toArray, at'⟩, ty, pos, aft, gd⟩ ⟨tbi :: es, u ++ [n]⟩ (.tup [.agg [.v a, .v b, .own n 0], .v c]) [(n, some ⟨t, sz, 0, true, false, cs⟩)] (mkS E ⟨n, l⟩) :=
  does_callg n hd hfn htb hfz (Nat.pos_of_ne_zero fun h => by subst h; simp at h0) (ids := [n]) (fun m h1 h2 => by simp [ado, adoL] at h2; simp; omega) (by simpa using hr)
theorem st_callg_hvv {n : Nat} {l : List (Nat × Option Row)} {t sz : Nat} {cs : List AV} {a b c d : Value} (hd : dstOk nt dst = true) (hfn : FnG P g0 cs0 f ts (.tup [.agg [.v a, .v b, .sl t sz cs], .v c, .v d])) (hfz : FrzA (mkS E ⟨n, l⟩) args ts u es) (htb : lkE E tbi = .tab g0 cs0) (hr : (mkS E ⟨n, l⟩).row n = none) (h0 : Nat.beq n 0 = false) :
    Does P nt ⟨dst, .call ⟨.value (.func f), args.toArray, at'⟩, ty, pos, aft, gd⟩ ⟨tbi :: es, u ++ [n]⟩ (.tup [.agg [.v a, .v b, .own n 0], .v c, .v d]) [(n, some ⟨t, sz, 0, true, false, cs⟩)] (mkS E ⟨n, l⟩) :=
  does_callg n hd hfn htb hfz (Nat.pos_of_ne_zero fun h => by subst h; simp at h0) (ids := [n]) (fun m h1 h2 => by simp [ado, adoL] at h2; simp; omega) (by simpa using hr)
theorem st_callg_sv {n : Nat} {l : List (Nat × Option Row)} {t sz : Nat} {cs : List AV} {c : Value} (hd : dstOk nt dst = true) (hfn : FnG P g0 cs0 f ts (.tup [.sl t sz cs, .v c])) (hfz : FrzA (mkS E ⟨n, l⟩) args ts u es) (htb : lkE E tbi = .tab g0 cs0) (hr : (mkS E ⟨n, l⟩).row n = none) (h0 : Nat.beq n 0 = false) :
    Does P nt ⟨dst, .call ⟨.value (.func f), args.toArray, at'⟩, ty, pos, aft, gd⟩ ⟨tbi :: es, u ++ [n]⟩ (.tup [.own n 0, .v c]) [(n, some ⟨t, sz, 0, true, false, cs⟩)] (mkS E ⟨n, l⟩) :=
  does_callg n hd hfn htb hfz (Nat.pos_of_ne_zero fun h => by subst h; simp at h0) (ids := [n]) (fun m h1 h2 => by simp [ado, adoL] at h2; simp; omega) (by simpa using hr)
theorem lkE_tab (x : AV) (E : List (Nat × AV)) (i : Nat) : lkE ((tbi, x) :: E) i = if i = tbi then x else lkE E i := by
  simp only [lkE]
  by_cases e : i = tbi
  · subst e; simp
  · rw [if_neg e]
    have : Nat.beq tbi i = false := by
      cases hb : Nat.beq tbi i
      · rfl
      · exact absurd (Nat.eq_of_beq_eq_true hb).symm e
    rw [this]; rfl
theorem fng_of_ax {P : Program} {T : List (Nat × TyI)} (hT : TabOk P T) {g0 : Nat} {cs0 : List AV} {f nt : Nat} {fn : Func} {c : Code} {rs : List ResultVar} {ts : List AV} {res : AV} (hf : P.funcs[f]? = some fn) (hb : fn.body = some c) (hnm : (fn.name == "runtime.NumGoroutine") = false) (hnt : fn.ntmps = nt) (hrs : fn.results = rs.toArray)
    (hlen : ts.length ≤ nt) (h : AX P nt c (mkSt ((tbi, .tab g0 cs0) :: entE 0 ts) []) (ResOk T rs res)) : FnG P g0 cs0 f ts res := by
  refine ⟨⟨fn, hf, hnm, by rw [hb]; rfl⟩, fun w vs htw hp hx => ?_⟩
  obtain ⟨e, σ', ⟨he, xs, u, h1, h2, h3⟩, hend⟩ := h
  have hl := relL_length hx
  refine calls_of_wp hf hb ?_
  let F : Fr := ⟨w, fun _ => False, none, nt, fun _ => True⟩
  have hS : Sim F (mkSt ((tbi, .tab g0 cs0) :: entE 0 ts) []) { tmps := vs.toArray ++ Array.replicate (fn.ntmps - vs.toArray.size) undef, defers := [] } w := by
    refine ⟨fun _ => .slice none 0 0, fun b => b < w.heap.size, rfl, ?_, ?_, ?_, ?_, fun b h => h, ?_, fun b h _ => trivial, ⟨rfl, rfl, rfl, Nat.le_refl _, fun _ _ _ => rfl⟩, ?_⟩
    · simp [F]; omega
    · intro i
      simp only [mkSt]
      rw [lkE_tab]
      by_cases ht : i = tbi
      · rw [if_pos ht]
        have h4 : relV (cx0 w (fun b => b < w.heap.size)) (.tab g0 cs0) undef := by simp only [relV]; exact htw
        have h5 := relV_pure (cx := cx0 w (fun b => b < w.heap.size)) (cx' := cxOf (fun _ => Value.slice none 0 0) (fun b => b < w.heap.size) (mkSt ((tbi, .tab g0 cs0) :: entE 0 ts) []) w) ⟨fun b hb => ⟨hb, rfl⟩⟩ _ _ (by simpa [pureV] using htw.1) h4
        simp only [relV] at h5 ⊢
        exact h5
      rw [if_neg ht, entE_get]
      by_cases hi : i < ts.length
      · rw [if_pos (by omega)]
        obtain ⟨v, hv1, hv2⟩ := relL_get hx i (ts[i]) (by simp [hi])
        rw [Array.getD_eq_getD_getElem?, Array.getElem?_append_left (by simp; omega)]
        simp [List.getD, hi, hv1]
        exact relV_pure ⟨fun b hb => ⟨hb, rfl⟩⟩ _ _ (pureL_get hp i _ (by simp [hi])) hv2
      · rw [if_neg (by omega)]; simp [relV]
    · intro r row hr; simp [mkSt, lkR] at hr
    · intro r s _ hr; simp [mkSt, lkR] at hr
    · intro b _ r hr; simp [mkSt, lkR] at hr
    · intro t ht; simp [F] at ht
  refine Code.wp_mono (fun e1 a1 w1 hh => ?_) (hend F rfl _ w hS)
  obtain ⟨rfl, φ, Z, hS1⟩ := hh
  obtain ⟨vs1, h4, h5⟩ := resL_run hT hS1 h1
  have h6 := results_run hrs h4
  obtain ⟨h7, h8⟩ := expR_rel hS1 h2 (fun b => w.heap.size ≤ b ∧ b < w1.heap.size ∧ b ∉ blksOf φ u) h5
  obtain ⟨h9, h10⟩ := blks_nodup hS1 h3 h8
  have hk := hS1.keep
  have hpost : FnPost w w1 res (packRes vs1) (blksOf φ u) :=
    ⟨⟨hk.os, hk.tape, hk.output, hk.size, fun k hk' => hk.block k hk' (fun h => h)⟩, h9, h10, h7⟩
  rcases he with rfl | rfl
  · exact ⟨hS1.dfr, _, h6, _, _, rfl, hpost⟩
  · exact ⟨hS1.dfr, _, h6, _, _, rfl, hpost⟩
variable {fn : Func} {c : Code} {rs : List ResultVar} {res : AV}
theorem fng_go1 (hT : TabOk P T) {x0 : AV} (hf : P.funcs[f]? = some fn) (hb : fn.body = some c) (hnm : (fn.name == "runtime.NumGoroutine") = false) (hnt : fn.ntmps = nt) (hrs : fn.results = rs.toArray) (hl : 1 ≤ nt) (h : AX P nt c (mkS [(tbi, .tab g0 cs0), (0, x0)] ⟨1, []⟩) (ResOk T rs res)) : FnG P g0 cs0 f [x0] res :=
  fng_of_ax hT hf hb hnm hnt hrs (by simpa using hl) h
theorem fng_go2 (hT : TabOk P T) {x0 x1 : AV} (hf : P.funcs[f]? = some fn) (hb : fn.body = some c) (hnm : (fn.name == "runtime.NumGoroutine") = false) (hnt : fn.ntmps = nt) (hrs : fn.results = rs.toArray) (hl : 2 ≤ nt) (h : AX P nt c (mkS [(tbi, .tab g0 cs0), (0, x0), (1, x1)] ⟨1, []⟩) (ResOk T rs res)) : FnG P g0 cs0 f [x0, x1] res :=
  fng_of_ax hT hf hb hnm hnt hrs (by simpa using hl) h
theorem fng_go4 (hT : TabOk P T) {x0 x1 x2 x3 : AV} (hf : P.funcs[f]? = some fn) (hb : fn.body = some c) (hnm : (fn.name == "runtime.NumGoroutine") = false) (hnt : fn.ntmps = nt) (hrs : fn.results = rs.toArray) (hl : 4 ≤ nt) (h : AX P nt c (mkS [(tbi, .tab g0 cs0), (0, x0), (1, x1), (2, x2), (3, x3)] ⟨1, []⟩) (ResOk T rs res)) : FnG P g0 cs0 f [x0, x1, x2, x3] res :=
  fng_of_ax hT hf hb hnm hnt hrs (by simpa using hl) h
end
/-! shifts and bits whose result is told -/
structure ShlOk (i j z : Int) : Prop where
  lo : 0 ≤ j ∧ j ≤ 62
  eq : i * 2 ^ j.toNat = z
  rng : -9223372036854775808 ≤ z ∧ z ≤ 9223372036854775807
structure ShrOk (i j z : Int) : Prop where
  lo : 0 ≤ j ∧ j ≤ 62
  pos : 0 ≤ i
  eq : i / 2 ^ j.toNat = z
section
variable {P : Program} {T : List (Nat × TyI)} {nt : Nat} {σ : St} {dst : Option Nat} {ty : Nat} {pos : String} {aft : Array Edge} {gd : Option (Nat × Bool)}
theorem st_shlE {t t' : Nat} {x y : Operand} {i j z : Int} (hd : dstOk nt dst = true) (hx : σ.ev x = .int i) (hy : σ.ev y = .int j) (h : ShlOk i j z) :
    Does P nt ⟨dst, .binOp .shl t x y t', ty, pos, aft, gd⟩ ⟨fo x ++ fo y, []⟩ (.int z) [] σ := by
  have := st_shl (P := P) (nt := nt) (dst := dst) (ty := ty) (pos := pos) (aft := aft) (gd := gd) (t := t) (t' := t') hd hx hy h.lo (by rw [h.eq]; exact h.rng)
  rw [h.eq] at this
  exact this
theorem st_shrE {t t' : Nat} {x y : Operand} {i j z : Int} (hd : dstOk nt dst = true) (hx : σ.ev x = .int i) (hy : σ.ev y = .int j) (h : ShrOk i j z) :
    Does P nt ⟨dst, .binOp .shr t x y t', ty, pos, aft, gd⟩ ⟨fo x ++ fo y, []⟩ (.int z) [] σ := by
  have := st_shr (P := P) (nt := nt) (dst := dst) (ty := ty) (pos := pos) (aft := aft) (gd := gd) (t := t) (t' := t') hd hx hy h.lo h.pos
  rw [h.eq] at this
  exact this
theorem st_xorE {t t' : Nat} {x y : Operand} {i j z : Int} (hd : dstOk nt dst = true) (hx : σ.ev x = .int i) (hy : σ.ev y = .int j) (h : xorI i j = z) :
    Does P nt ⟨dst, .binOp .xor t x y t', ty, pos, aft, gd⟩ ⟨fo x ++ fo y, []⟩ (.int z) [] σ := by subst h; exact st_xor hd hx hy
theorem st_andE {t t' : Nat} {x y : Operand} {i j z : Int} (hd : dstOk nt dst = true) (hx : σ.ev x = .int i) (hy : σ.ev y = .int j) (h : andI i j = z) :
    Does P nt ⟨dst, .binOp .and t x y t', ty, pos, aft, gd⟩ ⟨fo x ++ fo y, []⟩ (.int z) [] σ := by subst h; exact st_and hd hx hy
theorem st_orE {t t' : Nat} {x y : Operand} {i j z : Int} (hd : dstOk nt dst = true) (hx : σ.ev x = .int i) (hy : σ.ev y = .int j) (h : orI i j = z) :
    Does P nt ⟨dst, .binOp .or t x y t', ty, pos, aft, gd⟩ ⟨fo x ++ fo y, []⟩ (.int z) [] σ := by subst h; exact st_or hd hx hy
theorem st_bicE {t t' : Nat} {x y : Operand} {i j z : Int} (hd : dstOk nt dst = true) (hx : σ.ev x = .int i) (hy : σ.ev y = .int j) (h : bicI i j = z) :
    Does P nt ⟨dst, .binOp .andNot t x y t', ty, pos, aft, gd⟩ ⟨fo x ++ fo y, []⟩ (.int z) [] σ := by subst h; exact st_bic hd hx hy
end
theorem shl_one {a : Nat} (h : a ≤ 62) : ShlOk 1 (a : Int) ((2 ^ a : Nat) : Int) := by
  have h1 : 2 ^ a ≤ 2 ^ 62 := Nat.pow_le_pow_right (by omega) h
  refine ⟨by omega, by simp, ?_⟩
  generalize 2 ^ a = A at h1 ⊢
  omega
theorem shl_nat {x a : Nat} (h : a ≤ 62) (hx : x * 2 ^ a ≤ 2 ^ 62) : ShlOk (x : Int) (a : Int) ((x * 2 ^ a : Nat) : Int) := by
  refine ⟨by omega, by simp, ?_⟩
  generalize x * 2 ^ a = A at hx ⊢
  omega
theorem shl_int {x : Int} {a : Nat} (h : a ≤ 12) (hx : -1000 ≤ x ∧ x ≤ 1000) : ShlOk x (a : Int) (x * ((2 ^ a : Nat) : Int)) := by
  have h1 : 2 ^ a ≤ 2 ^ 12 := Nat.pow_le_pow_right (by omega) h
  refine ⟨by omega, by simp, ?_⟩
  generalize 2 ^ a = A at h1 ⊢
  have h2 : x * (A : Int) ≤ 1000 * (A : Int) := Int.mul_le_mul_of_nonneg_right hx.2 (by omega)
  have h3 : -1000 * (A : Int) ≤ x * (A : Int) := Int.mul_le_mul_of_nonneg_right hx.1 (by omega)
  omega
theorem shr_nat {x a : Nat} (h : a ≤ 62) : ShrOk (x : Int) (a : Int) ((x / 2 ^ a : Nat) : Int) := ⟨by omega, by omega, by simp⟩
theorem bvN (x : Nat) : BitVec.ofInt IntKind.i64.bits (x : Int) = BitVec.ofNat 64 x := by
  apply BitVec.eq_of_toNat_eq; simp [BitVec.toNat_ofInt]; rfl
theorem i64N {x : Nat} (h : x < 2 ^ 63) : IntKind.i64.wrap (x : Int) = (x : Int) := IntWalk.i64_in _ (by omega)
theorem xorN {x y : Nat} (hx : x < 2 ^ 63) (hy : y < 2 ^ 63) : xorI x y = ((x ^^^ y : Nat) : Int) := by
  unfold xorI
  rw [bvN, bvN]
  have h1 : (BitVec.ofNat 64 x ^^^ BitVec.ofNat 64 y).toNat = x ^^^ y := by rw [BitVec.toNat_xor, BitVec.toNat_ofNat, BitVec.toNat_ofNat, Nat.mod_eq_of_lt (by omega), Nat.mod_eq_of_lt (by omega)]
  show IntKind.i64.wrap (((BitVec.ofNat 64 x ^^^ BitVec.ofNat 64 y).toNat : Nat) : Int) = _
  rw [h1]
  exact i64N (Nat.xor_lt_two_pow hx hy)
theorem andN {x y : Nat} (hx : x < 2 ^ 63) (hy : y < 2 ^ 63) : andI x y = ((x &&& y : Nat) : Int) := by
  unfold andI
  rw [bvN, bvN]
  have h1 : (BitVec.ofNat 64 x &&& BitVec.ofNat 64 y).toNat = x &&& y := by rw [BitVec.toNat_and, BitVec.toNat_ofNat, BitVec.toNat_ofNat, Nat.mod_eq_of_lt (by omega), Nat.mod_eq_of_lt (by omega)]
  show IntKind.i64.wrap (((BitVec.ofNat 64 x &&& BitVec.ofNat 64 y).toNat : Nat) : Int) = _
  rw [h1]
  exact i64N (Nat.and_lt_two_pow _ hy)
theorem orN {x y : Nat} (hx : x < 2 ^ 63) (hy : y < 2 ^ 63) : orI x y = ((x ||| y : Nat) : Int) := by
  unfold orI
  rw [bvN, bvN]
  have h1 : (BitVec.ofNat 64 x ||| BitVec.ofNat 64 y).toNat = x ||| y := by rw [BitVec.toNat_or, BitVec.toNat_ofNat, BitVec.toNat_ofNat, Nat.mod_eq_of_lt (by omega), Nat.mod_eq_of_lt (by omega)]
  show IntKind.i64.wrap (((BitVec.ofNat 64 x ||| BitVec.ofNat 64 y).toNat : Nat) : Int) = _
  rw [h1]
  exact i64N (Nat.or_lt_two_pow hx hy)
theorem bicN {x y z : Nat} (hx : x < 2 ^ 63) (hy : y < 2 ^ 63) (hz : ∀ j, z.testBit j = (x.testBit j && !y.testBit j)) : bicI x y = (z : Int) := by
  have hzx : z < 2 ^ 63 := by
    apply Nat.lt_pow_two_of_testBit
    intro j hj
    rw [hz, Nat.testBit_lt_two_pow (Nat.lt_of_lt_of_le hx (Nat.pow_le_pow_right (by omega) hj))]; rfl
  unfold bicI
  rw [bvN, bvN]
  have h1 : (BitVec.ofNat 64 x &&& ~~~BitVec.ofNat 64 y).toNat = z := by
    apply Nat.eq_of_testBit_eq
    intro j
    rw [hz, BitVec.toNat_and, Nat.testBit_and, BitVec.testBit_toNat, BitVec.testBit_toNat, BitVec.getLsbD_not, BitVec.getLsbD_ofNat, BitVec.getLsbD_ofNat]
    by_cases hj : j < 64
    · simp [hj]
    · rw [Nat.testBit_lt_two_pow (Nat.lt_of_lt_of_le hx (Nat.pow_le_pow_right (by omega) (show 63 ≤ j by omega)))]; simp
  show IntKind.i64.wrap (((BitVec.ofNat 64 x &&& ~~~BitVec.ofNat 64 y).toNat : Nat) : Int) = _
  rw [h1]
  exact i64N hzx
/-- f, of a row's slice: turns the row's cells, gives c -/
def FnT (P : Program) (f : Nat) (mk : Value → Value) (ty sz : Nat) (cs cs' : List AV) (c : Value) : Prop :=
  Enters P f ∧ pureL cs' ∧ cs'.length = cs.length ∧ ∀ w n xs t, w.ownsRow 0 ty sz t n xs → cs.length = n * sz → (∃ cx, relL cx cs xs) → Calls P f #[mk t] w fun e w' => e = .returned c ∧ w.grownBy w' t.ownBlock ∧ ∃ xs', w'.ownsRow 0 ty sz t n xs' ∧ (∀ cx, relL cx cs' xs') ∧ ∀ u, u ∈ xs' → u.oneCell' = true
theorem does_turn1 {P : Program} {nt : Nat} {σ : St} {dst : Option Nat} {ty : Nat} {pos : String} {aft : Array Edge} {gd : Option (Nat × Bool)} {f : Nat} {x : Operand} {at' : Array TypeId} {mk : Value → Value} {c : Value} {cs cs' : List AV} {y : AV} {r k rt rz : Nat} {row : Row} (hd : dstOk nt dst = true)
    (hfn : FnT P f mk rt rz cs cs' c) (hy : σ.ev x = y) (hmk : MkV y r k mk) (hr : σ.row r = some row) (hv : row.ver = k) (ht : row.ty = rt) (hz : row.sz = rz) (hc : row.cs = cs) :
    Does P nt ⟨dst, .call ⟨.value (.func f), #[x], at'⟩, ty, pos, aft, gd⟩ ⟨fo x, [r]⟩ (.v c) [(r, some ⟨row.ty, row.sz, row.ver, true, row.box, cs'⟩)] σ := by
  subst ht hz hc
  refine ⟨?_⟩
  intro τ hag F hF a w hS Q K hK
  obtain ⟨φ, Z, hS⟩ := hS
  have hr' : τ.row r = some row := by rw [hag.2 r (by simp)]; exact hr
  have h1 : a.eval x = mk (φ r) := mkV_rel hS hmk hr' hv (by rw [← hy, ← hag.ev (fun t h => by simp [h])]; exact hS.ev x)
  obtain ⟨n, xs, hm⟩ := rowMem hS hr'
  have hcall := hfn.2.2.2 w n xs (φ r) hm.own hm.len ⟨_, hm.rel⟩
  unfold Oper.wp
  have hrun : (execOp a.eval ⟨dst, .call ⟨.value (.func f), #[x], at'⟩, ty, pos, aft, gd⟩).run P w = .ok (.enter f #[mk (φ r)]) w := by
    simp [execOp, resolve, Act.eval, Deferred.ofValue, invoke, run_callFunc hfn.1] at h1 ⊢
    simp [h1, run_callFunc hfn.1]
  rw [hrun, Oper.upon_enter]
  refine hcall.mono ?_
  rintro e w' ⟨rfl, hg, xs', ho, hrel, hone⟩
  show K (a.put dst c) w'
  refine hK c w' ?_
  have hrr := hS.rows r row hr'
  have htn := hS.turn (r := r) (row := row) (row' := ⟨row.ty, row.sz, row.ver, true, row.box, cs'⟩) (t' := φ r) (w' := w') hr' hg (Nat.le_refl _) (fun _ => rfl)
    (fun hcx => ⟨hrr.sz, fun _ => hfn.2.1, hrr.box, hrr.blk, n, xs', ho, by show cs'.length = _; rw [hfn.2.2.1]; exact hm.len, hrel _, hone⟩)
    (fun g' h => .inl h) (fun _ => rfl)
  rw [set_eq_upd] at htn
  cases dst with
  | none => exact ⟨_, Z, htn.1⟩
  | some d =>
    simp [dstOk] at hd
    exact ⟨_, Z, htn.1.put (by omega) (by simp [relV])⟩
section
variable {P : Program} {nt : Nat} {E : List (Nat × AV)} {H : Hp} {dst : Option Nat} {ty : Nat} {pos : String} {aft : Array Edge} {gd : Option (Nat × Bool)} {f : Nat} {at' : Array TypeId}
theorem st_turn1 {x : Operand} {mk : Value → Value} {c : Value} {cs cs' : List AV} {y : AV} {r k rt rz : Nat} {row : Row} (hfn : FnT P f mk rt rz cs cs' c) (hd : dstOk nt dst = true)
    (hy : (mkS E H).ev x = y) (hmk : MkV y r k mk) (hr : (mkS E H).row r = some row) (hv : row.ver = k) (ht : row.ty = rt) (hz : row.sz = rz) (hc : row.cs = cs) :
    Does P nt ⟨dst, .call ⟨.value (.func f), #[x], at'⟩, ty, pos, aft, gd⟩ ⟨fo x, [r]⟩ (.v c) [(r, some ⟨row.ty, row.sz, row.ver, true, row.box, cs'⟩)] (mkS E H) :=
  does_turn1 hd hfn hy hmk hr hv ht hz hc
end
/-! how a function begins that turns a row -/
def ResOkT (row' : Row) (e : Exit) (σ : St) : Prop := (e = .ret ∨ e = .normal) ∧ σ.row 0 = some row'
theorem fnt_of_ax {P : Program} {f nt ty sz : Nat} {fn : Func} {c : Code} {cs cs' : List AV} (hf : P.funcs[f]? = some fn) (hb : fn.body = some c) (hnm : (fn.name == "runtime.NumGoroutine") = false) (hnt : fn.ntmps = nt) (hrs : fn.results = #[])
    (hlen : 1 ≤ nt) (hsz : 0 < sz) (hs : scalL cs) (hone : ∀ x, x ∈ cs → ∃ v, x = AV.v v ∧ v.oneCell' = true) (hs' : scalL cs') (hl : cs'.length = cs.length) (h : ∀ bx : Bool, AX P nt c (mkS [(0, .own 0 0)] ⟨1, [(0, some ⟨ty, sz, 0, true, bx, cs⟩)]⟩) (ResOkT ⟨ty, sz, 0, true, bx, cs'⟩)) : FnT P f (fun t => t) ty sz cs cs' (.tuple #[]) := by
  refine ⟨⟨fn, hf, hnm, by rw [hb]; rfl⟩, pureL_scal hs', hl, fun w n xs t ho hcn hx => ?_⟩
  obtain ⟨cx1, hx⟩ := hx
  let bx : Bool := t.ownBlock.isSome
  obtain ⟨e, σ', ⟨he, hrow⟩, hend⟩ := h bx
  refine calls_of_wp hf hb ?_
  let F : Fr := ⟨w, fun b => t.ownBlock = some b, some t, nt, fun _ => True⟩
  have hS : Sim F (mkS [(0, .own 0 0)] ⟨1, [(0, some ⟨ty, sz, 0, true, bx, cs⟩)]⟩) { tmps := #[t] ++ Array.replicate (fn.ntmps - (#[t] : Array Value).size) undef, defers := [] } w := by
    have hrow0 : ∀ r row, (mkS [(0, AV.own 0 0)] ⟨1, [(0, some ⟨ty, sz, 0, true, bx, cs⟩)]⟩).row r = some row → r = 0 ∧ row = ⟨ty, sz, 0, true, bx, cs⟩ := fun r row hr => by
      simp only [mkS, mkSt, lkR] at hr
      cases hb0 : Nat.beq 0 r
      · rw [hb0] at hr; simp at hr
      · rw [hb0] at hr
        have := Nat.eq_of_beq_eq_true hb0
        simp at hr
        exact ⟨this.symm, hr.symm⟩
    refine ⟨fun _ => t, fun _ => False, rfl, ?_, ?_, ?_, ?_, fun b h => h.elim, fun b h => h.elim, fun b h => h.elim, ⟨rfl, rfl, rfl, Nat.le_refl _, fun _ _ _ => rfl⟩, ?_⟩
    · simp [F]; omega
    · intro i
      simp only [mkS, mkSt, lkE]
      cases i with
      | zero =>
        simp [Array.getD_eq_getD_getElem?, relV, cxOf, lkR]
        exact ⟨_, _, ⟨rfl, rfl⟩, fun _ => by rw [Array.getElem?_append_left (by simp)]; simp⟩
      | succ i =>
        have : Nat.beq 0 (i + 1) = false := rfl
        rw [this]; simp [relV]
    · intro r row hr
      obtain ⟨rfl, rfl⟩ := hrow0 r row hr
      refine ⟨hsz, fun _ => pureL_scal hs, fun hbx => ?_, fun g hg => .inr ⟨?_, hg⟩, n, xs, ho, hcn, scal_rel hs hx, ?_⟩
      · intro e0
        have hbx' : t.ownBlock.isSome = true := hbx
        rw [e0] at hbx'; cases hbx'
      · show t.ownBlock.isSome = true
        rw [show t.ownBlock = some g from hg]; rfl
      · intro u hu
        obtain ⟨i, hi, rfl⟩ := List.getElem_of_mem hu
        have hlx := relL_length hx
        obtain ⟨v, hv1, hv2⟩ := relL_get hx i (cs[i]'(by omega)) (List.getElem?_eq_getElem (by omega))
        obtain ⟨c0, e1, e2⟩ := hone (cs[i]'(by omega)) (List.getElem_mem _)
        rw [e1] at hv2
        simp only [relV] at hv2
        rw [List.getElem?_eq_getElem hi] at hv1
        cases hv1
        rw [hv2]; exact e2
    · intro r s hne hr hs2
      obtain ⟨row, hr'⟩ := Option.isSome_iff_exists.1 hr
      obtain ⟨row2, hs'⟩ := Option.isSome_iff_exists.1 hs2
      exact absurd ((hrow0 r row hr').1.trans (hrow0 s row2 hs').1.symm) hne
    · intro t' ht _
      simp [F] at ht
      exact ht
  refine Code.wp_mono (fun e1 a1 w1 hh => ?_) (hend F rfl _ w hS)
  obtain ⟨rfl, φ, Z, hS1⟩ := hh
  have hrr := hS1.rows 0 _ hrow
  have hφ : φ 0 = t := hS1.recv t rfl (by rw [hrow]; rfl)
  obtain ⟨n', xs', k1, k2, k3, k4⟩ := hrr.own
  rw [hφ] at k1
  have hk := hS1.keep
  have hres : (results fn a1.tmps).run P w1 = .ok (.tuple #[]) w1 := results_run (rs := []) (vs := []) (by rw [hrs]) (by simp)
  have hn : n' = n := by
    have e1 : cs'.length = n' * sz := k2
    rw [hl, hcn] at e1
    exact (Nat.eq_of_mul_eq_mul_right hsz e1).symm
  subst hn
  have hpost : w.grownBy w1 t.ownBlock ∧ ∃ xs', w1.ownsRow 0 ty sz t n' xs' ∧ (∀ cx, relL cx cs' xs') ∧ ∀ u, u ∈ xs' → u.oneCell' = true :=
    ⟨⟨hk.os, hk.tape, hk.output, hk.size, fun k hk' hne => hk.block k hk' (fun hm => hne hm.symm)⟩, xs', k1, fun cx => scal_rel hs' k3, k4⟩
  rcases he with rfl | rfl
  · exact ⟨hS1.dfr, _, hres, rfl, hpost⟩
  · exact ⟨hS1.dfr, _, hres, rfl, hpost⟩
/-! slides stored -/
theorem slc_set : ∀ (l : List (Int × Int)) (o : Nat) (a b : Int), setL (slc l) (o * 2) [.int a, .int b] = slc (l.set o (a, b))
  | [], o, a, b => by simp [setL, slc]
  | s :: l, 0, a, b => by simp [setL, slc]
  | s :: l, o+1, a, b => by
    have ih := slc_set l o a b
    simp only [setL] at ih ⊢
    simp only [slc, List.set_cons_succ]
    rw [show (o + 1) * 2 = o * 2 + 1 + 1 by omega, List.set_cons_succ, List.set_cons_succ, List.set_cons_succ, List.set_cons_succ, ih]
section
variable {P : Program} {T : List (Nat × TyI)} {nt : Nat} {E : List (Nat × AV)} {H : Hp} {dst : Option Nat} {ty : Nat} {pos : String} {aft : Array Edge} {gd : Option (Nat × Bool)}
theorem st_st_slc (hT : TabOk P T) {t : Nat} {x v : Operand} {i : TyI} {r k o : Nat} {row : Row} {a b : Int} {l : List (Int × Int)} (hx : (mkS E H).ev x = .ptr r k (o * 2)) (hr : (mkS E H).row r = some row) (hc : row.cs = slc l) (hv : row.ver = k) (ht : lkT T t = some i) (hs : i.size = 2) (hp : row.pure = true)
    (hy : (mkS E H).ev v = .agg [.int a, .int b]) (ho : o < l.length) : Does P nt ⟨none, .store t x v, ty, pos, aft, gd⟩ ⟨fo x ++ fo v, [r]⟩ .any [(r, some ⟨row.ty, row.sz, row.ver, true, row.box, slc (l.set o (a, b))⟩)] (mkS E H) := by
  have := does_store (P := P) (nt := nt) (ty := ty) (pos := pos) (aft := aft) (gd := gd) hT hx hr hv ht hy (ys := [.int a, .int b]) rfl rfl hs.symm (by rw [hc, slc_length]; simp; omega)
  rw [hc] at this
  simp only [slc_set, hp, pureBs, pureB, Bool.and_true, rowsOf, rowOf, List.append_nil] at this
  exact this
end
/-! loads whose result is told -/
section
variable {P : Program} {T : List (Nat × TyI)} {nt : Nat} {E : List (Nat × AV)} {H : Hp} {dst : Option Nat} {ty : Nat} {pos : String} {aft : Array Edge} {gd : Option (Nat × Bool)}
theorem st_ld_intsE (hT : TabOk P T) {t : Nat} {x : Operand} {i : TyI} {r k o : Nat} {row : Row} {zs : List Int} {z : Int} (hd : dstOk nt dst = true) (hx : (mkS E H).ev x = .ptr r k o) (hr : (mkS E H).row r = some row) (hc : row.cs = ints zs) (hv : row.ver = k) (ht : lkT T t = some i) (hg : i.agg = false) (ho : o < zs.length) (hz : gi zs o = z) :
    Does P nt ⟨dst, .load t x, ty, pos, aft, gd⟩ ⟨fo x, [r]⟩ (.int z) [] (mkS E H) := by subst hz; exact st_ld_ints hT hd hx hr hc hv ht hg ho
theorem st_ld_lE (hT : TabOk P T) {t : Nat} {x : Operand} {i : TyI} {r k o : Nat} {row : Row} {t' : Nat} {ls : List (List Int)} {zs : List Int} (hd : dstOk nt dst = true) (hx : (mkS E H).ev x = .ptr r k o) (hr : (mkS E H).row r = some row) (hc : row.cs = lists t' ls) (hv : row.ver = k) (ht : lkT T t = some i) (hg : i.agg = false) (ho : o < ls.length) (hz : gl ls o = zs) :
    Does P nt ⟨dst, .load t x, ty, pos, aft, gd⟩ ⟨fo x, [r]⟩ (.sl t' 1 (ints zs)) [] (mkS E H) := by subst hz; exact st_ld_l hT hd hx hr hc hv ht hg ho
theorem st_ld_ipE (hT : TabOk P T) {t : Nat} {x : Operand} {i : TyI} {o : Nat} {zs : List Int} {z : Int} (hd : dstOk nt dst = true) (hx : (mkS E H).ev x = .ip (ints zs) o) (ht : lkT T t = some i) (hg : i.agg = false) (ho : o < zs.length) (hz : gi zs o = z) :
    Does P nt ⟨dst, .load t x, ty, pos, aft, gd⟩ ⟨fo x, []⟩ (.int z) [] (mkS E H) := by subst hz; exact st_ld_ip hT hd hx ht hg ho
theorem st_ld_ip_lE (hT : TabOk P T) {t : Nat} {x : Operand} {i : TyI} {o : Nat} {t' : Nat} {ls : List (List Int)} {zs : List Int} (hd : dstOk nt dst = true) (hx : (mkS E H).ev x = .ip (lists t' ls) o) (ht : lkT T t = some i) (hg : i.agg = false) (ho : o < ls.length) (hz : gl ls o = zs) :
    Does P nt ⟨dst, .load t x, ty, pos, aft, gd⟩ ⟨fo x, []⟩ (.sl t' 1 (ints zs)) [] (mkS E H) := by subst hz; exact st_ld_ip_l hT hd hx ht hg ho
theorem st_remE {t t' : Nat} {x y : Operand} {i j z : Int} (hd : dstOk nt dst = true) (hx : (mkS E H).ev x = .int i) (hy : (mkS E H).ev y = .int j) (h0 : 0 ≤ i) (h1 : 0 < j) (hz : i % j = z) :
    Does P nt ⟨dst, .binOp .rem t x y t', ty, pos, aft, gd⟩ ⟨fo x ++ fo y, []⟩ (.int z) [] (mkS E H) := by subst hz; exact st_rem hd hx hy h0 h1
theorem st_quoE {t t' : Nat} {x y : Operand} {i j z : Int} (hd : dstOk nt dst = true) (hx : (mkS E H).ev x = .int i) (hy : (mkS E H).ev y = .int j) (h0 : 0 ≤ i ∧ i ≤ 9223372036854775807) (h1 : 0 < j) (hz : i / j = z) :
    Does P nt ⟨dst, .binOp .quo t x y t', ty, pos, aft, gd⟩ ⟨fo x ++ fo y, []⟩ (.int z) [] (mkS E H) := by subst hz; exact st_quo hd hx hy h0 h1
theorem st_ix_sl_4 (hT : TabOk P T) {t e o : Nat} {x y : Operand} {i j : TyI} {ty' sz : Nat} {z : Int} {zs : List Int} (hd : dstOk nt dst = true) (hx : (mkS E H).ev x = .sl ty' sz (i32s zs)) (hy : (mkS E H).ev y = .int z)
    (ht : lkT T t = some i) (hu : i.u = .slice e) (he : lkT T e = some j) (hs : sz = 1) (hs' : j.size = 1) (ho : z.toNat = o) (h0 : 0 ≤ z ∧ o < zs.length) :
    Does P nt ⟨dst, .indexAddr t x y, ty, pos, aft, gd⟩ ⟨fo x ++ fo y, []⟩ (.ip (i32s zs) o) [] (mkS E H) := by
  have := does_index_sl (P := P) (ty := ty) (pos := pos) (aft := aft) (gd := gd) hT hd hx hy ht hu he (by rw [hs, hs']) h0.1 (by rw [hs', i32s_length]; omega)
  rw [hs', Nat.mul_one, ho] at this; exact this
theorem st_ld_ip_4E (hT : TabOk P T) {t : Nat} {x : Operand} {i : TyI} {o : Nat} {zs : List Int} {z : Int} (hd : dstOk nt dst = true) (hx : (mkS E H).ev x = .ip (i32s zs) o) (ht : lkT T t = some i) (hg : i.agg = false) (ho : o < zs.length) (hz : gi zs o = z) :
    Does P nt ⟨dst, .load t x, ty, pos, aft, gd⟩ ⟨fo x, []⟩ (.v (.int .i32 z)) [] (mkS E H) := by
  have := does_load_ip (P := P) (ty := ty) (pos := pos) (aft := aft) (gd := gd) hT hd hx ht hg (by rw [i32s_length]; exact ho)
  rw [rd_i32s ho, hz] at this; exact this
end
end Go.Sym
