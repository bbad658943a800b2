/-
  Methods of a reader that lies in the caller's memory, on abstract states; nothing of the program stands here.
-/
import Derived.Test.YtjdgbdakkdljmaaDoorQF
set_option linter.unusedVariables false
set_option linter.unusedSimpArgs false
namespace Go.Sym
open Go Go.RowKit Go.Park Go.Proofs.YtjdgbdakkdljmaaDoor

/-- more of the zone -/
theorem SimAt.widen {F : Fr} {φ : Nat → Value} {Z Z' : Nat → Prop} {σ : St} {a : Act} {w : World} (h : SimAt F φ Z σ a w) (hz : ∀ b, Z b → Z' b)
    (hz' : ∀ b, Z' b → Z b ∨ (b < w.heap.size ∧ F.w0.heap.size ≤ b ∧ ∀ r, (σ.row r).isSome → (φ r).ownBlock ≠ some b)) : SimAt F φ Z' σ a w := by
  have hc : CxLe (cxOf φ Z σ w) (cxOf φ Z' σ w) := ⟨fun b hb => ⟨hz b hb, rfl⟩, fun r t j e => ⟨t, j, e, Nat.le_refl _, fun _ => rfl⟩⟩
  refine ⟨h.dfr, h.nt, fun i => relV_mono hc _ _ (h.env i), fun r row hr => (h.rows r row hr).mono hc (fun _ _ => rfl), h.disj, ?_, ?_, ?_, h.keep, h.recv⟩
  · intro b hb; rcases hz' b hb with h1 | h1; (exact h.zlt b h1); exact h1.1
  · intro b hb r hr; rcases hz' b hb with h1 | h1; (exact h.zrow b h1 r hr); exact h1.2.2 r hr
  · intro b hb hl; rcases hz' b hb with h1 | h1; (exact h.base b h1 hl); (have := h1.2.1; omega)

def rdRow (ty : Nat) (x0 : Value) (t0 : Nat) (cs : List AV) (p : Int) : Row := ⟨ty, 2, 0, true, true, [.both x0 (.sl t0 1 cs), .int p]⟩
/-- f, a method of the reader: of these arguments it gives res, and leaves the reader at p' -/
def FnR (P : Program) (f ty : Nat) (x0 : Value) (t0 : Nat) (cs : List AV) (p : Int) (args : List AV) (p' : Int) (res : AV) : Prop :=
  Enters P f ∧ ∀ w g c vs, pureL args → relL (cx0 w (fun b => b < w.heap.size ∧ b ≠ g)) args vs → w.ownsRow 0 ty 2 (.slice (some ⟨g, 0, none⟩) 1 c) 1 [x0, .int .i64 p] → relV (cx0 w (fun b => b < w.heap.size ∧ b ≠ g)) (.sl t0 1 cs) x0 →
    Calls P f (Value.pointer (some ⟨g, 0, none⟩) :: vs).toArray w fun e w' => ∃ v bs, e = .returned v ∧ w.grownBy w' (some g) ∧ w'.ownsRow 0 ty 2 (.slice (some ⟨g, 0, none⟩) 1 c) 1 [x0, .int .i64 p'] ∧ bs.Nodup ∧ (∀ b, b ∈ bs → w.heap.size ≤ b) ∧
      relO w' w.heap.size (fun b => w.heap.size ≤ b ∧ b < w'.heap.size ∧ b ∉ bs) res v bs
theorem relL_two {cx : Cx} {x0 : Value} {y : AV} {p : Int} {xs : List Value} (h : relL cx [.both x0 y, .int p] xs) : xs = [x0, .int .i64 p] ∧ relV cx y x0 := by
  simp only [relL, relV] at h
  obtain ⟨u, us, rfl, ⟨rfl, h1⟩, v, vs, rfl, rfl, rfl⟩ := h
  exact ⟨rfl, h1⟩
theorem two_rel {cx : Cx} {x0 : Value} {y : AV} {p : Int} (h : relV cx y x0) : relL cx [.both x0 y, .int p] [x0, .int .i64 p] := by
  simp only [relL, relV]
  exact ⟨_, _, rfl, ⟨rfl, h⟩, _, _, rfl, rfl, rfl⟩
theorem sl_one {cx : Cx} {x0 : Value} {t0 : Nat} {cs : List AV} (h : relV cx (.sl t0 1 cs) x0) : x0.oneCell' = true := by
  simp only [relV] at h
  obtain ⟨_, ao, n, c, rfl, _⟩ := h
  rfl
theorem does_recv {P : Program} {nt : Nat} {σ : St} {dst : Option Nat} {ty : Nat} {pos : String} {aft : Array Edge} {gd : Option (Nat × Bool)} {f rt : Nat} {x : Operand} {args : List Operand} {at' : Array TypeId} {ts : List AV} {res : AV} {u es : List Nat} {x0 : Value} {t0 : Nat} {cs : List AV} {p p' : Int} {r k : Nat} {bx : Bool} (n : Nat) (hd : dstOk nt dst = true)
    (hfn : FnR P f rt x0 t0 cs p ts p' res) (hx : σ.ev x = .ptr r k 0) (hr : σ.row r = some ⟨rt, 2, k, true, bx, [.both x0 (.sl t0 1 cs), .int p]⟩) (hfz : FrzA σ args ts u es) (hru : (u.all fun s => !Nat.beq r s) = true) (h0 : 0 < n)
    {ids : List Nat} (hids : ∀ m, n ≤ m → m < (ado n res).2.2 → m ∈ ids) (hfr : ∀ m, m ∈ ids → σ.row m = none) :
    Does P nt ⟨dst, .call ⟨.value (.func f), (x :: args).toArray, at'⟩, ty, pos, aft, gd⟩ ⟨fo x ++ es, r :: (u ++ ids)⟩ (ado n res).1 ((ado n res).2.1 ++ [(r, some ⟨rt, 2, k, true, bx, [.both x0 (.sl t0 1 cs), .int p']⟩)]) σ := by
  refine ⟨?_⟩
  intro τ hag F hF a w hS Q K hK
  obtain ⟨φ, Z, hS⟩ := hS
  have hr' : τ.row r = some ⟨rt, 2, k, true, bx, [.both x0 (.sl t0 1 cs), .int p]⟩ := by rw [hag.2 r (by simp)]; exact hr
  have hx' := hS.ev x
  rw [hag.ev (σ := σ) (fun t ht => by simp [ht]), hx] at hx'
  obtain ⟨g, m, c, e1, e2⟩ := ptr_open hS hr' rfl hx'
  obtain ⟨q, xs, hm⟩ := rowMem hS hr'
  have hrel := hm.rel
  obtain ⟨rfl, hy⟩ := relL_two hrel
  have hq : q = 1 := by have := hm.len; simp at this; omega
  subst hq
  have hown := hm.own
  have hm1 : m = 1 := by
    rw [e1] at hown
    rcases hown.2 with ⟨h, _⟩ | ⟨_, _, _, h, _⟩
    · cases h
    · cases h; rfl
  subst hm1
  rw [e1] at hown
  have hgb : (φ r).ownBlock = some g := by rw [e1]; rfl
  have hpy : pureV (.sl t0 1 cs) := by have := hy; simp only [relV] at this; simpa [pureV] using this.1
  have hne : ∀ s, s ∈ u → s ≠ r := fun s hs e => by
    have := List.all_eq_true.1 hru s hs
    rw [e] at this
    simp at this
  have hz1 : ∀ b, Z b → b < w.heap.size ∧ b ≠ g := fun b hb => ⟨hS.zlt b hb, fun e => hS.zrow b hb r (by simp [hr']) (by rw [hgb, e])⟩
  obtain ⟨h1, h2⟩ := frzA_rel (Z1 := fun b => b < w.heap.size ∧ b ≠ g) hS hz1 hfz (fun s hs => hag.2 s (by simp [hs]))
    (fun s hs row hrow g' hg' hlt => ⟨hlt, fun e => hS.disj s r (hne s hs) (by simp [hrow]) (by simp [hr']) g' hg' (by rw [hgb, e])⟩) (fun t ht => hag.1 t (by simp [ht]))
  have hzz : CxZ (cxOf φ Z τ w) (cx0 w (fun b => b < w.heap.size ∧ b ≠ g)) := ⟨fun b hb => ⟨hz1 b hb, rfl⟩⟩
  have hc := hfn.2 w g c (args.map a.eval) h2 h1 hown (relV_pure hzz _ _ hpy hy)
  unfold Oper.wp
  have hrun : (execOp a.eval ⟨dst, .call ⟨.value (.func f), (x :: args).toArray, at'⟩, ty, pos, aft, gd⟩).run P w = .ok (.enter f (Value.pointer (some ⟨g, 0, none⟩) :: args.map a.eval).toArray) w := by
    have e3 : a.eval x = .pointer (some ⟨g, 0, none⟩) := e2
    simp [execOp, resolve, Act.eval, Deferred.ofValue, invoke, run_callFunc hfn.1] at e3 ⊢
    rw [e3]
  rw [hrun, Oper.upon_enter]
  refine hc.mono ?_
  rintro e w' ⟨v, bs, rfl, hg, ho', hnd, hge, hro⟩
  show K (a.put dst v) w'
  refine hK v w' ?_
  have htn := hS.turn (r := r) (row := ⟨rt, 2, k, true, bx, [.both x0 (.sl t0 1 cs), .int p]⟩) (row' := ⟨rt, 2, k, true, bx, [.both x0 (.sl t0 1 cs), .int p']⟩) (t' := φ r) (w' := w') hr' (by rw [hgb]; exact hg) (Nat.le_refl _) (fun _ => rfl)
    (fun hcx => ⟨by simp, fun _ => (by simp only [pureL, pureV]; exact ⟨by simpa [pureV] using hpy, trivial, trivial⟩), (hS.rows r _ hr').box, (hS.rows r _ hr').blk, 1, [x0, .int .i64 p'], by rw [e1]; exact ho', by simp, two_rel (relV_mono hcx _ _ hy), by
      intro u' hu'
      simp at hu'
      rcases hu' with rfl | rfl
      · exact sl_one hy
      · rfl⟩)
    (fun g' h => .inl h) (fun _ => rfl)
  obtain ⟨hS1, hcx1⟩ := htn
  let Z' : Nat → Prop := fun b => Z b ∨ (w.heap.size ≤ b ∧ b < w'.heap.size ∧ b ∉ bs)
  have hφ : (fun i => if i = r then φ r else φ i) = φ := by funext i; by_cases e : i = r; (simp [e]); simp [e]
  rw [hφ] at hS1
  have hlt : ∀ s, ((τ.set r (some ⟨rt, 2, k, true, bx, [.both x0 (.sl t0 1 cs), .int p']⟩)).row s).isSome → ∀ b, (φ s).ownBlock = some b → b < w.heap.size := fun s hs b hb => by
    have : (τ.row s).isSome := by
      simp only [St.set] at hs
      by_cases e : s = r
      · rw [e, hr']; rfl
      · rw [if_neg e] at hs; exact hs
    obtain ⟨row, hrow⟩ := Option.isSome_iff_exists.1 this
    exact (hS.rows s row hrow).lt hb
  have hS2 : SimAt F φ Z' (τ.set r (some ⟨rt, 2, k, true, bx, [.both x0 (.sl t0 1 cs), .int p']⟩)) a w' := hS1.widen (fun b h => .inl h) (fun b h => by
    rcases h with h | h
    · exact .inl h
    · exact .inr ⟨h.2.1, Nat.le_trans hS.keep.size h.1, fun s hs e => by have := hlt s hs b e; omega⟩)
  rw [set_eq_upd] at hS2 hlt
  obtain ⟨φ', k1, k2⟩ := ado_sim (Z := Z') (fun b h => .inr h) res n φ _ a w' v bs hS2 hro h0 (fun m e1 e2 => by
      have hm0 := hfr m (hids m e1 e2)
      have hmr : m ≠ r := fun e => by rw [e, hr] at hm0; cases hm0
      have : τ.row m = none := by rw [hag.2 m (by simp [hids m e1 e2])]; exact hm0
      simp only [St.rowsUpd, overR]
      have hbeq : Nat.beq r m = false := by
        cases hb : Nat.beq r m
        · rfl
        · exact absurd (Nat.eq_of_beq_eq_true hb).symm hmr
      rw [hbeq]
      exact this) hnd (fun b hb => by
    have hge' := hge b hb
    refine ⟨Nat.le_trans hS.keep.size hge', ?_, fun s hs hg' => ?_⟩
    · rintro (h | h)
      · have := hS.zlt b h; omega
      · exact h.2.2 hb
    · have := hlt s hs b hg'; omega)
  refine ⟨φ', Z', ?_⟩
  have k1s := k1.sim
  rw [← rowsUpd_append] at k1s k2
  cases dst with
  | none => exact k1s
  | some d =>
    simp [dstOk] at hd
    exact k1s.put (by omega) k2

/-! how a method begins and ends -/
def ResOkR (T : List (Nat × TyI)) (rs : List ResultVar) (row' : Row) (res : AV) (e : Exit) (σ : St) : Prop := (e = .ret ∨ e = .normal) ∧ σ.row 0 = some row' ∧ ∃ xs u, ResL T σ rs xs ∧ ExpR σ xs res u ∧ u.Nodup
theorem fnr_of_ax {P : Program} {T : List (Nat × TyI)} (hT : TabOk P T) {f nt ty : Nat} {fn : Func} {c : Code} {rs : List ResultVar} {ts : List AV} {res : AV} {x0 : Value} {t0 : Nat} {cs : List AV} {p p' : Int} (hf : P.funcs[f]? = some fn) (hb : fn.body = some c) (hnm : (fn.name == "runtime.NumGoroutine") = false) (hnt : fn.ntmps = nt) (hrs : fn.results = rs.toArray)
    (hlen : ts.length + 1 ≤ nt) (h : AX P nt c (mkSt (entE 0 (.ptr 0 0 0 :: ts)) [(0, some (rdRow ty x0 t0 cs p))]) (ResOkR T rs (rdRow ty x0 t0 cs p') res)) : FnR P f ty x0 t0 cs p ts p' res := by
  refine ⟨⟨fn, hf, hnm, by rw [hb]; rfl⟩, fun w g cp vs hp hx ho hy => ?_⟩
  obtain ⟨e, σ', ⟨he, hrow, xs, u, h1, h2, h3⟩, hend⟩ := h
  have hl := relL_length hx
  refine calls_of_wp hf hb ?_
  let F : Fr := ⟨w, fun b => b = g, some (.slice (some ⟨g, 0, none⟩) 1 cp), nt, fun _ => True⟩
  have hpy : pureV (.sl t0 1 cs) := by have := hy; simp only [relV] at this; simpa [pureV] using this.1
  let φ0 : Nat → Value := fun r => if r = 0 then .slice (some ⟨g, 0, none⟩) 1 cp else .slice none 0 0
  let Z0 : Nat → Prop := fun b => b < w.heap.size ∧ b ≠ g
  let σ0 : St := mkSt (entE 0 (.ptr 0 0 0 :: ts)) [(0, some (rdRow ty x0 t0 cs p))]
  have hrow0 : ∀ r row, σ0.row r = some row → r = 0 ∧ row = rdRow ty x0 t0 cs p := fun r row hr => by
    simp only [σ0, mkSt, lkR] at hr
    cases hb0 : Nat.beq 0 r
    · rw [hb0] at hr; simp at hr
    · rw [hb0] at hr
      have := Nat.eq_of_beq_eq_true hb0
      simp at hr
      exact ⟨this.symm, hr.symm⟩
  have hzz : CxZ (cx0 w (fun b => b < w.heap.size ∧ b ≠ g)) (cxOf φ0 Z0 σ0 w) := ⟨fun b hb => ⟨hb, rfl⟩⟩
  have hS : Sim F σ0 { tmps := (Value.pointer (some ⟨g, 0, none⟩) :: vs).toArray ++ Array.replicate (fn.ntmps - (Value.pointer (some ⟨g, 0, none⟩) :: vs).toArray.size) undef, defers := [] } w := by
    refine ⟨φ0, Z0, rfl, ?_, ?_, ?_, ?_, fun b h => h.1, ?_, fun b h _ => trivial, ⟨rfl, rfl, rfl, Nat.le_refl _, fun _ _ _ => rfl⟩, ?_⟩
    · simp [F]; omega
    · intro i
      simp only [σ0, mkSt]
      rw [entE_get]
      by_cases hi : i < ts.length + 1
      · rw [if_pos (by simp; omega)]
        cases i with
        | zero =>
          simp [Array.getD_eq_getD_getElem?, relV, cxOf, lkR, φ0]
          exact ⟨_, _, ⟨rfl, rfl⟩, fun _ => ⟨g, ⟨_, _, rfl⟩, by rw [Array.getElem?_append_left (by simp)]; simp⟩⟩
        | succ i =>
          obtain ⟨v, hv1, hv2⟩ := relL_get hx i (ts[i]'(by omega)) (List.getElem?_eq_getElem (by omega))
          rw [Array.getD_eq_getD_getElem?, Array.getElem?_append_left (by simp; omega)]
          simp [List.getD, show i < ts.length by omega, hv1]
          exact relV_pure hzz _ _ (pureL_get hp i _ (List.getElem?_eq_getElem (by omega))) hv2
      · rw [if_neg (by simp; omega)]; simp [relV]
    · intro r row hr
      obtain ⟨rfl, rfl⟩ := hrow0 r row hr
      refine ⟨by simp [rdRow], fun _ => (by simp only [rdRow, pureL, pureV]; exact ⟨by simpa [pureV] using hpy, trivial, trivial⟩), fun _ => by simp [φ0, Value.ownBlock], fun g' hg' => ?_, 1, [x0, .int .i64 p], ho, by simp [rdRow], two_rel (relV_pure hzz _ _ hpy hy), ?_⟩
      · simp [φ0, Value.ownBlock] at hg'
        exact .inr ⟨rfl, hg'.symm⟩
      · intro u' hu'
        simp at hu'
        rcases hu' with rfl | rfl
        · exact sl_one hy
        · rfl
    · intro r s hne hr hs
      obtain ⟨row, hrow'⟩ := Option.isSome_iff_exists.1 hr
      obtain ⟨row2, hrow2⟩ := Option.isSome_iff_exists.1 hs
      exact absurd ((hrow0 r row hrow').1.trans (hrow0 s row2 hrow2).1.symm) hne
    · intro b hb r hr
      obtain ⟨row, hrow'⟩ := Option.isSome_iff_exists.1 hr
      obtain ⟨rfl, _⟩ := hrow0 r row hrow'
      simp only [φ0, if_pos, Value.ownBlock]
      intro e'
      exact hb.2 (by simpa using e'.symm)
    · intro t ht _
      simp [F] at ht
      simp [φ0, ht]
  refine Code.wp_mono (fun e1 a1 w1 hh => ?_) (hend F rfl _ w hS)
  obtain ⟨rfl, φ, Z, hS1⟩ := hh
  obtain ⟨vs1, h4, h5⟩ := resL_run hT hS1 h1
  have h6 := results_run hrs h4
  obtain ⟨h7, h8⟩ := expR_rel hS1 h2 (fun b => w.heap.size ≤ b ∧ b < w1.heap.size ∧ b ∉ blksOf φ u) h5
  obtain ⟨h9, h10⟩ := blks_nodup hS1 h3 h8
  have hk := hS1.keep
  have ht0 : φ 0 = .slice (some ⟨g, 0, none⟩) 1 cp := hS1.recv _ rfl (by simp [hrow])
  obtain ⟨q, xs', hm⟩ := rowMem hS1 hrow
  obtain ⟨rfl, hy'⟩ := relL_two hm.rel
  have hq : q = 1 := by have := hm.len; simp [rdRow] at this; omega
  subst hq
  have hown := hm.own
  rw [ht0] at hown
  have hgr : w.grownBy w1 (some g) := ⟨hk.os, hk.tape, hk.output, hk.size, fun b hb' hne => hk.block b hb' (fun e => hne (by rw [e]))⟩
  rcases he with rfl | rfl
  · exact ⟨hS1.dfr, _, h6, _, _, rfl, hgr, hown, h9, h10, h7⟩
  · exact ⟨hS1.dfr, _, h6, _, _, rfl, hgr, hown, h9, h10, h7⟩

end Go.Sym
