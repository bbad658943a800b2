/-
  Regions and code on abstract states; nothing of the program stands here.
-/
import Derived.Test.YtjdgbdakkdljmaaDoorQ6
set_option linter.unusedVariables false
set_option linter.unusedSimpArgs false
namespace Go.Sym
open Go Go.RowKit

theorem part_none : ∀ (l : List (Foot × Upd)) (D : Nat → Bool) (k : Nat) (τ : St), (∀ j, k ≤ j → D j = false) → part l D k τ = τ
  | [], _, _, _, _ => rfl
  | (R, u) :: l, D, k, τ, h => by
    simp only [part, h k (Nat.le_refl _)]
    exact part_none l D (k + 1) τ (fun j hj => h j (by omega))
theorem chain_steps {P : Program} {nt : Nat} {ops : Array Oper} {os : List Oper} {σ σ' : St} {l : List (Foot × Upd)} (h : Chain P nt ops os σ l σ') : ∀ k,
    l.length = os.length ∧ σ' = part l (fun _ => true) k σ ∧ ∀ i o R u, os[i]? = some o → l[i]? = some (R, u) → OStep P nt ops o (part l (fun j => decide (j < k + i)) k σ) R u := by
  induction h with
  | nil σ => intro k; exact ⟨rfl, rfl, fun i o R u h => by simp at h⟩
  | @cons o os σ σ' R u l h hk ih =>
    intro k
    obtain ⟨h1, h2, h3⟩ := ih (k + 1)
    refine ⟨by simp [h1], by simp only [part, if_true]; exact h2, fun i o' R' u' ho hl => ?_⟩
    cases i with
    | zero =>
      simp at ho hl
      obtain ⟨rfl, rfl⟩ := hl
      subst ho
      rw [part_none _ _ _ _ (fun j hj => by simp; omega)]
      exact h
    | succ i =>
      simp at ho hl
      have := h3 i o' R' u' ho hl
      simp only [part]
      rw [if_pos (by simp)]
      rw [show k + (i + 1) = k + 1 + i by omega]
      exact this
theorem part_congr {l : List (Foot × Upd)} {D D' : Nat → Bool} {σ : St} (h : ∀ j, j < l.length → D j = D' j) : part l D 0 σ = part l D' 0 σ := by
  apply St.ext'
  · intro t
    rw [part_env, part_env]
    exact valE_congr t l D D' 0 _ (fun j R u hj _ => by rw [Nat.zero_add]; exact h j (List.getElem?_eq_some_iff.1 hj).1)
  · intro t
    rw [part_row, part_row]
    exact valR_congr t l D D' 0 _ (fun j R u hj _ => by rw [Nat.zero_add]; exact h j (List.getElem?_eq_some_iff.1 hj).1)
theorem anc_in {os : List Oper} {D : Nat → Bool} (hcl : ∀ j o, D j = true → os[j]? = some o → ∀ e, e ∈ o.after.toList → Region.binds .any e = true → D e.on = true) {i j : Nat} (h : Anc os i j) :
    (∀ o, os[i]? = some o → ∀ e, e ∈ o.after.toList → Region.binds .any e = true → D e.on = true) → D j = true := by
  induction h with
  | one h he hb => intro hp; exact hp _ h _ he hb
  | @more i j o e h he hb k ih => intro hp; exact ih (fun o' ho' e' he' hb' => hcl e.on o' (hp _ h _ he hb) ho' e' he' hb')
theorem conf_we {f g : Fp} {t : Nat} (h1 : t ∈ f.we) (h2 : t ∈ g.re ∨ t ∈ g.we) : conf f g = true := by
  simp only [conf, Bool.or_eq_true]; left; exact meets_of h1 (by simpa using h2)
theorem conf_re {f g : Fp} {t : Nat} (h1 : t ∈ f.re) (h2 : t ∈ g.we) : conf f g = true := by
  simp only [conf, Bool.or_eq_true]; right; left; exact meets_of h1 h2
theorem conf_wr {f g : Fp} {t : Nat} (h1 : t ∈ f.wr) (h2 : t ∈ g.rr ∨ t ∈ g.wr) : conf f g = true := by
  simp only [conf, Bool.or_eq_true]; right; right; left; exact meets_of h1 (by simpa using h2)
theorem conf_rr {f g : Fp} {t : Nat} (h1 : t ∈ f.rr) (h2 : t ∈ g.wr) : conf f g = true := by
  simp only [conf, Bool.or_eq_true]; right; right; right; exact meets_of h1 h2

theorem countP_lt {p q : Nat → Bool} {a : Nat} : ∀ {l : List Nat}, (∀ x, x ∈ l → p x = true → q x = true) → a ∈ l → p a = false → q a = true → l.countP p < l.countP q
  | x :: l, h, ha, hp, hq => by
    have hle : l.countP p ≤ l.countP q := List.countP_mono_left fun y hy => h y (by simp [hy])
    rcases List.mem_cons.1 ha with rfl | ha
    · rw [List.countP_cons, List.countP_cons, hp, hq]; simp; omega
    · have := countP_lt (l := l) (fun y hy => h y (by simp [hy])) ha hp hq
      have h0 := h x (by simp)
      rw [List.countP_cons, List.countP_cons]
      cases hpx : p x
      · simp; omega
      · rw [h0 hpx]; simp; omega
/-- in whatever order -/
theorem Chain.any {P : Program} {nt : Nat} {ops : Array Oper} {σ σ' : St} {l : List (Foot × Upd)} (h : Chain P nt ops ops.toList σ l σ') (hc : chk ops.toList (l.map fpOf) = true) {F : Fr} (hF : F.nt = nt) {Q : Exit → Act → World → Prop}
    (hQ : ∀ a' w', Sim F σ' a' w' → Q .normal a' w') : ∀ (fuel : Nat) (listed : Array Bool) (a : Act) (w : World), listed.size = ops.size →
      (∀ j o, listed.getD j false = true → ops.toList[j]? = some o → ∀ e, e ∈ o.after.toList → Region.binds .any e = true → listed.getD e.on false = true) →
      (List.range ops.size).countP (fun j => !listed.getD j false) ≤ fuel → Sim F (part l (fun j => listed.getD j false) 0 σ) a w → wpAny P .any ops Q fuel listed a w := by
  obtain ⟨hlen, hσ', hst⟩ := chain_steps h 0
  have hback : edgesBack ops.toList 0 = true := by simp only [chk, Bool.and_eq_true] at hc; exact hc.1
  have hall : ∀ (listed : Array Bool), listed.size = ops.size → Region.ready .any ops listed = [] → ∀ j, j < ops.size → listed.getD j false = true := by
    intro listed hs hr j
    induction j using Nat.strongRecOn with
    | _ j ih =>
      intro hj
      cases hd : listed.getD j false
      · exfalso
        have hm : j ∈ Region.ready .any ops listed := by
          refine mem_ready.2 ⟨?_, ops[j], by simp [hj], fun e he hb => ?_⟩
          · rw [Array.getD_eq_getD_getElem?] at hd ⊢
            rw [Array.getElem?_eq_getElem (by omega)] at hd ⊢
            simpa using hd
          · have := edgesBack_get hback j ops[j] (by simp [hj]) e (by simpa using he) hb
            exact ih e.on (by omega) (by omega)
        rw [hr] at hm
        cases hm
      · rfl
  have hfin : ∀ (listed : Array Bool) a w, listed.size = ops.size → Region.ready .any ops listed = [] → Sim F (part l (fun j => listed.getD j false) 0 σ) a w → Q .normal a w := by
    intro listed a w hs hr hS
    have e : part l (fun j => listed.getD j false) 0 σ = σ' := by
      rw [hσ']
      exact part_congr fun j hj => hall listed hs hr j (by rw [hlen] at hj; simpa using hj)
    rw [e] at hS
    exact hQ a w hS
  intro fuel
  induction fuel with
  | zero =>
    intro listed a w hs hcl hn hS
    have hr : Region.ready .any ops listed = [] := by
      cases hrr : Region.ready .any ops listed with
      | nil => rfl
      | cons i is =>
        exfalso
        have hm : i ∈ Region.ready .any ops listed := by rw [hrr]; simp
        obtain ⟨h1, o, ho, _⟩ := mem_ready.1 hm
        have hi : i < ops.size := (Array.getElem?_eq_some_iff.1 ho).1
        have h0 := List.countP_eq_zero.1 (Nat.le_zero.1 hn) i (List.mem_range.2 hi)
        simp at h0
        rw [Array.getElem?_eq_getElem (by omega)] at h0
        simp at h0
        rw [Array.getD_eq_getD_getElem?, Array.getElem?_eq_getElem (by omega)] at h1
        simp [h0] at h1
    exact ⟨hr, hfin listed a w hs hr hS⟩
  | succ fuel ih =>
    intro listed a w hs hcl hn hS
    refine ⟨fun hr => hfin listed a w hs hr hS, fun i hi => ?_⟩
    obtain ⟨h1, o, ho, hpre⟩ := mem_ready.1 hi
    have hil : i < ops.size := (Array.getElem?_eq_some_iff.1 ho).1
    have ho' : ops.toList[i]? = some o := by simpa using ho
    have hDi : listed.getD i false = false := by
      rw [Array.getD_eq_getD_getElem?, Array.getElem?_eq_getElem (by omega)] at h1 ⊢
      simpa using h1
    obtain ⟨R, u, hl⟩ : ∃ R u, l[i]? = some (R, u) := by
      have : i < l.length := by rw [hlen]; simpa using hil
      exact ⟨l[i].1, l[i].2, by simp [this]⟩
    have hop := hst i o R u ho' hl
    simp only [Nat.zero_add] at hop
    have hpre' : ∀ o, ops.toList[i]? = some o → ∀ e, e ∈ o.after.toList → Region.binds .any e = true → listed.getD e.on false = true := fun o2 ho2 e he hb => by
      rw [ho'] at ho2
      cases ho2
      exact hpre e (by simpa using he) hb
    have hfp : ∀ j R' u', l[j]? = some (R', u') → (l.map fpOf)[j]? = some (fpOf (R', u')) := fun j R' u' hj => by rw [List.getElem?_map, hj]; rfl
    -- those before, that meet it, have come up
    have hbef : ∀ j R' u', l[j]? = some (R', u') → j < i → conf (fpOf (R', u')) (fpOf (R, u)) = true → listed.getD j false = true := fun j R' u' hj hlt hcf =>
      anc_in hcl (chk_anc hc (hfp i R u hl) (hfp j R' u' hj) hlt hcf) hpre'
    -- those behind, that meet it, have not
    have haft : ∀ j R' u', l[j]? = some (R', u') → i < j → conf (fpOf (R, u)) (fpOf (R', u')) = true → listed.getD j false = false := fun j R' u' hj hlt hcf => by
      cases hd : listed.getD j false
      · rfl
      · have := anc_in hcl (chk_anc hc (hfp j R' u' hj) (hfp i R u hl) hlt hcf) (fun o2 ho2 e he hb => hcl j o2 hd ho2 e he hb)
        rw [this] at hDi
        cases hDi
    have hagree : Agree R (part l (fun j => listed.getD j false) 0 σ) (part l (fun j => decide (j < i)) 0 σ) := by
      refine ⟨fun t ht => ?_, fun t ht => ?_⟩
      · rw [part_env, part_env]
        refine valE_congr t l _ _ 0 _ (fun j R' u' hj hd => ?_)
        rw [Nat.zero_add]
        by_cases hlt : j < i
        · rw [decide_eq_true hlt]
          exact hbef j R' u' hj hlt (conf_we (t := t) (by simp [fpOf, hd]) (.inl ht))
        · rw [decide_eq_false hlt]
          by_cases e : j = i
          · rw [e]; exact hDi
          · exact haft j R' u' hj (by omega) (conf_re (t := t) ht (by simp [fpOf, hd]))
      · rw [part_row, part_row]
        refine valR_congr t l _ _ 0 _ (fun j R' u' hj hd => ?_)
        rw [Nat.zero_add]
        by_cases hlt : j < i
        · rw [decide_eq_true hlt]
          exact hbef j R' u' hj hlt (conf_wr (t := t) hd (.inl ht))
        · rw [decide_eq_false hlt]
          by_cases e : j = i
          · rw [e]; exact hDi
          · exact haft j R' u' hj (by omega) (conf_rr (t := t) ht hd)
    have hset : ∀ j, (listed.setIfInBounds i true).getD j false = if j = i then true else listed.getD j false := fun j => by
      rw [Array.getD_eq_getD_getElem?, Array.getElem?_setIfInBounds, Array.getD_eq_getD_getElem?]
      by_cases e : i = j
      · subst e; rw [if_pos rfl, if_pos (by omega), if_pos rfl]; rfl
      · rw [if_neg e, if_neg (Ne.symm e)]
    have hadd : (part l (fun j => listed.getD j false) 0 σ).app u = part l (fun j => (listed.setIfInBounds i true).getD j false) 0 σ := by
      have e : (fun j => (listed.setIfInBounds i true).getD j false) = fun j => if j = 0 + i then true else listed.getD j false := by funext j; rw [hset, Nat.zero_add]
      rw [e]
      apply St.ext'
      · intro t
        rw [app_env, part_env, part_env]
        rw [valE_add t l (fun j => listed.getD j false) 0 i (σ.env t) R u hl (by rw [Nat.zero_add]; exact hDi) (fun j R' u' hj hlt hd ⟨h2, h3⟩ => by
          rw [Nat.zero_add] at hd
          have := haft j R' u' hj hlt (conf_we (t := t) (by simp [fpOf, h3]) (.inr (by simp [fpOf, h2])))
          rw [this] at hd; cases hd)]
      · intro t
        rw [app_row, part_row, part_row]
        rw [valR_add t l (fun j => listed.getD j false) 0 i (σ.row t) R u hl (by rw [Nat.zero_add]; exact hDi) (fun j R' u' hj hlt hd ⟨h2, h3⟩ => by
          rw [Nat.zero_add] at hd
          have := haft j R' u' hj hlt (conf_wr (t := t) h3 (.inr h2))
          rw [this] at hd; cases hd)]
    have hk := hop _ hagree F hF a w hS Q (wpAny P .any ops Q fuel (listed.setIfInBounds i true)) (fun a' w' hS' => by
      refine ih _ a' w' (by simpa using hs) ?_ ?_ (by rw [← hadd]; exact hS')
      · intro j o2 hj ho2 e he hb
        rw [hset] at hj ⊢
        by_cases e1 : e.on = i
        · rw [if_pos e1]
        · rw [if_neg e1]
          by_cases e2 : j = i
          · subst e2; exact hpre' o2 ho2 e he hb
          · rw [if_neg e2] at hj; exact hcl j o2 hj ho2 e he hb
      · have hlt : (List.range ops.size).countP (fun j => !(listed.setIfInBounds i true).getD j false) < (List.range ops.size).countP (fun j => !listed.getD j false) := by
          refine countP_lt (a := i) (fun j hj => ?_) (List.mem_range.2 hil) ?_ ?_
          · rw [hset]
            by_cases e2 : j = i
            · rw [if_pos e2]; simp
            · rw [if_neg e2]; exact id
          · rw [hset, if_pos rfl]; simp
          · rw [hDi]; rfl
        omega)
    unfold wpOp
    rw [ho]
    exact hk

/-! ### the run of a region, and code -/
def Ends (P : Program) (nt : Nat) (c : Code) (σ : St) (e : Exit) (σ' : St) : Prop :=
  ∀ F, F.nt = nt → ∀ a w, Sim F σ a w → c.wp P (fun e1 a1 w1 => e1 = e ∧ Sim F σ' a1 w1) a w
/-- code c, from σ on, comes to an end that meets Φ -/
structure AX (P : Program) (nt : Nat) (c : Code) (σ : St) (Φ : Exit → St → Prop) : Prop where
  out : ∃ e σ', Φ e σ' ∧ Ends P nt c σ e σ'
def Weak (σ σ' : St) : Prop := ∀ F a w, Sim F σ a w → Sim F σ' a w

def pushE (d : Option Nat) (x : AV) (E : List (Nat × AV)) : List (Nat × AV) :=
  match d with
  | some d => (d, x) :: E
  | none => E
/-- the run of a region's operations, in the text's order -/
def Runs (P : Program) (nt : Nat) (ops : Array Oper) : List Oper → List Fp → List (Nat × AV) → List (Nat × Option Row) → (List Fp → List (Nat × AV) → List (Nat × Option Row) → Prop) → Prop
  | [], fs, E, H, K => K fs E H
  | o :: os, fs, E, H, K => ∃ R x rs, OStep P nt ops o (mkSt E H) R ⟨o.dst, x, rs⟩ ∧ Runs P nt ops os (fs ++ [⟨R.e, R.r, o.dst.toList, rs.map (·.1)⟩]) (pushE o.dst x E) (rs ++ H) K
theorem runs_chain {P : Program} {nt : Nat} {ops : Array Oper} : ∀ {os : List Oper} {fs : List Fp} {E : List (Nat × AV)} {H : List (Nat × Option Row)} {K}, Runs P nt ops os fs E H K →
    ∃ l E' H', Chain P nt ops os (mkSt E H) l (mkSt E' H') ∧ K (fs ++ l.map fpOf) E' H'
  | [], fs, E, H, K, h => ⟨[], E, H, .nil _, by simpa [Runs] using h⟩
  | o :: os, fs, E, H, K, h => by
    obtain ⟨R, x, rs, h1, h2⟩ := h
    obtain ⟨l, E', H', h3, h4⟩ := runs_chain h2
    refine ⟨(R, ⟨o.dst, x, rs⟩) :: l, E', H', .cons h1 ?_, by simpa [fpOf] using h4⟩
    have : (mkSt E H).app ⟨o.dst, x, rs⟩ = mkSt (pushE o.dst x E) (rs ++ H) := by
      unfold St.app
      rw [upd_mk]
      cases o.dst <;> rfl
    rw [this]
    exact h3
section
variable {P : Program} {nt : Nat} {ops : Array Oper} {o : Oper} {os : List Oper} {fs : List Fp} {E : List (Nat × AV)} {H : List (Nat × Option Row)} {K : List Fp → List (Nat × AV) → List (Nat × Option Row) → Prop} {R : Foot} {x : AV} {rs : List (Nat × Option Row)}
theorem runs_nil (h : K fs E H) : Runs P nt ops [] fs E H K := h
theorem runs_do (hg : o.guard = none) (h : Does P nt o R x rs (mkSt E H)) (k : Runs P nt ops os (fs ++ [⟨R.e, R.r, o.dst.toList, rs.map (·.1)⟩]) (pushE o.dst x E) (rs ++ H) K) : Runs P nt ops (o :: os) fs E H K :=
  ⟨R, x, rs, ostep_plain hg h, k⟩
theorem runs_yes {g d : Nat} {b : Bool} (hg : o.guard = some (g, b)) (hd : (ops[g]?).bind (·.dst) = some d) (hv : lkE E d = .bool b) (h : Does P nt o R x rs (mkSt E H)) (k : Runs P nt ops os (fs ++ [⟨d :: R.e, R.r, o.dst.toList, rs.map (·.1)⟩]) (pushE o.dst x E) (rs ++ H) K) : Runs P nt ops (o :: os) fs E H K :=
  ⟨_, x, rs, ostep_yes hg hd hv h, k⟩
theorem runs_no {g d : Nat} {b c : Bool} (hg : o.guard = some (g, b)) (hd : (ops[g]?).bind (·.dst) = some d) (hv : lkE E d = .bool c) (hbc : c = !b) (hdo : dstOk nt o.dst = true) (k : Runs P nt ops os (fs ++ [⟨[d], [], o.dst.toList, []⟩]) (pushE o.dst (.v undef) E) H K) : Runs P nt ops (o :: os) fs E H K :=
  ⟨_, .v undef, [], ostep_no hdo hg hd (by rw [← hbc]; exact hv), k⟩
theorem runs_un {g d : Nat} {b : Bool} (hg : o.guard = some (g, b)) (hd : (ops[g]?).bind (·.dst) = some d) (hv : lkE E d = .v undef) (hdo : dstOk nt o.dst = true) (k : Runs P nt ops os (fs ++ [⟨[d], [], o.dst.toList, []⟩]) (pushE o.dst (.v undef) E) H K) : Runs P nt ops (o :: os) fs E H K :=
  ⟨_, .v undef, [], ostep_un hdo hg hd hv, k⟩
end

section
variable {P : Program} {nt : Nat} {Φ : Exit → St → Prop} {σ : St}
theorem ax_text {id : Nat} {os : List Oper} {E : List (Nat × AV)} {H : List (Nat × Option Row)} (h : Runs P nt os.toArray os [] E H (fun _ E' H' => Φ .normal (mkSt E' H'))) : AX P nt (.region id os.toArray false) (mkSt E H) Φ := by
  obtain ⟨l, E', H', h1, h2⟩ := runs_chain h
  exact ⟨.normal, mkSt E' H', h2, fun F hF a w hS => wp_region_list (by simpa using h1.list F hF a w hS _ (fun a' w' hs => ⟨rfl, hs⟩))⟩
theorem ax_any {id : Nat} {os : List Oper} {E : List (Nat × AV)} {H : List (Nat × Option Row)} (hm : P.follows .mixedOrders = true) (h : Runs P nt os.toArray os [] E H (fun fs E' H' => chk os fs = true ∧ Φ .normal (mkSt E' H'))) : AX P nt (.region id os.toArray true) (mkSt E H) Φ := by
  obtain ⟨l, E', H', h1, h2, h3⟩ := runs_chain h
  refine ⟨.normal, mkSt E' H', h3, fun F hF a w hS => wp_region_any hm ?_⟩
  have hS' : Sim F (mkSt E H) a { w with drawn := w.drawn + 1 } := by
    obtain ⟨φ, Z, hS⟩ := hS
    exact ⟨φ, Z, hS.grow' ⟨rfl, rfl, rfl, Nat.le_refl _, fun _ _ => rfl⟩⟩
  refine Chain.any (ops := os.toArray) (by simpa using h1) (by simpa using h2) hF (fun a' w' hs => ⟨rfl, hs⟩) _ _ a _ (by simp) ?_ ?_ ?_
  · intro j o hj
    rw [Array.getD_eq_getD_getElem?, Array.getElem?_replicate] at hj
    split at hj <;> simp at hj
  · exact Nat.le_trans List.countP_le_length (by simp)
  · rw [part_none _ _ _ _ (fun j _ => by rw [Array.getD_eq_getD_getElem?, Array.getElem?_replicate]; split <;> rfl)]
    exact hS'
theorem ax_skip (h : Φ .normal σ) : AX P nt .skip σ Φ := ⟨_, _, h, fun F hF a w hS => wp_skip ⟨rfl, hS⟩⟩
theorem ax_label {l : Nat} (h : Φ .normal σ) : AX P nt (.label l) σ Φ := ⟨_, _, h, fun F hF a w hS => wp_label ⟨rfl, hS⟩⟩
theorem ax_ret (h : Φ .ret σ) : AX P nt .ret σ Φ := ⟨_, _, h, fun F hF a w hS => wp_ret ⟨rfl, hS⟩⟩
theorem ax_exit {id : Nat} (h : Φ (.exit id) σ) : AX P nt (.exit id) σ Φ := ⟨_, _, h, fun F hF a w hS => wp_exit ⟨rfl, hS⟩⟩
def thenD (K : St → Prop) (Φ : Exit → St → Prop) : Exit → St → Prop
  | .normal, σ => K σ
  | e, σ => Φ e σ
structure thenS (K : St → Prop) (Φ : Exit → St → Prop) (e : Exit) (σ : St) : Prop where
  out : thenD K Φ e σ
theorem ax_seq {x y : Code} (h : AX P nt x σ (thenS (fun σ1 => AX P nt y σ1 Φ) Φ)) : AX P nt (.seq x y) σ Φ := by
  obtain ⟨e, σ1, ⟨h1⟩, h2⟩ := h
  cases e with
  | normal =>
    obtain ⟨e2, σ2, h3, h4⟩ := h1
    refine ⟨e2, σ2, h3, fun F hF a w hS => wp_seq (Code.wp_mono (fun e a w hh => ?_) (h2 F hF a w hS))⟩
    obtain ⟨rfl, hs⟩ := hh
    exact h4 F hF a w hs
  | exit id => exact ⟨_, σ1, h1, fun F hF a w hS => wp_seq (Code.wp_mono (fun e a w hh => by obtain ⟨rfl, hs⟩ := hh; exact ⟨rfl, hs⟩) (h2 F hF a w hS))⟩
  | goto id => exact ⟨_, σ1, h1, fun F hF a w hS => wp_seq (Code.wp_mono (fun e a w hh => by obtain ⟨rfl, hs⟩ := hh; exact ⟨rfl, hs⟩) (h2 F hF a w hS))⟩
  | ret => exact ⟨_, σ1, h1, fun F hF a w hS => wp_seq (Code.wp_mono (fun e a w hh => by obtain ⟨rfl, hs⟩ := hh; exact ⟨rfl, hs⟩) (h2 F hF a w hS))⟩
  | panic c => exact ⟨_, σ1, h1, fun F hF a w hS => wp_seq (Code.wp_mono (fun e a w hh => by obtain ⟨rfl, hs⟩ := hh; exact ⟨rfl, hs⟩) (h2 F hF a w hS))⟩
  | outgrown => exact ⟨_, σ1, h1, fun F hF a w hS => wp_seq (Code.wp_mono (fun e a w hh => by obtain ⟨rfl, hs⟩ := hh; exact ⟨rfl, hs⟩) (h2 F hF a w hS))⟩
theorem ax_seq_k {x y : Code} (h : ∀ K : St → Prop, (∀ σ1, AX P nt y σ1 Φ → K σ1) → AX P nt x σ (thenS K Φ)) : AX P nt (.seq x y) σ Φ := ax_seq (h _ fun _ h => h)
theorem ax_cond {c : Operand} {x y : Code} {b : Bool} (hc : σ.ev c = .bool b) (h1 : b = true → AX P nt x σ Φ) (h2 : b = false → AX P nt y σ Φ) : AX P nt (.cond c x y) σ Φ := by
  have key : AX P nt (if b then x else y) σ Φ := by cases b <;> simp_all
  obtain ⟨e, σ1, h3, h4⟩ := key
  refine ⟨e, σ1, h3, fun F hF a w hS => ?_⟩
  obtain ⟨φ, Z, hS'⟩ := id hS
  have hv := hS'.ev c
  rw [hc] at hv
  simp only [relV] at hv
  exact wp_cond hv (h4 F hF a w hS)
theorem ax_true {c : Operand} {x y : Code} (hc : σ.ev c = .bool true) (h : AX P nt x σ Φ) : AX P nt (.cond c x y) σ Φ := ax_cond hc (fun _ => h) (fun h => by cases h)
theorem ax_false {c : Operand} {x y : Code} (hc : σ.ev c = .bool false) (h : AX P nt y σ Φ) : AX P nt (.cond c x y) σ Φ := ax_cond hc (fun h => by cases h) (fun _ => h)
def outD (id : Nat) (Φ : Exit → St → Prop) : Exit → St → Prop
  | .exit id', σ => if id' = id then Φ .normal σ else Φ (.exit id') σ
  | e, σ => Φ e σ
structure outOf (id : Nat) (Φ : Exit → St → Prop) (e : Exit) (σ : St) : Prop where
  out : outD id Φ e σ
theorem ax_block {id : Nat} {c : Code} (h : AX P nt c σ (outOf id Φ)) : AX P nt (.block id c) σ Φ := by
  obtain ⟨e, σ1, ⟨h1⟩, h2⟩ := h
  cases e with
  | exit id' =>
    by_cases hi : id' = id
    · simp only [outD, hi, if_true] at h1
      exact ⟨_, σ1, h1, fun F hF a w hS => wp_block (Code.wp_mono (fun e a w hh => by obtain ⟨rfl, hs⟩ := hh; simp only [Exit.inBlock, hi, if_true]; exact ⟨trivial, hs⟩) (h2 F hF a w hS))⟩
    · simp only [outD, hi, if_false] at h1
      exact ⟨_, σ1, h1, fun F hF a w hS => wp_block (Code.wp_mono (fun e a w hh => by obtain ⟨rfl, hs⟩ := hh; simp only [Exit.inBlock, hi, if_false]; exact ⟨trivial, hs⟩) (h2 F hF a w hS))⟩
  | normal => exact ⟨_, σ1, h1, fun F hF a w hS => wp_block (Code.wp_mono (fun e a w hh => by obtain ⟨rfl, hs⟩ := hh; exact ⟨rfl, hs⟩) (h2 F hF a w hS))⟩
  | goto id => exact ⟨_, σ1, h1, fun F hF a w hS => wp_block (Code.wp_mono (fun e a w hh => by obtain ⟨rfl, hs⟩ := hh; exact ⟨rfl, hs⟩) (h2 F hF a w hS))⟩
  | ret => exact ⟨_, σ1, h1, fun F hF a w hS => wp_block (Code.wp_mono (fun e a w hh => by obtain ⟨rfl, hs⟩ := hh; exact ⟨rfl, hs⟩) (h2 F hF a w hS))⟩
  | panic c => exact ⟨_, σ1, h1, fun F hF a w hS => wp_block (Code.wp_mono (fun e a w hh => by obtain ⟨rfl, hs⟩ := hh; exact ⟨rfl, hs⟩) (h2 F hF a w hS))⟩
  | outgrown => exact ⟨_, σ1, h1, fun F hF a w hS => wp_block (Code.wp_mono (fun e a w hh => by obtain ⟨rfl, hs⟩ := hh; exact ⟨rfl, hs⟩) (h2 F hF a w hS))⟩
theorem ax_weak {c : Code} {σ' : St} (hw : Weak σ σ') (h : AX P nt c σ' Φ) : AX P nt c σ Φ := by
  obtain ⟨e, σ1, h1, h2⟩ := h
  exact ⟨e, σ1, h1, fun F hF a w hS => h2 F hF a w (hw F a w hS)⟩
theorem ax_mono {c : Code} {Ψ : Exit → St → Prop} (h : AX P nt c σ Ψ) (hp : ∀ e σ', Ψ e σ' → Φ e σ') : AX P nt c σ Φ := by
  obtain ⟨e, σ1, h1, h2⟩ := h
  exact ⟨e, σ1, hp e σ1 h1, h2⟩
/-- the end may be told of a weaker state -/
theorem ax_post {c : Code} (h : AX P nt c σ (fun e σ' => ∃ σ2, Weak σ' σ2 ∧ Φ e σ2)) : AX P nt c σ Φ := by
  obtain ⟨e, σ1, ⟨σ2, hw, h1⟩, h2⟩ := h
  exact ⟨e, σ2, h1, fun F hF a w hS => Code.wp_mono (fun e a w ⟨h3, h4⟩ => ⟨h3, hw F a w h4⟩) (h2 F hF a w hS)⟩
/-- how a round ends -/
def roundD {ι : Type} (I : ι → St) (Pre : ι → Prop) (μ : ι → Nat) (i : ι) (Φ : Exit → St → Prop) : Exit → St → Prop
  | .normal, σ => ∃ i', Pre i' ∧ μ i' < μ i ∧ Weak σ (I i')
  | e, σ => Φ e σ
structure roundS {ι : Type} (I : ι → St) (Pre : ι → Prop) (μ : ι → Nat) (i : ι) (Φ : Exit → St → Prop) (e : Exit) (σ : St) : Prop where
  out : roundD I Pre μ i Φ e σ
theorem ax_loop {ι : Type} {c : Code} (I : ι → St) (Pre : ι → Prop) (μ : ι → Nat) (i0 : ι) (h0 : Pre i0) (hs : Weak σ (I i0)) (hr : ∀ i, Pre i → AX P nt c (I i) (roundS I Pre μ i Φ)) : AX P nt (.loop c) σ Φ := by
  have key : ∀ m i, μ i = m → Pre i → ∃ n e σ', Φ e σ' ∧ ∀ F, F.nt = nt → ∀ a w, Sim F (I i) a w → Code.rounds P c (fun e1 a1 w1 => e1 = e ∧ Sim F σ' a1 w1) n a w := by
    intro m
    induction m using Nat.strongRecOn with
    | _ m ih =>
      intro i hi hp
      obtain ⟨e, σ1, ⟨h1⟩, h2⟩ := hr i hp
      cases e with
      | normal =>
        obtain ⟨i', h3, h4, h5⟩ := h1
        obtain ⟨n, e2, σ2, h6, h7⟩ := ih (μ i') (by omega) i' rfl h3
        refine ⟨n + 1, e2, σ2, h6, fun F hF a w hS => ?_⟩
        rw [rounds_succ]
        refine Code.wp_mono (fun e a w hh => ?_) (h2 F hF a w hS)
        obtain ⟨rfl, hs⟩ := hh
        exact h7 F hF a w (h5 F a w hs)
      | exit id => exact ⟨1, _, σ1, h1, fun F hF a w hS => by rw [rounds_succ]; exact Code.wp_mono (fun e a w hh => by obtain ⟨rfl, hs⟩ := hh; exact ⟨rfl, hs⟩) (h2 F hF a w hS)⟩
      | goto id => exact ⟨1, _, σ1, h1, fun F hF a w hS => by rw [rounds_succ]; exact Code.wp_mono (fun e a w hh => by obtain ⟨rfl, hs⟩ := hh; exact ⟨rfl, hs⟩) (h2 F hF a w hS)⟩
      | ret => exact ⟨1, _, σ1, h1, fun F hF a w hS => by rw [rounds_succ]; exact Code.wp_mono (fun e a w hh => by obtain ⟨rfl, hs⟩ := hh; exact ⟨rfl, hs⟩) (h2 F hF a w hS)⟩
      | panic ch => exact ⟨1, _, σ1, h1, fun F hF a w hS => by rw [rounds_succ]; exact Code.wp_mono (fun e a w hh => by obtain ⟨rfl, hs⟩ := hh; exact ⟨rfl, hs⟩) (h2 F hF a w hS)⟩
      | outgrown => exact ⟨1, _, σ1, h1, fun F hF a w hS => by rw [rounds_succ]; exact Code.wp_mono (fun e a w hh => by obtain ⟨rfl, hs⟩ := hh; exact ⟨rfl, hs⟩) (h2 F hF a w hS)⟩
  obtain ⟨n, e, σ', h1, h2⟩ := key _ i0 rfl h0
  exact ⟨e, σ', h1, fun F hF a w hS => wp_loop_rounds n (h2 F hF a w (hs F a w hS))⟩
end
end Go.Sym
