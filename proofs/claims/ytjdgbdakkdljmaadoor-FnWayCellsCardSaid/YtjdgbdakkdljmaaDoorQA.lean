/-
  Calls, weaker states, and how a function begins, on abstract states; nothing of the program stands here but its types.
-/
import Derived.Test.YtjdgbdakkdljmaaDoorQ9
set_option linter.unusedVariables false
set_option linter.unusedSimpArgs false
namespace Go.Sym
open Go Go.RowKit Go.Park Go.Proofs.YtjdgbdakkdljmaaDoor

/-! ### weaker states -/
/-- rows may get other numbers: ρ tells, for a row of the weaker state, which row it was -/
def rn : List (Nat × Nat) → Nat → Nat
  | [], r => r
  | (d, x) :: e, r => bif Nat.beq d r then x else rn e r
section
variable (ρ : List (Nat × Nat)) (l l' : List (Nat × Option Row))
inductive LeV : AV → AV → Prop
  | any (x : AV) : LeV x .any
  | v {c c' : Value} (h : c = c') : LeV (.v c) (.v c')
  | own {r r' k k' : Nat} {row row' : Row} (hr : lkR l r = some row) (hv : row.ver = k) (hr' : lkR l' r' = some row') (hv' : row'.ver = k') (he : Nat.beq (rn ρ r') r = true) : LeV (.own r k) (.own r' k')
  | sl {ty ty' sz : Nat} {cs cs' : List AV} (h : cs = cs') : LeV (.sl ty sz cs) (.sl ty' sz cs')
  | both {x x' : Value} {ty sz : Nat} {cs cs' : List AV} (hx : x = x') (h : cs = cs') : LeV (.both x (.sl ty sz cs)) (.both x' (.sl ty sz cs'))
  | frz {r k ty sz : Nat} {row : Row} {cs : List AV} (hr : lkR l r = some row) (hv : row.ver = k) (hp : row.pure = true) (hb : row.box = false) (hs : sz = row.sz) (hc : cs = row.cs) (hout : (l'.all fun e => !Nat.beq (rn ρ e.1) r) = true) : LeV (.own r k) (.sl ty sz cs)
  | nil {r k : Nat} {row' : Row} (hr : lkR l (rn ρ r) = none) (hr' : lkR l' r = some row') (hv' : row'.ver = k) : LeV (.v (.slice none 0 0)) (.own r k)
  | ptr {r r' k k' o o' : Nat} {row row' : Row} (hr : lkR l r = some row) (hv : row.ver = k) (hr' : lkR l' r' = some row') (hv' : row'.ver = k') (he : Nat.beq (rn ρ r') r = true) (ho : o = o') : LeV (.ptr r k o) (.ptr r' k' o')
inductive LeVL : List AV → List AV → Prop
  | nil : LeVL [] []
  | cons {x y : AV} {xs ys : List AV} (h : LeV ρ l l' x y) (k : LeVL xs ys) : LeVL (x :: xs) (y :: ys)
inductive LeEs (E : List (Nat × AV)) : List (Nat × AV) → Prop
  | nil : LeEs E []
  | cons {d : Nat} {x : AV} {E' : List (Nat × AV)} (h : LeV ρ l l' (lkE E d) x) (k : LeEs E E') : LeEs E ((d, x) :: E')
structure LeRow (row row' : Row) : Prop where
  ty : row'.ty = row.ty
  sz : row'.sz = row.sz
  box : row'.box = row.box
  cells : (row.pure = true ∧ row'.cs = row.cs) ∨ ((row'.pure = false ∨ pureBs row'.cs = true) ∧ LeVL ρ l l' row.cs row'.cs)
inductive LeHs : List (Nat × Option Row) → Prop
  | nil : LeHs []
  | keep {r : Nat} {row row' : Row} {m : List (Nat × Option Row)} (hr : lkR l (rn ρ r) = some row) (h : LeRow ρ l l' row row') (k : LeHs m) : LeHs ((r, some row') :: m)
  | fresh {r : Nat} {row' : Row} {m : List (Nat × Option Row)} (hr : lkR l (rn ρ r) = none) (hc : row'.cs = []) (hb : row'.box = false) (hs : 0 < row'.sz) (h0 : Nat.beq r 0 = false) (k : LeHs m) : LeHs ((r, some row') :: m)
  | none {r : Nat} {m : List (Nat × Option Row)} (k : LeHs m) : LeHs ((r, none) :: m)
end
theorem leEs_get {ρ : List (Nat × Nat)} {E : List (Nat × AV)} {l l' : List (Nat × Option Row)} {E' : List (Nat × AV)} (h : LeEs ρ l l' E E') (t : Nat) : LeV ρ l l' (lkE E t) (lkE E' t) := by
  induction h with
  | nil => exact .any _
  | @cons d x E' h k ih =>
    simp only [lkE]
    cases hb : Nat.beq d t
    · exact ih
    · have := Nat.eq_of_beq_eq_true hb
      subst this
      exact h
theorem leHs_get {ρ : List (Nat × Nat)} {l l' m : List (Nat × Option Row)} (h : LeHs ρ l l' m) (r : Nat) (row' : Row) : lkR m r = some row' →
    (∃ row, lkR l (rn ρ r) = some row ∧ LeRow ρ l l' row row') ∨ (lkR l (rn ρ r) = none ∧ row'.cs = [] ∧ row'.box = false ∧ 0 < row'.sz ∧ r ≠ 0) := by
  induction h with
  | nil => intro h; simp [lkR] at h
  | @keep r0 row row0 m hr h k ih =>
    intro hm
    simp only [lkR] at hm
    cases hb : Nat.beq r0 r
    · rw [hb] at hm; exact ih hm
    · rw [hb] at hm
      have := Nat.eq_of_beq_eq_true hb
      subst this
      simp at hm
      subst hm
      exact .inl ⟨row, hr, h⟩
  | @fresh r0 row0 m hr hc hbx hs h0 k ih =>
    intro hm
    simp only [lkR] at hm
    cases hb : Nat.beq r0 r
    · rw [hb] at hm; exact ih hm
    · rw [hb] at hm
      have := Nat.eq_of_beq_eq_true hb
      subst this
      simp at hm
      subst hm
      exact .inr ⟨hr, hc, hbx, hs, fun e => by subst e; simp at h0⟩
  | @none r0 m k ih =>
    intro hm
    simp only [lkR] at hm
    cases hb : Nat.beq r0 r
    · rw [hb] at hm; exact ih hm
    · rw [hb] at hm; simp at hm
def apartB : List Nat → Bool
  | [] => true
  | x :: xs => (xs.all fun y => !Nat.beq x y) && apartB xs
theorem lkR_key {r : Nat} {o : Row} : ∀ {m : List (Nat × Option Row)}, lkR m r = some o → r ∈ m.map (·.1)
  | [], h => by simp [lkR] at h
  | (d, x) :: m, h => by
    simp only [lkR] at h
    cases hb : Nat.beq d r
    · rw [hb] at h; simp [lkR_key (m := m) h]
    · have := Nat.eq_of_beq_eq_true hb
      simp [this]
theorem apartB_inj {f : Nat → Nat} : ∀ {ks : List Nat}, apartB (ks.map f) = true → ∀ r s, r ∈ ks → s ∈ ks → f r = f s → r = s
  | [], _, r, s, h, _, _ => by simp at h
  | k :: ks, hA, r, s, hr, hs, he => by
    simp only [List.map_cons, apartB, Bool.and_eq_true] at hA
    have hne : ∀ x, x ∈ ks → f k ≠ f x := fun x hx e => by
      have := List.all_eq_true.1 hA.1 (f x) (List.mem_map.2 ⟨x, hx, rfl⟩)
      rw [e] at this
      simp at this
    rcases List.mem_cons.1 hr with e | hr'
    · rcases List.mem_cons.1 hs with e' | hs'
      · exact e.trans e'.symm
      · exact absurd (e ▸ he) (hne s hs')
    · rcases List.mem_cons.1 hs with e' | hs'
      · exact absurd (e' ▸ he.symm) (hne r hr')
      · exact apartB_inj hA.2 r s hr' hs' he
theorem weak_of (ρ : List (Nat × Nat)) {E E' : List (Nat × AV)} {H H' : Hp} (hE : LeEs ρ H.l H'.l E E') (hH : LeHs ρ H.l H'.l H'.l) (hρ : apartB ((H'.l.map (·.1)).map (rn ρ)) = true) (hρ0 : rn ρ 0 = 0) : Weak (mkS E H) (mkS E' H') := by
  rintro F a w ⟨φ, Z, hS⟩
  let φ' : Nat → Value := fun r => match lkR H.l (rn ρ r) with
    | some _ => φ (rn ρ r)
    | none => .slice none 0 0
  have hφ : ∀ r row, lkR H.l (rn ρ r) = some row → φ' r = φ (rn ρ r) := fun r row h => by simp only [φ', h]
  have hφn : ∀ r, lkR H.l (rn ρ r) = none → φ' r = .slice none 0 0 := fun r h => by simp only [φ', h]
  let Z' : Nat → Prop := fun b => Z b ∨ ∃ r row, lkR H.l r = some row ∧ row.pure = true ∧ row.box = false ∧ (H'.l.all fun e => !Nat.beq (rn ρ e.1) r) = true ∧ (φ r).ownBlock = some b
  have htip : ∀ r row, lkR H.l r = some row → (cxOf φ Z (mkS E H) w).tip r = some (φ r, row.ver) := fun r row h => by simp [cxOf, mkS, mkSt, h]
  have htip' : ∀ r row', lkR H'.l r = some row' → (cxOf φ' Z' (mkS E' H') w).tip r = some (φ' r, row'.ver) := fun r row h => by simp [cxOf, mkS, mkSt, h]
  have hV : ∀ x y u, LeV ρ H.l H'.l x y → relV (cxOf φ Z (mkS E H) w) x u → relV (cxOf φ' Z' (mkS E' H') w) y u := by
    intro x y u h hx
    cases h with
    | any x => simp [relV]
    | v h => subst h; simpa [relV] using hx
    | @own r r' k k' row row' hr hv hr' hv' he =>
      have he' := Nat.eq_of_beq_eq_true he
      subst he'
      simp only [relV, htip _ row hr] at hx
      simp only [relV, htip' r' row' hr']
      obtain ⟨t, j, e, h1, h2⟩ := hx
      simp at e
      obtain ⟨rfl, rfl⟩ := e
      exact ⟨_, _, rfl, by omega, fun _ => by rw [hφ r' row hr]; exact h2 hv⟩
    | @sl ty ty' sz cs cs' h =>
      subst h
      have hp : pureV (.sl ty sz cs) := by simp only [relV] at hx; simpa [pureV] using hx.1
      have := relV_pure (cx := cxOf φ Z (mkS E H) w) (cx' := cxOf φ' Z' (mkS E' H') w) ⟨fun b hb => ⟨.inl hb, rfl⟩⟩ _ _ hp hx
      simpa only [relV] using this
    | @both x x' ty sz cs cs' he h =>
      subst he h
      have hp : pureV (.both x (.sl ty sz cs)) := by simp only [relV] at hx; simpa [pureV] using hx.2.1
      exact relV_pure (cx := cxOf φ Z (mkS E H) w) (cx' := cxOf φ' Z' (mkS E' H') w) ⟨fun b hb => ⟨.inl hb, rfl⟩⟩ _ _ hp hx
    | @frz r k ty sz row cs hr hv hp hb hs hc hout =>
      subst hs hc
      have hr0 : (mkS E H).row r = some row := hr
      have e1 := own_open hS hr0 hv hx
      obtain ⟨n, xs, hm⟩ := rowMem hS hr0
      have hrr := hS.rows r row hr0
      have hpl := hrr.pur hp
      have hzz : CxZ (cxOf φ Z (mkS E H) w) (cxOf φ' Z' (mkS E' H') w) := ⟨fun b hb => ⟨.inl hb, rfl⟩⟩
      simp only [relV]
      refine ⟨hpl, ?_⟩
      rcases hm.own.2 with ⟨h1, h2⟩ | ⟨g, cap, cur, h1, _, hg, h2, h3, h4, h5⟩
      · have hc0 : row.cs = [] := List.eq_nil_of_length_eq_zero (by rw [hm.len, h2]; simp)
        exact ⟨none, 0, 0, by rw [e1, h1], Nat.le_refl _, by simp, hrr.sz, by rw [hc0]; simp, .inl hc0⟩
      · refine ⟨some ⟨g, 0, none⟩, n, cap, by rw [e1, h1], h2, h3, hrr.sz, hm.len, .inr ⟨g, 0, rfl, .inr ⟨r, row, hr, hp, hb, hout, by rw [h1]; rfl⟩, relC_of fun i x hx => ?_⟩⟩
        obtain ⟨v, hv1, hv2⟩ := relL_get (relL_pure hzz _ _ hpl hm.rel) i x hx
        refine ⟨v, ?_, hm.one v (List.mem_of_getElem? hv1), hv2⟩
        have := hm.own.cells (g := g) (by rw [h1]; rfl) i v hv1
        rw [Addr.add_lit] at this
        exact this
    | @nil r k row' hr hr' hv' =>
      simp only [relV] at hx
      simp only [relV, htip' r row' hr']
      exact ⟨_, _, rfl, by omega, fun _ => by rw [hφn r hr]; exact hx⟩
    | @ptr r r' k k' o o' row row' hr hv hr' hv' he ho =>
      have he' := Nat.eq_of_beq_eq_true he
      subst he' ho
      simp only [relV, htip _ row hr] at hx
      simp only [relV, htip' r' row' hr']
      obtain ⟨t, j, e, h1, h2⟩ := hx
      simp at e
      obtain ⟨rfl, rfl⟩ := e
      exact ⟨_, _, rfl, by omega, fun _ => by rw [hφ r' row hr]; exact h2 hv⟩
  have hL : ∀ xs ys us, LeVL ρ H.l H'.l xs ys → relL (cxOf φ Z (mkS E H) w) xs us → relL (cxOf φ' Z' (mkS E' H') w) ys us := by
    intro xs ys us h
    induction h generalizing us with
    | nil => intro hx; simpa [relL] using hx
    | cons h k ih =>
      intro hx
      simp only [relL] at hx ⊢
      obtain ⟨u, vs, rfl, h1, h2⟩ := hx
      exact ⟨u, vs, rfl, hV _ _ _ h h1, ih vs h2⟩
  have hsome : ∀ r, ((mkS E' H').row r).isSome → r ∈ H'.l.map (·.1) ∧ ((∃ row row', lkR H.l (rn ρ r) = some row ∧ lkR H'.l r = some row' ∧ LeRow ρ H.l H'.l row row' ∧ φ' r = φ (rn ρ r)) ∨ φ' r = .slice none 0 0) := by
    intro r hr
    obtain ⟨row', hrow'⟩ := Option.isSome_iff_exists.1 hr
    refine ⟨lkR_key hrow', ?_⟩
    rcases leHs_get hH r row' hrow' with ⟨row, h1, h2⟩ | ⟨h1, _⟩
    · exact .inl ⟨row, row', h1, hrow', h2, hφ r row h1⟩
    · exact .inr (hφn r h1)
  refine ⟨φ', Z', hS.dfr, hS.nt, fun t => hV _ _ _ (leEs_get hE t) (hS.env t), ?_, ?_, ?_, ?_, ?_, hS.keep, ?_⟩
  · intro r row' hr
    rcases leHs_get hH r row' hr with ⟨row, h1, h2⟩ | ⟨h1, h2, h3, h4, h5⟩
    · have hrr := hS.rows _ row h1
      rw [hφ r row h1]
      obtain ⟨n, xs, k1, k2, k3, k4⟩ := hrr.own
      refine ⟨by rw [h2.sz]; exact hrr.sz, ?_, by rw [h2.box]; exact hrr.box, by rw [h2.box]; exact hrr.blk, n, xs, by rw [h2.ty, h2.sz]; exact k1, ?_, ?_, k4⟩
      · intro hp
        rcases h2.cells with ⟨h3, h4⟩ | ⟨h3, h4⟩
        · rw [h4]; exact hrr.pur h3
        · rcases h3 with h3 | h3
          · rw [h3] at hp; cases hp
          · exact pureL_of_rel (hL _ _ _ h4 k3) h3
      · rcases h2.cells with ⟨h3, h4⟩ | ⟨h3, h4⟩
        · rw [h4, h2.sz]; exact k2
        · rw [← relL_length (hL _ _ _ h4 k3), relL_length k3, h2.sz]; exact k2
      · rcases h2.cells with ⟨h3, h4⟩ | ⟨h3, h4⟩
        · rw [h4]; exact relL_pure (cx := cxOf φ Z (mkS E H) w) (cx' := cxOf φ' Z' (mkS E' H') w) ⟨fun b hb => ⟨.inl hb, rfl⟩⟩ _ _ (hrr.pur h3) k3
        · exact hL _ _ _ h4 k3
    · rw [hφn r h1]
      exact ⟨h4, fun _ => (by rw [h2]; simp [pureL]), fun h => (by rw [h3] at h; cases h), fun g hg => (by simp [Value.ownBlock] at hg), 0, [], World.ownsRow_nil w _ _ _, (by rw [h2]; simp), (by rw [h2]; simp [relL]), (by simp)⟩
  · intro r s hne hr hs g hg
    obtain ⟨hrk, h⟩ := hsome r hr
    obtain ⟨hsk, k⟩ := hsome s hs
    rcases h with ⟨row, row', h1, _, _, h2⟩ | h2
    · rcases k with ⟨rows, rows', h3, _, _, h4⟩ | h4
      · rw [h2] at hg
        rw [h4]
        exact hS.disj _ _ (fun e => hne (apartB_inj hρ r s hrk hsk e)) (by simp [mkS, mkSt, h1]) (by simp [mkS, mkSt, h3]) g hg
      · rw [h4]; simp [Value.ownBlock]
    · rw [h2] at hg; simp [Value.ownBlock] at hg
  · rintro b (hb | ⟨r, row, h1, h2, h3, h4, h5⟩)
    · exact hS.zlt b hb
    · have := (hS.rows r row h1).lt h5; exact this
  · intro b hb r hr
    rcases (hsome r hr).2 with ⟨row, row', h1, hk1, _, h2⟩ | h2
    · rw [h2]
      rcases hb with hb | ⟨r2, row2, h4, h5, h6, h7, h8⟩
      · exact hS.zrow b hb _ (by simp [mkS, mkSt, h1])
      · intro hg
        have hne : rn ρ r ≠ r2 := fun e => by
          obtain ⟨x, hx1, hx2⟩ := List.mem_map.1 (lkR_key hk1)
          have := List.all_eq_true.1 h7 x hx1
          rw [hx2, e] at this
          simp at this
        exact hS.disj _ _ hne (by simp [mkS, mkSt, h1]) (by simp [mkS, mkSt, h4]) b hg h8
    · rw [h2]; simp [Value.ownBlock]
  · rintro b (hb | ⟨r, row, h1, h2, h3, h4, h5⟩) hlt
    · exact hS.base b hb hlt
    · rcases (hS.rows r row h1).blk b h5 with h6 | h6
      · omega
      · rw [h3] at h6; cases h6.1
  · intro t ht hr
    obtain ⟨row', hrow'⟩ := Option.isSome_iff_exists.1 hr
    rcases leHs_get hH 0 row' hrow' with ⟨row, h1, h2⟩ | ⟨h1, _, _, _, h5⟩
    · rw [hφ 0 row h1]; rw [hρ0] at h1 ⊢; exact hS.recv t ht (by simp [mkS, mkSt, h1])
    · exact absurd rfl h5

/-! ### calls -/
section
variable {P : Program} {T : List (Nat × TyI)} {nt : Nat} {E : List (Nat × AV)} {H : Hp} {dst : Option Nat} {ty : Nat} {pos : String} {aft : Array Edge} {gd : Option (Nat × Bool)} {f : Nat} {args : List Operand} {at' : Array TypeId} {ts : List AV} {u es : List Nat}
theorem st_call {c : Value} (hd : dstOk nt dst = true) (hfn : FnS P f ts (.v c)) (hfz : FrzA (mkS E H) args ts u es) :
    Does P nt ⟨dst, .call ⟨.value (.func f), args.toArray, at'⟩, ty, pos, aft, gd⟩ ⟨es, u ++ []⟩ (.v c) [] (mkS E H) :=
  does_call 1 hd hfn hfz (by omega) (ids := []) (fun m h1 h2 => by simp [ado] at h2; omega) (by simp)
theorem st_call_s {n : Nat} {l : List (Nat × Option Row)} {t sz : Nat} {cs : List AV} (hd : dstOk nt dst = true) (hfn : FnS P f ts (.sl t sz cs)) (hfz : FrzA (mkS E ⟨n, l⟩) args ts u es) (hr : (mkS E ⟨n, l⟩).row n = none) (h0 : Nat.beq n 0 = false) :
    Does P nt ⟨dst, .call ⟨.value (.func f), args.toArray, at'⟩, ty, pos, aft, gd⟩ ⟨es, u ++ [n]⟩ (.own n 0) [(n, some ⟨t, sz, 0, true, false, cs⟩)] (mkS E ⟨n, l⟩) :=
  does_call n hd hfn hfz (Nat.pos_of_ne_zero fun h => by subst h; simp at h0) (ids := [n]) (fun m h1 h2 => by simp [ado] at h2; simp; omega) (by simpa using hr)
theorem st_call_h {n : Nat} {l : List (Nat × Option Row)} {t sz : Nat} {cs : List AV} {a b : Value} (hd : dstOk nt dst = true) (hfn : FnS P f ts (.agg [.v a, .v b, .sl t sz cs])) (hfz : FrzA (mkS E ⟨n, l⟩) args ts u es) (hr : (mkS E ⟨n, l⟩).row n = none) (h0 : Nat.beq n 0 = false) :
    Does P nt ⟨dst, .call ⟨.value (.func f), args.toArray, at'⟩, ty, pos, aft, gd⟩ ⟨es, u ++ [n]⟩ (.agg [.v a, .v b, .own n 0]) [(n, some ⟨t, sz, 0, true, false, cs⟩)] (mkS E ⟨n, l⟩) :=
  does_call n hd hfn hfz (Nat.pos_of_ne_zero fun h => by subst h; simp at h0) (ids := [n]) (fun m h1 h2 => by simp [ado, adoL] at h2; simp; omega) (by simpa using hr)
theorem st_call_hv {n : Nat} {l : List (Nat × Option Row)} {t sz : Nat} {cs : List AV} {a b c : Value} (hd : dstOk nt dst = true) (hfn : FnS P f ts (.tup [.agg [.v a, .v b, .sl t sz cs], .v c])) (hfz : FrzA (mkS E ⟨n, l⟩) args ts u es) (hr : (mkS E ⟨n, l⟩).row n = none) (h0 : Nat.beq n 0 = false) :
    Does P nt ⟨dst, .call ⟨.value (.func f), args.toArray, at'⟩, ty, pos, aft, gd⟩ ⟨es, u ++ [n]⟩ (.tup [.agg [.v a, .v b, .own n 0], .v c]) [(n, some ⟨t, sz, 0, true, false, cs⟩)] (mkS E ⟨n, l⟩) :=
  does_call n hd hfn hfz (Nat.pos_of_ne_zero fun h => by subst h; simp at h0) (ids := [n]) (fun m h1 h2 => by simp [ado, adoL] at h2; simp; omega) (by simpa using hr)
theorem st_call_hvv {n : Nat} {l : List (Nat × Option Row)} {t sz : Nat} {cs : List AV} {a b c d : Value} (hd : dstOk nt dst = true) (hfn : FnS P f ts (.tup [.agg [.v a, .v b, .sl t sz cs], .v c, .v d])) (hfz : FrzA (mkS E ⟨n, l⟩) args ts u es) (hr : (mkS E ⟨n, l⟩).row n = none) (h0 : Nat.beq n 0 = false) :
    Does P nt ⟨dst, .call ⟨.value (.func f), args.toArray, at'⟩, ty, pos, aft, gd⟩ ⟨es, u ++ [n]⟩ (.tup [.agg [.v a, .v b, .own n 0], .v c, .v d]) [(n, some ⟨t, sz, 0, true, false, cs⟩)] (mkS E ⟨n, l⟩) :=
  does_call n hd hfn hfz (Nat.pos_of_ne_zero fun h => by subst h; simp at h0) (ids := [n]) (fun m h1 h2 => by simp [ado, adoL] at h2; simp; omega) (by simpa using hr)
theorem st_call_sv {n : Nat} {l : List (Nat × Option Row)} {t sz : Nat} {cs : List AV} {c : Value} (hd : dstOk nt dst = true) (hfn : FnS P f ts (.tup [.sl t sz cs, .v c])) (hfz : FrzA (mkS E ⟨n, l⟩) args ts u es) (hr : (mkS E ⟨n, l⟩).row n = none) (h0 : Nat.beq n 0 = false) :
    Does P nt ⟨dst, .call ⟨.value (.func f), args.toArray, at'⟩, ty, pos, aft, gd⟩ ⟨es, u ++ [n]⟩ (.tup [.own n 0, .v c]) [(n, some ⟨t, sz, 0, true, false, cs⟩)] (mkS E ⟨n, l⟩) :=
  does_call n hd hfn hfz (Nat.pos_of_ne_zero fun h => by subst h; simp at h0) (ids := [n]) (fun m h1 h2 => by simp [ado, adoL] at h2; simp; omega) (by simpa using hr)
theorem st_call_vv {a b : Value} (hd : dstOk nt dst = true) (hfn : FnS P f ts (.tup [.v a, .v b])) (hfz : FrzA (mkS E H) args ts u es) :
    Does P nt ⟨dst, .call ⟨.value (.func f), args.toArray, at'⟩, ty, pos, aft, gd⟩ ⟨es, u ++ []⟩ (.tup [.v a, .v b]) [] (mkS E H) :=
  does_call 1 hd hfn hfz (by omega) (ids := []) (fun m h1 h2 => by simp [ado, adoL] at h2; omega) (by simp)
/-! allocations, the row's number being the state's next one -/
theorem st_alloc (hT : TabOk P T) {t n : Nat} {l : List (Nat × Option Row)} {i : TyI} {ys : List AV} (hd : dstOk nt dst = true) (ht : lkT T t = some i) (hr : (mkS E ⟨n, l⟩).row n = none) (h0 : Nat.beq n 0 = false) (hs : i.zero.length = i.size) (hp : 0 < i.size) (hy : (i.zero.map fun z => AV.v z.val) = ys) :
    Does P nt ⟨dst, .alloc t, ty, pos, aft, gd⟩ ⟨[], [n]⟩ (.ptr n 0 0) [(n, some ⟨t, i.size, 0, true, true, ys⟩)] (mkS E ⟨n, l⟩) := by
  have := does_alloc (P := P) (ty := ty) (pos := pos) (aft := aft) (gd := gd) hT hd ht hr (fun h => by subst h; simp at h0) hs hp
  rw [hy] at this; exact this
theorem st_box {t n m : Nat} {l : List (Nat × Option Row)} {x : Operand} {y : AV} {ys : List AV} {pu : Bool} {us : List Nat} (hd : dstOk nt dst = true) (hx : (mkS E ⟨n, l⟩).ev x = y) (hy : avCells y = some ys) (hc : allCells (mkS E ⟨n, l⟩) ys = true) (hr : (mkS E ⟨n, l⟩).row n = none) (h0 : Nat.beq n 0 = false) (hm : ys.length = m + 1) (hp : pureBs ys = pu) (hu : rowsOf ys = us) :
    Does P nt ⟨dst, .box t x, ty, pos, aft, gd⟩ ⟨fo x, n :: us⟩ (.ptr n 0 0) [(n, some ⟨t, m + 1, 0, pu, true, ys⟩)] (mkS E ⟨n, l⟩) := by
  have := does_box (P := P) (t := t) (ty := ty) (pos := pos) (aft := aft) (gd := gd) hd hx hy hc hr (fun h => by subst h; simp at h0) (fun h => by subst h; simp at hm)
  rw [hp, hu, hm] at this; exact this
end

/-! ### how a function begins -/
section
variable {P : Program} {T : List (Nat × TyI)} {f nt : Nat} {fn : Func} {c : Code} {rs : List ResultVar} {res : AV}
theorem fn_go1 (hT : TabOk P T) {x0 : AV} (hf : P.funcs[f]? = some fn) (hb : fn.body = some c) (hnm : (fn.name == "runtime.NumGoroutine") = false) (hnt : fn.ntmps = nt) (hrs : fn.results = rs.toArray) (hl : 1 ≤ nt) (h : AX P nt c (mkS [(0, x0)] ⟨1, []⟩) (ResOk T rs res)) : FnS P f [x0] res :=
  fn_of_ax hT hf hb hnm hnt hrs (by simpa using hl) h
theorem fn_go2 (hT : TabOk P T) {x0 x1 : AV} (hf : P.funcs[f]? = some fn) (hb : fn.body = some c) (hnm : (fn.name == "runtime.NumGoroutine") = false) (hnt : fn.ntmps = nt) (hrs : fn.results = rs.toArray) (hl : 2 ≤ nt) (h : AX P nt c (mkS [(0, x0), (1, x1)] ⟨1, []⟩) (ResOk T rs res)) : FnS P f [x0, x1] res :=
  fn_of_ax hT hf hb hnm hnt hrs (by simpa using hl) h
theorem fn_go3 (hT : TabOk P T) {x0 x1 x2 : AV} (hf : P.funcs[f]? = some fn) (hb : fn.body = some c) (hnm : (fn.name == "runtime.NumGoroutine") = false) (hnt : fn.ntmps = nt) (hrs : fn.results = rs.toArray) (hl : 3 ≤ nt) (h : AX P nt c (mkS [(0, x0), (1, x1), (2, x2)] ⟨1, []⟩) (ResOk T rs res)) : FnS P f [x0, x1, x2] res :=
  fn_of_ax hT hf hb hnm hnt hrs (by simpa using hl) h
theorem fn_go4 (hT : TabOk P T) {x0 x1 x2 x3 : AV} (hf : P.funcs[f]? = some fn) (hb : fn.body = some c) (hnm : (fn.name == "runtime.NumGoroutine") = false) (hnt : fn.ntmps = nt) (hrs : fn.results = rs.toArray) (hl : 4 ≤ nt) (h : AX P nt c (mkS [(0, x0), (1, x1), (2, x2), (3, x3)] ⟨1, []⟩) (ResOk T rs res)) : FnS P f [x0, x1, x2, x3] res :=
  fn_of_ax hT hf hb hnm hnt hrs (by simpa using hl) h
end

/-! ### the ends of pieces of code -/
section
variable {P : Program} {nt : Nat} {Φ : Exit → St → Prop} {K : St → Prop} {σ : St} {y : Code}
theorem ax_next (h : AX P nt y σ Φ) : thenS (fun σ1 => AX P nt y σ1 Φ) Φ .normal σ := ⟨h⟩
theorem then_exit {id : Nat} (h : Φ (.exit id) σ) : thenS K Φ (.exit id) σ := ⟨h⟩
theorem then_ret (h : Φ .ret σ) : thenS K Φ .ret σ := ⟨h⟩
theorem out_here {id : Nat} (h : Φ .normal σ) : outOf id Φ (.exit id) σ := ⟨by simpa [outD] using h⟩
theorem out_away {id id' : Nat} (hn : Nat.beq id' id = false) (h : Φ (.exit id') σ) : outOf id Φ (.exit id') σ := by
  have : ¬ id' = id := fun e => by subst e; simp at hn
  exact ⟨by simpa [outD, this] using h⟩
theorem out_normal {id : Nat} (h : Φ .normal σ) : outOf id Φ .normal σ := ⟨h⟩
theorem out_ret {id : Nat} (h : Φ .ret σ) : outOf id Φ .ret σ := ⟨h⟩
theorem round_exit {ι : Type} {I : ι → St} {Pre : ι → Prop} {μ : ι → Nat} {i : ι} {id : Nat} (h : Φ (.exit id) σ) : roundS I Pre μ i Φ (.exit id) σ := ⟨h⟩
theorem round_ret {ι : Type} {I : ι → St} {Pre : ι → Prop} {μ : ι → Nat} {i : ι} (h : Φ .ret σ) : roundS I Pre μ i Φ .ret σ := ⟨h⟩
theorem round_next {ι : Type} {I : ι → St} {Pre : ι → Prop} {μ : ι → Nat} {i : ι} (i' : ι) (h1 : Pre i') (h2 : μ i' < μ i) (h3 : Weak σ (I i')) : roundS I Pre μ i Φ .normal σ := ⟨i', h1, h2, h3⟩
end
theorem to0 : Int.toNat 0 = 0 := rfl
theorem to1 : Int.toNat 1 = 1 := rfl
theorem to2 : Int.toNat 2 = 2 := rfl
theorem toC (k : Nat) : Int.toNat (k : Int) = k := by omega
theorem nz_succ (k : Nat) : (k : Int) + 1 = ((k + 1 : Nat) : Int) := by omega
theorem nz_pred (k : Nat) : ((k + 1 : Nat) : Int) - 1 = (k : Int) := by omega
end Go.Sym
