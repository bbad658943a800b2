/-
  Literals, make and append on abstract states; nothing of the program stands here.
-/
import Derived.Test.YtjdgbdakkdljmaaDoorQ4
import Derived.Great.BuildSlice
set_option linter.unusedVariables false
set_option linter.unusedSimpArgs false
namespace Go.Sym
open Go Go.RowKit

section
variable {P : Program} {T : List (Nat × TyI)} {nt : Nat} {σ : St} {dst : Option Nat} {ty : Nat} {pos : String} {aft : Array Edge} {gd : Option (Nat × Bool)}

/-! struct literals -/
theorem mapM_places {P : Program} : ∀ {fs : List Field} {l : List (Nat × Nat × Nat)}, (fs.map fun f => (f.offset, f.type, ((P.info? f.type).map (·.size)).getD 0)) = l → (∀ x, x ∈ l → x.2.2 ≠ 0) →
    fs.mapM (fun f => (P.info? f.type).map fun i => (f.offset, i.size)) = some (l.map fun x => (x.1, x.2.2))
  | [], l, h, _ => by subst h; rfl
  | f :: fs, l, h, k => by
    subst h
    have h1 := k (f.offset, f.type, ((P.info? f.type).map (·.size)).getD 0) (by simp)
    have h2 := mapM_places (fs := fs) rfl (fun x hx => k x (by simp at hx ⊢; exact .inr hx))
    cases hi : P.info? f.type with
    | none => simp [hi] at h1
    | some i => simp [List.mapM_cons, hi, h2]
theorem built_struct (hT : TabOk P T) {t : Nat} {i : TyI} {l : List (Nat × Nat × Nat)} (ht : lkT T t = some i) (hu : i.u = .struct l) (hl : ∀ x, x ∈ l → x.2.2 ≠ 0) (parts : List (Nat × Value)) :
    P.built t parts = Instr.fill ((l.map fun x => (x.1, x.2.2)).toArray[·]?) (i.zero.map ZK.val).toArray parts := by
  obtain ⟨inf, d, hk⟩ := hT.known ht
  obtain ⟨fs, h1, h2⟩ := hk.struct hu
  obtain ⟨z, hz, hzc⟩ := hk.zero
  have e : z.cells = (i.zero.map ZK.val).toArray := by rw [← hzc]
  unfold Program.built
  simp only [hk.info, h1, hz, mapM_places h2 hl, e]
theorem relV_agg_vals (cx : Cx) (l : List Value) : relV cx (.agg (l.map AV.v)) (.agg l.toArray) := by
  simp only [relV]; exact ⟨l, rfl, relL_vals cx l⟩
/-- the zero struct -/
theorem does_build0 (hT : TabOk P T) {t : Nat} {i : TyI} {l : List (Nat × Nat × Nat)} (hd : dstOk nt dst = true) (ht : lkT T t = some i) (hu : i.u = .struct l) (hl : (l.all fun x => !Nat.beq x.2.2 0) = true) :
    Does P nt ⟨dst, .build t #[], ty, pos, aft, gd⟩ ⟨[], []⟩ (.agg (i.zero.map fun z => .v z.val)) [] σ :=
  does_pure hd fun τ hag F φ Z a w hF hS => by
    have hl' : ∀ x, x ∈ l → x.2.2 ≠ 0 := fun x hx e => by
      have := List.all_eq_true.1 hl x hx
      rw [e] at this; simp at this
    refine ⟨.agg (i.zero.map ZK.val).toArray, by simp [execOp, run_build w t #[] (i.zero.map ZK.val).toArray (by rw [built_struct hT ht hu hl' ([] : List (Nat × Value))]; rfl)], ?_⟩
    have e : (i.zero.map fun z => AV.v z.val) = (i.zero.map ZK.val).map AV.v := by simp
    rw [e]
    exact relV_agg_vals _ _
/-- one part, one cell: the field that begins at o -/
theorem does_build1 (hT : TabOk P T) {t f : Nat} {p : Operand} {i : TyI} {l : List (Nat × Nat × Nat)} {o ft : Nat} {y : AV} (hd : dstOk nt dst = true) (ht : lkT T t = some i) (hu : i.u = .struct l) (hl : (l.all fun x => !Nat.beq x.2.2 0) = true)
    (hf : l[f]? = some (o, ft, 1)) (ho : o < i.zero.length) (hp : σ.ev p = y) (hc : cellB σ y = true) :
    Does P nt ⟨dst, .build t #[(f, p)], ty, pos, aft, gd⟩ ⟨fo p, rowOf y⟩ (.agg ((i.zero.map fun z => .v z.val).set o y)) [] σ :=
  does_pure hd fun τ hag F φ Z a w hF hS => by
    have hl' : ∀ x, x ∈ l → x.2.2 ≠ 0 := fun x hx e => by
      have := List.all_eq_true.1 hl x hx
      rw [e] at this; simp at this
    have h2 := ev_rel hag hS hp (by simp)
    have h1 := cellB_one hS h2 (by rw [cellB_agree hag (fun r h => h)]; exact hc)
    have hcells : (a.eval p).cells = #[a.eval p] := by cases hv : a.eval p <;> simp [hv, Value.oneCell'] at h1 <;> rfl
    have hb : P.built t [(f, a.eval p)] = some ((i.zero.map ZK.val).set o (a.eval p)).toArray := by
      rw [built_struct hT ht hu hl']
      simp [Instr.fill, hf, hcells]
      omega
    refine ⟨.agg ((i.zero.map ZK.val).set o (a.eval p)).toArray, by simp [execOp]; rw [run_build w t #[(f, a.eval p)] _ hb]; simp, ?_⟩
    simp only [relV]
    refine ⟨_, rfl, relL_of (by simp) fun j x u hx hu' => ?_⟩
    rw [List.getElem?_set] at hx hu'
    by_cases e : o = j
    · subst e
      rw [if_pos rfl] at hx hu'
      simp at hx hu'
      obtain ⟨_, rfl⟩ := hx
      obtain ⟨_, rfl⟩ := hu'
      exact h2
    · rw [if_neg e] at hx hu'
      simp only [List.getElem?_map, Option.map_eq_some_iff] at hx hu'
      obtain ⟨z, hz, rfl⟩ := hx
      obtain ⟨z', hz', rfl⟩ := hu'
      rw [hz] at hz'
      cases hz'
      simp [relV]
theorem does_build2 (hT : TabOk P T) {t : Nat} {p q : Operand} {i : TyI} {t0 t1 : Nat} {z0 z1 : ZK} {y0 y1 : AV} (hd : dstOk nt dst = true) (ht : lkT T t = some i) (hu : i.u = .struct [(0, t0, 1), (1, t1, 1)]) (hz : i.zero = [z0, z1])
    (hp : σ.ev p = y0) (hq : σ.ev q = y1) (hc : allCells σ [y0, y1] = true) :
    Does P nt ⟨dst, .build t #[(0, p), (1, q)], ty, pos, aft, gd⟩ ⟨fo p ++ fo q, rowsOf [y0, y1]⟩ (.agg [y0, y1]) [] σ :=
  does_pure hd fun τ hag F φ Z a w hF hS => by
    have h2 := ev_rel hag hS hp (by simp +contextual)
    have h3 := ev_rel hag hS hq (by simp +contextual)
    have hc' : allCells τ [y0, y1] = true := by rw [allCells_agree hag (fun r h => h)]; exact hc
    simp only [allCells, Bool.and_eq_true] at hc'
    have h4 := cellB_one hS h2 hc'.1
    have h5 := cellB_one hS h3 hc'.2.1
    have k2 : (a.eval p).cells = #[a.eval p] := by cases hv : a.eval p <;> simp [hv, Value.oneCell'] at h4 <;> rfl
    have k3 : (a.eval q).cells = #[a.eval q] := by cases hv : a.eval q <;> simp [hv, Value.oneCell'] at h5 <;> rfl
    have hb : P.built t [(0, a.eval p), (1, a.eval q)] = some #[a.eval p, a.eval q] := by
      rw [built_struct hT ht hu (by simp), hz]
      simp [Instr.fill, k2, k3]
    refine ⟨.agg #[a.eval p, a.eval q], by simp [execOp]; rw [run_build w t #[(0, a.eval p), (1, a.eval q)] _ hb]; simp, ?_⟩
    simp only [relV]
    exact ⟨[a.eval p, a.eval q], rfl, by simp only [relL]; exact ⟨_, _, rfl, h2, _, _, rfl, h3, rfl⟩⟩
theorem does_build3 (hT : TabOk P T) {t : Nat} {p q s : Operand} {i : TyI} {t0 t1 t2 : Nat} {z0 z1 z2 : ZK} {y0 y1 y2 : AV} (hd : dstOk nt dst = true) (ht : lkT T t = some i) (hu : i.u = .struct [(0, t0, 1), (1, t1, 1), (2, t2, 1)]) (hz : i.zero = [z0, z1, z2])
    (hp : σ.ev p = y0) (hq : σ.ev q = y1) (hs : σ.ev s = y2) (hc : allCells σ [y0, y1, y2] = true) :
    Does P nt ⟨dst, .build t #[(0, p), (1, q), (2, s)], ty, pos, aft, gd⟩ ⟨fo p ++ (fo q ++ fo s), rowsOf [y0, y1, y2]⟩ (.agg [y0, y1, y2]) [] σ :=
  does_pure hd fun τ hag F φ Z a w hF hS => by
    have h2 := ev_rel hag hS hp (by simp +contextual)
    have h3 := ev_rel hag hS hq (by simp +contextual)
    have h3' := ev_rel hag hS hs (by simp +contextual)
    have hc' : allCells τ [y0, y1, y2] = true := by rw [allCells_agree hag (fun r h => h)]; exact hc
    simp only [allCells, Bool.and_eq_true] at hc'
    have h4 := cellB_one hS h2 hc'.1
    have h5 := cellB_one hS h3 hc'.2.1
    have h6 := cellB_one hS h3' hc'.2.2.1
    have k2 : (a.eval p).cells = #[a.eval p] := by cases hv : a.eval p <;> simp [hv, Value.oneCell'] at h4 <;> rfl
    have k3 : (a.eval q).cells = #[a.eval q] := by cases hv : a.eval q <;> simp [hv, Value.oneCell'] at h5 <;> rfl
    have k4 : (a.eval s).cells = #[a.eval s] := by cases hv : a.eval s <;> simp [hv, Value.oneCell'] at h6 <;> rfl
    have hb : P.built t [(0, a.eval p), (1, a.eval q), (2, a.eval s)] = some #[a.eval p, a.eval q, a.eval s] := by
      rw [built_struct hT ht hu (by simp), hz]
      simp [Instr.fill, k2, k3, k4]
    refine ⟨.agg #[a.eval p, a.eval q, a.eval s], by simp [execOp]; rw [run_build w t #[(0, a.eval p), (1, a.eval q), (2, a.eval s)] _ hb]; simp, ?_⟩
    simp only [relV]
    exact ⟨[a.eval p, a.eval q, a.eval s], rfl, by simp only [relL]; exact ⟨_, _, rfl, h2, _, _, rfl, h3, _, _, rfl, h3', rfl⟩⟩
/-- a field of one cell -/
theorem does_field (hT : TabOk P T) {t f : Nat} {x : Operand} {i j : TyI} {l : List (Nat × Nat × Nat)} {o ft s : Nat} {xs : List AV} {y : AV} (hd : dstOk nt dst = true) (hx : σ.ev x = .agg xs) (ht : lkT T t = some i) (hu : i.u = .struct l) (hf : l[f]? = some (o, ft, s))
    (hj : lkT T ft = some j) (hg : j.agg = false) (hy : xs[o]? = some y) :
    Does P nt ⟨dst, .field t x f, ty, pos, aft, gd⟩ ⟨fo x, []⟩ y [] σ :=
  does_pure hd fun τ hag F φ Z a w hF hS => by
    have h2 := ev_rel hag hS hx (by simp)
    simp only [relV] at h2
    obtain ⟨vs, e1, h3⟩ := h2
    obtain ⟨u, hu', hr⟩ := relL_get h3 o y hy
    obtain ⟨inf, d, hk⟩ := hT.known ht
    obtain ⟨fs, h1, h2⟩ := hk.struct hu
    rw [← h2] at hf
    simp only [List.getElem?_map, Option.map_eq_some_iff, Prod.mk.injEq] at hf
    obtain ⟨fd, h3, rfl, rfl, h4⟩ := hf
    have h3' : fs[f]? = some fd := by simpa using h3
    obtain ⟨inf2, d2, hk2⟩ := hT.known hj
    exact ⟨u, by simp [execOp, e1, Instr.field, run_underlying h1, h3', part, hk2.run_agg w, hg, asAgg, hu'], hr⟩

/-! slice literals -/
theorem run_buildSlice0 (hT : TabOk P T) {t e : Nat} {i j : TyI} (ht : lkT T t = some i) (hu : i.u = .slice e) (he : lkT T e = some j) (w : World) :
    (Instr.buildSlice t 0 #[]).run P w = .ok (.slice (some ⟨w.heap.size, 0, none⟩) 0 0) (w.alloc (.cells #[] e)) := by
  obtain ⟨inf, d, hk⟩ := hT.known ht
  obtain ⟨inf2, d2, hk2⟩ := hT.known he
  simp [Instr.buildSlice, run_underlying (hk.slice hu), run_sizeOf_known hk2.info, Instr.fill, newRow]
  congr 2
  apply Array.eq_empty_of_size_eq_zero
  simp
theorem does_buildSlice0 (hT : TabOk P T) {t e r : Nat} {i j : TyI} (hd : dstOk nt dst = true) (ht : lkT T t = some i) (hu : i.u = .slice e) (he : lkT T e = some j) (hs : 0 < j.size) (hr : σ.row r = none) (h0 : r ≠ 0) :
    Does P nt ⟨dst, .buildSlice t 0 #[], ty, pos, aft, gd⟩ ⟨[], [r]⟩ (.own r 0) [(r, some ⟨e, j.size, 0, true, false, []⟩)] σ :=
  does_run hd fun τ hag F φ Z a w hF hS => by
    have hr' : τ.row r = none := by rw [hag.2 r (by simp)]; exact hr
    obtain ⟨φ', h4, h5, h6⟩ := alloc_row hS hr' h0 (t := e) (sz := j.size) (n := 0) (pure := true) (box := false) (ys := []) (us := []) (by simp [relL]) (by simp) hs (by simp) (by simp [maxLen]) (fun _ => by simp [pureL])
    refine ⟨.slice (some ⟨w.heap.size, 0, none⟩) 0 0, w.alloc (.cells #[] e), φ', Z, by simp [execOp, run_buildSlice0 hT ht hu he], h4, ?_⟩
    simp only [relV, cxOf, St.rowsUpd, overR]
    simp
    exact ⟨_, _, ⟨rfl, rfl⟩, fun _ => h5.symm⟩
theorem fill_one {s : Nat} (hs : 0 < s) (v : Value) (cells : Array Value) (hv : v.cells.size = s) (hc : cells.size = s) : Instr.fill (fun i => some (i * s, s)) cells [(0, v)] = some v.cells := by
  obtain ⟨r, h1, h2, h3⟩ := Great.fill_dense hs [v] 0 cells (by simpa using hv) (by simp; omega)
  have : r = v.cells := by
    apply Array.ext_getElem?
    intro k
    rw [h3 k]
    by_cases hk : k < s
    · rw [if_pos (by simp; omega), Nat.div_eq_of_lt hk, Nat.mod_eq_of_lt hk]; simp
    · rw [if_neg (by simp; omega), Array.getElem?_eq_none (by omega), Array.getElem?_eq_none (by omega)]
  rw [← this]; simpa using h1
theorem run_buildSlice1 (hT : TabOk P T) {t e : Nat} {i j : TyI} (ht : lkT T t = some i) (hu : i.u = .slice e) (he : lkT T e = some j) (hs : 0 < j.size) (hs' : j.size ≤ 1000) (v : Value) (hv : v.cells.size = j.size) (w : World) :
    (Instr.buildSlice t 1 #[(0, v)]).run P w = .ok (.slice (some ⟨w.heap.size, 0, none⟩) 1 1) (w.alloc (.cells v.cells e)) := by
  obtain ⟨inf, d, hk⟩ := hT.known ht
  obtain ⟨inf2, d2, hk2⟩ := hT.known he
  obtain ⟨z, hz, _⟩ := hk2.zero
  have hi := hk2.size
  exact run_buildSlice w t e 1 #[(0, v)] v.cells inf2 z (hk.slice hu) hk2.info hz (by omega) (by omega) (by simpa using fill_one (s := inf2.size) (by omega) v _ (by omega) (by simp))
theorem does_buildSlice1 (hT : TabOk P T) {t e r : Nat} {p : Operand} {i j : TyI} {y : AV} {ys : List AV} (hd : dstOk nt dst = true) (hp : σ.ev p = y) (hy : avCells y = some ys) (hc : allCells σ ys = true) (ht : lkT T t = some i) (hu : i.u = .slice e) (he : lkT T e = some j)
    (hs : 0 < j.size) (hs' : j.size ≤ 1000) (hl : ys.length = j.size) (hr : σ.row r = none) (h0 : r ≠ 0) :
    Does P nt ⟨dst, .buildSlice t 1 #[(0, p)], ty, pos, aft, gd⟩ ⟨fo p, r :: rowsOf ys⟩ (.own r 0) [(r, some ⟨e, j.size, 0, pureBs ys, false, ys⟩)] σ :=
  does_run hd fun τ hag F φ Z a w hF hS => by
    have hr' : τ.row r = none := by rw [hag.2 r (by simp)]; exact hr
    have h2 := ev_rel hag hS hp (by simp)
    have hc' : allCells τ ys = true := by rw [allCells_agree hag (fun r h => by simp [h])]; exact hc
    have h3 := avCells_rel hS h2 hy hc'
    have hl3 := relL_length h3
    obtain ⟨φ', h4, h5, h6⟩ := alloc_row hS hr' h0 (t := e) (sz := j.size) (n := 1) (pure := pureBs ys) (box := false) h3 (allCells_one hS h3 hc') hs (by omega) (by simp [maxLen]) (fun h => pureL_of_rel h3 h)
    refine ⟨.slice (some ⟨w.heap.size, 0, none⟩) 1 1, w.alloc (.cells (a.eval p).cells e), φ', Z, by simp [execOp]; rw [run_buildSlice1 hT ht hu he hs hs' (a.eval p) (by simp at hl3; omega)]; simp, by simpa using h4, ?_⟩
    simp only [relV, cxOf, St.rowsUpd, overR]
    simp
    exact ⟨_, _, ⟨rfl, rfl⟩, fun _ => h5.symm⟩

/-! make -/
theorem does_make (hT : TabOk P T) {t e r n : Nat} {p q : Operand} {i j : TyI} {zk : ZK} {kl kc : IntKind} {L C : Int} (hd : dstOk nt dst = true) (hp : σ.ev p = .v (.int kl L)) (hq : σ.ev q = .v (.int kc C)) (hL : L = (n : Int)) (hC : C = (n : Int))
    (ht : lkT T t = some i) (hu : i.u = .slice e) (he : lkT T e = some j) (hz : j.zero = [zk]) (hs : j.size = 1) (hb : j.bytes * n ≤ 281474976710656) (hn : n ≤ maxLen) (hr : σ.row r = none) (h0 : r ≠ 0) :
    Does P nt ⟨dst, .makeSlice t p q, ty, pos, aft, gd⟩ ⟨fo p ++ fo q, [r]⟩ (.own r 0) [(r, some ⟨e, 1, 0, true, false, List.replicate n (.v zk.val)⟩)] σ :=
  does_run hd fun τ hag F φ Z a w hF hS => by
    have hr' : τ.row r = none := by rw [hag.2 r (by simp)]; exact hr
    have e1 := ev_v hag hS hp (by simp +contextual)
    have e2 := ev_v hag hS hq (by simp +contextual)
    obtain ⟨inf, d, hk⟩ := hT.known ht
    obtain ⟨inf2, d2, hk2⟩ := hT.known he
    obtain ⟨z, hzz, hzc⟩ := hk2.zero
    have hzc' : z.cells = #[zk.val] := by rw [hz] at hzc; apply Array.ext'; simpa using hzc
    obtain ⟨w', hrun, hown, hgr⟩ := run_make_full (P := P) w F.w0.heap.size t e inf2 z 1 (hk.slice hu) hk2.info hzz (by rw [hk2.size, hs]) kl kc n (by rw [hk2.bytes]; exact hb) hn hS.keep.size
    subst hL hC
    rw [hzc', Nat.mul_one, toList_madeCells_one] at hown
    have hbel : Below w.heap.size w w' := (Below.refl _ _).grown hgr (Nat.le_refl _) (fun k h => by cases h)
    have hS' := hS.grow' hbel
    have hcx := cxLe_grow hS hbel (fun _ h => h)
    have hbl : ∀ g, (Value.slice (some ⟨w.heap.size, 0, none⟩) n n).ownBlock = some g → g = w.heap.size := fun g hg => by simp [Value.ownBlock] at hg; exact hg.symm
    have hrow : RowRel F (cxOf φ Z τ w') (.slice (some ⟨w.heap.size, 0, none⟩) n n) ⟨e, 1, 0, true, false, List.replicate n (.v zk.val)⟩ := by
      refine ⟨by simp, fun _ => ?_, fun h => by simp at h, fun g hg => .inl (by rw [hbl g hg]; exact hS.keep.size), n, List.replicate n zk.val, ?_, by simp, ?_, ?_⟩
      · have := pureL_vals (List.replicate n zk.val)
        simpa using this
      · refine ⟨hown.1, ?_⟩
        rcases hown.2 with h | ⟨g, cap, cur, h1, h2, h3⟩
        · exact .inl h
        · exact .inr ⟨g, cap, cur, h1, Nat.zero_le _, h3⟩
      · have := relL_vals (cxOf φ Z τ w') (List.replicate n zk.val)
        simpa using this
      · intro u hu
        rw [List.eq_of_mem_replicate hu]
        cases zk <;> rfl
    obtain ⟨h2, h3⟩ := hS'.adopt hr' h0 hrow (by
      intro g hg
      rw [hbl g hg]
      refine ⟨fun hz => by have := hS.zlt _ hz; omega, fun s hs' e => ?_⟩
      obtain ⟨row, hrow'⟩ := Option.isSome_iff_exists.1 hs'
      have := (hS.rows s row hrow').lt e
      simp [cxOf] at this)
    rw [set_eq_upd] at h2
    refine ⟨.slice (some ⟨w.heap.size, 0, none⟩) n n, w', _, Z, by simp [execOp, e1, e2, hrun], h2, ?_⟩
    simp only [relV, cxOf, St.rowsUpd, overR]
    simp
    exact ⟨_, _, ⟨rfl, rfl⟩, fun _ => rfl⟩

/-! append -/
/-- the cells that an operand's slice holds -/
structure SrcRel (cx : Cx) (sz : Nat) (u : Value) (cs : List AV) (m : Nat) (us : List Value) : Prop where
  shape : (∃ c, u = .slice none 0 c ∧ m = 0) ∨ ∃ ad c, u = .slice (some ad) m c ∧ ∀ j v, us[j]? = some v → cx.w.cell? (ad.add j) = some v
  len : us.length = m * sz
  rel : relL cx cs us
  one : ∀ v, v ∈ us → v.oneCell' = true
theorem run_append_sym {t ty e : TypeId} {inf : TypeInfo} {z : Value} {sz by' : Nat} (ht : P.underlying t = some (.slice e)) (hi : P.info? e = some inf) (hz : inf.zero = some z) (hsz : inf.size = sz) (hby : inf.bytes = by') (hzs : z.cells.size = sz) (hs0 : 0 < sz)
    {w : World} {v u : Value} {n m : Nat} {xs us : List Value} (hown : w.ownsRow 0 e sz v n xs) {cx : Cx} {cs : List AV} (hcx : cx.w = w) (hsrc : SrcRel cx sz u cs m us) (h63 : n + m ≤ maxLen) (hbytes : (n + m) * by' ≤ 140737488355328) :
    ∃ v' w', (Builtin.append_ #[t, t] ty #[v, u]).run P w = .ok v' w' ∧ w'.ownsRow 0 e sz v' (n + m) (xs ++ us) ∧ w.grownBy w' v.ownBlock ∧ ∀ g, v'.ownBlock = some g → v.ownBlock = some g ∨ w.heap.size ≤ g := by
  rcases hsrc.shape with ⟨c, rfl, rfl⟩ | ⟨ad, c, rfl, hcell⟩
  · have hus : us = [] := List.eq_nil_of_length_eq_zero (by have := hsrc.len; simpa using this)
    subst hus
    refine ⟨v, w, ?_, by simpa using hown, ⟨rfl, rfl, rfl, Nat.le_refl _, fun _ _ _ => rfl⟩, fun g hg => .inl hg⟩
    rcases hown.2 with ⟨rfl, rfl⟩ | ⟨g, cap, cur, rfl, _, _, hnc, _⟩
    · simp [Builtin.append_, run_underlying ht, sizeOf, typeInfo, hi, Builtin.lenOf, Builtin.firstCells]
    · simp [Builtin.append_, run_underlying ht, sizeOf, typeInfo, hi, Builtin.lenOf, Builtin.firstCells, hnc, storeCells]
  · rw [hcx] at hcell
    obtain ⟨v', w', hr, h1, h2, h3⟩ := run_append_own (P := P) w 0 t ty e inf z sz by' ht hi hz hsz hby hzs hs0 v n xs hown ad m c us hsrc.len hcell hsrc.one h63 hbytes (Nat.zero_le _)
    refine ⟨v', w', hr, h1, h2, fun g hg => ?_⟩
    rcases hown.2 with ⟨rfl, rfl⟩ | ⟨g0, cap, cur, rfl, _, hgg, hnc, hcm, hcs, htake⟩
    · have hx : xs = [] := List.eq_nil_of_length_eq_zero (by simpa using hown.1)
      subst hx
      obtain ⟨v2, w2, hr2, k1, _⟩ := run_append_own (P := P) w w.heap.size t ty e inf z sz by' ht hi hz hsz hby hzs hs0 (.slice none 0 0) 0 [] (World.ownsRow_nil w _ _ _) ad m c us hsrc.len hcell hsrc.one h63 hbytes (Nat.le_refl _)
      rw [hr] at hr2
      cases hr2
      exact .inr (k1.lt g hg).1
    · by_cases hroom : n + m ≤ cap
      · have hfit : n * inf.size + us.length ≤ cur.size := by rw [hsrc.len, hcs, hsz, ← Nat.add_mul]; exact Nat.mul_le_mul_right _ hroom
        have hr2 := run_append_room (P := P) w t ty e inf ht hi g0 n cap cur hgg ad m c us (by rw [hsz]; exact hsrc.len) hcell hsrc.one hroom hfit
        rw [hr] at hr2
        cases hr2
        left; exact hg
      · have hr2 := run_append_grow (P := P) w t ty e inf z ht hi hz ⟨g0, 0, none⟩ n cap xs (by rw [hsz]; exact hown.1) (hown.cells (g := g0) rfl) ad m c us (by rw [hsz]; exact hsrc.len) hcell (by omega) (by simp only [maxLen] at h63; omega) (growslice_fits (by omega) (by rw [hby]; exact hbytes))
        rw [hr] at hr2
        cases hr2
        simp [Value.ownBlock] at hg
        right; omega

/-- what a slice operand is known to hold, in every state that agrees on R -/
def Src (R : Foot) (σ : St) (y : Operand) (sz : Nat) (cs : List AV) (pure : Bool) : Prop :=
  ∀ τ, Agree R τ σ → ∀ F φ Z a w, SimAt F φ Z τ a w → ∃ m us, SrcRel (cxOf φ Z τ w) sz (a.eval y) cs m us ∧ (pure = true → pureL cs)
theorem src_own {y : Operand} {r k : Nat} {row : Row} {R : Foot} (hy : σ.ev y = .own r k) (hr : σ.row r = some row) (hv : row.ver = k) (hR : ∀ t, t ∈ fo y → t ∈ R.e) (hR' : r ∈ R.r) : Src R σ y row.sz row.cs row.pure := by
  intro τ hag F φ Z a w hS
  have hr' : τ.row r = some row := by rw [hag.2 r hR']; exact hr
  have e1 := own_open hS hr' hv (ev_rel hag hS hy hR)
  obtain ⟨n, xs, hm⟩ := rowMem hS hr'
  refine ⟨n, xs, ⟨?_, hm.own.1, hm.rel, hm.one⟩, (hS.rows r row hr').pur⟩
  rcases hm.own.2 with ⟨h1, h2⟩ | ⟨g, cap, cur, h1, h2⟩
  · left; exact ⟨0, by rw [e1, h1], h2⟩
  · right
    exact ⟨⟨g, 0, none⟩, cap, by rw [e1, h1], hm.own.cells (g := g) (by rw [h1]; rfl)⟩
theorem rel_cells {cx : Cx} {cs : List AV} {f : Nat → Option Value} (h : ∀ j x, cs[j]? = some x → ∃ u, f j = some u ∧ u.oneCell' = true ∧ relV cx x u) : ∃ us : List Value, relL cx cs us ∧ (∀ u, u ∈ us → u.oneCell' = true) ∧ ∀ j u, us[j]? = some u → f j = some u := by
  induction cs generalizing f with
  | nil => exact ⟨[], by simp [relL], by simp, by simp⟩
  | cons x cs ih =>
    obtain ⟨us, h1, h2, h3⟩ := ih (f := fun j => f (j + 1)) (fun j x hx => h (j + 1) x (by simpa using hx))
    obtain ⟨u, hu, ho, hr⟩ := h 0 x (by simp)
    refine ⟨u :: us, ?_, ?_, ?_⟩
    · simp only [relL]; exact ⟨u, us, rfl, hr, h1⟩
    · intro v hv
      rcases List.mem_cons.1 hv with rfl | hv
      · exact ho
      · exact h2 v hv
    · intro j v hj
      cases j with
      | zero => simp at hj; subst hj; exact hu
      | succ j => simp at hj; exact h3 j v hj
theorem src_sl {y : Operand} {ty' sz : Nat} {cs : List AV} {R : Foot} (hy : σ.ev y = .sl ty' sz cs) (hR : ∀ t, t ∈ fo y → t ∈ R.e) : Src R σ y sz cs true := by
  intro τ hag F φ Z a w hS
  have h2 := ev_rel hag hS hy hR
  simp only [relV] at h2
  obtain ⟨hp, ao, n, c, e1, h3, h4, h5, h6, h7⟩ := h2
  rcases h7 with h7 | ⟨b, off, rfl, hb, hc⟩
  · subst h7
    have hn : n = 0 := by
      have h8 : n * sz = 0 := h6.symm
      rcases Nat.mul_eq_zero.1 h8 with h9 | h9 <;> omega
    subst hn
    refine ⟨0, [], ⟨?_, by simp, by simp [relL], by simp⟩, fun _ => hp⟩
    cases ao with
    | none => left; exact ⟨c, e1, rfl⟩
    | some ad => right; exact ⟨ad, c, e1, by simp⟩
  · obtain ⟨us, h8, h9, h10⟩ := rel_cells (cx := cxOf φ Z τ w) (f := fun j => w.cell? ⟨b, off + j, none⟩) (fun j x hx => relC_get hc j x hx)
    refine ⟨n, us, ⟨.inr ⟨⟨b, off, none⟩, c, e1, fun j v hj => by rw [Addr.add_lit]; exact h10 j v hj⟩, by rw [relL_length h8]; exact h6, h8, h9⟩, fun _ => hp⟩
theorem src_nil {y : Operand} {c sz : Nat} {R : Foot} (hy : σ.ev y = .v (.slice none 0 c)) (hR : ∀ t, t ∈ fo y → t ∈ R.e) : Src R σ y sz [] true := by
  intro τ hag F φ Z a w hS
  have h2 := ev_rel hag hS hy hR
  simp only [relV] at h2
  exact ⟨0, [], ⟨.inl ⟨c, h2, rfl⟩, by simp, by simp [relL], by simp⟩, fun _ => by simp [pureL]⟩

theorem does_append (hT : TabOk P T) {t e : Nat} {x y : Operand} {i j : TyI} {r k : Nat} {row : Row} {cs : List AV} {pu : Bool} {R : Foot} (hd : dstOk nt dst = true) (hx : σ.ev x = .own r k) (hr : σ.row r = some row) (hv : row.ver = k) (hbx : row.box = false) (h0 : r ≠ 0)
    (ht : lkT T t = some i) (hu : i.u = .slice e) (he : lkT T e = some j) (hty : row.ty = e) (hsz : row.sz = j.size) (hzl : j.zero.length = j.size) (hsrc : Src R σ y j.size cs pu) (hR : ∀ t, t ∈ fo x → t ∈ R.e) (hR' : r ∈ R.r) (hb : (row.cs.length + cs.length) * (j.bytes + 1) ≤ 140737488355328) :
    Does P nt ⟨dst, .call ⟨.builtin .append, #[x, y], #[t, t]⟩, ty, pos, aft, gd⟩ R (.own r (k + 1)) [(r, some ⟨row.ty, row.sz, k + 1, row.pure && pu, false, row.cs ++ cs⟩)] σ :=
  does_run hd fun τ hag F φ Z a w hF hS => by
    have hr' : τ.row r = some row := by rw [hag.2 r hR']; exact hr
    have e1 := own_open hS hr' hv (ev_rel hag hS hx hR)
    obtain ⟨n, xs, hm⟩ := rowMem hS hr'
    obtain ⟨m, us, hs1, hpu⟩ := hsrc τ hag F φ Z a w hS
    obtain ⟨inf, d, hk⟩ := hT.known ht
    obtain ⟨inf2, d2, hk2⟩ := hT.known he
    obtain ⟨z, hzz, hzc⟩ := hk2.zero
    have hzs : z.cells.size = j.size := by rw [← Array.length_toList, hzc]; simp [hzl]
    have hrr := hS.rows r row hr'
    have hpos := hrr.sz
    have hown : w.ownsRow 0 e j.size (φ r) n xs := by rw [← hty, ← hsz]; exact hm.own
    have hl1 := hm.len
    have hl2 := relL_length hs1.rel
    have hl3 := hs1.len
    have hn1 : n ≤ row.cs.length := by rw [hl1]; exact Nat.le_mul_of_pos_right _ hpos
    have hm1 : m ≤ cs.length := by rw [← hl2, hl3]; exact Nat.le_mul_of_pos_right _ (by omega)
    have hnm : (n + m) * (j.bytes + 1) ≤ 140737488355328 := Nat.le_trans (Nat.mul_le_mul_right _ (by omega)) hb
    have hnm' : (n + m) * j.bytes + (n + m) ≤ 140737488355328 := by rw [Nat.mul_add, Nat.mul_one] at hnm; exact hnm
    obtain ⟨v', w', hrun, k1, k2, k3⟩ := run_append_sym (P := P) (ty := ty) (hk.slice hu) hk2.info hzz hk2.size hk2.bytes hzs (by omega) hown (by rfl) hs1 (by simp [maxLen]; omega) (by omega)
    have htn := hS.turn (r := r) (row := row) (row' := ⟨row.ty, row.sz, k + 1, row.pure && pu, false, row.cs ++ cs⟩) (t' := v') (w' := w') hr' k2 (by simp; omega) (fun h => by simp at h; omega)
      (fun hcx => by
        refine ⟨hpos, ?_, fun h => by simp at h, ?_, n + m, xs ++ us, ?_, ?_, relL_append (relL_mono hcx _ _ hm.rel) (relL_mono hcx _ _ hs1.rel), ?_⟩
        · intro hp
          simp only [Bool.and_eq_true] at hp
          exact pureL_append (hrr.pur hp.1) (hpu hp.2)
        · intro g hg
          left
          rcases k3 g hg with h | h
          · rcases hrr.blk g h with h' | h'
            · exact h'
            · rw [hbx] at h'; cases h'.1
          · exact Nat.le_trans hS.keep.size h
        · simp only [cxOf]; rw [hty, hsz]; exact k1
        · simp only [List.length_append]; rw [hl1, ← hl2, hl3, hsz, Nat.add_mul]
        · intro u hu
          rcases List.mem_append.1 hu with hu | hu
          · exact hm.one u hu
          · exact hs1.one u hu)
      k3 (fun h => absurd h h0)
    rw [set_eq_upd] at htn
    refine ⟨v', w', _, Z, by simp [execOp, resolve, invoke, builtin, e1, hrun], htn.1, ?_⟩
    simp only [relV, cxOf, St.rowsUpd, overR]
    simp
    exact ⟨_, _, ⟨rfl, rfl⟩, Nat.le_refl _, fun _ => rfl⟩
theorem does_append_nil (hT : TabOk P T) {t e : Nat} {x y : Operand} {i j : TyI} {r : Nat} {cs : List AV} {pu : Bool} {R : Foot} (hd : dstOk nt dst = true) (hx : σ.ev x = .v (.slice none 0 0)) (hr : σ.row r = none) (h0 : r ≠ 0)
    (ht : lkT T t = some i) (hu : i.u = .slice e) (he : lkT T e = some j) (hpos : 0 < j.size) (hzl : j.zero.length = j.size) (hsrc : Src R σ y j.size cs pu) (hR : ∀ t, t ∈ fo x → t ∈ R.e) (hR' : r ∈ R.r) (hb : cs.length * (j.bytes + 1) ≤ 140737488355328) :
    Does P nt ⟨dst, .call ⟨.builtin .append, #[x, y], #[t, t]⟩, ty, pos, aft, gd⟩ R (.own r 0) [(r, some ⟨e, j.size, 0, pu, false, cs⟩)] σ :=
  does_run hd fun τ hag F φ Z a w hF hS => by
    have hr' : τ.row r = none := by rw [hag.2 r hR']; exact hr
    have e1 := ev_v hag hS hx hR
    obtain ⟨m, us, hs1, hpu⟩ := hsrc τ hag F φ Z a w hS
    obtain ⟨inf, d, hk⟩ := hT.known ht
    obtain ⟨inf2, d2, hk2⟩ := hT.known he
    obtain ⟨z, hzz, hzc⟩ := hk2.zero
    have hzs : z.cells.size = j.size := by rw [← Array.length_toList, hzc]; simp [hzl]
    have hl2 := relL_length hs1.rel
    have hl3 := hs1.len
    have hm1 : m ≤ cs.length := by rw [← hl2, hl3]; exact Nat.le_mul_of_pos_right _ hpos
    have hnm : m * (j.bytes + 1) ≤ 140737488355328 := Nat.le_trans (Nat.mul_le_mul_right _ (by omega)) hb
    have hnm' : m * j.bytes + m ≤ 140737488355328 := by rw [Nat.mul_add, Nat.mul_one] at hnm; exact hnm
    obtain ⟨v', w', hrun, k1, k2, k3⟩ := run_append_sym (P := P) (ty := ty) (hk.slice hu) hk2.info hzz hk2.size hk2.bytes hzs hpos (World.ownsRow_nil w 0 e j.size) (by rfl) hs1 (by simp [maxLen]; omega) (by simp; omega)
    simp only [Nat.zero_add, List.nil_append] at k1
    have hbel : Below w.heap.size w w' := (Below.refl _ _).grown k2 (Nat.le_refl _) (fun k h => by cases h)
    have hS' := hS.grow' hbel
    have hcx := cxLe_grow hS hbel (fun _ h => h)
    have hblk : ∀ g, v'.ownBlock = some g → w.heap.size ≤ g := fun g hg => by
      rcases k3 g hg with h | h
      · cases h
      · exact h
    have hrow : RowRel F (cxOf φ Z τ w') v' ⟨e, j.size, 0, pu, false, cs⟩ :=
      ⟨hpos, hpu, fun h => by simp at h, fun g hg => .inl (Nat.le_trans hS.keep.size (hblk g hg)), m, us, k1, by rw [← hl2]; exact hl3, relL_mono hcx _ _ hs1.rel, hs1.one⟩
    obtain ⟨h2, h3⟩ := hS'.adopt hr' h0 hrow (by
      intro g hg
      have hge := hblk g hg
      refine ⟨fun hz => by have := hS.zlt _ hz; omega, fun s hs' e => ?_⟩
      obtain ⟨row, hrow'⟩ := Option.isSome_iff_exists.1 hs'
      have := (hS.rows s row hrow').lt e
      simp [cxOf] at this; omega)
    rw [set_eq_upd] at h2
    refine ⟨v', w', _, Z, by simp [execOp, resolve, invoke, builtin, e1, hrun], h2, ?_⟩
    simp only [relV, cxOf, St.rowsUpd, overR]
    simp
    exact ⟨_, _, ⟨rfl, rfl⟩, fun _ => rfl⟩
end
end Go.Sym
