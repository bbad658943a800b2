/-
  What operations that make or write memory do to an abstract state; nothing of the program stands here.
-/
import Derived.Test.YtjdgbdakkdljmaaDoorQ3
set_option linter.unusedVariables false
set_option linter.unusedSimpArgs false
namespace Go.Sym
open Go Go.RowKit

def pureB : AV → Bool
  | .any => true
  | .v _ => true
  | .sl _ _ _ => true
  | .both _ (.sl _ _ _) => true
  | _ => false
theorem pure_of {cx : Cx} {x : AV} {u : Value} (h : relV cx x u) (hp : pureB x = true) : pureV x := by
  cases x <;> simp [pureB] at hp <;> simp only [pureV]
  case sl ty sz cs => simp only [relV] at h; exact h.1
  case both x y => cases y <;> simp at hp; simp only [relV] at h; simp only [pureV]; exact h.2.1
def pureBs : List AV → Bool
  | [] => true
  | x :: xs => pureB x && pureBs xs
theorem pureL_of_rel {cx : Cx} : ∀ {xs : List AV} {us : List Value}, relL cx xs us → pureBs xs = true → pureL xs
  | [], us, _, _ => by simp [pureL]
  | x :: xs, us, h, hp => by
    simp only [relL] at h
    obtain ⟨u, vs, rfl, h1, h2⟩ := h
    simp only [pureBs, Bool.and_eq_true] at hp
    simp only [pureL]
    exact ⟨pure_of h1 hp.1, pureL_of_rel h2 hp.2⟩
theorem pureL_append {xs ys : List AV} (h : pureL xs) (k : pureL ys) : pureL (xs ++ ys) := by
  induction xs with
  | nil => simpa using k
  | cons x xs ih => simp only [List.cons_append, pureL] at h ⊢; exact ⟨h.1, ih h.2⟩
theorem pureL_set {xs : List AV} {y : AV} (h : pureL xs) (hy : pureV y) : ∀ o, pureL (xs.set o y) := by
  induction xs with
  | nil => intro o; simpa using h
  | cons x xs ih =>
    intro o
    simp only [pureL] at h
    cases o with
    | zero => simp only [List.set_cons_zero, pureL]; exact ⟨hy, h.2⟩
    | succ o => simp only [List.set_cons_succ, pureL]; exact ⟨h.1, ih h.2 o⟩
theorem pureL_setL {ys : List AV} : ∀ {xs : List AV} (o : Nat), pureL xs → pureL ys → pureL (setL xs o ys) := by
  induction ys with
  | nil => intro xs o h _; exact h
  | cons y ys ih => intro xs o h hy; simp only [pureL] at hy; exact ih (o + 1) (pureL_set h hy.1 o) hy.2
theorem pureL_vals : ∀ (l : List Value), pureL (l.map AV.v)
  | [] => by simp [pureL]
  | x :: l => by simp only [List.map_cons, pureL, pureV]; exact ⟨trivial, pureL_vals l⟩
theorem relL_vals (cx : Cx) : ∀ (l : List Value), relL cx (l.map AV.v) l
  | [] => by simp [relL]
  | x :: l => by simp only [List.map_cons, relL, relV]; exact ⟨x, l, rfl, rfl, relL_vals cx l⟩
theorem relL_append {cx : Cx} {xs ys : List AV} {us vs : List Value} (h : relL cx xs us) (k : relL cx ys vs) : relL cx (xs ++ ys) (us ++ vs) := by
  induction xs generalizing us with
  | nil => simp [relL] at h; subst h; simpa using k
  | cons x xs ih =>
    simp only [relL] at h
    obtain ⟨u, us, rfl, h1, h2⟩ := h
    simp only [List.cons_append, relL]
    exact ⟨u, us ++ vs, rfl, h1, ih h2⟩

def avCells : AV → Option (List AV)
  | .agg xs => some xs
  | .any => none
  | .tup _ => none
  | .v x => match x with
    | .agg cs => some (cs.toList.map .v)
    | .tuple _ => none
    | x => some [.v x]
  | x => some [x]
/-- the cells of a value that is laid down -/
theorem avCells_rel {F : Fr} {φ : Nat → Value} {Z : Nat → Prop} {σ : St} {a : Act} {w : World} (h : SimAt F φ Z σ a w) {x : AV} {u : Value} {ys : List AV} (hx : relV (cxOf φ Z σ w) x u) (hy : avCells x = some ys) (hc : allCells σ ys = true) :
    relL (cxOf φ Z σ w) ys u.cells.toList := by
  have one : ∀ x : AV, relV (cxOf φ Z σ w) x u → cellB σ x = true → relL (cxOf φ Z σ w) [x] u.cells.toList := fun x h1 h2 => by
    have h3 := cellB_one h h1 h2
    cases u <;> simp [Value.oneCell'] at h3 <;> (simp only [Value.cells, relL]; exact ⟨_, [], rfl, h1, rfl⟩)
  cases x with
  | any => simp [avCells] at hy
  | agg xs =>
    simp only [avCells, Option.some.injEq] at hy
    subst hy
    simp only [relV] at hx
    obtain ⟨vs, rfl, h1⟩ := hx
    simpa [Value.cells] using h1
  | tup xs => simp [avCells] at hy
  | v c =>
    have hx' := hx
    simp only [relV] at hx'
    subst hx'
    cases u <;> simp only [avCells, Option.some.injEq] at hy <;> try (cases hy; done)
    case agg cs => subst hy; simp only [Value.cells]; exact relL_vals _ _
    all_goals (subst hy; simp only [allCells, Bool.and_true] at hc; exact one _ hx hc)
  | sl ty sz cs => simp only [avCells, Option.some.injEq] at hy; subst hy; simp only [allCells, Bool.and_true] at hc; exact one _ hx hc
  | ip cs k => simp only [avCells, Option.some.injEq] at hy; subst hy; simp only [allCells, Bool.and_true] at hc; exact one _ hx hc
  | own r k => simp only [avCells, Option.some.injEq] at hy; subst hy; simp only [allCells, Bool.and_true] at hc; exact one _ hx hc
  | sub r k o n => simp only [avCells, Option.some.injEq] at hy; subst hy; simp only [allCells, Bool.and_true] at hc; exact one _ hx hc
  | pre r k n => simp only [avCells, Option.some.injEq] at hy; subst hy; simp only [allCells, Bool.and_true] at hc; exact one _ hx hc
  | ptr r k o => simp only [avCells, Option.some.injEq] at hy; subst hy; simp only [allCells, Bool.and_true] at hc; exact one _ hx hc
  | both x y => simp only [avCells, Option.some.injEq] at hy; subst hy; simp only [allCells, Bool.and_true] at hc; exact one _ hx hc

theorem cxLe_grow {F : Fr} {φ : Nat → Value} {Z Z' : Nat → Prop} {σ : St} {a : Act} {w w' : World} (h : SimAt F φ Z σ a w) (hb : Below w.heap.size w w') (hz : ∀ b, Z b → Z' b) : CxLe (cxOf φ Z σ w) (cxOf φ Z' σ w') :=
  ⟨fun b hb' => ⟨hz b hb', hb.block b (h.zlt b hb')⟩, fun r t j e => ⟨t, j, e, Nat.le_refl _, fun _ => rfl⟩⟩

/-- a fresh row -/
theorem alloc_row {F : Fr} {φ : Nat → Value} {Z : Nat → Prop} {σ : St} {a : Act} {w : World} (h : SimAt F φ Z σ a w) {r : Nat} (hr : σ.row r = none) (h0 : r ≠ 0) {t sz n : Nat} {pure box : Bool} {ys : List AV} {us : List Value}
    (hrel : relL (cxOf φ Z σ w) ys us) (h1 : ∀ u, u ∈ us → u.oneCell' = true) (hs : 0 < sz) (hl : ys.length = n * sz) (hn : n ≤ maxLen) (hp : pure = true → pureL ys) :
    ∃ φ', SimAt F φ' Z (σ.rowsUpd [(r, some ⟨t, sz, 0, pure, box, ys⟩)]) a (w.alloc (.cells us.toArray t)) ∧ φ' r = .slice (some ⟨w.heap.size, 0, none⟩) n n ∧
      CxLe (cxOf φ Z σ w) (cxOf φ' Z (σ.rowsUpd [(r, some ⟨t, sz, 0, pure, box, ys⟩)]) (w.alloc (.cells us.toArray t))) := by
  have hb : Below w.heap.size w (w.alloc (.cells us.toArray t)) := (Below.refl _ _).alloc (Nat.le_refl _) _
  have hS := h.grow' hb
  have hc := cxLe_grow h hb (fun _ h => h)
  have hlu := relL_length hrel
  have hrow : RowRel F (cxOf φ Z σ (w.alloc (.cells us.toArray t))) (.slice (some ⟨w.heap.size, 0, none⟩) n n) ⟨t, sz, 0, pure, box, ys⟩ := by
    refine ⟨hs, hp, fun _ => by simp [Value.ownBlock], ?_, n, us, ?_, hl, relL_mono hc _ _ hrel, h1⟩
    · intro g hg
      simp [Value.ownBlock] at hg
      subst hg
      exact .inl h.keep.size
    · have := World.ownsRow_lit (base := 0) (e := t) (size := sz) w us.toArray n (Nat.zero_le _) hn (by simp; omega)
      have this' : (w.alloc (.cells us.toArray t)).ownsRow 0 t sz (.slice (some ⟨w.heap.size, 0, none⟩) n n) n us := by simpa using this
      exact this'
  obtain ⟨h2, h3⟩ := hS.adopt hr h0 hrow (by
    intro g hg
    simp [Value.ownBlock] at hg
    subst hg
    refine ⟨fun hz => by have := h.zlt _ hz; omega, fun s hs' e => ?_⟩
    obtain ⟨row, hrow'⟩ := Option.isSome_iff_exists.1 hs'
    have := (h.rows s row hrow').lt e
    simp [cxOf] at this)
  rw [set_eq_upd] at h2 h3
  exact ⟨_, h2, by simp, ⟨fun b hb' => ⟨(h3.z b (hc.z b hb').1).1, ((h3.z b (hc.z b hb').1).2).trans (hc.z b hb').2⟩, fun s u j e => by
    obtain ⟨u1, j1, e1, e2, e3⟩ := hc.t s u j e
    obtain ⟨u2, j2, e4, e5, e6⟩ := h3.t s u1 j1 e1
    exact ⟨u2, j2, e4, by omega, fun e' => by rw [e6 (by omega), e3 (by omega)]⟩⟩⟩

section
variable {P : Program} {T : List (Nat × TyI)} {nt : Nat} {σ : St} {dst : Option Nat} {ty : Nat} {pos : String} {aft : Array Edge} {gd : Option (Nat × Bool)}

theorem one_vals {l : List ZK} : ∀ u, u ∈ l.map ZK.val → u.oneCell' = true := by
  intro u hu
  obtain ⟨z, _, rfl⟩ := List.mem_map.1 hu
  cases z <;> rfl
theorem does_alloc (hT : TabOk P T) {t r : Nat} {i : TyI} (hd : dstOk nt dst = true) (ht : lkT T t = some i) (hr : σ.row r = none) (h0 : r ≠ 0) (hs : i.zero.length = i.size) (hp : 0 < i.size) :
    Does P nt ⟨dst, .alloc t, ty, pos, aft, gd⟩ ⟨[], [r]⟩ (.ptr r 0 0) [(r, some ⟨t, i.size, 0, true, true, i.zero.map fun z => .v z.val⟩)] σ :=
  does_run hd fun τ hag F φ Z a w hF hS => by
    have hr' : τ.row r = none := by rw [hag.2 r (by simp)]; exact hr
    obtain ⟨inf, d, hk⟩ := hT.known ht
    obtain ⟨z, hz, hzc⟩ := hk.zero
    have e : (i.zero.map fun z => AV.v z.val) = (i.zero.map ZK.val).map AV.v := by simp
    obtain ⟨φ', h1, h2, h3⟩ := alloc_row hS hr' h0 (t := t) (sz := i.size) (n := 1) (pure := true) (box := true) (ys := i.zero.map fun z => .v z.val) (us := i.zero.map ZK.val) (by rw [e]; exact relL_vals _ _) one_vals hp (by simp [hs]) (by simp [maxLen]) (fun _ => by rw [e]; exact pureL_vals _)
    refine ⟨.pointer (some ⟨w.heap.size, 0, none⟩), _, φ', Z, ?_, h1, ?_⟩
    · have : z.cells = (i.zero.map ZK.val).toArray := by rw [← hzc]
      simp [execOp, Instr.alloc, zeroValue, typeInfo, hk.info, hz, newVar, newRow, this]
    · simp only [relV, cxOf, St.rowsUpd, overR]
      simp
      exact ⟨_, _, ⟨rfl, rfl⟩, fun _ => ⟨_, _, h2⟩⟩
theorem does_box {t r : Nat} {x : Operand} {y : AV} {ys : List AV} (hd : dstOk nt dst = true) (hx : σ.ev x = y) (hy : avCells y = some ys) (hc : allCells σ ys = true) (hr : σ.row r = none) (h0 : r ≠ 0) (hp : ys ≠ []) :
    Does P nt ⟨dst, .box t x, ty, pos, aft, gd⟩ ⟨fo x, r :: rowsOf ys⟩ (.ptr r 0 0) [(r, some ⟨t, ys.length, 0, pureBs ys, true, ys⟩)] σ :=
  does_run hd fun τ hag F φ Z a w hF hS => by
    have hr' : τ.row r = none := by rw [hag.2 r (by simp)]; exact hr
    have h2 := ev_rel hag hS hx (by simp)
    have hc' : allCells τ ys = true := by rw [allCells_agree hag (fun r h => by simp [h])]; exact hc
    have h3 := avCells_rel hS h2 hy hc'
    have hl := List.length_pos_iff.2 hp
    obtain ⟨φ', h4, h5, h6⟩ := alloc_row hS hr' h0 (t := t) (sz := ys.length) (n := 1) (pure := pureBs ys) (box := true) h3 (allCells_one hS h3 hc') hl (by simp) (by simp [maxLen]) (fun h => pureL_of_rel h3 h)
    refine ⟨.pointer (some ⟨w.heap.size, 0, none⟩), _, φ', Z, by simp [execOp, Instr.box, newVar, newRow]; rfl, by simpa using h4, ?_⟩
    simp only [relV, cxOf, St.rowsUpd, overR]
    simp
    exact ⟨_, _, ⟨rfl, rfl⟩, fun _ => ⟨_, _, h5⟩⟩

/-! stores -/
theorem grownBy_setRow (w : World) (g : Nat) (cs : Array Value) : w.grownBy (w.setRow g cs) (some g) :=
  ⟨rfl, rfl, rfl, by simp, fun k _ hk => setRow_other w g k _ (fun e => hk (by rw [e]))⟩
theorem relL_setL {cx : Cx} {cs ys : List AV} {xs us : List Value} {o : Nat} (h : relL cx cs xs) (k : relL cx ys us) (ho : o + ys.length ≤ cs.length) : relL cx (setL cs o ys) (xs.take o ++ us ++ xs.drop (o + us.length)) := by
  have h1 := relL_length h
  have h2 := relL_length k
  refine relL_of (by rw [setL_length]; simp; omega) (fun i x u hx hu => ?_)
  rw [setL_get ys cs o i ho] at hx
  by_cases hi : o ≤ i ∧ i < o + ys.length
  · rw [if_pos hi] at hx
    obtain ⟨v, hv, hr⟩ := relL_get k (i - o) x hx
    rw [List.getElem?_append_left (by simp; omega), List.getElem?_append_right (by simp; omega)] at hu
    rw [show i - (List.take o xs).length = i - o by simp; omega, hv] at hu
    cases hu
    exact hr
  · rw [if_neg hi] at hx
    obtain ⟨v, hv, hr⟩ := relL_get h i x hx
    have hil : i < cs.length := (List.getElem?_eq_some_iff.1 hx).1
    by_cases hlt : i < o
    · rw [List.getElem?_append_left (by simp; omega), List.getElem?_append_left (by simp; omega), List.getElem?_take, if_pos hlt, hv] at hu
      cases hu; exact hr
    · rw [List.getElem?_append_right (by simp; omega), List.getElem?_drop] at hu
      rw [show o + us.length + (i - (List.take o xs ++ us).length) = i by simp; omega, hv] at hu
      cases hu; exact hr
theorem does_store (hT : TabOk P T) {t : Nat} {x v : Operand} {i : TyI} {r k off : Nat} {row : Row} {y : AV} {ys : List AV} (hx : σ.ev x = .ptr r k off) (hr : σ.row r = some row) (hv : row.ver = k) (ht : lkT T t = some i)
    (hy : σ.ev v = y) (hys : avCells y = some ys) (hc : allCells σ ys = true) (hsz : ys.length = i.size) (ho : off + ys.length ≤ row.cs.length) :
    Does P nt ⟨none, .store t x v, ty, pos, aft, gd⟩ ⟨fo x ++ fo v, r :: rowsOf ys⟩ .any [(r, some ⟨row.ty, row.sz, row.ver, row.pure && pureBs ys, row.box, setL row.cs off ys⟩)] σ :=
  does_skip rfl fun τ hag F φ Z a w hF hS => by
    have hr' : τ.row r = some row := by rw [hag.2 r (by simp)]; exact hr
    obtain ⟨g, m, c, e1, e2⟩ := ptr_open hS hr' hv (ev_rel hag hS hx (by simp +contextual))
    have h2 := ev_rel hag hS hy (by simp +contextual)
    have hc' : allCells τ ys = true := by rw [allCells_agree hag (fun r h => by simp [h])]; exact hc
    have h3 := avCells_rel hS h2 hys hc'
    have h4 := allCells_one hS h3 hc'
    have hl3 := relL_length h3
    obtain ⟨inf, d, hk⟩ := hT.known ht
    obtain ⟨n, xs, hm⟩ := rowMem hS hr'
    have hlen := hm.len
    have hxs := hm.own.1
    have hrel := hm.rel
    by_cases hne : 0 < row.cs.length
    · obtain ⟨g', cap, cur, e3, hg, h5, h6, h7, h8⟩ := hm.open hne
      rw [e1] at e3
      obtain ⟨hgg, hmn, hcc⟩ : g = g' ∧ n = m ∧ cap = c := by
        simp at e3
        exact ⟨e3.1, e3.2.1.symm, e3.2.2.symm⟩
      subst hgg hmn hcc
      have hcapn : n * row.sz ≤ cap * row.sz := Nat.mul_le_mul_right _ h5
      have hst := run_storeCells_at P g off row.ty (a.eval v).cells.toList 0 cur w hg (by simp at hl3 ⊢; omega) h4
      simp only [Nat.add_zero] at hst
      have hsize : (a.eval v).cells.size = inf.size := by rw [hk.size, ← hsz]; simpa using hl3
      generalize hnew : cur.toList.take off ++ (a.eval v).cells.toList ++ cur.toList.drop (off + (a.eval v).cells.toList.length) = new at hst
      have hob : (φ r).ownBlock = some g := by rw [e1]; rfl
      have htn := hS.turn (r := r) (row := row) (row' := ⟨row.ty, row.sz, row.ver, row.pure && pureBs ys, row.box, setL row.cs off ys⟩) (t' := φ r) (w' := w.setRow g new.toArray) hr' (by rw [hob]; exact grownBy_setRow w g _) (Nat.le_refl _) (fun _ => rfl)
        (fun hcx => by
          have hrr := hS.rows r row hr'
          refine ⟨hrr.sz, ?_, hrr.box, hrr.blk, n, xs.take off ++ (a.eval v).cells.toList ++ xs.drop (off + (a.eval v).cells.toList.length), ?_, ?_, ?_, ?_⟩
          · intro hp
            simp only [Bool.and_eq_true] at hp
            exact pureL_setL off (hrr.pur hp.1) (pureL_of_rel h3 hp.2)
          · refine ⟨by simp at hl3 ⊢; omega, .inr ⟨g, cap, new.toArray, e1, Nat.zero_le _, setRow_heap w g cur _ _ _ hg, h5, h6, ?_, ?_⟩⟩
            · rw [← hnew]; simp at hl3 ⊢; omega
            · rw [← hnew, ← h8]
              simp only [List.append_assoc]
              apply List.ext_getElem?
              intro q
              simp only [List.getElem?_take, List.getElem?_append, List.getElem?_drop, List.length_take, List.length_drop]
              simp at hl3
              simp only [Array.length_toList]
              repeat' split
              all_goals first | rfl | omega | (congr 1; omega) | (rw [List.getElem?_eq_none]; simp; omega) | (symm; rw [List.getElem?_eq_none]; simp; omega)
          · rw [setL_length]; exact hlen
          · exact relL_setL (relL_mono hcx _ _ hrel) (relL_mono hcx _ _ h3) ho
          · intro u hu
            simp only [List.mem_append] at hu
            rcases hu with (hu | hu) | hu
            · exact hm.one u (List.mem_of_mem_take hu)
            · exact h4 u hu
            · exact hm.one u (List.mem_of_mem_drop hu))
        (fun g' h => .inl h) (fun _ => rfl)
      rw [set_eq_upd] at htn
      refine ⟨_, _, Z, ?_, htn.1⟩
      simp [execOp, Instr.storeAt, Instr.sureAddr, e2, storeVar, run_sizeOf_known hk.info, hsize, hst]
    · have h0 : ys.length = 0 := by omega
      have hz : i.size = 0 := by omega
      have hys0 : ys = [] := List.eq_nil_of_length_eq_zero h0
      have hcs0 : row.cs = [] := List.eq_nil_of_length_eq_zero (by omega)
      subst hys0
      have hu0 : (a.eval v).cells.toList = [] := List.eq_nil_of_length_eq_zero (by simpa using hl3)
      have hsize : (a.eval v).cells.size = inf.size := by rw [hk.size, hz]; rw [← Array.length_toList, hu0]; rfl
      refine ⟨w, φ, Z, by simp [execOp, Instr.storeAt, Instr.sureAddr, e2, storeVar, run_sizeOf_known hk.info, hsize, hu0, storeCells], ?_⟩
      have : τ.rowsUpd [(r, some ⟨row.ty, row.sz, row.ver, row.pure && pureBs [], row.box, setL row.cs off []⟩)] = τ := by
        rw [← set_eq_upd]
        simp only [St.set, setL, pureBs, Bool.and_true]
        cases τ with | mk env rw' =>
        simp only at hr'
        congr 1
        funext j
        by_cases e : j = r
        · subst e; rw [if_pos rfl, hr']
        · rw [if_neg e]
      rw [this]
      exact hS
end
end Go.Sym
