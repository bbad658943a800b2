/-
  Steps for the walk on abstract states: rows of ints and of slides, boxes; nothing of the program stands here but its types.
-/
import Derived.Test.YtjdgbdakkdljmaaDoorQ8
import Derived.Test.YtjdgbdakkdljmaaDoorS
set_option linter.unusedVariables false
set_option linter.unusedSimpArgs false
namespace Go.Sym
open Go Go.RowKit Go.Park Go.Proofs.YtjdgbdakkdljmaaDoor

/-! ### rows of ints and of slides -/
def ints (zs : List Int) : List AV := zs.map AV.int
theorem ints_length (zs : List Int) : (ints zs).length = zs.length := by simp [ints]
theorem rd_ints (zs : List Int) (j : Nat) : rd (ints zs) j = .int (gi zs j) := by
  simp only [rd, ints, gi, List.getD_eq_getElem?_getD, List.getElem?_map]
  cases zs[j]? <;> rfl
theorem ints_append (zs ys : List Int) : ints zs ++ ints ys = ints (zs ++ ys) := by simp [ints]
theorem ints_set (zs : List Int) (j : Nat) (z : Int) : (ints zs).set j (.int z) = ints (zs.set j z) := by simp [ints, List.map_set]
theorem ints_take (zs : List Int) (j : Nat) : (ints zs).take j = ints (zs.take j) := by simp [ints, List.map_take]
theorem ints_drop (zs : List Int) (j : Nat) : (ints zs).drop j = ints (zs.drop j) := by simp [ints, List.map_drop]
theorem scal_ints (zs : List Int) : scalL (ints zs) := fun x hx => by
  obtain ⟨z, _, rfl⟩ := List.mem_map.1 hx
  exact ⟨_, rfl⟩
theorem pureL_scal {cs : List AV} (h : scalL cs) : pureL cs := pureL_of fun x hx => by obtain ⟨c, rfl⟩ := h x hx; simp [pureV]
theorem pure_ints (zs : List Int) : pureL (ints zs) := pureL_scal (scal_ints zs)
def slc : List (Int × Int) → List AV
  | [] => []
  | s :: l => .int s.1 :: .int s.2 :: slc l
theorem slc_length (l : List (Int × Int)) : (slc l).length = l.length * 2 := by
  induction l with
  | nil => rfl
  | cons s l ih => simp [slc, ih]; omega
theorem slc_append (l m : List (Int × Int)) : slc l ++ slc m = slc (l ++ m) := by
  induction l with
  | nil => rfl
  | cons s l ih => simp [slc, ih]
theorem rd_slc0 (l : List (Int × Int)) : ∀ j, rd (slc l) (j * 2) = .int (gs l j).1 := by
  induction l with
  | nil => intro j; simp [rd, slc, gs]
  | cons s l ih =>
    intro j
    cases j with
    | zero => simp [rd, slc, gs]
    | succ j =>
      have h := ih j
      rw [show (j + 1) * 2 = j * 2 + 1 + 1 by omega]
      simpa [rd, slc, gs, List.getD] using h
theorem rd_slc1 (l : List (Int × Int)) : ∀ j, rd (slc l) (j * 2 + 1) = .int (gs l j).2 := by
  induction l with
  | nil => intro j; simp [rd, slc, gs]
  | cons s l ih =>
    intro j
    cases j with
    | zero => simp [rd, slc, gs]
    | succ j =>
      have h := ih j
      rw [show (j + 1) * 2 + 1 = j * 2 + 1 + 1 + 1 by omega]
      simpa [rd, slc, gs, List.getD] using h
theorem scal_slc : ∀ l : List (Int × Int), scalL (slc l)
  | [] => fun x hx => by simp [slc] at hx
  | s :: l => fun x hx => by
    simp only [slc, List.mem_cons] at hx
    rcases hx with rfl | rfl | hx
    · exact ⟨_, rfl⟩
    · exact ⟨_, rfl⟩
    · exact scal_slc l x hx
theorem pure_slc (l : List (Int × Int)) : pureL (slc l) := pureL_scal (scal_slc l)
abbrev intsV (zs : List Int) : AV := .sl 3 1 (ints zs)
abbrev slcV (l : List (Int × Int)) : AV := .sl 40 2 (slc l)
abbrev hallV (h : PHall) : AV := .agg [.int h.wide, .int h.deep, .sl 3 1 (ints h.cells)]

/-! ### the state of a walk -/
structure Hp where
  n : Nat
  l : List (Nat × Option Row)
def mkS (E : List (Nat × AV)) (H : Hp) : St := mkSt E H.l
def Want (ops : Array Oper) (o : Oper) (E : List (Nat × AV)) (Rg : List Nat) : Prop :=
  (o.guard = none ∧ Rg = []) ∨ ∃ g b d, o.guard = some (g, b) ∧ (ops[g]?).bind (·.dst) = some d ∧ lkE E d = .bool b ∧ Rg = [d]
/-- the run of a region's operations, with the next number of a row -/
structure RunsH (P : Program) (nt : Nat) (ops : Array Oper) (os : List Oper) (fs : List Fp) (E : List (Nat × AV)) (H : Hp) (K : List Fp → St → Prop) : Prop where
  out : Runs P nt ops os fs E H.l fun fs E l => ∃ n, K fs (mkS E ⟨n, l⟩)
section
variable {P : Program} {nt : Nat} {ops : Array Oper} {o : Oper} {os : List Oper} {fs : List Fp} {E : List (Nat × AV)} {H : Hp} {K : List Fp → St → Prop} {R : Foot} {x : AV} {rs : List (Nat × Option Row)} {Rg : List Nat}
theorem rh_nil (h : K fs (mkS E H)) : RunsH P nt ops [] fs E H K := ⟨⟨H.n, h⟩⟩
theorem rh_of (n : Nat) (h : Does P nt o R x rs (mkS E H)) (hw : Want ops o E Rg) (k : RunsH P nt ops os (fs ++ [⟨Rg ++ R.e, R.r, o.dst.toList, rs.map (·.1)⟩]) (pushE o.dst x E) ⟨n, rs ++ H.l⟩ K) : RunsH P nt ops (o :: os) fs E H K := by
  rcases hw with ⟨h1, rfl⟩ | ⟨g, b, d, h1, h2, h3, rfl⟩
  · exact ⟨runs_do h1 h k.out⟩
  · exact ⟨runs_yes h1 h2 h3 h k.out⟩
/-- nothing of memory turns -/
theorem rh0 {d : Nat} {op : Op} {ty : Nat} {pos : String} {aft : Array Edge} {gd : Option (Nat × Bool)} (h : Does P nt ⟨some d, op, ty, pos, aft, gd⟩ R x [] (mkS E H)) (hw : Want ops ⟨some d, op, ty, pos, aft, gd⟩ E Rg) (k : RunsH P nt ops os (fs ++ [⟨Rg ++ R.e, R.r, [d], []⟩]) ((d, x) :: E) H K) : RunsH P nt ops (⟨some d, op, ty, pos, aft, gd⟩ :: os) fs E H K :=
  rh_of H.n h hw k
/-- one row turns, or is laid down -/
theorem rh1 {d : Nat} {op : Op} {ty : Nat} {pos : String} {aft : Array Edge} {gd : Option (Nat × Bool)} {r n : Nat} {row : Option Row} {l : List (Nat × Option Row)} (h : Does P nt ⟨some d, op, ty, pos, aft, gd⟩ R x [(r, row)] (mkS E ⟨n, l⟩)) (hw : Want ops ⟨some d, op, ty, pos, aft, gd⟩ E Rg) (k : RunsH P nt ops os (fs ++ [⟨Rg ++ R.e, R.r, [d], [r]⟩]) ((d, x) :: E) ⟨n + 1, (r, row) :: l⟩ K) : RunsH P nt ops (⟨some d, op, ty, pos, aft, gd⟩ :: os) fs E ⟨n, l⟩ K :=
  rh_of (n + 1) h hw k
/-- a store -/
theorem rhs {op : Op} {ty : Nat} {pos : String} {aft : Array Edge} {gd : Option (Nat × Bool)} {r n : Nat} {row : Option Row} {l : List (Nat × Option Row)} (h : Does P nt ⟨none, op, ty, pos, aft, gd⟩ R x [(r, row)] (mkS E ⟨n, l⟩)) (hw : Want ops ⟨none, op, ty, pos, aft, gd⟩ E Rg) (k : RunsH P nt ops os (fs ++ [⟨Rg ++ R.e, R.r, [], [r]⟩]) E ⟨n, (r, row) :: l⟩ K) : RunsH P nt ops (⟨none, op, ty, pos, aft, gd⟩ :: os) fs E ⟨n, l⟩ K :=
  rh_of n h hw k
theorem rh_no {d' : Nat} {op : Op} {ty : Nat} {pos : String} {aft : Array Edge} {g d : Nat} {b c : Bool} (hd : (ops[g]?).bind (·.dst) = some d) (hv : lkE E d = .bool c) (hbc : c = !b) (hdo : dstOk nt (some d') = true) (k : RunsH P nt ops os (fs ++ [⟨[d], [], [d'], []⟩]) ((d', .v undef) :: E) H K) : RunsH P nt ops (⟨some d', op, ty, pos, aft, some (g, b)⟩ :: os) fs E H K :=
  ⟨runs_no rfl hd hv hbc hdo k.out⟩
theorem rh_un {d' : Nat} {op : Op} {ty : Nat} {pos : String} {aft : Array Edge} {g d : Nat} {b : Bool} (hd : (ops[g]?).bind (·.dst) = some d) (hv : lkE E d = .v undef) (hdo : dstOk nt (some d') = true) (k : RunsH P nt ops os (fs ++ [⟨[d], [], [d'], []⟩]) ((d', .v undef) :: E) H K) : RunsH P nt ops (⟨some d', op, ty, pos, aft, some (g, b)⟩ :: os) fs E H K :=
  ⟨runs_un rfl hd hv hdo k.out⟩
theorem lkE_push {E : List (Nat × AV)} {d : Nat} {x : AV} (h : lkE E d = x) : lkE ((d, x) :: E) = lkE E := by
  funext t
  simp only [lkE]
  cases hb : Nat.beq d t
  · rfl
  · have := Nat.eq_of_beq_eq_true hb
    subst this
    exact h.symm
theorem runs_env {K : List Fp → List (Nat × AV) → List (Nat × Option Row) → Prop} (hK : ∀ fs E E' l, lkE E' = lkE E → K fs E' l → K fs E l) : ∀ (os : List Oper) (fs : List Fp) (E E' : List (Nat × AV)) (l : List (Nat × Option Row)), lkE E' = lkE E → Runs P nt ops os fs E' l K → Runs P nt ops os fs E l K
  | [], fs, E, E', l, he, h => hK fs E E' l he h
  | o :: os, fs, E, E', l, he, h => by
    obtain ⟨R, x, rs, h1, h2⟩ := h
    refine ⟨R, x, rs, ?_, runs_env hK os _ _ _ _ ?_ h2⟩
    · have : mkSt E' l = mkSt E l := by simp only [mkSt, he]
      rwa [this] at h1
    · cases o.dst with
      | none => exact he
      | some d => funext t; simp only [pushE, lkE, he]
/-- a test's two ways -/
theorem rh_split {op : Op} {dst : Option Nat} {ty : Nat} {pos : String} {aft : Array Edge} {g d : Nat} {b c : Bool} (hd : (ops[g]?).bind (·.dst) = some d) (hv : lkE E d = .bool c) (h1 : c = true → RunsH P nt ops (⟨dst, op, ty, pos, aft, some (g, b)⟩ :: os) fs ((d, .bool true) :: E) H K) (h2 : c = false → RunsH P nt ops (⟨dst, op, ty, pos, aft, some (g, b)⟩ :: os) fs ((d, .bool false) :: E) H K) :
    RunsH P nt ops (⟨dst, op, ty, pos, aft, some (g, b)⟩ :: os) fs E H K := by
  have hK : ∀ fs E E' l, lkE E' = lkE E → (∃ n, K fs (mkS E' ⟨n, l⟩)) → ∃ n, K fs (mkS E ⟨n, l⟩) := fun fs E E' l he ⟨n, h⟩ => ⟨n, by
    have : mkS E' ⟨n, l⟩ = mkS E ⟨n, l⟩ := by simp only [mkS, mkSt, he]
    rwa [this] at h⟩
  cases c with
  | true => exact ⟨runs_env hK _ _ _ _ _ (lkE_push hv) (h1 rfl).out⟩
  | false => exact ⟨runs_env hK _ _ _ _ _ (lkE_push hv) (h2 rfl).out⟩
end
section
variable {P : Program} {nt : Nat} {Φ : Exit → St → Prop} {K : St → Prop}
theorem rg_text {id : Nat} {os : List Oper} {E : List (Nat × AV)} {H : Hp} (h : RunsH P nt os.toArray os [] E H (fun _ σ => Φ .normal σ)) : AX P nt (.region id os.toArray false) (mkS E H) Φ := by
  refine ax_text ?_
  have e : (fun (_ : List Fp) E l => ∃ n, Φ .normal (mkS E ⟨n, l⟩)) = fun (_ : List Fp) E l => Φ .normal (mkSt E l) := by
    funext fs E l
    simp [mkS]
  replace h := h.out
  rw [e] at h
  exact h
theorem rg_any {id : Nat} {os : List Oper} {E : List (Nat × AV)} {H : Hp} (hm : P.follows .mixedOrders = true) (h : RunsH P nt os.toArray os [] E H (fun fs σ => chk os fs = true ∧ Φ .normal σ)) : AX P nt (.region id os.toArray true) (mkS E H) Φ := by
  refine ax_any hm ?_
  have e : (fun (fs : List Fp) E l => ∃ n, chk os fs = true ∧ Φ .normal (mkS E ⟨n, l⟩)) = fun (fs : List Fp) E l => chk os fs = true ∧ Φ .normal (mkSt E l) := by
    funext fs E l
    simp [mkS]
  replace h := h.out
  rw [e] at h
  exact h
theorem thenS_normal {σ : St} (h : K σ) : thenS K Φ .normal σ := ⟨h⟩
end

/-! ### steps -/
section
variable {P : Program} {T : List (Nat × TyI)} {nt : Nat} {E : List (Nat × AV)} {H : Hp} {dst : Option Nat} {ty : Nat} {pos : String} {aft : Array Edge} {gd : Option (Nat × Bool)}
theorem st_move {x : Operand} {y : AV} (hd : dstOk nt dst = true) (hx : (mkS E H).ev x = y) : Does P nt ⟨dst, .move x, ty, pos, aft, gd⟩ ⟨fo x, []⟩ y [] (mkS E H) := hx ▸ does_move hd
theorem st_assign {x : Operand} {y : AV} (hd : dstOk nt dst = true) (hx : (mkS E H).ev x = y) : Does P nt ⟨dst, .assign x, ty, pos, aft, gd⟩ ⟨fo x, []⟩ y [] (mkS E H) := hx ▸ does_assign hd
theorem st_pick_t {c x y : Operand} {z : AV} (hd : dstOk nt dst = true) (hc : (mkS E H).ev c = .bool true) (hx : (mkS E H).ev x = z) : Does P nt ⟨dst, .pick c x y, ty, pos, aft, gd⟩ ⟨fo c ++ (fo x ++ fo y), []⟩ z [] (mkS E H) := by
  have := does_pick (P := P) (ty := ty) (pos := pos) (aft := aft) (gd := gd) (y := y) (x := x) hd hc
  rw [hx] at this; exact this
theorem st_pick_f {c x y : Operand} {z : AV} (hd : dstOk nt dst = true) (hc : (mkS E H).ev c = .bool false) (hx : (mkS E H).ev y = z) : Does P nt ⟨dst, .pick c x y, ty, pos, aft, gd⟩ ⟨fo c ++ (fo x ++ fo y), []⟩ z [] (mkS E H) := by
  have := does_pick (P := P) (ty := ty) (pos := pos) (aft := aft) (gd := gd) (y := y) (x := x) hd hc
  rw [hx] at this; exact this
theorem i64_ok {z : Int} (h : -9223372036854775808 ≤ z ∧ z ≤ 9223372036854775807) : IntKind.i64.wrap z = z := IntWalk.i64_in _ (by omega)
theorem st_add {t t' : Nat} {x y : Operand} {i j z : Int} (hd : dstOk nt dst = true) (hx : (mkS E H).ev x = .int i) (hy : (mkS E H).ev y = .int j) (hz : i + j = z) (hb : -9223372036854775808 ≤ z ∧ z ≤ 9223372036854775807) :
    Does P nt ⟨dst, .binOp .add t x y t', ty, pos, aft, gd⟩ ⟨fo x ++ fo y, []⟩ (.int z) [] (mkS E H) := by
  subst hz; exact does_add hd hx hy (i64_ok hb)
theorem st_sub {t t' : Nat} {x y : Operand} {i j z : Int} (hd : dstOk nt dst = true) (hx : (mkS E H).ev x = .int i) (hy : (mkS E H).ev y = .int j) (hz : i - j = z) (hb : -9223372036854775808 ≤ z ∧ z ≤ 9223372036854775807) :
    Does P nt ⟨dst, .binOp .sub t x y t', ty, pos, aft, gd⟩ ⟨fo x ++ fo y, []⟩ (.int z) [] (mkS E H) := by
  subst hz; exact does_sub hd hx hy (i64_ok hb)
theorem st_mul {t t' : Nat} {x y : Operand} {i j z : Int} (hd : dstOk nt dst = true) (hx : (mkS E H).ev x = .int i) (hy : (mkS E H).ev y = .int j) (hz : i * j = z) (hb : -9223372036854775808 ≤ z ∧ z ≤ 9223372036854775807) :
    Does P nt ⟨dst, .binOp .mul t x y t', ty, pos, aft, gd⟩ ⟨fo x ++ fo y, []⟩ (.int z) [] (mkS E H) := by
  subst hz; exact does_mul hd hx hy (i64_ok hb)

/-! indexes: an own row, of ints | of slides; still memory -/
theorem st_ix_own (hT : TabOk P T) {t e o : Nat} {x y : Operand} {i j : TyI} {r k : Nat} {row : Row} {z : Int} {zs : List Int} (hd : dstOk nt dst = true) (hx : (mkS E H).ev x = .own r k) (hr : (mkS E H).row r = some row) (hc : row.cs = ints zs) (hv : row.ver = k) (hy : (mkS E H).ev y = .int z)
    (ht : lkT T t = some i) (hu : i.u = .slice e) (he : lkT T e = some j) (hs : row.sz = 1) (hs' : j.size = 1) (ho : z.toNat = o) (h0 : 0 ≤ z ∧ o < zs.length) :
    Does P nt ⟨dst, .indexAddr t x y, ty, pos, aft, gd⟩ ⟨fo x ++ fo y, [r]⟩ (.ptr r k o) [] (mkS E H) := by
  have := does_index_own (P := P) (ty := ty) (pos := pos) (aft := aft) (gd := gd) hT hd hx hy hr hv ht hu he (by rw [hs, hs']) h0.1 (by rw [hs', hc, ints_length]; omega)
  rw [hs', Nat.mul_one, ho] at this; exact this
theorem st_ix_own_s (hT : TabOk P T) {t e o : Nat} {x y : Operand} {i j : TyI} {r k : Nat} {row : Row} {z : Int} {l : List (Int × Int)} (hd : dstOk nt dst = true) (hx : (mkS E H).ev x = .own r k) (hr : (mkS E H).row r = some row) (hc : row.cs = slc l) (hv : row.ver = k) (hy : (mkS E H).ev y = .int z)
    (ht : lkT T t = some i) (hu : i.u = .slice e) (he : lkT T e = some j) (hs : row.sz = 2) (hs' : j.size = 2) (ho : z.toNat = o) (h0 : 0 ≤ z ∧ o < l.length) :
    Does P nt ⟨dst, .indexAddr t x y, ty, pos, aft, gd⟩ ⟨fo x ++ fo y, [r]⟩ (.ptr r k (o * 2)) [] (mkS E H) := by
  have := does_index_own (P := P) (ty := ty) (pos := pos) (aft := aft) (gd := gd) hT hd hx hy hr hv ht hu he (by rw [hs, hs']) h0.1 (by rw [hs', hc, slc_length]; omega)
  rw [hs', ho] at this; exact this
theorem st_ix_sl (hT : TabOk P T) {t e o : Nat} {x y : Operand} {i j : TyI} {ty' sz : Nat} {z : Int} {zs : List Int} (hd : dstOk nt dst = true) (hx : (mkS E H).ev x = .sl ty' sz (ints zs)) (hy : (mkS E H).ev y = .int z)
    (ht : lkT T t = some i) (hu : i.u = .slice e) (he : lkT T e = some j) (hs : sz = 1) (hs' : j.size = 1) (ho : z.toNat = o) (h0 : 0 ≤ z ∧ o < zs.length) :
    Does P nt ⟨dst, .indexAddr t x y, ty, pos, aft, gd⟩ ⟨fo x ++ fo y, []⟩ (.ip (ints zs) o) [] (mkS E H) := by
  have := does_index_sl (P := P) (ty := ty) (pos := pos) (aft := aft) (gd := gd) hT hd hx hy ht hu he (by rw [hs, hs']) h0.1 (by rw [hs', ints_length]; omega)
  rw [hs', Nat.mul_one, ho] at this; exact this
theorem st_ix_sl_s (hT : TabOk P T) {t e o : Nat} {x y : Operand} {i j : TyI} {ty' sz : Nat} {z : Int} {l : List (Int × Int)} (hd : dstOk nt dst = true) (hx : (mkS E H).ev x = .sl ty' sz (slc l)) (hy : (mkS E H).ev y = .int z)
    (ht : lkT T t = some i) (hu : i.u = .slice e) (he : lkT T e = some j) (hs : sz = 2) (hs' : j.size = 2) (ho : z.toNat = o) (h0 : 0 ≤ z ∧ o < l.length) :
    Does P nt ⟨dst, .indexAddr t x y, ty, pos, aft, gd⟩ ⟨fo x ++ fo y, []⟩ (.ip (slc l) (o * 2)) [] (mkS E H) := by
  have := does_index_sl (P := P) (ty := ty) (pos := pos) (aft := aft) (gd := gd) hT hd hx hy ht hu he (by rw [hs, hs']) h0.1 (by rw [hs', slc_length]; omega)
  rw [hs', ho] at this; exact this

/-! loads -/
theorem st_ld_ints (hT : TabOk P T) {t : Nat} {x : Operand} {i : TyI} {r k o : Nat} {row : Row} {zs : List Int} (hd : dstOk nt dst = true) (hx : (mkS E H).ev x = .ptr r k o) (hr : (mkS E H).row r = some row) (hc : row.cs = ints zs) (hv : row.ver = k) (ht : lkT T t = some i) (hg : i.agg = false) (ho : o < zs.length) :
    Does P nt ⟨dst, .load t x, ty, pos, aft, gd⟩ ⟨fo x, [r]⟩ (.int (gi zs o)) [] (mkS E H) := by
  have := does_load (P := P) (ty := ty) (pos := pos) (aft := aft) (gd := gd) hT hd hx hr hv ht hg (by rw [hc, ints_length]; exact ho)
  rw [hc, rd_ints] at this; exact this
theorem st_ld_slc (hT : TabOk P T) {t : Nat} {x : Operand} {i : TyI} {r k o : Nat} {row : Row} {l : List (Int × Int)} (hd : dstOk nt dst = true) (hx : (mkS E H).ev x = .ptr r k (o * 2)) (hr : (mkS E H).row r = some row) (hc : row.cs = slc l) (hv : row.ver = k) (ht : lkT T t = some i) (hg : i.agg = true) (hs : i.size = 2) (ho : o < l.length) :
    Does P nt ⟨dst, .load t x, ty, pos, aft, gd⟩ ⟨fo x, [r]⟩ (.agg [.int (gs l o).1, .int (gs l o).2]) [] (mkS E H) := by
  have := does_load_agg (P := P) (ty := ty) (pos := pos) (aft := aft) (gd := gd) hT hd hx hr hv ht hg (by rw [hc, hs, slc_length]; omega)
  rw [hc, hs] at this
  simp only [rds, rd_slc0, rd_slc1] at this; exact this
theorem st_ld_ip (hT : TabOk P T) {t : Nat} {x : Operand} {i : TyI} {o : Nat} {zs : List Int} (hd : dstOk nt dst = true) (hx : (mkS E H).ev x = .ip (ints zs) o) (ht : lkT T t = some i) (hg : i.agg = false) (ho : o < zs.length) :
    Does P nt ⟨dst, .load t x, ty, pos, aft, gd⟩ ⟨fo x, []⟩ (.int (gi zs o)) [] (mkS E H) := by
  have := does_load_ip (P := P) (ty := ty) (pos := pos) (aft := aft) (gd := gd) hT hd hx ht hg (by rw [ints_length]; exact ho)
  rw [rd_ints] at this; exact this
theorem st_ld_ip_s (hT : TabOk P T) {t : Nat} {x : Operand} {i : TyI} {o : Nat} {l : List (Int × Int)} (hd : dstOk nt dst = true) (hx : (mkS E H).ev x = .ip (slc l) (o * 2)) (ht : lkT T t = some i) (hg : i.agg = true) (hs : i.size = 2) (ho : o < l.length) :
    Does P nt ⟨dst, .load t x, ty, pos, aft, gd⟩ ⟨fo x, []⟩ (.agg [.int (gs l o).1, .int (gs l o).2]) [] (mkS E H) := by
  have := does_load_agg_ip (P := P) (ty := ty) (pos := pos) (aft := aft) (gd := gd) hT hd hx ht hg (by rw [hs, slc_length]; omega)
  rw [hs] at this
  simp only [rds, rd_slc0, rd_slc1] at this; exact this
theorem st_ld0 (hT : TabOk P T) {t : Nat} {x : Operand} {i : TyI} {r k : Nat} {row : Row} {y : AV} {ys : List AV} (hd : dstOk nt dst = true) (hx : (mkS E H).ev x = .ptr r k 0) (hr : (mkS E H).row r = some row) (hc : row.cs = y :: ys) (hv : row.ver = k) (ht : lkT T t = some i) (hg : i.agg = false) :
    Does P nt ⟨dst, .load t x, ty, pos, aft, gd⟩ ⟨fo x, [r]⟩ y [] (mkS E H) := by
  have := does_load (P := P) (ty := ty) (pos := pos) (aft := aft) (gd := gd) hT hd hx hr hv ht hg (by rw [hc]; simp)
  rw [hc] at this; exact this
theorem st_ld1 (hT : TabOk P T) {t : Nat} {x : Operand} {i : TyI} {r k : Nat} {row : Row} {y0 y : AV} {ys : List AV} (hd : dstOk nt dst = true) (hx : (mkS E H).ev x = .ptr r k 1) (hr : (mkS E H).row r = some row) (hc : row.cs = y0 :: y :: ys) (hv : row.ver = k) (ht : lkT T t = some i) (hg : i.agg = false) :
    Does P nt ⟨dst, .load t x, ty, pos, aft, gd⟩ ⟨fo x, [r]⟩ y [] (mkS E H) := by
  have := does_load (P := P) (ty := ty) (pos := pos) (aft := aft) (gd := gd) hT hd hx hr hv ht hg (by rw [hc]; simp)
  rw [hc] at this; exact this
theorem st_ld2 (hT : TabOk P T) {t : Nat} {x : Operand} {i : TyI} {r k : Nat} {row : Row} {y0 y1 y : AV} {ys : List AV} (hd : dstOk nt dst = true) (hx : (mkS E H).ev x = .ptr r k 2) (hr : (mkS E H).row r = some row) (hc : row.cs = y0 :: y1 :: y :: ys) (hv : row.ver = k) (ht : lkT T t = some i) (hg : i.agg = false) :
    Does P nt ⟨dst, .load t x, ty, pos, aft, gd⟩ ⟨fo x, [r]⟩ y [] (mkS E H) := by
  have := does_load (P := P) (ty := ty) (pos := pos) (aft := aft) (gd := gd) hT hd hx hr hv ht hg (by rw [hc]; simp)
  rw [hc] at this; exact this
theorem st_ld_a3 (hT : TabOk P T) {t : Nat} {x : Operand} {i : TyI} {r k : Nat} {row : Row} {y0 y1 y2 : AV} (hd : dstOk nt dst = true) (hx : (mkS E H).ev x = .ptr r k 0) (hr : (mkS E H).row r = some row) (hc : row.cs = [y0, y1, y2]) (hv : row.ver = k) (ht : lkT T t = some i) (hg : i.agg = true) (hs : i.size = 3) :
    Does P nt ⟨dst, .load t x, ty, pos, aft, gd⟩ ⟨fo x, [r]⟩ (.agg [y0, y1, y2]) [] (mkS E H) := by
  have := does_load_agg (P := P) (ty := ty) (pos := pos) (aft := aft) (gd := gd) hT hd hx hr hv ht hg (by rw [hc, hs]; simp)
  rw [hc, hs] at this; exact this
theorem st_ld_a2 (hT : TabOk P T) {t : Nat} {x : Operand} {i : TyI} {r k : Nat} {row : Row} {y0 y1 : AV} (hd : dstOk nt dst = true) (hx : (mkS E H).ev x = .ptr r k 0) (hr : (mkS E H).row r = some row) (hc : row.cs = [y0, y1]) (hv : row.ver = k) (ht : lkT T t = some i) (hg : i.agg = true) (hs : i.size = 2) :
    Does P nt ⟨dst, .load t x, ty, pos, aft, gd⟩ ⟨fo x, [r]⟩ (.agg [y0, y1]) [] (mkS E H) := by
  have := does_load_agg (P := P) (ty := ty) (pos := pos) (aft := aft) (gd := gd) hT hd hx hr hv ht hg (by rw [hc, hs]; simp)
  rw [hc, hs] at this; exact this

/-! stores -/
theorem st_st_ints (hT : TabOk P T) {t : Nat} {x v : Operand} {i : TyI} {r k o : Nat} {row : Row} {z : Int} {zs : List Int} (hx : (mkS E H).ev x = .ptr r k o) (hr : (mkS E H).row r = some row) (hc : row.cs = ints zs) (hv : row.ver = k) (ht : lkT T t = some i) (hs : i.size = 1) (hp : row.pure = true)
    (hy : (mkS E H).ev v = .int z) (ho : o < zs.length) : Does P nt ⟨none, .store t x v, ty, pos, aft, gd⟩ ⟨fo x ++ fo v, [r]⟩ .any [(r, some ⟨row.ty, row.sz, row.ver, true, row.box, ints (zs.set o z)⟩)] (mkS E H) := by
  have := does_store (P := P) (nt := nt) (ty := ty) (pos := pos) (aft := aft) (gd := gd) hT hx hr hv ht hy (ys := [.int z]) rfl rfl hs.symm (by rw [hc, ints_length]; simp; omega)
  rw [hc] at this
  simp only [setL, ints_set, hp, pureBs, pureB, Bool.and_true, rowsOf, rowOf, List.append_nil] at this
  exact this
theorem st_st_all (hT : TabOk P T) {t : Nat} {x v : Operand} {i : TyI} {r k : Nat} {row : Row} {y : AV} {ys : List AV} {pu : Bool} {us : List Nat} (hx : (mkS E H).ev x = .ptr r k 0) (hr : (mkS E H).row r = some row) (hv : row.ver = k) (ht : lkT T t = some i) 
    (hy : (mkS E H).ev v = y) (hys : avCells y = some ys) (hc : allCells (mkS E H) ys = true) (hs : ys.length = i.size) (hl : row.cs.length = ys.length) (hp : (row.pure && pureBs ys) = pu) (hu : rowsOf ys = us) :
    Does P nt ⟨none, .store t x v, ty, pos, aft, gd⟩ ⟨fo x ++ fo v, r :: us⟩ .any [(r, some ⟨row.ty, row.sz, row.ver, pu, row.box, ys⟩)] (mkS E H) := by
  have := does_store (P := P) (nt := nt) (ty := ty) (pos := pos) (aft := aft) (gd := gd) hT hx hr hv ht hy hys hc hs (by rw [hl]; simp)
  rw [hp, hu] at this
  have e : setL row.cs 0 ys = ys := by
    apply List.ext_getElem?
    intro q
    rw [setL_get ys row.cs 0 q (by omega)]
    by_cases hq : q < ys.length
    · rw [if_pos (by omega)]; simp
    · rw [if_neg (by omega), List.getElem?_eq_none (by omega), List.getElem?_eq_none (by omega)]
  rw [e] at this
  exact this
theorem st_st0 (hT : TabOk P T) {t : Nat} {x v : Operand} {i : TyI} {r k : Nat} {row : Row} {y y0 : AV} {ys : List AV} {pu : Bool} (hx : (mkS E H).ev x = .ptr r k 0) (hr : (mkS E H).row r = some row) (hcs : row.cs = y0 :: ys) (hv : row.ver = k) (ht : lkT T t = some i) (hs : i.size = 1)
    (hy : (mkS E H).ev v = y) (hys : avCells y = some [y]) (hc : allCells (mkS E H) [y] = true) (hp : (row.pure && pureBs [y]) = pu) :
    Does P nt ⟨none, .store t x v, ty, pos, aft, gd⟩ ⟨fo x ++ fo v, r :: rowsOf [y]⟩ .any [(r, some ⟨row.ty, row.sz, row.ver, pu, row.box, y :: ys⟩)] (mkS E H) := by
  have := does_store (P := P) (nt := nt) (ty := ty) (pos := pos) (aft := aft) (gd := gd) hT hx hr hv ht hy hys hc hs.symm (by rw [hcs]; simp)
  rw [hp, hcs] at this
  exact this
theorem st_st1 (hT : TabOk P T) {t : Nat} {x v : Operand} {i : TyI} {r k : Nat} {row : Row} {y y0 y1 : AV} {ys : List AV} {pu : Bool} (hx : (mkS E H).ev x = .ptr r k 1) (hr : (mkS E H).row r = some row) (hcs : row.cs = y0 :: y1 :: ys) (hv : row.ver = k) (ht : lkT T t = some i) (hs : i.size = 1)
    (hy : (mkS E H).ev v = y) (hys : avCells y = some [y]) (hc : allCells (mkS E H) [y] = true) (hp : (row.pure && pureBs [y]) = pu) :
    Does P nt ⟨none, .store t x v, ty, pos, aft, gd⟩ ⟨fo x ++ fo v, r :: rowsOf [y]⟩ .any [(r, some ⟨row.ty, row.sz, row.ver, pu, row.box, y0 :: y :: ys⟩)] (mkS E H) := by
  have := does_store (P := P) (nt := nt) (ty := ty) (pos := pos) (aft := aft) (gd := gd) hT hx hr hv ht hy hys hc hs.symm (by rw [hcs]; simp)
  rw [hp, hcs] at this
  exact this
theorem st_st2 (hT : TabOk P T) {t : Nat} {x v : Operand} {i : TyI} {r k : Nat} {row : Row} {y y0 y1 y2 : AV} {ys : List AV} {pu : Bool} (hx : (mkS E H).ev x = .ptr r k 2) (hr : (mkS E H).row r = some row) (hcs : row.cs = y0 :: y1 :: y2 :: ys) (hv : row.ver = k) (ht : lkT T t = some i) (hs : i.size = 1)
    (hy : (mkS E H).ev v = y) (hys : avCells y = some [y]) (hc : allCells (mkS E H) [y] = true) (hp : (row.pure && pureBs [y]) = pu) :
    Does P nt ⟨none, .store t x v, ty, pos, aft, gd⟩ ⟨fo x ++ fo v, r :: rowsOf [y]⟩ .any [(r, some ⟨row.ty, row.sz, row.ver, pu, row.box, y0 :: y1 :: y :: ys⟩)] (mkS E H) := by
  have := does_store (P := P) (nt := nt) (ty := ty) (pos := pos) (aft := aft) (gd := gd) hT hx hr hv ht hy hys hc hs.symm (by rw [hcs]; simp)
  rw [hp, hcs] at this
  exact this

/-! lengths -/
theorem st_len_own (hT : TabOk P T) {t e : Nat} {x : Operand} {i : TyI} {r k : Nat} {row : Row} {zs : List Int} (hd : dstOk nt dst = true) (hx : (mkS E H).ev x = .own r k) (hr : (mkS E H).row r = some row) (hc : row.cs = ints zs) (hv : row.ver = k) (hs : row.sz = 1) (ht : lkT T t = some i) (hu : i.u = .slice e) :
    Does P nt ⟨dst, .call ⟨.builtin .len, #[x], #[t]⟩, ty, pos, aft, gd⟩ ⟨fo x, [r]⟩ (.int (zs.length : Int)) [] (mkS E H) := by
  have := does_len_own (P := P) (ty := ty) (pos := pos) (aft := aft) (gd := gd) hT hd hx hr hv ht hu
  rw [hc, hs, ints_length, Nat.div_one] at this; exact this
theorem st_len_own_s (hT : TabOk P T) {t e : Nat} {x : Operand} {i : TyI} {r k : Nat} {row : Row} {l : List (Int × Int)} (hd : dstOk nt dst = true) (hx : (mkS E H).ev x = .own r k) (hr : (mkS E H).row r = some row) (hc : row.cs = slc l) (hv : row.ver = k) (hs : row.sz = 2) (ht : lkT T t = some i) (hu : i.u = .slice e) :
    Does P nt ⟨dst, .call ⟨.builtin .len, #[x], #[t]⟩, ty, pos, aft, gd⟩ ⟨fo x, [r]⟩ (.int (l.length : Int)) [] (mkS E H) := by
  have := does_len_own (P := P) (ty := ty) (pos := pos) (aft := aft) (gd := gd) hT hd hx hr hv ht hu
  rw [hc, hs, slc_length, Nat.mul_div_cancel _ (by omega)] at this; exact this
theorem st_len_sl (hT : TabOk P T) {t e : Nat} {x : Operand} {i : TyI} {ty' sz : Nat} {zs : List Int} (hd : dstOk nt dst = true) (hx : (mkS E H).ev x = .sl ty' sz (ints zs)) (hs : sz = 1) (ht : lkT T t = some i) (hu : i.u = .slice e) :
    Does P nt ⟨dst, .call ⟨.builtin .len, #[x], #[t]⟩, ty, pos, aft, gd⟩ ⟨fo x, []⟩ (.int (zs.length : Int)) [] (mkS E H) := by
  have := does_len_sl (P := P) (ty := ty) (pos := pos) (aft := aft) (gd := gd) hT hd hx ht hu
  rw [hs, ints_length, Nat.div_one] at this; exact this
theorem st_len_sl_s (hT : TabOk P T) {t e : Nat} {x : Operand} {i : TyI} {ty' sz : Nat} {l : List (Int × Int)} (hd : dstOk nt dst = true) (hx : (mkS E H).ev x = .sl ty' sz (slc l)) (hs : sz = 2) (ht : lkT T t = some i) (hu : i.u = .slice e) :
    Does P nt ⟨dst, .call ⟨.builtin .len, #[x], #[t]⟩, ty, pos, aft, gd⟩ ⟨fo x, []⟩ (.int (l.length : Int)) [] (mkS E H) := by
  have := does_len_sl (P := P) (ty := ty) (pos := pos) (aft := aft) (gd := gd) hT hd hx ht hu
  rw [hs, slc_length, Nat.mul_div_cancel _ (by omega)] at this; exact this

/-! literals and append: the row's number is the state's next one -/
theorem st_lit0 (hT : TabOk P T) {t e n : Nat} {l : List (Nat × Option Row)} {i j : TyI} (hd : dstOk nt dst = true) (ht : lkT T t = some i) (hu : i.u = .slice e) (he : lkT T e = some j) (hs : j.size = 1) (hr : (mkS E ⟨n, l⟩).row n = none) (h0 : Nat.beq n 0 = false) :
    Does P nt ⟨dst, .buildSlice t 0 #[], ty, pos, aft, gd⟩ ⟨[], [n]⟩ (.own n 0) [(n, some ⟨e, 1, 0, true, false, ints []⟩)] (mkS E ⟨n, l⟩) := by
  have := does_buildSlice0 (P := P) (ty := ty) (pos := pos) (aft := aft) (gd := gd) hT hd ht hu he (by omega) hr (fun h => by rw [h] at h0; simp at h0)
  rw [hs] at this; exact this
theorem st_lit0_s (hT : TabOk P T) {t e n : Nat} {l : List (Nat × Option Row)} {i j : TyI} (hd : dstOk nt dst = true) (ht : lkT T t = some i) (hu : i.u = .slice e) (he : lkT T e = some j) (hs : j.size = 2) (hr : (mkS E ⟨n, l⟩).row n = none) (h0 : Nat.beq n 0 = false) :
    Does P nt ⟨dst, .buildSlice t 0 #[], ty, pos, aft, gd⟩ ⟨[], [n]⟩ (.own n 0) [(n, some ⟨e, 2, 0, true, false, slc []⟩)] (mkS E ⟨n, l⟩) := by
  have := does_buildSlice0 (P := P) (ty := ty) (pos := pos) (aft := aft) (gd := gd) hT hd ht hu he (by omega) hr (fun h => by rw [h] at h0; simp at h0)
  rw [hs] at this; exact this
theorem st_lit1 (hT : TabOk P T) {t e n : Nat} {l : List (Nat × Option Row)} {p : Operand} {i j : TyI} {z : Int} (hd : dstOk nt dst = true) (hp : (mkS E ⟨n, l⟩).ev p = .int z) (ht : lkT T t = some i) (hu : i.u = .slice e) (he : lkT T e = some j) (hs : j.size = 1) (hr : (mkS E ⟨n, l⟩).row n = none) (h0 : Nat.beq n 0 = false) :
    Does P nt ⟨dst, .buildSlice t 1 #[(0, p)], ty, pos, aft, gd⟩ ⟨fo p, [n]⟩ (.own n 0) [(n, some ⟨e, 1, 0, true, false, ints [z]⟩)] (mkS E ⟨n, l⟩) := by
  have := does_buildSlice1 (P := P) (ty := ty) (pos := pos) (aft := aft) (gd := gd) hT hd hp (ys := [.int z]) rfl rfl ht hu he (by omega) (by omega) hs.symm hr (fun h => by rw [h] at h0; simp at h0)
  rw [hs] at this; exact this
theorem st_lit1_s (hT : TabOk P T) {t e n : Nat} {l : List (Nat × Option Row)} {p : Operand} {i j : TyI} {a b : Int} (hd : dstOk nt dst = true) (hp : (mkS E ⟨n, l⟩).ev p = .agg [.int a, .int b]) (ht : lkT T t = some i) (hu : i.u = .slice e) (he : lkT T e = some j) (hs : j.size = 2) (hr : (mkS E ⟨n, l⟩).row n = none) (h0 : Nat.beq n 0 = false) :
    Does P nt ⟨dst, .buildSlice t 1 #[(0, p)], ty, pos, aft, gd⟩ ⟨fo p, [n]⟩ (.own n 0) [(n, some ⟨e, 2, 0, true, false, slc [(a, b)]⟩)] (mkS E ⟨n, l⟩) := by
  have := does_buildSlice1 (P := P) (ty := ty) (pos := pos) (aft := aft) (gd := gd) hT hd hp (ys := [.int a, .int b]) rfl rfl ht hu he (by omega) (by omega) hs.symm hr (fun h => by rw [h] at h0; simp at h0)
  rw [hs] at this; exact this
theorem st_app (hT : TabOk P T) {t e : Nat} {x y : Operand} {i j : TyI} {r k r2 k2 : Nat} {row row2 : Row} {zs ys : List Int} (hd : dstOk nt dst = true) (hx : (mkS E H).ev x = .own r k) (hr : (mkS E H).row r = some row) (hc : row.cs = ints zs) (hv : row.ver = k) (hbx : row.box = false) (hp : row.pure = true) (h0 : Nat.beq r 0 = false)
    (hy : (mkS E H).ev y = .own r2 k2) (hr2 : (mkS E H).row r2 = some row2) (hc2 : row2.cs = ints ys) (hv2 : row2.ver = k2) (hp2 : row2.pure = true) (hs2 : row2.sz = 1)
    (ht : lkT T t = some i) (hu : i.u = .slice e) (he : lkT T e = some j) (hty : row.ty = e) (hsz : row.sz = 1) (hs : j.size = 1) (hzl : j.zero.length = 1) (hby : j.bytes = 8) (hb : zs.length + ys.length ≤ 4294967296) :
    Does P nt ⟨dst, .call ⟨.builtin .append, #[x, y], #[t, t]⟩, ty, pos, aft, gd⟩ ⟨fo x ++ fo y, [r, r2]⟩ (.own r (k + 1)) [(r, some ⟨row.ty, 1, k + 1, true, false, ints (zs ++ ys)⟩)] (mkS E H) := by
  have hsrc := src_own (R := ⟨fo x ++ fo y, [r, r2]⟩) hy hr2 hv2 (by simp +contextual) (by simp)
  rw [hs2, hc2] at hsrc
  have := does_append (P := P) (ty := ty) (pos := pos) (aft := aft) (gd := gd) hT hd hx hr hv hbx (fun h => by rw [h] at h0; simp at h0) ht hu he hty (by rw [hsz, hs]) (by rw [hzl, hs]) (by rw [hs]; exact hsrc) (by simp +contextual) (by simp) (by rw [hc, ints_length, ints_length, hby]; omega)
  rw [hc, ints_append, hp, hp2, hsz] at this; exact this
theorem st_app_s (hT : TabOk P T) {t e : Nat} {x y : Operand} {i j : TyI} {r k r2 k2 : Nat} {row row2 : Row} {zs ys : List (Int × Int)} (hd : dstOk nt dst = true) (hx : (mkS E H).ev x = .own r k) (hr : (mkS E H).row r = some row) (hc : row.cs = slc zs) (hv : row.ver = k) (hbx : row.box = false) (hp : row.pure = true) (h0 : Nat.beq r 0 = false)
    (hy : (mkS E H).ev y = .own r2 k2) (hr2 : (mkS E H).row r2 = some row2) (hc2 : row2.cs = slc ys) (hv2 : row2.ver = k2) (hp2 : row2.pure = true) (hs2 : row2.sz = 2)
    (ht : lkT T t = some i) (hu : i.u = .slice e) (he : lkT T e = some j) (hty : row.ty = e) (hsz : row.sz = 2) (hs : j.size = 2) (hzl : j.zero.length = 2) (hby : j.bytes = 16) (hb : zs.length + ys.length ≤ 4294967296) :
    Does P nt ⟨dst, .call ⟨.builtin .append, #[x, y], #[t, t]⟩, ty, pos, aft, gd⟩ ⟨fo x ++ fo y, [r, r2]⟩ (.own r (k + 1)) [(r, some ⟨row.ty, 2, k + 1, true, false, slc (zs ++ ys)⟩)] (mkS E H) := by
  have hsrc := src_own (R := ⟨fo x ++ fo y, [r, r2]⟩) hy hr2 hv2 (by simp +contextual) (by simp)
  rw [hs2, hc2] at hsrc
  have := does_append (P := P) (ty := ty) (pos := pos) (aft := aft) (gd := gd) hT hd hx hr hv hbx (fun h => by rw [h] at h0; simp at h0) ht hu he hty (by rw [hsz, hs]) (by rw [hzl, hs]) (by rw [hs]; exact hsrc) (by simp +contextual) (by simp) (by rw [hc, slc_length, slc_length, hby]; omega)
  rw [hc, slc_append, hp, hp2, hsz] at this; exact this
end
end Go.Sym
