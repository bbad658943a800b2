/-
  The texts S Q9 QA QF QG QH in one.
-/
import Derived.Test.YtnfjmcenjpoloaaDoorA
import Derived.Deep.RegionHeld3
import Derived.Deep.AppendLies
import Derived.Deep.DeepMust
import Derived.Test.YtnfjmcenjpoloaaDoorP1
import Derived.IntWalk
import Derived.Laws.BytesArg
import Derived.Laws.StructEq
import Derived.Great.BuildSlice
section
/-
  Slices of slides in memory, and the laws' helpers for them.
-/
set_option linter.unusedVariables false
namespace Go.Proofs.YtnfjmcenjpoloaaDoor
open Go Go.RowKit Go.Park

def gs (l : List (Int × Int)) (j : Nat) : Int × Int := l.getD j (0, 0)
/-- the cells of slides -/
def flat : List (Int × Int) → List Value
  | [] => []
  | s :: l => .int .i64 s.1 :: .int .i64 s.2 :: flat l
theorem flat_append (l m : List (Int × Int)) : flat (l ++ m) = flat l ++ flat m := by
  induction l with
  | nil => rfl
  | cons s l ih => simp [flat, ih]
theorem flat_get (l : List (Int × Int)) : ∀ j, j < l.length → (flat l)[j * 2]? = some (.int .i64 (gs l j).1) ∧ (flat l)[j * 2 + 1]? = some (.int .i64 (gs l j).2) := by
  induction l with
  | nil => intro j hj; simp at hj
  | cons s l ih =>
    intro j hj
    cases j with
    | zero => simp [flat, gs]
    | succ j =>
      have h := ih j (by simpa using hj)
      have e1 : (j + 1) * 2 = j * 2 + 1 + 1 := by omega
      have e2 : gs (s :: l) (j + 1) = gs l j := by simp [gs, List.getD]
      rw [e1, e2]
      simpa [flat] using h

/-- from an address (or nil) on lie these slides -/
def SCellsAt (w : World) (ao : Option Addr) (n : Nat) (f : Nat → Int × Int) : Prop :=
  ∀ j, j < n → ∃ b off, ao = some ⟨b, off, none⟩ ∧ w.cell? ⟨b, off + j * 2, none⟩ = some (.int .i64 (f j).1) ∧ w.cell? ⟨b, off + j * 2 + 1, none⟩ = some (.int .i64 (f j).2)
def SlidesAt (w : World) (v : Value) (l : List (Int × Int)) : Prop :=
  ∃ ao c, v = .slice ao l.length c ∧ l.length ≤ lim ∧ (l.length ≤ c ∧ c ≤ maxLen) ∧ SCellsAt w ao l.length (gs l)
theorem SCellsAt.keep {w w' : World} {ao : Option Addr} {n : Nat} {f : Nat → Int × Int} (h : SCellsAt w ao n f) (hb : Below w.heap.size w w') : SCellsAt w' ao n f := by
  intro j hj
  obtain ⟨b, off, e, h1, h2⟩ := h j hj
  exact ⟨b, off, e, by rw [hb.cell (by exact cell_lt h1)]; exact h1, by rw [hb.cell (by exact cell_lt h2)]; exact h2⟩
theorem SlidesAt.keep {w w' : World} {v : Value} {l : List (Int × Int)} (h : SlidesAt w v l) (hb : Below w.heap.size w w') : SlidesAt w' v l := by
  obtain ⟨ao, c, e, hn, hm, hc⟩ := h
  exact ⟨ao, c, e, hn, hm, hc.keep hb⟩
/-- slides of the call's own -/
def OwnSlides (lo : Nat) (w : World) (v : Value) (l : List (Int × Int)) : Prop := l.length ≤ lim ∧ w.ownsRow lo 53 2 v l.length (flat l)
theorem OwnSlides.at {lo : Nat} {w : World} {v : Value} {l : List (Int × Int)} (h : OwnSlides lo w v l) : SlidesAt w v l := by
  obtain ⟨hl, ho⟩ := h
  have ho2 := ho.2
  rcases ho2 with ⟨rfl, h0⟩ | ⟨g, cap, cur, rfl, hb, hg, hnc, hcm, hcs, htake⟩
  · refine ⟨none, 0, by rw [h0], hl, by rw [h0]; simp, fun j hj => by omega⟩
  · refine ⟨_, cap, rfl, hl, ⟨hnc, hcm⟩, fun j hj => ⟨g, 0, rfl, ?_, ?_⟩⟩
    · rw [Nat.zero_add, ho.cellAt _ (by omega), (flat_get l j hj).1]
    · rw [Nat.zero_add, ho.cellAt _ (by omega), (flat_get l j hj).2]
theorem OwnSlides.keep {lo : Nat} {w w' : World} {v : Value} {l : List (Int × Int)} (h : OwnSlides lo w v l) (hb : Below w.heap.size w w') : OwnSlides lo w' v l := ⟨h.1, own_keep h.2 hb⟩
theorem OwnSlides.base {lo lo' : Nat} {w : World} {v : Value} {l : List (Int × Int)} (h : OwnSlides lo w v l) (hl : lo' ≤ lo) : OwnSlides lo' w v l := ⟨h.1, own_base h.2 hl⟩
theorem OwnSlides.blk {lo : Nat} {w : World} {v : Value} {l : List (Int × Int)} (h : OwnSlides lo w v l) : Blk v lo w.heap.size := blk_of_own h.2
theorem OwnSlides.keepG {lo lo1 hi1 lo2 hi2 : Nat} {w w' : World} {u v : Value} {l : List (Int × Int)} (h : OwnSlides lo w v l) (hg : w.grownBy w' u.ownBlock) (hu : Blk u lo1 hi1) (hv : Blk v lo2 hi2) (hd : hi1 ≤ lo2 ∨ hi2 ≤ lo1) : OwnSlides lo w' v l :=
  ⟨h.1, own_keepG h.2 hg hu hv hd⟩
theorem OwnSlides.slice {lo : Nat} {w : World} {v : Value} {l : List (Int × Int)} (h : OwnSlides lo w v l) : ∃ ao c, v = .slice ao l.length c := by
  obtain ⟨ao, c, e, _⟩ := h.at
  exact ⟨ao, c, e⟩

/-! toSlide, eqSlide -/



end Go.Proofs.YtnfjmcenjpoloaaDoor
end

section
/-
  Steps for the walk on abstract states: rows of ints and of slides, boxes; nothing of the program stands here but its types.
-/
set_option linter.unusedVariables false
set_option linter.unusedSimpArgs false
namespace Go.Sym
open Go Go.RowKit Go.Park Go.Proofs.YtnfjmcenjpoloaaDoor

/-! ### rows of ints and of slides -/
def ints (zs : List Int) : List AV := zs.map AV.int
theorem ints_length (zs : List Int) : (ints zs).length = zs.length := by simp [ints]
theorem rd_ints (zs : List Int) (j : Nat) : rd (ints zs) j = .int (gi zs j) := by
  simp only [rd, ints, gi, List.getD_eq_getElem?_getD, List.getElem?_map]
  cases zs[j]? <;> rfl
theorem ints_append (zs ys : List Int) : ints zs ++ ints ys = ints (zs ++ ys) := by simp [ints]
theorem ints_set (zs : List Int) (j : Nat) (z : Int) : (ints zs).set j (.int z) = ints (zs.set j z) := by simp [ints, List.map_set]
theorem ints_take (zs : List Int) (j : Nat) : (ints zs).take j = ints (zs.take j) := by simp [ints, List.map_take]
theorem ints_drop (zs : List Int) (j : Nat) : (ints zs).drop j = ints (zs.drop j) := by simp [ints, List.map_drop]
theorem scal_ints (zs : List Int) : scalL (ints zs) := fun x hx => by
  obtain ⟨z, _, rfl⟩ := List.mem_map.1 hx
  exact ⟨_, rfl⟩
theorem pureL_scal {cs : List AV} (h : scalL cs) : pureL cs := pureL_of fun x hx => by obtain ⟨c, rfl⟩ := h x hx; simp [pureV]
theorem pure_ints (zs : List Int) : pureL (ints zs) := pureL_scal (scal_ints zs)
def slc : List (Int × Int) → List AV
  | [] => []
  | s :: l => .int s.1 :: .int s.2 :: slc l
theorem slc_length (l : List (Int × Int)) : (slc l).length = l.length * 2 := by
  induction l with
  | nil => rfl
  | cons s l ih => simp [slc, ih]; omega
theorem slc_append (l m : List (Int × Int)) : slc l ++ slc m = slc (l ++ m) := by
  induction l with
  | nil => rfl
  | cons s l ih => simp [slc, ih]
theorem rd_slc0 (l : List (Int × Int)) : ∀ j, rd (slc l) (j * 2) = .int (gs l j).1 := by
  induction l with
  | nil => intro j; simp [rd, slc, gs]
  | cons s l ih =>
    intro j
    cases j with
    | zero => simp [rd, slc, gs]
    | succ j =>
      have h := ih j
      rw [show (j + 1) * 2 = j * 2 + 1 + 1 by omega]
      simpa [rd, slc, gs, List.getD] using h
theorem rd_slc1 (l : List (Int × Int)) : ∀ j, rd (slc l) (j * 2 + 1) = .int (gs l j).2 := by
  induction l with
  | nil => intro j; simp [rd, slc, gs]
  | cons s l ih =>
    intro j
    cases j with
    | zero => simp [rd, slc, gs]
    | succ j =>
      have h := ih j
      rw [show (j + 1) * 2 + 1 = j * 2 + 1 + 1 + 1 by omega]
      simpa [rd, slc, gs, List.getD] using h
theorem scal_slc : ∀ l : List (Int × Int), scalL (slc l)
  | [] => fun x hx => by simp [slc] at hx
  | s :: l => fun x hx => by
    simp only [slc, List.mem_cons] at hx
    rcases hx with rfl | rfl | hx
    · exact ⟨_, rfl⟩
    · exact ⟨_, rfl⟩
    · exact scal_slc l x hx
theorem pure_slc (l : List (Int × Int)) : pureL (slc l) := pureL_scal (scal_slc l)
abbrev intsV (zs : List Int) : AV := .sl 3 1 (ints zs)
abbrev slcV (l : List (Int × Int)) : AV := .sl 53 2 (slc l)
abbrev hallV (h : PHall) : AV := .agg [.int h.wide, .int h.deep, .sl 3 1 (ints h.cells)]

/-! ### the state of a walk -/
structure Hp where
  n : Nat
  l : List (Nat × Option Row)
def mkS (E : List (Nat × AV)) (H : Hp) : St := mkSt E H.l
def Want (ops : Array Oper) (o : Oper) (E : List (Nat × AV)) (Rg : List Nat) : Prop :=
  (o.guard = none ∧ Rg = []) ∨ ∃ g b d, o.guard = some (g, b) ∧ (ops[g]?).bind (·.dst) = some d ∧ lkE E d = .bool b ∧ Rg = [d]
/-- the run of a region's operations, with the next number of a row -/
structure RunsH (P : Program) (nt : Nat) (ops : Array Oper) (os : List Oper) (fs : List Fp) (E : List (Nat × AV)) (H : Hp) (K : List Fp → St → Prop) : Prop where
  out : Runs P nt ops os fs E H.l fun fs E l => ∃ n, K fs (mkS E ⟨n, l⟩)
section
variable {P : Program} {nt : Nat} {ops : Array Oper} {o : Oper} {os : List Oper} {fs : List Fp} {E : List (Nat × AV)} {H : Hp} {K : List Fp → St → Prop} {R : Foot} {x : AV} {rs : List (Nat × Option Row)} {Rg : List Nat}
theorem rh_nil (h : K fs (mkS E H)) : RunsH P nt ops [] fs E H K := ⟨⟨H.n, h⟩⟩
theorem rh_of (n : Nat) (h : Does P nt o R x rs (mkS E H)) (hw : Want ops o E Rg) (k : RunsH P nt ops os (fs ++ [⟨Rg ++ R.e, R.r, o.dst.toList, rs.map (·.1)⟩]) (pushE o.dst x E) ⟨n, rs ++ H.l⟩ K) : RunsH P nt ops (o :: os) fs E H K := by
  rcases hw with ⟨h1, rfl⟩ | ⟨g, b, d, h1, h2, h3, rfl⟩
  · exact ⟨runs_do h1 h k.out⟩
  · exact ⟨runs_yes h1 h2 h3 h k.out⟩
/-- nothing of memory turns -/
theorem rh0 {d : Nat} {op : Op} {ty : Nat} {pos : String} {aft : Array Edge} {gd : Option (Nat × Bool)} (h : Does P nt ⟨some d, op, ty, pos, aft, gd⟩ R x [] (mkS E H)) (hw : Want ops ⟨some d, op, ty, pos, aft, gd⟩ E Rg) (k : RunsH P nt ops os (fs ++ [⟨Rg ++ R.e, R.r, [d], []⟩]) ((d, x) :: E) H K) : RunsH P nt ops (⟨some d, op, ty, pos, aft, gd⟩ :: os) fs E H K :=
  rh_of H.n h hw k
/-- one row turns, or is laid down -/
theorem rh1 {d : Nat} {op : Op} {ty : Nat} {pos : String} {aft : Array Edge} {gd : Option (Nat × Bool)} {r n : Nat} {row : Option Row} {l : List (Nat × Option Row)} (h : Does P nt ⟨some d, op, ty, pos, aft, gd⟩ R x [(r, row)] (mkS E ⟨n, l⟩)) (hw : Want ops ⟨some d, op, ty, pos, aft, gd⟩ E Rg) (k : RunsH P nt ops os (fs ++ [⟨Rg ++ R.e, R.r, [d], [r]⟩]) ((d, x) :: E) ⟨n + 1, (r, row) :: l⟩ K) : RunsH P nt ops (⟨some d, op, ty, pos, aft, gd⟩ :: os) fs E ⟨n, l⟩ K :=
  rh_of (n + 1) h hw k
/-- a store -/
theorem rhs {op : Op} {ty : Nat} {pos : String} {aft : Array Edge} {gd : Option (Nat × Bool)} {r n : Nat} {row : Option Row} {l : List (Nat × Option Row)} (h : Does P nt ⟨none, op, ty, pos, aft, gd⟩ R x [(r, row)] (mkS E ⟨n, l⟩)) (hw : Want ops ⟨none, op, ty, pos, aft, gd⟩ E Rg) (k : RunsH P nt ops os (fs ++ [⟨Rg ++ R.e, R.r, [], [r]⟩]) E ⟨n, (r, row) :: l⟩ K) : RunsH P nt ops (⟨none, op, ty, pos, aft, gd⟩ :: os) fs E ⟨n, l⟩ K :=
  rh_of n h hw k
theorem rh_no {d' : Nat} {op : Op} {ty : Nat} {pos : String} {aft : Array Edge} {g d : Nat} {b c : Bool} (hd : (ops[g]?).bind (·.dst) = some d) (hv : lkE E d = .bool c) (hbc : c = !b) (hdo : dstOk nt (some d') = true) (k : RunsH P nt ops os (fs ++ [⟨[d], [], [d'], []⟩]) ((d', .v undef) :: E) H K) : RunsH P nt ops (⟨some d', op, ty, pos, aft, some (g, b)⟩ :: os) fs E H K :=
  ⟨runs_no rfl hd hv hbc hdo k.out⟩
theorem rh_un {d' : Nat} {op : Op} {ty : Nat} {pos : String} {aft : Array Edge} {g d : Nat} {b : Bool} (hd : (ops[g]?).bind (·.dst) = some d) (hv : lkE E d = .v undef) (hdo : dstOk nt (some d') = true) (k : RunsH P nt ops os (fs ++ [⟨[d], [], [d'], []⟩]) ((d', .v undef) :: E) H K) : RunsH P nt ops (⟨some d', op, ty, pos, aft, some (g, b)⟩ :: os) fs E H K :=
  ⟨runs_un rfl hd hv hdo k.out⟩
theorem lkE_push {E : List (Nat × AV)} {d : Nat} {x : AV} (h : lkE E d = x) : lkE ((d, x) :: E) = lkE E := by
  funext t
  simp only [lkE]
  cases hb : Nat.beq d t
  · rfl
  · have := Nat.eq_of_beq_eq_true hb
    subst this
    exact h.symm
theorem runs_env {K : List Fp → List (Nat × AV) → List (Nat × Option Row) → Prop} (hK : ∀ fs E E' l, lkE E' = lkE E → K fs E' l → K fs E l) : ∀ (os : List Oper) (fs : List Fp) (E E' : List (Nat × AV)) (l : List (Nat × Option Row)), lkE E' = lkE E → Runs P nt ops os fs E' l K → Runs P nt ops os fs E l K
  | [], fs, E, E', l, he, h => hK fs E E' l he h
  | o :: os, fs, E, E', l, he, h => by
    obtain ⟨R, x, rs, h1, h2⟩ := h
    refine ⟨R, x, rs, ?_, runs_env hK os _ _ _ _ ?_ h2⟩
    · have : mkSt E' l = mkSt E l := by simp only [mkSt, he]
      rwa [this] at h1
    · cases o.dst with
      | none => exact he
      | some d => funext t; simp only [pushE, lkE, he]
/-- a test's two ways -/
theorem rh_split {op : Op} {dst : Option Nat} {ty : Nat} {pos : String} {aft : Array Edge} {g d : Nat} {b c : Bool} (hd : (ops[g]?).bind (·.dst) = some d) (hv : lkE E d = .bool c) (h1 : c = true → RunsH P nt ops (⟨dst, op, ty, pos, aft, some (g, b)⟩ :: os) fs ((d, .bool true) :: E) H K) (h2 : c = false → RunsH P nt ops (⟨dst, op, ty, pos, aft, some (g, b)⟩ :: os) fs ((d, .bool false) :: E) H K) :
    RunsH P nt ops (⟨dst, op, ty, pos, aft, some (g, b)⟩ :: os) fs E H K := by
  have hK : ∀ fs E E' l, lkE E' = lkE E → (∃ n, K fs (mkS E' ⟨n, l⟩)) → ∃ n, K fs (mkS E ⟨n, l⟩) := fun fs E E' l he ⟨n, h⟩ => ⟨n, by
    have : mkS E' ⟨n, l⟩ = mkS E ⟨n, l⟩ := by simp only [mkS, mkSt, he]
    rwa [this] at h⟩
  cases c with
  | true => exact ⟨runs_env hK _ _ _ _ _ (lkE_push hv) (h1 rfl).out⟩
  | false => exact ⟨runs_env hK _ _ _ _ _ (lkE_push hv) (h2 rfl).out⟩
end
section
variable {P : Program} {nt : Nat} {Φ : Exit → St → Prop} {K : St → Prop}
theorem rg_text {id : Nat} {os : List Oper} {E : List (Nat × AV)} {H : Hp} (h : RunsH P nt os.toArray os [] E H (fun _ σ => Φ .normal σ)) : AX P nt (.region id os.toArray false) (mkS E H) Φ := by
  refine ax_text ?_
  have e : (fun (_ : List Fp) E l => ∃ n, Φ .normal (mkS E ⟨n, l⟩)) = fun (_ : List Fp) E l => Φ .normal (mkSt E l) := by
    funext fs E l
    simp [mkS]
  replace h := h.out
  rw [e] at h
  exact h
theorem rg_any {id : Nat} {os : List Oper} {E : List (Nat × AV)} {H : Hp} (hm : P.follows .mixedOrders = true) (h : RunsH P nt os.toArray os [] E H (fun fs σ => chk os fs = true ∧ Φ .normal σ)) : AX P nt (.region id os.toArray true) (mkS E H) Φ := by
  refine ax_any hm ?_
  have e : (fun (fs : List Fp) E l => ∃ n, chk os fs = true ∧ Φ .normal (mkS E ⟨n, l⟩)) = fun (fs : List Fp) E l => chk os fs = true ∧ Φ .normal (mkSt E l) := by
    funext fs E l
    simp [mkS]
  replace h := h.out
  rw [e] at h
  exact h
end

/-! ### steps -/
section
variable {P : Program} {T : List (Nat × TyI)} {nt : Nat} {E : List (Nat × AV)} {H : Hp} {dst : Option Nat} {ty : Nat} {pos : String} {aft : Array Edge} {gd : Option (Nat × Bool)}
theorem st_move {x : Operand} {y : AV} (hd : dstOk nt dst = true) (hx : (mkS E H).ev x = y) : Does P nt ⟨dst, .move x, ty, pos, aft, gd⟩ ⟨fo x, []⟩ y [] (mkS E H) := hx ▸ does_move hd
theorem st_assign {x : Operand} {y : AV} (hd : dstOk nt dst = true) (hx : (mkS E H).ev x = y) : Does P nt ⟨dst, .assign x, ty, pos, aft, gd⟩ ⟨fo x, []⟩ y [] (mkS E H) := hx ▸ does_assign hd
theorem st_pick_t {c x y : Operand} {z : AV} (hd : dstOk nt dst = true) (hc : (mkS E H).ev c = .bool true) (hx : (mkS E H).ev x = z) : Does P nt ⟨dst, .pick c x y, ty, pos, aft, gd⟩ ⟨fo c ++ (fo x ++ fo y), []⟩ z [] (mkS E H) := by
  have := does_pick (P := P) (ty := ty) (pos := pos) (aft := aft) (gd := gd) (y := y) (x := x) hd hc
  rw [hx] at this; exact this
theorem st_pick_f {c x y : Operand} {z : AV} (hd : dstOk nt dst = true) (hc : (mkS E H).ev c = .bool false) (hx : (mkS E H).ev y = z) : Does P nt ⟨dst, .pick c x y, ty, pos, aft, gd⟩ ⟨fo c ++ (fo x ++ fo y), []⟩ z [] (mkS E H) := by
  have := does_pick (P := P) (ty := ty) (pos := pos) (aft := aft) (gd := gd) (y := y) (x := x) hd hc
  rw [hx] at this; exact this
theorem i64_ok {z : Int} (h : -9223372036854775808 ≤ z ∧ z ≤ 9223372036854775807) : IntKind.i64.wrap z = z := IntWalk.i64_in _ (by omega)
theorem st_add {t t' : Nat} {x y : Operand} {i j z : Int} (hd : dstOk nt dst = true) (hx : (mkS E H).ev x = .int i) (hy : (mkS E H).ev y = .int j) (hz : i + j = z) (hb : -9223372036854775808 ≤ z ∧ z ≤ 9223372036854775807) :
    Does P nt ⟨dst, .binOp .add t x y t', ty, pos, aft, gd⟩ ⟨fo x ++ fo y, []⟩ (.int z) [] (mkS E H) := by
  subst hz; exact does_add hd hx hy (i64_ok hb)
theorem st_sub {t t' : Nat} {x y : Operand} {i j z : Int} (hd : dstOk nt dst = true) (hx : (mkS E H).ev x = .int i) (hy : (mkS E H).ev y = .int j) (hz : i - j = z) (hb : -9223372036854775808 ≤ z ∧ z ≤ 9223372036854775807) :
    Does P nt ⟨dst, .binOp .sub t x y t', ty, pos, aft, gd⟩ ⟨fo x ++ fo y, []⟩ (.int z) [] (mkS E H) := by
  subst hz; exact does_sub hd hx hy (i64_ok hb)
theorem st_mul {t t' : Nat} {x y : Operand} {i j z : Int} (hd : dstOk nt dst = true) (hx : (mkS E H).ev x = .int i) (hy : (mkS E H).ev y = .int j) (hz : i * j = z) (hb : -9223372036854775808 ≤ z ∧ z ≤ 9223372036854775807) :
    Does P nt ⟨dst, .binOp .mul t x y t', ty, pos, aft, gd⟩ ⟨fo x ++ fo y, []⟩ (.int z) [] (mkS E H) := by
  subst hz; exact does_mul hd hx hy (i64_ok hb)

/-! indexes: an own row, of ints | of slides; still memory -/
theorem st_ix_own (hT : TabOk P T) {t e o : Nat} {x y : Operand} {i j : TyI} {r k : Nat} {row : Row} {z : Int} {zs : List Int} (hd : dstOk nt dst = true) (hx : (mkS E H).ev x = .own r k) (hr : (mkS E H).row r = some row) (hc : row.cs = ints zs) (hv : row.ver = k) (hy : (mkS E H).ev y = .int z)
    (ht : lkT T t = some i) (hu : i.u = .slice e) (he : lkT T e = some j) (hs : row.sz = 1) (hs' : j.size = 1) (ho : z.toNat = o) (h0 : 0 ≤ z ∧ o < zs.length) :
    Does P nt ⟨dst, .indexAddr t x y, ty, pos, aft, gd⟩ ⟨fo x ++ fo y, [r]⟩ (.ptr r k o) [] (mkS E H) := by
  have := does_index_own (P := P) (ty := ty) (pos := pos) (aft := aft) (gd := gd) hT hd hx hy hr hv ht hu he (by rw [hs, hs']) h0.1 (by rw [hs', hc, ints_length]; omega)
  rw [hs', Nat.mul_one, ho] at this; exact this
theorem st_ix_own_s (hT : TabOk P T) {t e o : Nat} {x y : Operand} {i j : TyI} {r k : Nat} {row : Row} {z : Int} {l : List (Int × Int)} (hd : dstOk nt dst = true) (hx : (mkS E H).ev x = .own r k) (hr : (mkS E H).row r = some row) (hc : row.cs = slc l) (hv : row.ver = k) (hy : (mkS E H).ev y = .int z)
    (ht : lkT T t = some i) (hu : i.u = .slice e) (he : lkT T e = some j) (hs : row.sz = 2) (hs' : j.size = 2) (ho : z.toNat = o) (h0 : 0 ≤ z ∧ o < l.length) :
    Does P nt ⟨dst, .indexAddr t x y, ty, pos, aft, gd⟩ ⟨fo x ++ fo y, [r]⟩ (.ptr r k (o * 2)) [] (mkS E H) := by
  have := does_index_own (P := P) (ty := ty) (pos := pos) (aft := aft) (gd := gd) hT hd hx hy hr hv ht hu he (by rw [hs, hs']) h0.1 (by rw [hs', hc, slc_length]; omega)
  rw [hs', ho] at this; exact this
theorem st_ix_sl (hT : TabOk P T) {t e o : Nat} {x y : Operand} {i j : TyI} {ty' sz : Nat} {z : Int} {zs : List Int} (hd : dstOk nt dst = true) (hx : (mkS E H).ev x = .sl ty' sz (ints zs)) (hy : (mkS E H).ev y = .int z)
    (ht : lkT T t = some i) (hu : i.u = .slice e) (he : lkT T e = some j) (hs : sz = 1) (hs' : j.size = 1) (ho : z.toNat = o) (h0 : 0 ≤ z ∧ o < zs.length) :
    Does P nt ⟨dst, .indexAddr t x y, ty, pos, aft, gd⟩ ⟨fo x ++ fo y, []⟩ (.ip (ints zs) o) [] (mkS E H) := by
  have := does_index_sl (P := P) (ty := ty) (pos := pos) (aft := aft) (gd := gd) hT hd hx hy ht hu he (by rw [hs, hs']) h0.1 (by rw [hs', ints_length]; omega)
  rw [hs', Nat.mul_one, ho] at this; exact this
theorem st_ix_sl_s (hT : TabOk P T) {t e o : Nat} {x y : Operand} {i j : TyI} {ty' sz : Nat} {z : Int} {l : List (Int × Int)} (hd : dstOk nt dst = true) (hx : (mkS E H).ev x = .sl ty' sz (slc l)) (hy : (mkS E H).ev y = .int z)
    (ht : lkT T t = some i) (hu : i.u = .slice e) (he : lkT T e = some j) (hs : sz = 2) (hs' : j.size = 2) (ho : z.toNat = o) (h0 : 0 ≤ z ∧ o < l.length) :
    Does P nt ⟨dst, .indexAddr t x y, ty, pos, aft, gd⟩ ⟨fo x ++ fo y, []⟩ (.ip (slc l) (o * 2)) [] (mkS E H) := by
  have := does_index_sl (P := P) (ty := ty) (pos := pos) (aft := aft) (gd := gd) hT hd hx hy ht hu he (by rw [hs, hs']) h0.1 (by rw [hs', slc_length]; omega)
  rw [hs', ho] at this; exact this

/-! loads -/
theorem st_ld_ints (hT : TabOk P T) {t : Nat} {x : Operand} {i : TyI} {r k o : Nat} {row : Row} {zs : List Int} (hd : dstOk nt dst = true) (hx : (mkS E H).ev x = .ptr r k o) (hr : (mkS E H).row r = some row) (hc : row.cs = ints zs) (hv : row.ver = k) (ht : lkT T t = some i) (hg : i.agg = false) (ho : o < zs.length) :
    Does P nt ⟨dst, .load t x, ty, pos, aft, gd⟩ ⟨fo x, [r]⟩ (.int (gi zs o)) [] (mkS E H) := by
  have := does_load (P := P) (ty := ty) (pos := pos) (aft := aft) (gd := gd) hT hd hx hr hv ht hg (by rw [hc, ints_length]; exact ho)
  rw [hc, rd_ints] at this; exact this
theorem st_ld_slc (hT : TabOk P T) {t : Nat} {x : Operand} {i : TyI} {r k o : Nat} {row : Row} {l : List (Int × Int)} (hd : dstOk nt dst = true) (hx : (mkS E H).ev x = .ptr r k (o * 2)) (hr : (mkS E H).row r = some row) (hc : row.cs = slc l) (hv : row.ver = k) (ht : lkT T t = some i) (hg : i.agg = true) (hs : i.size = 2) (ho : o < l.length) :
    Does P nt ⟨dst, .load t x, ty, pos, aft, gd⟩ ⟨fo x, [r]⟩ (.agg [.int (gs l o).1, .int (gs l o).2]) [] (mkS E H) := by
  have := does_load_agg (P := P) (ty := ty) (pos := pos) (aft := aft) (gd := gd) hT hd hx hr hv ht hg (by rw [hc, hs, slc_length]; omega)
  rw [hc, hs] at this
  simp only [rds, rd_slc0, rd_slc1] at this; exact this
theorem st_ld_ip (hT : TabOk P T) {t : Nat} {x : Operand} {i : TyI} {o : Nat} {zs : List Int} (hd : dstOk nt dst = true) (hx : (mkS E H).ev x = .ip (ints zs) o) (ht : lkT T t = some i) (hg : i.agg = false) (ho : o < zs.length) :
    Does P nt ⟨dst, .load t x, ty, pos, aft, gd⟩ ⟨fo x, []⟩ (.int (gi zs o)) [] (mkS E H) := by
  have := does_load_ip (P := P) (ty := ty) (pos := pos) (aft := aft) (gd := gd) hT hd hx ht hg (by rw [ints_length]; exact ho)
  rw [rd_ints] at this; exact this
theorem st_ld_ip_s (hT : TabOk P T) {t : Nat} {x : Operand} {i : TyI} {o : Nat} {l : List (Int × Int)} (hd : dstOk nt dst = true) (hx : (mkS E H).ev x = .ip (slc l) (o * 2)) (ht : lkT T t = some i) (hg : i.agg = true) (hs : i.size = 2) (ho : o < l.length) :
    Does P nt ⟨dst, .load t x, ty, pos, aft, gd⟩ ⟨fo x, []⟩ (.agg [.int (gs l o).1, .int (gs l o).2]) [] (mkS E H) := by
  have := does_load_agg_ip (P := P) (ty := ty) (pos := pos) (aft := aft) (gd := gd) hT hd hx ht hg (by rw [hs, slc_length]; omega)
  rw [hs] at this
  simp only [rds, rd_slc0, rd_slc1] at this; exact this
theorem st_ld0 (hT : TabOk P T) {t : Nat} {x : Operand} {i : TyI} {r k : Nat} {row : Row} {y : AV} {ys : List AV} (hd : dstOk nt dst = true) (hx : (mkS E H).ev x = .ptr r k 0) (hr : (mkS E H).row r = some row) (hc : row.cs = y :: ys) (hv : row.ver = k) (ht : lkT T t = some i) (hg : i.agg = false) :
    Does P nt ⟨dst, .load t x, ty, pos, aft, gd⟩ ⟨fo x, [r]⟩ y [] (mkS E H) := by
  have := does_load (P := P) (ty := ty) (pos := pos) (aft := aft) (gd := gd) hT hd hx hr hv ht hg (by rw [hc]; simp)
  rw [hc] at this; exact this
theorem st_ld1 (hT : TabOk P T) {t : Nat} {x : Operand} {i : TyI} {r k : Nat} {row : Row} {y0 y : AV} {ys : List AV} (hd : dstOk nt dst = true) (hx : (mkS E H).ev x = .ptr r k 1) (hr : (mkS E H).row r = some row) (hc : row.cs = y0 :: y :: ys) (hv : row.ver = k) (ht : lkT T t = some i) (hg : i.agg = false) :
    Does P nt ⟨dst, .load t x, ty, pos, aft, gd⟩ ⟨fo x, [r]⟩ y [] (mkS E H) := by
  have := does_load (P := P) (ty := ty) (pos := pos) (aft := aft) (gd := gd) hT hd hx hr hv ht hg (by rw [hc]; simp)
  rw [hc] at this; exact this
theorem st_ld2 (hT : TabOk P T) {t : Nat} {x : Operand} {i : TyI} {r k : Nat} {row : Row} {y0 y1 y : AV} {ys : List AV} (hd : dstOk nt dst = true) (hx : (mkS E H).ev x = .ptr r k 2) (hr : (mkS E H).row r = some row) (hc : row.cs = y0 :: y1 :: y :: ys) (hv : row.ver = k) (ht : lkT T t = some i) (hg : i.agg = false) :
    Does P nt ⟨dst, .load t x, ty, pos, aft, gd⟩ ⟨fo x, [r]⟩ y [] (mkS E H) := by
  have := does_load (P := P) (ty := ty) (pos := pos) (aft := aft) (gd := gd) hT hd hx hr hv ht hg (by rw [hc]; simp)
  rw [hc] at this; exact this
theorem st_ld_a3 (hT : TabOk P T) {t : Nat} {x : Operand} {i : TyI} {r k : Nat} {row : Row} {y0 y1 y2 : AV} (hd : dstOk nt dst = true) (hx : (mkS E H).ev x = .ptr r k 0) (hr : (mkS E H).row r = some row) (hc : row.cs = [y0, y1, y2]) (hv : row.ver = k) (ht : lkT T t = some i) (hg : i.agg = true) (hs : i.size = 3) :
    Does P nt ⟨dst, .load t x, ty, pos, aft, gd⟩ ⟨fo x, [r]⟩ (.agg [y0, y1, y2]) [] (mkS E H) := by
  have := does_load_agg (P := P) (ty := ty) (pos := pos) (aft := aft) (gd := gd) hT hd hx hr hv ht hg (by rw [hc, hs]; simp)
  rw [hc, hs] at this; exact this
theorem st_ld_a2 (hT : TabOk P T) {t : Nat} {x : Operand} {i : TyI} {r k : Nat} {row : Row} {y0 y1 : AV} (hd : dstOk nt dst = true) (hx : (mkS E H).ev x = .ptr r k 0) (hr : (mkS E H).row r = some row) (hc : row.cs = [y0, y1]) (hv : row.ver = k) (ht : lkT T t = some i) (hg : i.agg = true) (hs : i.size = 2) :
    Does P nt ⟨dst, .load t x, ty, pos, aft, gd⟩ ⟨fo x, [r]⟩ (.agg [y0, y1]) [] (mkS E H) := by
  have := does_load_agg (P := P) (ty := ty) (pos := pos) (aft := aft) (gd := gd) hT hd hx hr hv ht hg (by rw [hc, hs]; simp)
  rw [hc, hs] at this; exact this

/-! stores -/
theorem st_st_ints (hT : TabOk P T) {t : Nat} {x v : Operand} {i : TyI} {r k o : Nat} {row : Row} {z : Int} {zs : List Int} (hx : (mkS E H).ev x = .ptr r k o) (hr : (mkS E H).row r = some row) (hc : row.cs = ints zs) (hv : row.ver = k) (ht : lkT T t = some i) (hs : i.size = 1) (hp : row.pure = true)
    (hy : (mkS E H).ev v = .int z) (ho : o < zs.length) : Does P nt ⟨none, .store t x v, ty, pos, aft, gd⟩ ⟨fo x ++ fo v, [r]⟩ .any [(r, some ⟨row.ty, row.sz, row.ver, true, row.box, ints (zs.set o z)⟩)] (mkS E H) := by
  have := does_store (P := P) (nt := nt) (ty := ty) (pos := pos) (aft := aft) (gd := gd) hT hx hr hv ht hy (ys := [.int z]) rfl rfl hs.symm (by rw [hc, ints_length]; simp; omega)
  rw [hc] at this
  simp only [setL, ints_set, hp, pureBs, pureB, Bool.and_true, rowsOf, rowOf, List.append_nil] at this
  exact this
theorem st_st_all (hT : TabOk P T) {t : Nat} {x v : Operand} {i : TyI} {r k : Nat} {row : Row} {y : AV} {ys : List AV} {pu : Bool} {us : List Nat} (hx : (mkS E H).ev x = .ptr r k 0) (hr : (mkS E H).row r = some row) (hv : row.ver = k) (ht : lkT T t = some i) 
    (hy : (mkS E H).ev v = y) (hys : avCells y = some ys) (hc : allCells (mkS E H) ys = true) (hs : ys.length = i.size) (hl : row.cs.length = ys.length) (hp : (row.pure && pureBs ys) = pu) (hu : rowsOf ys = us) :
    Does P nt ⟨none, .store t x v, ty, pos, aft, gd⟩ ⟨fo x ++ fo v, r :: us⟩ .any [(r, some ⟨row.ty, row.sz, row.ver, pu, row.box, ys⟩)] (mkS E H) := by
  have := does_store (P := P) (nt := nt) (ty := ty) (pos := pos) (aft := aft) (gd := gd) hT hx hr hv ht hy hys hc hs (by rw [hl]; simp)
  rw [hp, hu] at this
  have e : setL row.cs 0 ys = ys := by
    apply List.ext_getElem?
    intro q
    rw [setL_get ys row.cs 0 q (by omega)]
    by_cases hq : q < ys.length
    · rw [if_pos (by omega)]; simp
    · rw [if_neg (by omega), List.getElem?_eq_none (by omega), List.getElem?_eq_none (by omega)]
  rw [e] at this
  exact this
theorem st_st0 (hT : TabOk P T) {t : Nat} {x v : Operand} {i : TyI} {r k : Nat} {row : Row} {y y0 : AV} {ys : List AV} {pu : Bool} (hx : (mkS E H).ev x = .ptr r k 0) (hr : (mkS E H).row r = some row) (hcs : row.cs = y0 :: ys) (hv : row.ver = k) (ht : lkT T t = some i) (hs : i.size = 1)
    (hy : (mkS E H).ev v = y) (hys : avCells y = some [y]) (hc : allCells (mkS E H) [y] = true) (hp : (row.pure && pureBs [y]) = pu) :
    Does P nt ⟨none, .store t x v, ty, pos, aft, gd⟩ ⟨fo x ++ fo v, r :: rowsOf [y]⟩ .any [(r, some ⟨row.ty, row.sz, row.ver, pu, row.box, y :: ys⟩)] (mkS E H) := by
  have := does_store (P := P) (nt := nt) (ty := ty) (pos := pos) (aft := aft) (gd := gd) hT hx hr hv ht hy hys hc hs.symm (by rw [hcs]; simp)
  rw [hp, hcs] at this
  exact this
theorem st_st1 (hT : TabOk P T) {t : Nat} {x v : Operand} {i : TyI} {r k : Nat} {row : Row} {y y0 y1 : AV} {ys : List AV} {pu : Bool} (hx : (mkS E H).ev x = .ptr r k 1) (hr : (mkS E H).row r = some row) (hcs : row.cs = y0 :: y1 :: ys) (hv : row.ver = k) (ht : lkT T t = some i) (hs : i.size = 1)
    (hy : (mkS E H).ev v = y) (hys : avCells y = some [y]) (hc : allCells (mkS E H) [y] = true) (hp : (row.pure && pureBs [y]) = pu) :
    Does P nt ⟨none, .store t x v, ty, pos, aft, gd⟩ ⟨fo x ++ fo v, r :: rowsOf [y]⟩ .any [(r, some ⟨row.ty, row.sz, row.ver, pu, row.box, y0 :: y :: ys⟩)] (mkS E H) := by
  have := does_store (P := P) (nt := nt) (ty := ty) (pos := pos) (aft := aft) (gd := gd) hT hx hr hv ht hy hys hc hs.symm (by rw [hcs]; simp)
  rw [hp, hcs] at this
  exact this
theorem st_st2 (hT : TabOk P T) {t : Nat} {x v : Operand} {i : TyI} {r k : Nat} {row : Row} {y y0 y1 y2 : AV} {ys : List AV} {pu : Bool} (hx : (mkS E H).ev x = .ptr r k 2) (hr : (mkS E H).row r = some row) (hcs : row.cs = y0 :: y1 :: y2 :: ys) (hv : row.ver = k) (ht : lkT T t = some i) (hs : i.size = 1)
    (hy : (mkS E H).ev v = y) (hys : avCells y = some [y]) (hc : allCells (mkS E H) [y] = true) (hp : (row.pure && pureBs [y]) = pu) :
    Does P nt ⟨none, .store t x v, ty, pos, aft, gd⟩ ⟨fo x ++ fo v, r :: rowsOf [y]⟩ .any [(r, some ⟨row.ty, row.sz, row.ver, pu, row.box, y0 :: y1 :: y :: ys⟩)] (mkS E H) := by
  have := does_store (P := P) (nt := nt) (ty := ty) (pos := pos) (aft := aft) (gd := gd) hT hx hr hv ht hy hys hc hs.symm (by rw [hcs]; simp)
  rw [hp, hcs] at this
  exact this

/-! lengths -/
theorem st_len_own (hT : TabOk P T) {t e : Nat} {x : Operand} {i : TyI} {r k : Nat} {row : Row} {zs : List Int} (hd : dstOk nt dst = true) (hx : (mkS E H).ev x = .own r k) (hr : (mkS E H).row r = some row) (hc : row.cs = ints zs) (hv : row.ver = k) (hs : row.sz = 1) (ht : lkT T t = some i) (hu : i.u = .slice e) :
    Does P nt ⟨dst, .call ⟨.builtin .len, #[x], #[t]⟩, ty, pos, aft, gd⟩ ⟨fo x, [r]⟩ (.int (zs.length : Int)) [] (mkS E H) := by
  have := does_len_own (P := P) (ty := ty) (pos := pos) (aft := aft) (gd := gd) hT hd hx hr hv ht hu
  rw [hc, hs, ints_length, Nat.div_one] at this; exact this
theorem st_len_own_s (hT : TabOk P T) {t e : Nat} {x : Operand} {i : TyI} {r k : Nat} {row : Row} {l : List (Int × Int)} (hd : dstOk nt dst = true) (hx : (mkS E H).ev x = .own r k) (hr : (mkS E H).row r = some row) (hc : row.cs = slc l) (hv : row.ver = k) (hs : row.sz = 2) (ht : lkT T t = some i) (hu : i.u = .slice e) :
    Does P nt ⟨dst, .call ⟨.builtin .len, #[x], #[t]⟩, ty, pos, aft, gd⟩ ⟨fo x, [r]⟩ (.int (l.length : Int)) [] (mkS E H) := by
  have := does_len_own (P := P) (ty := ty) (pos := pos) (aft := aft) (gd := gd) hT hd hx hr hv ht hu
  rw [hc, hs, slc_length, Nat.mul_div_cancel _ (by omega)] at this; exact this
theorem st_len_sl (hT : TabOk P T) {t e : Nat} {x : Operand} {i : TyI} {ty' sz : Nat} {zs : List Int} (hd : dstOk nt dst = true) (hx : (mkS E H).ev x = .sl ty' sz (ints zs)) (hs : sz = 1) (ht : lkT T t = some i) (hu : i.u = .slice e) :
    Does P nt ⟨dst, .call ⟨.builtin .len, #[x], #[t]⟩, ty, pos, aft, gd⟩ ⟨fo x, []⟩ (.int (zs.length : Int)) [] (mkS E H) := by
  have := does_len_sl (P := P) (ty := ty) (pos := pos) (aft := aft) (gd := gd) hT hd hx ht hu
  rw [hs, ints_length, Nat.div_one] at this; exact this
theorem st_len_sl_s (hT : TabOk P T) {t e : Nat} {x : Operand} {i : TyI} {ty' sz : Nat} {l : List (Int × Int)} (hd : dstOk nt dst = true) (hx : (mkS E H).ev x = .sl ty' sz (slc l)) (hs : sz = 2) (ht : lkT T t = some i) (hu : i.u = .slice e) :
    Does P nt ⟨dst, .call ⟨.builtin .len, #[x], #[t]⟩, ty, pos, aft, gd⟩ ⟨fo x, []⟩ (.int (l.length : Int)) [] (mkS E H) := by
  have := does_len_sl (P := P) (ty := ty) (pos := pos) (aft := aft) (gd := gd) hT hd hx ht hu
  rw [hs, slc_length, Nat.mul_div_cancel _ (by omega)] at this; exact this

/-! literals and append: the row's number is the state's next one -/
theorem st_lit0 (hT : TabOk P T) {t e n : Nat} {l : List (Nat × Option Row)} {i j : TyI} (hd : dstOk nt dst = true) (ht : lkT T t = some i) (hu : i.u = .slice e) (he : lkT T e = some j) (hs : j.size = 1) (hr : (mkS E ⟨n, l⟩).row n = none) (h0 : Nat.beq n 0 = false) :
    Does P nt ⟨dst, .buildSlice t 0 #[], ty, pos, aft, gd⟩ ⟨[], [n]⟩ (.own n 0) [(n, some ⟨e, 1, 0, true, false, ints []⟩)] (mkS E ⟨n, l⟩) := by
  have := does_buildSlice0 (P := P) (ty := ty) (pos := pos) (aft := aft) (gd := gd) hT hd ht hu he (by omega) hr (fun h => by rw [h] at h0; simp at h0)
  rw [hs] at this; exact this
theorem st_lit0_s (hT : TabOk P T) {t e n : Nat} {l : List (Nat × Option Row)} {i j : TyI} (hd : dstOk nt dst = true) (ht : lkT T t = some i) (hu : i.u = .slice e) (he : lkT T e = some j) (hs : j.size = 2) (hr : (mkS E ⟨n, l⟩).row n = none) (h0 : Nat.beq n 0 = false) :
    Does P nt ⟨dst, .buildSlice t 0 #[], ty, pos, aft, gd⟩ ⟨[], [n]⟩ (.own n 0) [(n, some ⟨e, 2, 0, true, false, slc []⟩)] (mkS E ⟨n, l⟩) := by
  have := does_buildSlice0 (P := P) (ty := ty) (pos := pos) (aft := aft) (gd := gd) hT hd ht hu he (by omega) hr (fun h => by rw [h] at h0; simp at h0)
  rw [hs] at this; exact this
theorem st_lit1 (hT : TabOk P T) {t e n : Nat} {l : List (Nat × Option Row)} {p : Operand} {i j : TyI} {z : Int} (hd : dstOk nt dst = true) (hp : (mkS E ⟨n, l⟩).ev p = .int z) (ht : lkT T t = some i) (hu : i.u = .slice e) (he : lkT T e = some j) (hs : j.size = 1) (hr : (mkS E ⟨n, l⟩).row n = none) (h0 : Nat.beq n 0 = false) :
    Does P nt ⟨dst, .buildSlice t 1 #[(0, p)], ty, pos, aft, gd⟩ ⟨fo p, [n]⟩ (.own n 0) [(n, some ⟨e, 1, 0, true, false, ints [z]⟩)] (mkS E ⟨n, l⟩) := by
  have := does_buildSlice1 (P := P) (ty := ty) (pos := pos) (aft := aft) (gd := gd) hT hd hp (ys := [.int z]) rfl rfl ht hu he (by omega) (by omega) hs.symm hr (fun h => by rw [h] at h0; simp at h0)
  rw [hs] at this; exact this
theorem st_lit1_s (hT : TabOk P T) {t e n : Nat} {l : List (Nat × Option Row)} {p : Operand} {i j : TyI} {a b : Int} (hd : dstOk nt dst = true) (hp : (mkS E ⟨n, l⟩).ev p = .agg [.int a, .int b]) (ht : lkT T t = some i) (hu : i.u = .slice e) (he : lkT T e = some j) (hs : j.size = 2) (hr : (mkS E ⟨n, l⟩).row n = none) (h0 : Nat.beq n 0 = false) :
    Does P nt ⟨dst, .buildSlice t 1 #[(0, p)], ty, pos, aft, gd⟩ ⟨fo p, [n]⟩ (.own n 0) [(n, some ⟨e, 2, 0, true, false, slc [(a, b)]⟩)] (mkS E ⟨n, l⟩) := by
  have := does_buildSlice1 (P := P) (ty := ty) (pos := pos) (aft := aft) (gd := gd) hT hd hp (ys := [.int a, .int b]) rfl rfl ht hu he (by omega) (by omega) hs.symm hr (fun h => by rw [h] at h0; simp at h0)
  rw [hs] at this; exact this
theorem st_app (hT : TabOk P T) {t e : Nat} {x y : Operand} {i j : TyI} {r k r2 k2 : Nat} {row row2 : Row} {zs ys : List Int} (hd : dstOk nt dst = true) (hx : (mkS E H).ev x = .own r k) (hr : (mkS E H).row r = some row) (hc : row.cs = ints zs) (hv : row.ver = k) (hbx : row.box = false) (hp : row.pure = true) (h0 : Nat.beq r 0 = false)
    (hy : (mkS E H).ev y = .own r2 k2) (hr2 : (mkS E H).row r2 = some row2) (hc2 : row2.cs = ints ys) (hv2 : row2.ver = k2) (hp2 : row2.pure = true) (hs2 : row2.sz = 1)
    (ht : lkT T t = some i) (hu : i.u = .slice e) (he : lkT T e = some j) (hty : row.ty = e) (hsz : row.sz = 1) (hs : j.size = 1) (hzl : j.zero.length = 1) (hby : j.bytes = 8) (hb : zs.length + ys.length ≤ 4294967296) :
    Does P nt ⟨dst, .call ⟨.builtin .append, #[x, y], #[t, t]⟩, ty, pos, aft, gd⟩ ⟨fo x ++ fo y, [r, r2]⟩ (.own r (k + 1)) [(r, some ⟨row.ty, 1, k + 1, true, false, ints (zs ++ ys)⟩)] (mkS E H) := by
  have hsrc := src_own (R := ⟨fo x ++ fo y, [r, r2]⟩) hy hr2 hv2 (by simp +contextual) (by simp)
  rw [hs2, hc2] at hsrc
  have := does_append (P := P) (ty := ty) (pos := pos) (aft := aft) (gd := gd) hT hd hx hr hv hbx (fun h => by rw [h] at h0; simp at h0) ht hu he hty (by rw [hsz, hs]) (by rw [hzl, hs]) (by rw [hs]; exact hsrc) (by simp +contextual) (by simp) (by rw [hc, ints_length, ints_length, hby]; omega)
  rw [hc, ints_append, hp, hp2, hsz] at this; exact this
theorem st_app_s (hT : TabOk P T) {t e : Nat} {x y : Operand} {i j : TyI} {r k r2 k2 : Nat} {row row2 : Row} {zs ys : List (Int × Int)} (hd : dstOk nt dst = true) (hx : (mkS E H).ev x = .own r k) (hr : (mkS E H).row r = some row) (hc : row.cs = slc zs) (hv : row.ver = k) (hbx : row.box = false) (hp : row.pure = true) (h0 : Nat.beq r 0 = false)
    (hy : (mkS E H).ev y = .own r2 k2) (hr2 : (mkS E H).row r2 = some row2) (hc2 : row2.cs = slc ys) (hv2 : row2.ver = k2) (hp2 : row2.pure = true) (hs2 : row2.sz = 2)
    (ht : lkT T t = some i) (hu : i.u = .slice e) (he : lkT T e = some j) (hty : row.ty = e) (hsz : row.sz = 2) (hs : j.size = 2) (hzl : j.zero.length = 2) (hby : j.bytes = 16) (hb : zs.length + ys.length ≤ 4294967296) :
    Does P nt ⟨dst, .call ⟨.builtin .append, #[x, y], #[t, t]⟩, ty, pos, aft, gd⟩ ⟨fo x ++ fo y, [r, r2]⟩ (.own r (k + 1)) [(r, some ⟨row.ty, 2, k + 1, true, false, slc (zs ++ ys)⟩)] (mkS E H) := by
  have hsrc := src_own (R := ⟨fo x ++ fo y, [r, r2]⟩) hy hr2 hv2 (by simp +contextual) (by simp)
  rw [hs2, hc2] at hsrc
  have := does_append (P := P) (ty := ty) (pos := pos) (aft := aft) (gd := gd) hT hd hx hr hv hbx (fun h => by rw [h] at h0; simp at h0) ht hu he hty (by rw [hsz, hs]) (by rw [hzl, hs]) (by rw [hs]; exact hsrc) (by simp +contextual) (by simp) (by rw [hc, slc_length, slc_length, hby]; omega)
  rw [hc, slc_append, hp, hp2, hsz] at this; exact this
end
end Go.Sym
end

section
/-
  Calls, weaker states, and how a function begins, on abstract states; nothing of the program stands here but its types.
-/
set_option linter.unusedVariables false
set_option linter.unusedSimpArgs false
namespace Go.Sym
open Go Go.RowKit Go.Park Go.Proofs.YtnfjmcenjpoloaaDoor

/-! ### weaker states -/
/-- rows may get other numbers: ρ tells, for a row of the weaker state, which row it was -/
def rn : List (Nat × Nat) → Nat → Nat
  | [], r => r
  | (d, x) :: e, r => bif Nat.beq d r then x else rn e r
section
variable (ρ : List (Nat × Nat)) (l l' : List (Nat × Option Row))
inductive LeV : AV → AV → Prop
  | any (x : AV) : LeV x .any
  | v {c c' : Value} (h : c = c') : LeV (.v c) (.v c')
  | own {r r' k k' : Nat} {row row' : Row} (hr : lkR l r = some row) (hv : row.ver = k) (hr' : lkR l' r' = some row') (hv' : row'.ver = k') (he : Nat.beq (rn ρ r') r = true) : LeV (.own r k) (.own r' k')
  | sl {ty ty' sz : Nat} {cs cs' : List AV} (h : cs = cs') : LeV (.sl ty sz cs) (.sl ty' sz cs')
  | both {x x' : Value} {ty sz : Nat} {cs cs' : List AV} (hx : x = x') (h : cs = cs') : LeV (.both x (.sl ty sz cs)) (.both x' (.sl ty sz cs'))
  | tab {g : Nat} {cs cs' : List AV} (h : cs = cs') : LeV (.tab g cs) (.tab g cs')
  | frz {r k ty sz : Nat} {row : Row} {cs : List AV} (hr : lkR l r = some row) (hv : row.ver = k) (hp : row.pure = true) (hb : row.box = false) (hs : sz = row.sz) (hc : cs = row.cs) (hout : (l'.all fun e => !Nat.beq (rn ρ e.1) r) = true) : LeV (.own r k) (.sl ty sz cs)
  | nil {r k : Nat} {row' : Row} (hr : lkR l (rn ρ r) = none) (hr' : lkR l' r = some row') (hv' : row'.ver = k) : LeV (.v (.slice none 0 0)) (.own r k)
  | ptr {r r' k k' o o' : Nat} {row row' : Row} (hr : lkR l r = some row) (hv : row.ver = k) (hr' : lkR l' r' = some row') (hv' : row'.ver = k') (he : Nat.beq (rn ρ r') r = true) (ho : o = o') : LeV (.ptr r k o) (.ptr r' k' o')
inductive LeVL : List AV → List AV → Prop
  | nil : LeVL [] []
  | cons {x y : AV} {xs ys : List AV} (h : LeV ρ l l' x y) (k : LeVL xs ys) : LeVL (x :: xs) (y :: ys)
inductive LeEs (E : List (Nat × AV)) : List (Nat × AV) → Prop
  | nil : LeEs E []
  | cons {d : Nat} {x : AV} {E' : List (Nat × AV)} (h : LeV ρ l l' (lkE E d) x) (k : LeEs E E') : LeEs E ((d, x) :: E')
structure LeRow (row row' : Row) : Prop where
  ty : row'.ty = row.ty
  sz : row'.sz = row.sz
  box : row'.box = row.box
  cells : (row.pure = true ∧ row'.cs = row.cs) ∨ ((row'.pure = false ∨ pureBs row'.cs = true) ∧ LeVL ρ l l' row.cs row'.cs)
inductive LeHs : List (Nat × Option Row) → Prop
  | nil : LeHs []
  | keep {r : Nat} {row row' : Row} {m : List (Nat × Option Row)} (hr : lkR l (rn ρ r) = some row) (h : LeRow ρ l l' row row') (k : LeHs m) : LeHs ((r, some row') :: m)
  | fresh {r : Nat} {row' : Row} {m : List (Nat × Option Row)} (hr : lkR l (rn ρ r) = none) (hc : row'.cs = []) (hb : row'.box = false) (hs : 0 < row'.sz) (h0 : Nat.beq r 0 = false) (k : LeHs m) : LeHs ((r, some row') :: m)
  | none {r : Nat} {m : List (Nat × Option Row)} (k : LeHs m) : LeHs ((r, none) :: m)
end
theorem leEs_get {ρ : List (Nat × Nat)} {E : List (Nat × AV)} {l l' : List (Nat × Option Row)} {E' : List (Nat × AV)} (h : LeEs ρ l l' E E') (t : Nat) : LeV ρ l l' (lkE E t) (lkE E' t) := by
  induction h with
  | nil => exact .any _
  | @cons d x E' h k ih =>
    simp only [lkE]
    cases hb : Nat.beq d t
    · exact ih
    · have := Nat.eq_of_beq_eq_true hb
      subst this
      exact h
theorem leHs_get {ρ : List (Nat × Nat)} {l l' m : List (Nat × Option Row)} (h : LeHs ρ l l' m) (r : Nat) (row' : Row) : lkR m r = some row' →
    (∃ row, lkR l (rn ρ r) = some row ∧ LeRow ρ l l' row row') ∨ (lkR l (rn ρ r) = none ∧ row'.cs = [] ∧ row'.box = false ∧ 0 < row'.sz ∧ r ≠ 0) := by
  induction h with
  | nil => intro h; simp [lkR] at h
  | @keep r0 row row0 m hr h k ih =>
    intro hm
    simp only [lkR] at hm
    cases hb : Nat.beq r0 r
    · rw [hb] at hm; exact ih hm
    · rw [hb] at hm
      have := Nat.eq_of_beq_eq_true hb
      subst this
      simp at hm
      subst hm
      exact .inl ⟨row, hr, h⟩
  | @fresh r0 row0 m hr hc hbx hs h0 k ih =>
    intro hm
    simp only [lkR] at hm
    cases hb : Nat.beq r0 r
    · rw [hb] at hm; exact ih hm
    · rw [hb] at hm
      have := Nat.eq_of_beq_eq_true hb
      subst this
      simp at hm
      subst hm
      exact .inr ⟨hr, hc, hbx, hs, fun e => by subst e; simp at h0⟩
  | @none r0 m k ih =>
    intro hm
    simp only [lkR] at hm
    cases hb : Nat.beq r0 r
    · rw [hb] at hm; exact ih hm
    · rw [hb] at hm; simp at hm
def apartB : List Nat → Bool
  | [] => true
  | x :: xs => (xs.all fun y => !Nat.beq x y) && apartB xs
theorem lkR_key {r : Nat} {o : Row} : ∀ {m : List (Nat × Option Row)}, lkR m r = some o → r ∈ m.map (·.1)
  | [], h => by simp [lkR] at h
  | (d, x) :: m, h => by
    simp only [lkR] at h
    cases hb : Nat.beq d r
    · rw [hb] at h; simp [lkR_key (m := m) h]
    · have := Nat.eq_of_beq_eq_true hb
      simp [this]
theorem apartB_inj {f : Nat → Nat} : ∀ {ks : List Nat}, apartB (ks.map f) = true → ∀ r s, r ∈ ks → s ∈ ks → f r = f s → r = s
  | [], _, r, s, h, _, _ => by simp at h
  | k :: ks, hA, r, s, hr, hs, he => by
    simp only [List.map_cons, apartB, Bool.and_eq_true] at hA
    have hne : ∀ x, x ∈ ks → f k ≠ f x := fun x hx e => by
      have := List.all_eq_true.1 hA.1 (f x) (List.mem_map.2 ⟨x, hx, rfl⟩)
      rw [e] at this
      simp at this
    rcases List.mem_cons.1 hr with e | hr'
    · rcases List.mem_cons.1 hs with e' | hs'
      · exact e.trans e'.symm
      · exact absurd (e ▸ he) (hne s hs')
    · rcases List.mem_cons.1 hs with e' | hs'
      · exact absurd (e' ▸ he.symm) (hne r hr')
      · exact apartB_inj hA.2 r s hr' hs' he
theorem weak_of (ρ : List (Nat × Nat)) {E E' : List (Nat × AV)} {H H' : Hp} (hE : LeEs ρ H.l H'.l E E') (hH : LeHs ρ H.l H'.l H'.l) (hρ : apartB ((H'.l.map (·.1)).map (rn ρ)) = true) (hρ0 : rn ρ 0 = 0) : Weak (mkS E H) (mkS E' H') := by
  rintro F a w ⟨φ, Z, hS⟩
  let φ' : Nat → Value := fun r => match lkR H.l (rn ρ r) with
    | some _ => φ (rn ρ r)
    | none => .slice none 0 0
  have hφ : ∀ r row, lkR H.l (rn ρ r) = some row → φ' r = φ (rn ρ r) := fun r row h => by simp only [φ', h]
  have hφn : ∀ r, lkR H.l (rn ρ r) = none → φ' r = .slice none 0 0 := fun r h => by simp only [φ', h]
  let Z' : Nat → Prop := fun b => Z b ∨ ∃ r row, lkR H.l r = some row ∧ row.pure = true ∧ row.box = false ∧ (H'.l.all fun e => !Nat.beq (rn ρ e.1) r) = true ∧ (φ r).ownBlock = some b
  have htip : ∀ r row, lkR H.l r = some row → (cxOf φ Z (mkS E H) w).tip r = some (φ r, row.ver) := fun r row h => by simp [cxOf, mkS, mkSt, h]
  have htip' : ∀ r row', lkR H'.l r = some row' → (cxOf φ' Z' (mkS E' H') w).tip r = some (φ' r, row'.ver) := fun r row h => by simp [cxOf, mkS, mkSt, h]
  have hV : ∀ x y u, LeV ρ H.l H'.l x y → relV (cxOf φ Z (mkS E H) w) x u → relV (cxOf φ' Z' (mkS E' H') w) y u := by
    intro x y u h hx
    cases h with
    | any x => simp [relV]
    | v h => subst h; simpa [relV] using hx
    | @own r r' k k' row row' hr hv hr' hv' he =>
      have he' := Nat.eq_of_beq_eq_true he
      subst he'
      simp only [relV, htip _ row hr] at hx
      simp only [relV, htip' r' row' hr']
      obtain ⟨t, j, e, h1, h2⟩ := hx
      simp at e
      obtain ⟨rfl, rfl⟩ := e
      exact ⟨_, _, rfl, by omega, fun _ => by rw [hφ r' row hr]; exact h2 hv⟩
    | @sl ty ty' sz cs cs' h =>
      subst h
      have hp : pureV (.sl ty sz cs) := by simp only [relV] at hx; simpa [pureV] using hx.1
      have := relV_pure (cx := cxOf φ Z (mkS E H) w) (cx' := cxOf φ' Z' (mkS E' H') w) ⟨fun b hb => ⟨.inl hb, rfl⟩⟩ _ _ hp hx
      simpa only [relV] using this
    | @both x x' ty sz cs cs' he h =>
      subst he h
      have hp : pureV (.both x (.sl ty sz cs)) := by simp only [relV] at hx; simpa [pureV] using hx.2.1
      exact relV_pure (cx := cxOf φ Z (mkS E H) w) (cx' := cxOf φ' Z' (mkS E' H') w) ⟨fun b hb => ⟨.inl hb, rfl⟩⟩ _ _ hp hx
    | @tab g cs cs' h =>
      subst h
      have hp : pureV (.tab g cs) := by simp only [relV] at hx; simpa [pureV] using hx.1
      exact relV_pure (cx := cxOf φ Z (mkS E H) w) (cx' := cxOf φ' Z' (mkS E' H') w) ⟨fun b hb => ⟨.inl hb, rfl⟩⟩ _ _ hp hx
    | @frz r k ty sz row cs hr hv hp hb hs hc hout =>
      subst hs hc
      have hr0 : (mkS E H).row r = some row := hr
      have e1 := own_open hS hr0 hv hx
      obtain ⟨n, xs, hm⟩ := rowMem hS hr0
      have hrr := hS.rows r row hr0
      have hpl := hrr.pur hp
      have hzz : CxZ (cxOf φ Z (mkS E H) w) (cxOf φ' Z' (mkS E' H') w) := ⟨fun b hb => ⟨.inl hb, rfl⟩⟩
      simp only [relV]
      refine ⟨hpl, ?_⟩
      rcases hm.own.2 with ⟨h1, h2⟩ | ⟨g, cap, cur, h1, _, hg, h2, h3, h4, h5⟩
      · have hc0 : row.cs = [] := List.eq_nil_of_length_eq_zero (by rw [hm.len, h2]; simp)
        exact ⟨none, 0, 0, by rw [e1, h1], Nat.le_refl _, by simp, hrr.sz, by rw [hc0]; simp, .inl hc0⟩
      · refine ⟨some ⟨g, 0, none⟩, n, cap, by rw [e1, h1], h2, h3, hrr.sz, hm.len, .inr ⟨g, 0, rfl, .inr ⟨r, row, hr, hp, hb, hout, by rw [h1]; rfl⟩, relC_of fun i x hx => ?_⟩⟩
        obtain ⟨v, hv1, hv2⟩ := relL_get (relL_pure hzz _ _ hpl hm.rel) i x hx
        refine ⟨v, ?_, hm.one v (List.mem_of_getElem? hv1), hv2⟩
        have := hm.own.cells (g := g) (by rw [h1]; rfl) i v hv1
        rw [Addr.add_lit] at this
        exact this
    | @nil r k row' hr hr' hv' =>
      simp only [relV] at hx
      simp only [relV, htip' r row' hr']
      exact ⟨_, _, rfl, by omega, fun _ => by rw [hφn r hr]; exact hx⟩
    | @ptr r r' k k' o o' row row' hr hv hr' hv' he ho =>
      have he' := Nat.eq_of_beq_eq_true he
      subst he' ho
      simp only [relV, htip _ row hr] at hx
      simp only [relV, htip' r' row' hr']
      obtain ⟨t, j, e, h1, h2⟩ := hx
      simp at e
      obtain ⟨rfl, rfl⟩ := e
      exact ⟨_, _, rfl, by omega, fun _ => by rw [hφ r' row hr]; exact h2 hv⟩
  have hL : ∀ xs ys us, LeVL ρ H.l H'.l xs ys → relL (cxOf φ Z (mkS E H) w) xs us → relL (cxOf φ' Z' (mkS E' H') w) ys us := by
    intro xs ys us h
    induction h generalizing us with
    | nil => intro hx; simpa [relL] using hx
    | cons h k ih =>
      intro hx
      simp only [relL] at hx ⊢
      obtain ⟨u, vs, rfl, h1, h2⟩ := hx
      exact ⟨u, vs, rfl, hV _ _ _ h h1, ih vs h2⟩
  have hsome : ∀ r, ((mkS E' H').row r).isSome → r ∈ H'.l.map (·.1) ∧ ((∃ row row', lkR H.l (rn ρ r) = some row ∧ lkR H'.l r = some row' ∧ LeRow ρ H.l H'.l row row' ∧ φ' r = φ (rn ρ r)) ∨ φ' r = .slice none 0 0) := by
    intro r hr
    obtain ⟨row', hrow'⟩ := Option.isSome_iff_exists.1 hr
    refine ⟨lkR_key hrow', ?_⟩
    rcases leHs_get hH r row' hrow' with ⟨row, h1, h2⟩ | ⟨h1, _⟩
    · exact .inl ⟨row, row', h1, hrow', h2, hφ r row h1⟩
    · exact .inr (hφn r h1)
  refine ⟨φ', Z', hS.dfr, hS.nt, fun t => hV _ _ _ (leEs_get hE t) (hS.env t), ?_, ?_, ?_, ?_, ?_, hS.keep, ?_⟩
  · intro r row' hr
    rcases leHs_get hH r row' hr with ⟨row, h1, h2⟩ | ⟨h1, h2, h3, h4, h5⟩
    · have hrr := hS.rows _ row h1
      rw [hφ r row h1]
      obtain ⟨n, xs, k1, k2, k3, k4⟩ := hrr.own
      refine ⟨by rw [h2.sz]; exact hrr.sz, ?_, by rw [h2.box]; exact hrr.box, by rw [h2.box]; exact hrr.blk, n, xs, by rw [h2.ty, h2.sz]; exact k1, ?_, ?_, k4⟩
      · intro hp
        rcases h2.cells with ⟨h3, h4⟩ | ⟨h3, h4⟩
        · rw [h4]; exact hrr.pur h3
        · rcases h3 with h3 | h3
          · rw [h3] at hp; cases hp
          · exact pureL_of_rel (hL _ _ _ h4 k3) h3
      · rcases h2.cells with ⟨h3, h4⟩ | ⟨h3, h4⟩
        · rw [h4, h2.sz]; exact k2
        · rw [← relL_length (hL _ _ _ h4 k3), relL_length k3, h2.sz]; exact k2
      · rcases h2.cells with ⟨h3, h4⟩ | ⟨h3, h4⟩
        · rw [h4]; exact relL_pure (cx := cxOf φ Z (mkS E H) w) (cx' := cxOf φ' Z' (mkS E' H') w) ⟨fun b hb => ⟨.inl hb, rfl⟩⟩ _ _ (hrr.pur h3) k3
        · exact hL _ _ _ h4 k3
    · rw [hφn r h1]
      exact ⟨h4, fun _ => (by rw [h2]; simp [pureL]), fun h => (by rw [h3] at h; cases h), fun g hg => (by simp [Value.ownBlock] at hg), 0, [], World.ownsRow_nil w _ _ _, (by rw [h2]; simp), (by rw [h2]; simp [relL]), (by simp)⟩
  · intro r s hne hr hs g hg
    obtain ⟨hrk, h⟩ := hsome r hr
    obtain ⟨hsk, k⟩ := hsome s hs
    rcases h with ⟨row, row', h1, _, _, h2⟩ | h2
    · rcases k with ⟨rows, rows', h3, _, _, h4⟩ | h4
      · rw [h2] at hg
        rw [h4]
        exact hS.disj _ _ (fun e => hne (apartB_inj hρ r s hrk hsk e)) (by simp [mkS, mkSt, h1]) (by simp [mkS, mkSt, h3]) g hg
      · rw [h4]; simp [Value.ownBlock]
    · rw [h2] at hg; simp [Value.ownBlock] at hg
  · rintro b (hb | ⟨r, row, h1, h2, h3, h4, h5⟩)
    · exact hS.zlt b hb
    · have := (hS.rows r row h1).lt h5; exact this
  · intro b hb r hr
    rcases (hsome r hr).2 with ⟨row, row', h1, hk1, _, h2⟩ | h2
    · rw [h2]
      rcases hb with hb | ⟨r2, row2, h4, h5, h6, h7, h8⟩
      · exact hS.zrow b hb _ (by simp [mkS, mkSt, h1])
      · intro hg
        have hne : rn ρ r ≠ r2 := fun e => by
          obtain ⟨x, hx1, hx2⟩ := List.mem_map.1 (lkR_key hk1)
          have := List.all_eq_true.1 h7 x hx1
          rw [hx2, e] at this
          simp at this
        exact hS.disj _ _ hne (by simp [mkS, mkSt, h1]) (by simp [mkS, mkSt, h4]) b hg h8
    · rw [h2]; simp [Value.ownBlock]
  · rintro b (hb | ⟨r, row, h1, h2, h3, h4, h5⟩) hlt
    · exact hS.base b hb hlt
    · rcases (hS.rows r row h1).blk b h5 with h6 | h6
      · omega
      · rw [h3] at h6; cases h6.1
  · intro t ht hr
    obtain ⟨row', hrow'⟩ := Option.isSome_iff_exists.1 hr
    rcases leHs_get hH 0 row' hrow' with ⟨row, h1, h2⟩ | ⟨h1, _, _, _, h5⟩
    · rw [hφ 0 row h1]; rw [hρ0] at h1 ⊢; exact hS.recv t ht (by simp [mkS, mkSt, h1])
    · exact absurd rfl h5

/-! ### calls -/
section
variable {P : Program} {T : List (Nat × TyI)} {nt : Nat} {E : List (Nat × AV)} {H : Hp} {dst : Option Nat} {ty : Nat} {pos : String} {aft : Array Edge} {gd : Option (Nat × Bool)} {f : Nat} {args : List Operand} {at' : Array TypeId} {ts : List AV} {u es : List Nat}
theorem st_call {c : Value} (hd : dstOk nt dst = true) (hfn : FnS P f ts (.v c)) (hfz : FrzA (mkS E H) args ts u es) :
    Does P nt ⟨dst, .call ⟨.value (.func f), args.toArray, at'⟩, ty, pos, aft, gd⟩ ⟨es, u ++ []⟩ (.v c) [] (mkS E H) :=
  does_call 1 hd hfn hfz (by omega) (ids := []) (fun m h1 h2 => by simp [ado] at h2; omega) (by simp)
theorem st_call_s {n : Nat} {l : List (Nat × Option Row)} {t sz : Nat} {cs : List AV} (hd : dstOk nt dst = true) (hfn : FnS P f ts (.sl t sz cs)) (hfz : FrzA (mkS E ⟨n, l⟩) args ts u es) (hr : (mkS E ⟨n, l⟩).row n = none) (h0 : Nat.beq n 0 = false) :
    Does P nt ⟨dst, .call ⟨.value (.func f), args.toArray, at'⟩, ty, pos, aft, gd⟩ ⟨es, u ++ [n]⟩ (.own n 0) [(n, some ⟨t, sz, 0, true, false, cs⟩)] (mkS E ⟨n, l⟩) :=
  does_call n hd hfn hfz (Nat.pos_of_ne_zero fun h => by subst h; simp at h0) (ids := [n]) (fun m h1 h2 => by simp [ado] at h2; simp; omega) (by simpa using hr)
theorem st_call_h {n : Nat} {l : List (Nat × Option Row)} {t sz : Nat} {cs : List AV} {a b : Value} (hd : dstOk nt dst = true) (hfn : FnS P f ts (.agg [.v a, .v b, .sl t sz cs])) (hfz : FrzA (mkS E ⟨n, l⟩) args ts u es) (hr : (mkS E ⟨n, l⟩).row n = none) (h0 : Nat.beq n 0 = false) :
    Does P nt ⟨dst, .call ⟨.value (.func f), args.toArray, at'⟩, ty, pos, aft, gd⟩ ⟨es, u ++ [n]⟩ (.agg [.v a, .v b, .own n 0]) [(n, some ⟨t, sz, 0, true, false, cs⟩)] (mkS E ⟨n, l⟩) :=
  does_call n hd hfn hfz (Nat.pos_of_ne_zero fun h => by subst h; simp at h0) (ids := [n]) (fun m h1 h2 => by simp [ado, adoL] at h2; simp; omega) (by simpa using hr)
theorem st_call_hv {n : Nat} {l : List (Nat × Option Row)} {t sz : Nat} {cs : List AV} {a b c : Value} (hd : dstOk nt dst = true) (hfn : FnS P f ts (.tup [.agg [.v a, .v b, .sl t sz cs], .v c])) (hfz : FrzA (mkS E ⟨n, l⟩) args ts u es) (hr : (mkS E ⟨n, l⟩).row n = none) (h0 : Nat.beq n 0 = false) :
    Does P nt ⟨dst, .call ⟨.value (.func f), args.toArray, at'⟩, ty, pos, aft, gd⟩ ⟨es, u ++ [n]⟩ (.tup [.agg [.v a, .v b, .own n 0], .v c]) [(n, some ⟨t, sz, 0, true, false, cs⟩)] (mkS E ⟨n, l⟩) :=
  does_call n hd hfn hfz (Nat.pos_of_ne_zero fun h => by subst h; simp at h0) (ids := [n]) (fun m h1 h2 => by simp [ado, adoL] at h2; simp; omega) (by simpa using hr)
theorem st_call_hvv {n : Nat} {l : List (Nat × Option Row)} {t sz : Nat} {cs : List AV} {a b c d : Value} (hd : dstOk nt dst = true) (hfn : FnS P f ts (.tup [.agg [.v a, .v b, .sl t sz cs], .v c, .v d])) (hfz : FrzA (mkS E ⟨n, l⟩) args ts u es) (hr : (mkS E ⟨n, l⟩).row n = none) (h0 : Nat.beq n 0 = false) :
    Does P nt ⟨dst, .call ⟨.value (.func f), args.toArray, at'⟩, ty, pos, aft, gd⟩ ⟨es, u ++ [n]⟩ (.tup [.agg [.v a, .v b, .own n 0], .v c, .v d]) [(n, some ⟨t, sz, 0, true, false, cs⟩)] (mkS E ⟨n, l⟩) :=
  does_call n hd hfn hfz (Nat.pos_of_ne_zero fun h => by subst h; simp at h0) (ids := [n]) (fun m h1 h2 => by simp [ado, adoL] at h2; simp; omega) (by simpa using hr)
theorem st_call_sv {n : Nat} {l : List (Nat × Option Row)} {t sz : Nat} {cs : List AV} {c : Value} (hd : dstOk nt dst = true) (hfn : FnS P f ts (.tup [.sl t sz cs, .v c])) (hfz : FrzA (mkS E ⟨n, l⟩) args ts u es) (hr : (mkS E ⟨n, l⟩).row n = none) (h0 : Nat.beq n 0 = false) :
    Does P nt ⟨dst, .call ⟨.value (.func f), args.toArray, at'⟩, ty, pos, aft, gd⟩ ⟨es, u ++ [n]⟩ (.tup [.own n 0, .v c]) [(n, some ⟨t, sz, 0, true, false, cs⟩)] (mkS E ⟨n, l⟩) :=
  does_call n hd hfn hfz (Nat.pos_of_ne_zero fun h => by subst h; simp at h0) (ids := [n]) (fun m h1 h2 => by simp [ado, adoL] at h2; simp; omega) (by simpa using hr)
theorem st_call_vv {a b : Value} (hd : dstOk nt dst = true) (hfn : FnS P f ts (.tup [.v a, .v b])) (hfz : FrzA (mkS E H) args ts u es) :
    Does P nt ⟨dst, .call ⟨.value (.func f), args.toArray, at'⟩, ty, pos, aft, gd⟩ ⟨es, u ++ []⟩ (.tup [.v a, .v b]) [] (mkS E H) :=
  does_call 1 hd hfn hfz (by omega) (ids := []) (fun m h1 h2 => by simp [ado, adoL] at h2; omega) (by simp)
/-! allocations, the row's number being the state's next one -/
theorem st_alloc (hT : TabOk P T) {t n : Nat} {l : List (Nat × Option Row)} {i : TyI} {ys : List AV} (hd : dstOk nt dst = true) (ht : lkT T t = some i) (hr : (mkS E ⟨n, l⟩).row n = none) (h0 : Nat.beq n 0 = false) (hs : i.zero.length = i.size) (hp : 0 < i.size) (hy : (i.zero.map fun z => AV.v z.val) = ys) :
    Does P nt ⟨dst, .alloc t, ty, pos, aft, gd⟩ ⟨[], [n]⟩ (.ptr n 0 0) [(n, some ⟨t, i.size, 0, true, true, ys⟩)] (mkS E ⟨n, l⟩) := by
  have := does_alloc (P := P) (ty := ty) (pos := pos) (aft := aft) (gd := gd) hT hd ht hr (fun h => by subst h; simp at h0) hs hp
  rw [hy] at this; exact this
theorem st_box {t n m : Nat} {l : List (Nat × Option Row)} {x : Operand} {y : AV} {ys : List AV} {pu : Bool} {us : List Nat} (hd : dstOk nt dst = true) (hx : (mkS E ⟨n, l⟩).ev x = y) (hy : avCells y = some ys) (hc : allCells (mkS E ⟨n, l⟩) ys = true) (hr : (mkS E ⟨n, l⟩).row n = none) (h0 : Nat.beq n 0 = false) (hm : ys.length = m + 1) (hp : pureBs ys = pu) (hu : rowsOf ys = us) :
    Does P nt ⟨dst, .box t x, ty, pos, aft, gd⟩ ⟨fo x, n :: us⟩ (.ptr n 0 0) [(n, some ⟨t, m + 1, 0, pu, true, ys⟩)] (mkS E ⟨n, l⟩) := by
  have := does_box (P := P) (t := t) (ty := ty) (pos := pos) (aft := aft) (gd := gd) hd hx hy hc hr (fun h => by subst h; simp at h0) (fun h => by subst h; simp at hm)
  rw [hp, hu, hm] at this; exact this
end

/-! ### how a function begins -/
section
variable {P : Program} {T : List (Nat × TyI)} {f nt : Nat} {fn : Func} {c : Code} {rs : List ResultVar} {res : AV}
theorem fn_go1 (hT : TabOk P T) {x0 : AV} (hf : P.funcs[f]? = some fn) (hb : fn.body = some c) (hnm : (fn.name == "runtime.NumGoroutine") = false) (hnt : fn.ntmps = nt) (hrs : fn.results = rs.toArray) (hl : 1 ≤ nt) (h : AX P nt c (mkS [(0, x0)] ⟨1, []⟩) (ResOk T rs res)) : FnS P f [x0] res :=
  fn_of_ax hT hf hb hnm hnt hrs (by simpa using hl) h
theorem fn_go2 (hT : TabOk P T) {x0 x1 : AV} (hf : P.funcs[f]? = some fn) (hb : fn.body = some c) (hnm : (fn.name == "runtime.NumGoroutine") = false) (hnt : fn.ntmps = nt) (hrs : fn.results = rs.toArray) (hl : 2 ≤ nt) (h : AX P nt c (mkS [(0, x0), (1, x1)] ⟨1, []⟩) (ResOk T rs res)) : FnS P f [x0, x1] res :=
  fn_of_ax hT hf hb hnm hnt hrs (by simpa using hl) h
end

/-! ### the ends of pieces of code -/
section
variable {P : Program} {nt : Nat} {Φ : Exit → St → Prop} {K : St → Prop} {σ : St} {y : Code}
theorem ax_next (h : AX P nt y σ Φ) : thenS (fun σ1 => AX P nt y σ1 Φ) Φ .normal σ := ⟨h⟩
theorem then_exit {id : Nat} (h : Φ (.exit id) σ) : thenS K Φ (.exit id) σ := ⟨h⟩
theorem then_ret (h : Φ .ret σ) : thenS K Φ .ret σ := ⟨h⟩
theorem out_here {id : Nat} (h : Φ .normal σ) : outOf id Φ (.exit id) σ := ⟨by simpa [outD] using h⟩
theorem out_away {id id' : Nat} (hn : Nat.beq id' id = false) (h : Φ (.exit id') σ) : outOf id Φ (.exit id') σ := by
  have : ¬ id' = id := fun e => by subst e; simp at hn
  exact ⟨by simpa [outD, this] using h⟩
theorem out_normal {id : Nat} (h : Φ .normal σ) : outOf id Φ .normal σ := ⟨h⟩
theorem out_ret {id : Nat} (h : Φ .ret σ) : outOf id Φ .ret σ := ⟨h⟩
theorem round_exit {ι : Type} {I : ι → St} {Pre : ι → Prop} {μ : ι → Nat} {i : ι} {id : Nat} (h : Φ (.exit id) σ) : roundS I Pre μ i Φ (.exit id) σ := ⟨h⟩
theorem round_ret {ι : Type} {I : ι → St} {Pre : ι → Prop} {μ : ι → Nat} {i : ι} (h : Φ .ret σ) : roundS I Pre μ i Φ .ret σ := ⟨h⟩
theorem round_next {ι : Type} {I : ι → St} {Pre : ι → Prop} {μ : ι → Nat} {i : ι} (i' : ι) (h1 : Pre i') (h2 : μ i' < μ i) (h3 : Weak σ (I i')) : roundS I Pre μ i Φ .normal σ := ⟨i', h1, h2, h3⟩
end
theorem to0 : Int.toNat 0 = 0 := rfl
theorem to1 : Int.toNat 1 = 1 := rfl
theorem to2 : Int.toNat 2 = 2 := rfl
theorem toC (k : Nat) : Int.toNat (k : Int) = k := by omega
theorem nz_succ (k : Nat) : (k : Int) + 1 = ((k + 1 : Nat) : Int) := by omega
theorem nz_pred (k : Nat) : ((k + 1 : Nat) : Int) - 1 = (k : Int) := by omega
end Go.Sym
end

section
/-
  More steps on abstract states: remainders, bits, conversions, bytes, strings, literals, made slices, pointers that are not nil.
-/
set_option linter.unusedVariables false
set_option linter.unusedSimpArgs false
namespace Go.Sym
open Go Go.RowKit Go.Park Go.Proofs.YtnfjmcenjpoloaaDoor

/-! rows of bytes -/
def byts (l : List Int) : List AV := l.map fun z => AV.v (.int .u8 z)
theorem byts_length (l : List Int) : (byts l).length = l.length := by simp [byts]
theorem rd_byts {l : List Int} {j : Nat} (h : j < l.length) : rd (byts l) j = .v (.int .u8 (gi l j)) := by
  simp only [rd, byts, List.getD_eq_getElem?_getD, List.getElem?_map, gi]
  rw [List.getElem?_eq_getElem h]
  rfl
theorem scal_byts (l : List Int) : scalL (byts l) := fun x hx => by
  simp only [byts, List.mem_map] at hx
  obtain ⟨z, _, rfl⟩ := hx
  exact ⟨_, rfl⟩
theorem pure_byts (l : List Int) : pureL (byts l) := pureL_scal (scal_byts l)
theorem byts_take (l : List Int) (n : Nat) : (byts l).take n = byts (l.take n) := by simp [byts, List.map_take]

/-! bits -/
def xorI (a b : Int) : Int := IntKind.i64.wrap ((BitVec.ofInt IntKind.i64.bits a ^^^ BitVec.ofInt IntKind.i64.bits b).toNat : Int)
def andI (a b : Int) : Int := IntKind.i64.wrap ((BitVec.ofInt IntKind.i64.bits a &&& BitVec.ofInt IntKind.i64.bits b).toNat : Int)
def orI (a b : Int) : Int := IntKind.i64.wrap ((BitVec.ofInt IntKind.i64.bits a ||| BitVec.ofInt IntKind.i64.bits b).toNat : Int)
def bicI (a b : Int) : Int := IntKind.i64.wrap ((BitVec.ofInt IntKind.i64.bits a &&& ~~~BitVec.ofInt IntKind.i64.bits b).toNat : Int)

section
variable {P : Program} {T : List (Nat × TyI)} {nt : Nat} {σ : St} {dst : Option Nat} {ty : Nat} {pos : String} {aft : Array Edge} {gd : Option (Nat × Bool)}
theorem st_nilck {x : Operand} {r k o : Nat} {row : Row} (hd : dstOk nt dst = true) (hx : σ.ev x = .ptr r k o) (hr : σ.row r = some row) (hv : row.ver = k) :
    Does P nt ⟨dst, .nilCheck x, ty, pos, aft, gd⟩ ⟨fo x, [r]⟩ (.ptr r k o) [] σ :=
  does_pure hd fun τ hag F φ Z a w hF hS => by
    have hr' : τ.row r = some row := by rw [hag.2 r (by simp)]; exact hr
    have h1 := ev_rel hag hS hx (by simp)
    obtain ⟨g, m, c, e1, e2⟩ := ptr_open hS hr' hv h1
    exact ⟨a.eval x, by simp [execOp, e2], h1⟩
theorem st_rem {t t' : Nat} {x y : Operand} {i j : Int} (hd : dstOk nt dst = true) (hx : σ.ev x = .int i) (hy : σ.ev y = .int j) (h0 : 0 ≤ i) (h1 : 0 < j) :
    Does P nt ⟨dst, .binOp .rem t x y t', ty, pos, aft, gd⟩ ⟨fo x ++ fo y, []⟩ (.int (i % j)) [] σ :=
  does_pure hd fun τ hag F φ Z a w hF hS =>
    ⟨.int .i64 (i % j), by simp [execOp, eqGuard, binOp, Op.intDiv, ev_v hag hS hx (by simp +contextual), ev_v hag hS hy (by simp +contextual), Int.ne_of_gt h1, Int.tmod_eq_emod_of_nonneg h0], by simp [relV]⟩
theorem st_quo {t t' : Nat} {x y : Operand} {i j : Int} (hd : dstOk nt dst = true) (hx : σ.ev x = .int i) (hy : σ.ev y = .int j) (h0 : 0 ≤ i ∧ i ≤ 9223372036854775807) (h1 : 0 < j) :
    Does P nt ⟨dst, .binOp .quo t x y t', ty, pos, aft, gd⟩ ⟨fo x ++ fo y, []⟩ (.int (i / j)) [] σ :=
  does_pure hd fun τ hag F φ Z a w hF hS => by
    have h2 : 0 ≤ i / j := Int.ediv_nonneg h0.1 (Int.le_of_lt h1)
    have h3 : i / j ≤ i := Int.ediv_le_self _ h0.1
    have h4 : IntKind.i64.wrap (i / j) = i / j := i64_ok (by omega)
    exact ⟨.int .i64 (i / j), by simp [execOp, eqGuard, binOp, Op.intDiv, ev_v hag hS hx (by simp +contextual), ev_v hag hS hy (by simp +contextual), Int.ne_of_gt h1, Int.tdiv_eq_ediv_of_nonneg h0.1, h4], by simp [relV]⟩
theorem st_neg {t : Nat} {x : Operand} {i : Int} (hd : dstOk nt dst = true) (hx : σ.ev x = .int i) (h0 : -9223372036854775807 ≤ i ∧ i ≤ 9223372036854775807) :
    Does P nt ⟨dst, .unOp .neg t x, ty, pos, aft, gd⟩ ⟨fo x, []⟩ (.int (-i)) [] σ :=
  does_pure hd fun τ hag F φ Z a w hF hS => by
    have h4 : IntKind.i64.wrap (-i) = -i := i64_ok (by omega)
    exact ⟨.int .i64 (-i), by simp [execOp, Op.unary, Op.intArith, ev_v hag hS hx (by simp), h4], by simp [relV]⟩
theorem st_xor {t t' : Nat} {x y : Operand} {i j : Int} (hd : dstOk nt dst = true) (hx : σ.ev x = .int i) (hy : σ.ev y = .int j) :
    Does P nt ⟨dst, .binOp .xor t x y t', ty, pos, aft, gd⟩ ⟨fo x ++ fo y, []⟩ (.int (xorI i j)) [] σ :=
  does_pure hd fun τ hag F φ Z a w hF hS =>
    ⟨.int .i64 (xorI i j), by simp [execOp, eqGuard, binOp, Op.intBits, xorI, ev_v hag hS hx (by simp +contextual), ev_v hag hS hy (by simp +contextual)], by simp [relV]⟩
theorem st_and {t t' : Nat} {x y : Operand} {i j : Int} (hd : dstOk nt dst = true) (hx : σ.ev x = .int i) (hy : σ.ev y = .int j) :
    Does P nt ⟨dst, .binOp .and t x y t', ty, pos, aft, gd⟩ ⟨fo x ++ fo y, []⟩ (.int (andI i j)) [] σ :=
  does_pure hd fun τ hag F φ Z a w hF hS =>
    ⟨.int .i64 (andI i j), by simp [execOp, eqGuard, binOp, Op.intBits, andI, ev_v hag hS hx (by simp +contextual), ev_v hag hS hy (by simp +contextual)], by simp [relV]⟩
theorem st_or {t t' : Nat} {x y : Operand} {i j : Int} (hd : dstOk nt dst = true) (hx : σ.ev x = .int i) (hy : σ.ev y = .int j) :
    Does P nt ⟨dst, .binOp .or t x y t', ty, pos, aft, gd⟩ ⟨fo x ++ fo y, []⟩ (.int (orI i j)) [] σ :=
  does_pure hd fun τ hag F φ Z a w hF hS =>
    ⟨.int .i64 (orI i j), by simp [execOp, eqGuard, binOp, Op.intBits, orI, ev_v hag hS hx (by simp +contextual), ev_v hag hS hy (by simp +contextual)], by simp [relV]⟩
theorem st_bic {t t' : Nat} {x y : Operand} {i j : Int} (hd : dstOk nt dst = true) (hx : σ.ev x = .int i) (hy : σ.ev y = .int j) :
    Does P nt ⟨dst, .binOp .andNot t x y t', ty, pos, aft, gd⟩ ⟨fo x ++ fo y, []⟩ (.int (bicI i j)) [] σ :=
  does_pure hd fun τ hag F φ Z a w hF hS =>
    ⟨.int .i64 (bicI i j), by simp [execOp, eqGuard, binOp, Op.intBits, bicI, ev_v hag hS hx (by simp +contextual), ev_v hag hS hy (by simp +contextual)], by simp [relV]⟩
theorem st_shl {t t' : Nat} {x y : Operand} {i j : Int} (hd : dstOk nt dst = true) (hx : σ.ev x = .int i) (hy : σ.ev y = .int j) (h0 : 0 ≤ j ∧ j ≤ 62) (h1 : -9223372036854775808 ≤ i * 2 ^ j.toNat ∧ i * 2 ^ j.toNat ≤ 9223372036854775807) :
    Does P nt ⟨dst, .binOp .shl t x y t', ty, pos, aft, gd⟩ ⟨fo x ++ fo y, []⟩ (.int (i * 2 ^ j.toNat)) [] σ :=
  does_pure hd fun τ hag F φ Z a w hF hS => by
    have h2 : ¬ j < 0 := by omega
    have h3 : min j.toNat IntKind.i64.bits = j.toNat := by have : IntKind.i64.bits = 64 := rfl; omega
    exact ⟨.int .i64 (i * 2 ^ j.toNat), by simp [execOp, eqGuard, binOp, Op.shift, ev_v hag hS hx (by simp +contextual), ev_v hag hS hy (by simp +contextual), h2, h3, i64_ok h1], by simp [relV]⟩
theorem st_shr {t t' : Nat} {x y : Operand} {i j : Int} (hd : dstOk nt dst = true) (hx : σ.ev x = .int i) (hy : σ.ev y = .int j) (h0 : 0 ≤ j ∧ j ≤ 62) (h1 : 0 ≤ i) :
    Does P nt ⟨dst, .binOp .shr t x y t', ty, pos, aft, gd⟩ ⟨fo x ++ fo y, []⟩ (.int (i / 2 ^ j.toNat)) [] σ :=
  does_pure hd fun τ hag F φ Z a w hF hS => by
    have h2 : ¬ j < 0 := by omega
    have h3 : min j.toNat IntKind.i64.bits = j.toNat := by have : IntKind.i64.bits = 64 := rfl; omega
    have h4 : i.fdiv (2 ^ j.toNat) = i / 2 ^ j.toNat := Int.fdiv_eq_ediv_of_nonneg _ (Int.le_of_lt (Int.pow_pos (by decide)))
    exact ⟨.int .i64 (i / 2 ^ j.toNat), by simp [execOp, eqGuard, binOp, Op.shift, ev_v hag hS hx (by simp +contextual), ev_v hag hS hy (by simp +contextual), h2, h3, h4], by simp [relV]⟩
theorem st_conv (hT : TabOk P T) {s t : Nat} {x : Operand} {i0 i : TyI} {k0 k : IntKind} {z : Int} (hd : dstOk nt dst = true) (hx : σ.ev x = .v (.int k0 z)) (h0 : lkT T s = some i0) (hu0 : i0.u = .int k0) (ht : lkT T t = some i) (hu : i.u = .int k) (hw : k.wrap z = z) :
    Does P nt ⟨dst, .convert s t x, ty, pos, aft, gd⟩ ⟨fo x, []⟩ (.v (.int k z)) [] σ :=
  does_pure hd fun τ hag F φ Z a w hF hS => by
    obtain ⟨inf0, d0, hk0⟩ := hT.known h0
    obtain ⟨inf, d, hk⟩ := hT.known ht
    exact ⟨.int k z, by simp [execOp, convert, run_underlying (hk0.int hu0), run_underlying (hk.int hu), Conv.intToInt, ev_v hag hS hx (by simp), hw], by simp [relV]⟩

/-! bytes of still memory -/
theorem st_ix_sl_b (hT : TabOk P T) {t e o : Nat} {x y : Operand} {i j : TyI} {ty' sz : Nat} {z : Int} {zs : List Int} (hd : dstOk nt dst = true) (hx : σ.ev x = .sl ty' sz (byts zs)) (hy : σ.ev y = .int z)
    (ht : lkT T t = some i) (hu : i.u = .slice e) (he : lkT T e = some j) (hs : sz = 1) (hj : j.size = 1) (ho : z.toNat = o) (h : 0 ≤ z ∧ o < zs.length) :
    Does P nt ⟨dst, .indexAddr t x y, ty, pos, aft, gd⟩ ⟨fo x ++ fo y, []⟩ (.ip (byts zs) o) [] σ := by
  have := does_index_sl (P := P) (nt := nt) (dst := dst) (ty := ty) (pos := pos) (aft := aft) (gd := gd) hT hd hx hy ht hu he (by omega) h.1 (by rw [byts_length, hj]; omega)
  rw [hj, Nat.mul_one, ho] at this
  exact this
theorem st_ld_ip_b (hT : TabOk P T) {t : Nat} {x : Operand} {i : TyI} {o : Nat} {zs : List Int} (hd : dstOk nt dst = true) (hx : σ.ev x = .ip (byts zs) o) (ht : lkT T t = some i) (hg : i.agg = false) (ho : o < zs.length) :
    Does P nt ⟨dst, .load t x, ty, pos, aft, gd⟩ ⟨fo x, []⟩ (.v (.int .u8 (gi zs o))) [] σ := by
  have := does_load_ip (P := P) (nt := nt) (dst := dst) (ty := ty) (pos := pos) (aft := aft) (gd := gd) hT hd hx ht hg (by rw [byts_length]; exact ho)
  rw [rd_byts ho] at this
  exact this
theorem st_len_sl_b (hT : TabOk P T) {t e : Nat} {x : Operand} {i : TyI} {ty' sz : Nat} {zs : List Int} (hd : dstOk nt dst = true) (hx : σ.ev x = .sl ty' sz (byts zs)) (hs : sz = 1) (ht : lkT T t = some i) (hu : i.u = .slice e) :
    Does P nt ⟨dst, .call ⟨.builtin .len, #[x], #[t]⟩, ty, pos, aft, gd⟩ ⟨fo x, []⟩ (.int (zs.length : Int)) [] σ := by
  have := does_len_sl (P := P) (nt := nt) (dst := dst) (ty := ty) (pos := pos) (aft := aft) (gd := gd) hT hd hx ht hu
  rw [hs, byts_length, Nat.div_one] at this
  exact this
theorem st_len_both_b (hT : TabOk P T) {t e : Nat} {x : Operand} {i : TyI} {c : Value} {ty' sz : Nat} {zs : List Int} (hd : dstOk nt dst = true) (hx : σ.ev x = .both c (.sl ty' sz (byts zs))) (hs : sz = 1) (ht : lkT T t = some i) (hu : i.u = .slice e) :
    Does P nt ⟨dst, .call ⟨.builtin .len, #[x], #[t]⟩, ty, pos, aft, gd⟩ ⟨fo x, []⟩ (.int (zs.length : Int)) [] σ :=
  does_pure hd fun τ hag F φ Z a w hF hS => by
    have h2 := ev_rel hag hS hx (by simp)
    simp only [relV] at h2
    obtain ⟨_, hp, ao, n, c, e1, h3, h4, h5, h6, h7⟩ := h2
    have hn : zs.length = n := by rw [byts_length, hs] at h6; omega
    exact ⟨.int .i64 n, by simp [execOp, resolve, invoke, builtin, e1, run_len_slice hT ht hu], by simp [relV, hn]⟩
/-- a value known twice: what one loads of it is its second part -/
theorem does_snd {o : Oper} {R : Foot} {x : Value} {y : AV} (h : Does P nt o R (.both x y) [] σ) : Does P nt o R y [] σ := by
  refine ⟨?_⟩
  intro τ hag F hF a w hS Q K hK
  refine h.out τ hag F hF a w hS Q K fun u w' hs => hK u w' ?_
  obtain ⟨φ, Z, hS'⟩ := hs
  refine ⟨φ, Z, ?_⟩
  cases hdst : o.dst with
  | none => rw [hdst] at hS'; simpa [St.upd] using hS'
  | some d =>
    rw [hdst] at hS'
    have he : ∀ i, relV (cxOf φ Z (τ.upd (some d) (.both x y) []) w') ((τ.upd (some d) (.both x y) []).env i) ((a.put (some d) u).tmps.getD i undef) → relV (cxOf φ Z (τ.upd (some d) y []) w') ((τ.upd (some d) y []).env i) ((a.put (some d) u).tmps.getD i undef) := fun i h1 => by
      simp only [St.upd, St.put, St.rowsUpd] at h1 ⊢
      by_cases e : i = d
      · rw [if_pos e] at h1 ⊢; simp only [relV] at h1; exact h1.2
      · rw [if_neg e] at h1 ⊢; exact h1
    exact ⟨hS'.dfr, hS'.nt, fun i => he i (hS'.env i), hS'.rows, hS'.disj, hS'.zlt, hS'.zrow, hS'.base, hS'.keep, hS'.recv⟩
theorem st_ld_both (hT : TabOk P T) {t : Nat} {x : Operand} {i : TyI} {r k : Nat} {row : Row} {c : Value} {y : AV} {ys : List AV} (hd : dstOk nt dst = true) (hx : σ.ev x = .ptr r k 0) (hr : σ.row r = some row) (hc : row.cs = .both c y :: ys) (hv : row.ver = k) (ht : lkT T t = some i) (hg : i.agg = false) :
    Does P nt ⟨dst, .load t x, ty, pos, aft, gd⟩ ⟨fo x, [r]⟩ y [] σ := by
  have := does_load (P := P) (nt := nt) (dst := dst) (ty := ty) (pos := pos) (aft := aft) (gd := gd) hT hd hx hr hv ht hg (by rw [hc]; simp)
  rw [show rd row.cs 0 = .both c y by rw [hc]; rfl] at this
  exact does_snd this

/-! strings -/
theorem str_beq (a b : ByteArray) : (a.toList == b.toList) = decide (a = b) := by
  rw [ByteArray.toList_eq, ByteArray.toList_eq]
  by_cases h : a = b
  · subst h; simp
  · rw [decide_eq_false h]
    refine beq_false_of_ne fun e => h ?_
    cases a; cases b
    simp only [ByteArray.mk.injEq]
    exact Array.ext' e
theorem st_seql {t t' : Nat} {x y : Operand} {a b : ByteArray} (hd : dstOk nt dst = true) (hx : σ.ev x = .str a) (hy : σ.ev y = .str b) :
    Does P nt ⟨dst, .binOp .eql t x y t', ty, pos, aft, gd⟩ ⟨fo x ++ fo y, []⟩ (.bool (decide (a = b))) [] σ :=
  does_pure hd fun τ hag F φ Z a' w hF hS =>
    ⟨.bool (decide (a = b)), by simp [execOp, eqGuard, binOp, Op.stringOp, ev_v hag hS hx (by simp +contextual), ev_v hag hS hy (by simp +contextual), str_beq], by simp [relV]⟩
theorem st_sneq {t t' : Nat} {x y : Operand} {a b : ByteArray} (hd : dstOk nt dst = true) (hx : σ.ev x = .str a) (hy : σ.ev y = .str b) :
    Does P nt ⟨dst, .binOp .neq t x y t', ty, pos, aft, gd⟩ ⟨fo x ++ fo y, []⟩ (.bool (decide (a ≠ b))) [] σ :=
  does_pure hd fun τ hag F φ Z a' w hF hS =>
    ⟨.bool (decide (a ≠ b)), by simp [execOp, eqGuard, binOp, Op.stringOp, ev_v hag hS hx (by simp +contextual), ev_v hag hS hy (by simp +contextual), str_beq], by simp [relV]⟩
theorem st_sadd {t t' : Nat} {x y : Operand} {a b : ByteArray} (hd : dstOk nt dst = true) (hx : σ.ev x = .str a) (hy : σ.ev y = .str b) (hs : a.size + b.size ≤ 9223372036854775807) :
    Does P nt ⟨dst, .binOp .add t x y t', ty, pos, aft, gd⟩ ⟨fo x ++ fo y, []⟩ (.str (a ++ b)) [] σ :=
  does_pure hd fun τ hag F φ Z a' w hF hS => by
    have h1 : ¬ (((a.size + b.size : Nat) : Int) > IntKind.i64.max) := by have : IntKind.i64.max = 9223372036854775807 := rfl; omega
    exact ⟨.string (a ++ b), by simp [execOp, eqGuard, binOp, Op.stringOp, ev_v hag hS hx (by simp +contextual), ev_v hag hS hy (by simp +contextual)]; omega, by simp [relV]⟩
end
end Go.Sym
end

section
/-
  Methods of a reader that lies in the caller's memory, on abstract states; nothing of the program stands here.
-/
set_option linter.unusedVariables false
set_option linter.unusedSimpArgs false
namespace Go.Sym
open Go Go.RowKit Go.Park Go.Proofs.YtnfjmcenjpoloaaDoor

/-- more of the zone -/
theorem SimAt.widen {F : Fr} {φ : Nat → Value} {Z Z' : Nat → Prop} {σ : St} {a : Act} {w : World} (h : SimAt F φ Z σ a w) (hz : ∀ b, Z b → Z' b)
    (hz' : ∀ b, Z' b → Z b ∨ (b < w.heap.size ∧ F.w0.heap.size ≤ b ∧ ∀ r, (σ.row r).isSome → (φ r).ownBlock ≠ some b)) : SimAt F φ Z' σ a w := by
  have hc : CxLe (cxOf φ Z σ w) (cxOf φ Z' σ w) := ⟨fun b hb => ⟨hz b hb, rfl⟩, fun r t j e => ⟨t, j, e, Nat.le_refl _, fun _ => rfl⟩⟩
  refine ⟨h.dfr, h.nt, fun i => relV_mono hc _ _ (h.env i), fun r row hr => (h.rows r row hr).mono hc (fun _ _ => rfl), h.disj, ?_, ?_, ?_, h.keep, h.recv⟩
  · intro b hb; rcases hz' b hb with h1 | h1; (exact h.zlt b h1); exact h1.1
  · intro b hb r hr; rcases hz' b hb with h1 | h1; (exact h.zrow b h1 r hr); exact h1.2.2 r hr
  · intro b hb hl; rcases hz' b hb with h1 | h1; (exact h.base b h1 hl); (have := h1.2.1; omega)

def rdRow (ty : Nat) (x0 : Value) (t0 : Nat) (cs : List AV) (p : Int) : Row := ⟨ty, 2, 0, true, true, [.both x0 (.sl t0 1 cs), .int p]⟩
/-- f, a method of the reader: of these arguments it gives res, and leaves the reader at p' -/
def FnR (P : Program) (f ty : Nat) (x0 : Value) (t0 : Nat) (cs : List AV) (p : Int) (args : List AV) (p' : Int) (res : AV) : Prop :=
  Enters P f ∧ ∀ w g c vs, pureL args → relL (cx0 w (fun b => b < w.heap.size ∧ b ≠ g)) args vs → w.ownsRow 0 ty 2 (.slice (some ⟨g, 0, none⟩) 1 c) 1 [x0, .int .i64 p] → relV (cx0 w (fun b => b < w.heap.size ∧ b ≠ g)) (.sl t0 1 cs) x0 →
    Calls P f (Value.pointer (some ⟨g, 0, none⟩) :: vs).toArray w fun e w' => ∃ v bs, e = .returned v ∧ w.grownBy w' (some g) ∧ w'.ownsRow 0 ty 2 (.slice (some ⟨g, 0, none⟩) 1 c) 1 [x0, .int .i64 p'] ∧ bs.Nodup ∧ (∀ b, b ∈ bs → w.heap.size ≤ b) ∧
      relO w' w.heap.size (fun b => w.heap.size ≤ b ∧ b < w'.heap.size ∧ b ∉ bs) res v bs
theorem relL_two {cx : Cx} {x0 : Value} {y : AV} {p : Int} {xs : List Value} (h : relL cx [.both x0 y, .int p] xs) : xs = [x0, .int .i64 p] ∧ relV cx y x0 := by
  simp only [relL, relV] at h
  obtain ⟨u, us, rfl, ⟨rfl, h1⟩, v, vs, rfl, rfl, rfl⟩ := h
  exact ⟨rfl, h1⟩
theorem two_rel {cx : Cx} {x0 : Value} {y : AV} {p : Int} (h : relV cx y x0) : relL cx [.both x0 y, .int p] [x0, .int .i64 p] := by
  simp only [relL, relV]
  exact ⟨_, _, rfl, ⟨rfl, h⟩, _, _, rfl, rfl, rfl⟩
theorem sl_one {cx : Cx} {x0 : Value} {t0 : Nat} {cs : List AV} (h : relV cx (.sl t0 1 cs) x0) : x0.oneCell' = true := by
  simp only [relV] at h
  obtain ⟨_, ao, n, c, rfl, _⟩ := h
  rfl
theorem does_recv {P : Program} {nt : Nat} {σ : St} {dst : Option Nat} {ty : Nat} {pos : String} {aft : Array Edge} {gd : Option (Nat × Bool)} {f rt : Nat} {x : Operand} {args : List Operand} {at' : Array TypeId} {ts : List AV} {res : AV} {u es : List Nat} {x0 : Value} {t0 : Nat} {cs : List AV} {p p' : Int} {r k : Nat} {bx : Bool} (n : Nat) (hd : dstOk nt dst = true)
    (hfn : FnR P f rt x0 t0 cs p ts p' res) (hx : σ.ev x = .ptr r k 0) (hr : σ.row r = some ⟨rt, 2, k, true, bx, [.both x0 (.sl t0 1 cs), .int p]⟩) (hfz : FrzA σ args ts u es) (hru : (u.all fun s => !Nat.beq r s) = true) (h0 : 0 < n)
    {ids : List Nat} (hids : ∀ m, n ≤ m → m < (ado n res).2.2 → m ∈ ids) (hfr : ∀ m, m ∈ ids → σ.row m = none) :
    Does P nt ⟨dst, .call ⟨.value (.func f), (x :: args).toArray, at'⟩, ty, pos, aft, gd⟩ ⟨fo x ++ es, r :: (u ++ ids)⟩ (ado n res).1 ((ado n res).2.1 ++ [(r, some ⟨rt, 2, k, true, bx, [.both x0 (.sl t0 1 cs), .int p']⟩)]) σ := by
  refine ⟨?_⟩
  intro τ hag F hF a w hS Q K hK
  obtain ⟨φ, Z, hS⟩ := hS
  have hr' : τ.row r = some ⟨rt, 2, k, true, bx, [.both x0 (.sl t0 1 cs), .int p]⟩ := by rw [hag.2 r (by simp)]; exact hr
  have hx' := hS.ev x
  rw [hag.ev (σ := σ) (fun t ht => by simp [ht]), hx] at hx'
  obtain ⟨g, m, c, e1, e2⟩ := ptr_open hS hr' rfl hx'
  obtain ⟨q, xs, hm⟩ := rowMem hS hr'
  have hrel := hm.rel
  obtain ⟨rfl, hy⟩ := relL_two hrel
  have hq : q = 1 := by have := hm.len; simp at this; omega
  subst hq
  have hown := hm.own
  have hm1 : m = 1 := by
    rw [e1] at hown
    rcases hown.2 with ⟨h, _⟩ | ⟨_, _, _, h, _⟩
    · cases h
    · cases h; rfl
  subst hm1
  rw [e1] at hown
  have hgb : (φ r).ownBlock = some g := by rw [e1]; rfl
  have hpy : pureV (.sl t0 1 cs) := by have := hy; simp only [relV] at this; simpa [pureV] using this.1
  have hne : ∀ s, s ∈ u → s ≠ r := fun s hs e => by
    have := List.all_eq_true.1 hru s hs
    rw [e] at this
    simp at this
  have hz1 : ∀ b, Z b → b < w.heap.size ∧ b ≠ g := fun b hb => ⟨hS.zlt b hb, fun e => hS.zrow b hb r (by simp [hr']) (by rw [hgb, e])⟩
  obtain ⟨h1, h2⟩ := frzA_rel (Z1 := fun b => b < w.heap.size ∧ b ≠ g) hS hz1 hfz (fun s hs => hag.2 s (by simp [hs]))
    (fun s hs row hrow g' hg' hlt => ⟨hlt, fun e => hS.disj s r (hne s hs) (by simp [hrow]) (by simp [hr']) g' hg' (by rw [hgb, e])⟩) (fun t ht => hag.1 t (by simp [ht]))
  have hzz : CxZ (cxOf φ Z τ w) (cx0 w (fun b => b < w.heap.size ∧ b ≠ g)) := ⟨fun b hb => ⟨hz1 b hb, rfl⟩⟩
  have hc := hfn.2 w g c (args.map a.eval) h2 h1 hown (relV_pure hzz _ _ hpy hy)
  unfold Oper.wp
  have hrun : (execOp a.eval ⟨dst, .call ⟨.value (.func f), (x :: args).toArray, at'⟩, ty, pos, aft, gd⟩).run P w = .ok (.enter f (Value.pointer (some ⟨g, 0, none⟩) :: args.map a.eval).toArray) w := by
    have e3 : a.eval x = .pointer (some ⟨g, 0, none⟩) := e2
    simp [execOp, resolve, Act.eval, Deferred.ofValue, invoke, run_callFunc hfn.1] at e3 ⊢
    rw [e3]
  rw [hrun, Oper.upon_enter]
  refine hc.mono ?_
  rintro e w' ⟨v, bs, rfl, hg, ho', hnd, hge, hro⟩
  show K (a.put dst v) w'
  refine hK v w' ?_
  have htn := hS.turn (r := r) (row := ⟨rt, 2, k, true, bx, [.both x0 (.sl t0 1 cs), .int p]⟩) (row' := ⟨rt, 2, k, true, bx, [.both x0 (.sl t0 1 cs), .int p']⟩) (t' := φ r) (w' := w') hr' (by rw [hgb]; exact hg) (Nat.le_refl _) (fun _ => rfl)
    (fun hcx => ⟨by simp, fun _ => (by simp only [pureL, pureV]; exact ⟨by simpa [pureV] using hpy, trivial, trivial⟩), (hS.rows r _ hr').box, (hS.rows r _ hr').blk, 1, [x0, .int .i64 p'], by rw [e1]; exact ho', by simp, two_rel (relV_mono hcx _ _ hy), by
      intro u' hu'
      simp at hu'
      rcases hu' with rfl | rfl
      · exact sl_one hy
      · rfl⟩)
    (fun g' h => .inl h) (fun _ => rfl)
  obtain ⟨hS1, hcx1⟩ := htn
  let Z' : Nat → Prop := fun b => Z b ∨ (w.heap.size ≤ b ∧ b < w'.heap.size ∧ b ∉ bs)
  have hφ : (fun i => if i = r then φ r else φ i) = φ := by funext i; by_cases e : i = r; (simp [e]); simp [e]
  rw [hφ] at hS1
  have hlt : ∀ s, ((τ.set r (some ⟨rt, 2, k, true, bx, [.both x0 (.sl t0 1 cs), .int p']⟩)).row s).isSome → ∀ b, (φ s).ownBlock = some b → b < w.heap.size := fun s hs b hb => by
    have : (τ.row s).isSome := by
      simp only [St.set] at hs
      by_cases e : s = r
      · rw [e, hr']; rfl
      · rw [if_neg e] at hs; exact hs
    obtain ⟨row, hrow⟩ := Option.isSome_iff_exists.1 this
    exact (hS.rows s row hrow).lt hb
  have hS2 : SimAt F φ Z' (τ.set r (some ⟨rt, 2, k, true, bx, [.both x0 (.sl t0 1 cs), .int p']⟩)) a w' := hS1.widen (fun b h => .inl h) (fun b h => by
    rcases h with h | h
    · exact .inl h
    · exact .inr ⟨h.2.1, Nat.le_trans hS.keep.size h.1, fun s hs e => by have := hlt s hs b e; omega⟩)
  rw [set_eq_upd] at hS2 hlt
  obtain ⟨φ', k1, k2⟩ := ado_sim (Z := Z') (fun b h => .inr h) res n φ _ a w' v bs hS2 hro h0 (fun m e1 e2 => by
      have hm0 := hfr m (hids m e1 e2)
      have hmr : m ≠ r := fun e => by rw [e, hr] at hm0; cases hm0
      have : τ.row m = none := by rw [hag.2 m (by simp [hids m e1 e2])]; exact hm0
      simp only [St.rowsUpd, overR]
      have hbeq : Nat.beq r m = false := by
        cases hb : Nat.beq r m
        · rfl
        · exact absurd (Nat.eq_of_beq_eq_true hb).symm hmr
      rw [hbeq]
      exact this) hnd (fun b hb => by
    have hge' := hge b hb
    refine ⟨Nat.le_trans hS.keep.size hge', ?_, fun s hs hg' => ?_⟩
    · rintro (h | h)
      · have := hS.zlt b h; omega
      · exact h.2.2 hb
    · have := hlt s hs b hg'; omega)
  refine ⟨φ', Z', ?_⟩
  have k1s := k1.sim
  rw [← rowsUpd_append] at k1s k2
  cases dst with
  | none => exact k1s
  | some d =>
    simp [dstOk] at hd
    exact k1s.put (by omega) k2

/-! how a method begins and ends -/
def ResOkR (T : List (Nat × TyI)) (rs : List ResultVar) (row' : Row) (res : AV) (e : Exit) (σ : St) : Prop := (e = .ret ∨ e = .normal) ∧ σ.row 0 = some row' ∧ ∃ xs u, ResL T σ rs xs ∧ ExpR σ xs res u ∧ u.Nodup
theorem fnr_of_ax {P : Program} {T : List (Nat × TyI)} (hT : TabOk P T) {f nt ty : Nat} {fn : Func} {c : Code} {rs : List ResultVar} {ts : List AV} {res : AV} {x0 : Value} {t0 : Nat} {cs : List AV} {p p' : Int} (hf : P.funcs[f]? = some fn) (hb : fn.body = some c) (hnm : (fn.name == "runtime.NumGoroutine") = false) (hnt : fn.ntmps = nt) (hrs : fn.results = rs.toArray)
    (hlen : ts.length + 1 ≤ nt) (h : AX P nt c (mkSt (entE 0 (.ptr 0 0 0 :: ts)) [(0, some (rdRow ty x0 t0 cs p))]) (ResOkR T rs (rdRow ty x0 t0 cs p') res)) : FnR P f ty x0 t0 cs p ts p' res := by
  refine ⟨⟨fn, hf, hnm, by rw [hb]; rfl⟩, fun w g cp vs hp hx ho hy => ?_⟩
  obtain ⟨e, σ', ⟨he, hrow, xs, u, h1, h2, h3⟩, hend⟩ := h
  have hl := relL_length hx
  refine calls_of_wp hf hb ?_
  let F : Fr := ⟨w, fun b => b = g, some (.slice (some ⟨g, 0, none⟩) 1 cp), nt, fun _ => True⟩
  have hpy : pureV (.sl t0 1 cs) := by have := hy; simp only [relV] at this; simpa [pureV] using this.1
  let φ0 : Nat → Value := fun r => if r = 0 then .slice (some ⟨g, 0, none⟩) 1 cp else .slice none 0 0
  let Z0 : Nat → Prop := fun b => b < w.heap.size ∧ b ≠ g
  let σ0 : St := mkSt (entE 0 (.ptr 0 0 0 :: ts)) [(0, some (rdRow ty x0 t0 cs p))]
  have hrow0 : ∀ r row, σ0.row r = some row → r = 0 ∧ row = rdRow ty x0 t0 cs p := fun r row hr => by
    simp only [σ0, mkSt, lkR] at hr
    cases hb0 : Nat.beq 0 r
    · rw [hb0] at hr; simp at hr
    · rw [hb0] at hr
      have := Nat.eq_of_beq_eq_true hb0
      simp at hr
      exact ⟨this.symm, hr.symm⟩
  have hzz : CxZ (cx0 w (fun b => b < w.heap.size ∧ b ≠ g)) (cxOf φ0 Z0 σ0 w) := ⟨fun b hb => ⟨hb, rfl⟩⟩
  have hS : Sim F σ0 { tmps := (Value.pointer (some ⟨g, 0, none⟩) :: vs).toArray ++ Array.replicate (fn.ntmps - (Value.pointer (some ⟨g, 0, none⟩) :: vs).toArray.size) undef, defers := [] } w := by
    refine ⟨φ0, Z0, rfl, ?_, ?_, ?_, ?_, fun b h => h.1, ?_, fun b h _ => trivial, ⟨rfl, rfl, rfl, Nat.le_refl _, fun _ _ _ => rfl⟩, ?_⟩
    · simp [F]; omega
    · intro i
      simp only [σ0, mkSt]
      rw [entE_get]
      by_cases hi : i < ts.length + 1
      · rw [if_pos (by simp; omega)]
        cases i with
        | zero =>
          simp [Array.getD_eq_getD_getElem?, relV, cxOf, lkR, φ0]
          exact ⟨_, _, ⟨rfl, rfl⟩, fun _ => ⟨g, ⟨_, _, rfl⟩, by rw [Array.getElem?_append_left (by simp)]; simp⟩⟩
        | succ i =>
          obtain ⟨v, hv1, hv2⟩ := relL_get hx i (ts[i]'(by omega)) (List.getElem?_eq_getElem (by omega))
          rw [Array.getD_eq_getD_getElem?, Array.getElem?_append_left (by simp; omega)]
          simp [List.getD, show i < ts.length by omega, hv1]
          exact relV_pure hzz _ _ (pureL_get hp i _ (List.getElem?_eq_getElem (by omega))) hv2
      · rw [if_neg (by simp; omega)]; simp [relV]
    · intro r row hr
      obtain ⟨rfl, rfl⟩ := hrow0 r row hr
      refine ⟨by simp [rdRow], fun _ => (by simp only [rdRow, pureL, pureV]; exact ⟨by simpa [pureV] using hpy, trivial, trivial⟩), fun _ => by simp [φ0, Value.ownBlock], fun g' hg' => ?_, 1, [x0, .int .i64 p], ho, by simp [rdRow], two_rel (relV_pure hzz _ _ hpy hy), ?_⟩
      · simp [φ0, Value.ownBlock] at hg'
        exact .inr ⟨rfl, hg'.symm⟩
      · intro u' hu'
        simp at hu'
        rcases hu' with rfl | rfl
        · exact sl_one hy
        · rfl
    · intro r s hne hr hs
      obtain ⟨row, hrow'⟩ := Option.isSome_iff_exists.1 hr
      obtain ⟨row2, hrow2⟩ := Option.isSome_iff_exists.1 hs
      exact absurd ((hrow0 r row hrow').1.trans (hrow0 s row2 hrow2).1.symm) hne
    · intro b hb r hr
      obtain ⟨row, hrow'⟩ := Option.isSome_iff_exists.1 hr
      obtain ⟨rfl, _⟩ := hrow0 r row hrow'
      simp only [φ0, if_pos, Value.ownBlock]
      intro e'
      exact hb.2 (by simpa using e'.symm)
    · intro t ht _
      simp [F] at ht
      simp [φ0, ht]
  refine Code.wp_mono (fun e1 a1 w1 hh => ?_) (hend F rfl _ w hS)
  obtain ⟨rfl, φ, Z, hS1⟩ := hh
  obtain ⟨vs1, h4, h5⟩ := resL_run hT hS1 h1
  have h6 := results_run hrs h4
  obtain ⟨h7, h8⟩ := expR_rel hS1 h2 (fun b => w.heap.size ≤ b ∧ b < w1.heap.size ∧ b ∉ blksOf φ u) h5
  obtain ⟨h9, h10⟩ := blks_nodup hS1 h3 h8
  have hk := hS1.keep
  have ht0 : φ 0 = .slice (some ⟨g, 0, none⟩) 1 cp := hS1.recv _ rfl (by simp [hrow])
  obtain ⟨q, xs', hm⟩ := rowMem hS1 hrow
  obtain ⟨rfl, hy'⟩ := relL_two hm.rel
  have hq : q = 1 := by have := hm.len; simp [rdRow] at this; omega
  subst hq
  have hown := hm.own
  rw [ht0] at hown
  have hgr : w.grownBy w1 (some g) := ⟨hk.os, hk.tape, hk.output, hk.size, fun b hb' hne => hk.block b hb' (fun e => hne (by rw [e]))⟩
  rcases he with rfl | rfl
  · exact ⟨hS1.dfr, _, h6, _, _, rfl, hgr, hown, h9, h10, h7⟩
  · exact ⟨hS1.dfr, _, h6, _, _, rfl, hgr, hown, h9, h10, h7⟩

end Go.Sym
end

section
/-
  Calls of readers' methods and calls that give two slices, typed; functions of which one knows that a result is there.
-/
set_option linter.unusedVariables false
set_option linter.unusedSimpArgs false
namespace Go.Sym
open Go Go.RowKit Go.Park Go.Proofs.YtnfjmcenjpoloaaDoor

section
variable {P : Program} {nt : Nat} {ops : Array Oper} {os : List Oper} {fs : List Fp} {E : List (Nat × AV)} {K : List Fp → St → Prop} {R : Foot} {x : AV} {Rg : List Nat}
/-- two rows turn, or are laid down -/
theorem rh2 {d : Nat} {op : Op} {ty : Nat} {pos : String} {aft : Array Edge} {gd : Option (Nat × Bool)} {r s n : Nat} {row row2 : Option Row} {l : List (Nat × Option Row)} (h : Does P nt ⟨some d, op, ty, pos, aft, gd⟩ R x [(r, row), (s, row2)] (mkS E ⟨n, l⟩)) (hw : Want ops ⟨some d, op, ty, pos, aft, gd⟩ E Rg) (k : RunsH P nt ops os (fs ++ [⟨Rg ++ R.e, R.r, [d], [r, s]⟩]) ((d, x) :: E) ⟨n + 2, (r, row) :: (s, row2) :: l⟩ K) : RunsH P nt ops (⟨some d, op, ty, pos, aft, gd⟩ :: os) fs E ⟨n, l⟩ K :=
  rh_of (n + 2) h hw k
theorem rh3 {d : Nat} {op : Op} {ty : Nat} {pos : String} {aft : Array Edge} {gd : Option (Nat × Bool)} {r s q n : Nat} {row row2 row3 : Option Row} {l : List (Nat × Option Row)} (h : Does P nt ⟨some d, op, ty, pos, aft, gd⟩ R x [(r, row), (s, row2), (q, row3)] (mkS E ⟨n, l⟩)) (hw : Want ops ⟨some d, op, ty, pos, aft, gd⟩ E Rg) (k : RunsH P nt ops os (fs ++ [⟨Rg ++ R.e, R.r, [d], [r, s, q]⟩]) ((d, x) :: E) ⟨n + 3, (r, row) :: (s, row2) :: (q, row3) :: l⟩ K) : RunsH P nt ops (⟨some d, op, ty, pos, aft, gd⟩ :: os) fs E ⟨n, l⟩ K :=
  rh_of (n + 3) h hw k
end
section
variable {P : Program} {T : List (Nat × TyI)} {nt : Nat} {E : List (Nat × AV)} {H : Hp} {dst : Option Nat} {ty : Nat} {pos : String} {aft : Array Edge} {gd : Option (Nat × Bool)} {f : Nat} {args : List Operand} {at' : Array TypeId} {ts : List AV} {u es : List Nat}
theorem nz {n : Nat} (h0 : Nat.beq n 0 = false) : 0 < n := Nat.pos_of_ne_zero fun h => by subst h; simp at h0
theorem st_call_hs {n : Nat} {l : List (Nat × Option Row)} {t sz t' sz' : Nat} {cs cs' : List AV} {a b : Value} (hd : dstOk nt dst = true) (hfn : FnS P f ts (.tup [.agg [.v a, .v b, .sl t sz cs], .sl t' sz' cs'])) (hfz : FrzA (mkS E ⟨n, l⟩) args ts u es) (hr : (mkS E ⟨n, l⟩).row n = none) (hr' : (mkS E ⟨n, l⟩).row (n + 1) = none) (h0 : Nat.beq n 0 = false) :
    Does P nt ⟨dst, .call ⟨.value (.func f), args.toArray, at'⟩, ty, pos, aft, gd⟩ ⟨es, u ++ [n, n + 1]⟩ (.tup [.agg [.v a, .v b, .own n 0], .own (n + 1) 0]) [(n + 1, some ⟨t', sz', 0, true, false, cs'⟩), (n, some ⟨t, sz, 0, true, false, cs⟩)] (mkS E ⟨n, l⟩) :=
  does_call n hd hfn hfz (nz h0) (ids := [n, n + 1]) (fun m h1 h2 => by simp [ado, adoL] at h2; simp; omega) (by simpa using ⟨hr, hr'⟩)
theorem st_call_hh {n : Nat} {l : List (Nat × Option Row)} {t sz t' sz' : Nat} {cs cs' : List AV} {a b a' b' : Value} (hd : dstOk nt dst = true) (hfn : FnS P f ts (.tup [.agg [.v a, .v b, .sl t sz cs], .agg [.v a', .v b', .sl t' sz' cs']])) (hfz : FrzA (mkS E ⟨n, l⟩) args ts u es) (hr : (mkS E ⟨n, l⟩).row n = none) (hr' : (mkS E ⟨n, l⟩).row (n + 1) = none) (h0 : Nat.beq n 0 = false) :
    Does P nt ⟨dst, .call ⟨.value (.func f), args.toArray, at'⟩, ty, pos, aft, gd⟩ ⟨es, u ++ [n, n + 1]⟩ (.tup [.agg [.v a, .v b, .own n 0], .agg [.v a', .v b', .own (n + 1) 0]]) [(n + 1, some ⟨t', sz', 0, true, false, cs'⟩), (n, some ⟨t, sz, 0, true, false, cs⟩)] (mkS E ⟨n, l⟩) :=
  does_call n hd hfn hfz (nz h0) (ids := [n, n + 1]) (fun m h1 h2 => by simp [ado, adoL] at h2; simp; omega) (by simpa using ⟨hr, hr'⟩)
/-! the reader's methods -/
variable {rt t0 r k : Nat} {x0 : Value} {rc : List AV} {p p' : Int} {bx : Bool} {x : Operand} {row : Row}
theorem st_recv_v {n : Nat} {l : List (Nat × Option Row)} {c : Value} (hd : dstOk nt dst = true) (hfn : FnR P f rt x0 t0 rc p ts p' (.v c)) (hx : (mkS E ⟨n, l⟩).ev x = .ptr r k 0) (hr : (mkS E ⟨n, l⟩).row r = some row) (hw : row = ⟨rt, 2, k, true, bx, [.both x0 (.sl t0 1 rc), .int p]⟩) (hfz : FrzA (mkS E ⟨n, l⟩) args ts u es) (hru : (u.all fun s => !Nat.beq r s) = true) (h0 : Nat.beq n 0 = false) :
    Does P nt ⟨dst, .call ⟨.value (.func f), (x :: args).toArray, at'⟩, ty, pos, aft, gd⟩ ⟨fo x ++ es, r :: (u ++ [])⟩ (.v c) [(r, some ⟨rt, 2, k, true, bx, [.both x0 (.sl t0 1 rc), .int p']⟩)] (mkS E ⟨n, l⟩) := by
  subst hw
  exact does_recv n hd hfn hx hr hfz hru (nz h0) (ids := []) (fun m h1 h2 => by simp [ado] at h2; omega) (by simp)
theorem st_recv_h {n : Nat} {l : List (Nat × Option Row)} {t sz : Nat} {cs : List AV} {a b : Value} (hd : dstOk nt dst = true) (hfn : FnR P f rt x0 t0 rc p ts p' (.agg [.v a, .v b, .sl t sz cs])) (hx : (mkS E ⟨n, l⟩).ev x = .ptr r k 0) (hr : (mkS E ⟨n, l⟩).row r = some row) (hw : row = ⟨rt, 2, k, true, bx, [.both x0 (.sl t0 1 rc), .int p]⟩) (hfz : FrzA (mkS E ⟨n, l⟩) args ts u es) (hru : (u.all fun s => !Nat.beq r s) = true) (hn : (mkS E ⟨n, l⟩).row n = none) (h0 : Nat.beq n 0 = false) :
    Does P nt ⟨dst, .call ⟨.value (.func f), (x :: args).toArray, at'⟩, ty, pos, aft, gd⟩ ⟨fo x ++ es, r :: (u ++ [n])⟩ (.agg [.v a, .v b, .own n 0]) [(n, some ⟨t, sz, 0, true, false, cs⟩), (r, some ⟨rt, 2, k, true, bx, [.both x0 (.sl t0 1 rc), .int p']⟩)] (mkS E ⟨n, l⟩) := by
  subst hw
  exact does_recv n hd hfn hx hr hfz hru (nz h0) (ids := [n]) (fun m h1 h2 => by simp [ado, adoL] at h2; simp; omega) (by simpa using hn)
theorem st_recv_hv {n : Nat} {l : List (Nat × Option Row)} {t sz : Nat} {cs : List AV} {a b c : Value} (hd : dstOk nt dst = true) (hfn : FnR P f rt x0 t0 rc p ts p' (.tup [.agg [.v a, .v b, .sl t sz cs], .v c])) (hx : (mkS E ⟨n, l⟩).ev x = .ptr r k 0) (hr : (mkS E ⟨n, l⟩).row r = some row) (hw : row = ⟨rt, 2, k, true, bx, [.both x0 (.sl t0 1 rc), .int p]⟩) (hfz : FrzA (mkS E ⟨n, l⟩) args ts u es) (hru : (u.all fun s => !Nat.beq r s) = true) (hn : (mkS E ⟨n, l⟩).row n = none) (h0 : Nat.beq n 0 = false) :
    Does P nt ⟨dst, .call ⟨.value (.func f), (x :: args).toArray, at'⟩, ty, pos, aft, gd⟩ ⟨fo x ++ es, r :: (u ++ [n])⟩ (.tup [.agg [.v a, .v b, .own n 0], .v c]) [(n, some ⟨t, sz, 0, true, false, cs⟩), (r, some ⟨rt, 2, k, true, bx, [.both x0 (.sl t0 1 rc), .int p']⟩)] (mkS E ⟨n, l⟩) := by
  subst hw
  exact does_recv n hd hfn hx hr hfz hru (nz h0) (ids := [n]) (fun m h1 h2 => by simp [ado, adoL] at h2; simp; omega) (by simpa using hn)
theorem st_recv_hs {n : Nat} {l : List (Nat × Option Row)} {t sz t' sz' : Nat} {cs cs' : List AV} {a b : Value} (hd : dstOk nt dst = true) (hfn : FnR P f rt x0 t0 rc p ts p' (.tup [.agg [.v a, .v b, .sl t sz cs], .sl t' sz' cs'])) (hx : (mkS E ⟨n, l⟩).ev x = .ptr r k 0) (hr : (mkS E ⟨n, l⟩).row r = some row) (hw : row = ⟨rt, 2, k, true, bx, [.both x0 (.sl t0 1 rc), .int p]⟩) (hfz : FrzA (mkS E ⟨n, l⟩) args ts u es) (hru : (u.all fun s => !Nat.beq r s) = true) (hn : (mkS E ⟨n, l⟩).row n = none) (hn' : (mkS E ⟨n, l⟩).row (n + 1) = none) (h0 : Nat.beq n 0 = false) :
    Does P nt ⟨dst, .call ⟨.value (.func f), (x :: args).toArray, at'⟩, ty, pos, aft, gd⟩ ⟨fo x ++ es, r :: (u ++ [n, n + 1])⟩ (.tup [.agg [.v a, .v b, .own n 0], .own (n + 1) 0]) [(n + 1, some ⟨t', sz', 0, true, false, cs'⟩), (n, some ⟨t, sz, 0, true, false, cs⟩), (r, some ⟨rt, 2, k, true, bx, [.both x0 (.sl t0 1 rc), .int p']⟩)] (mkS E ⟨n, l⟩) := by
  subst hw
  exact does_recv n hd hfn hx hr hfz hru (nz h0) (ids := [n, n + 1]) (fun m h1 h2 => by simp [ado, adoL] at h2; simp; omega) (by simpa using ⟨hn, hn'⟩)
end

/-! literals of more than one, made slices -/
section
variable {P : Program} {T : List (Nat × TyI)} {nt : Nat} {E : List (Nat × AV)} {dst : Option Nat} {ty : Nat} {pos : String} {aft : Array Edge} {gd : Option (Nat × Bool)}
theorem st_make (hT : TabOk P T) {t e m n : Nat} {l : List (Nat × Option Row)} {p q : Operand} {i j : TyI} {zk : ZK} {L C : Int} (hd : dstOk nt dst = true) (hp : (mkS E ⟨n, l⟩).ev p = .int L) (hq : (mkS E ⟨n, l⟩).ev q = .int C) (hL : L = (m : Int)) (hC : C = (m : Int))
    (ht : lkT T t = some i) (hu : i.u = .slice e) (he : lkT T e = some j) (hz : j.zero = [zk]) (hs : j.size = 1) (hb : j.bytes * m ≤ 281474976710656) (hn : m ≤ maxLen) (hr : (mkS E ⟨n, l⟩).row n = none) (h0 : Nat.beq n 0 = false) :
    Does P nt ⟨dst, .makeSlice t p q, ty, pos, aft, gd⟩ ⟨fo p ++ fo q, [n]⟩ (.own n 0) [(n, some ⟨e, 1, 0, true, false, List.replicate m (.v zk.val)⟩)] (mkS E ⟨n, l⟩) :=
  does_make hT hd hp hq hL hC ht hu he hz hs hb hn hr (fun h => by subst h; simp at h0)
theorem st_make_i (hT : TabOk P T) {t e m n : Nat} {l : List (Nat × Option Row)} {p q : Operand} {i j : TyI} {L C : Int} (hd : dstOk nt dst = true) (hp : (mkS E ⟨n, l⟩).ev p = .int L) (hq : (mkS E ⟨n, l⟩).ev q = .int C) (hL : L = (m : Int)) (hC : C = (m : Int))
    (ht : lkT T t = some i) (hu : i.u = .slice e) (he : lkT T e = some j) (hz : j.zero = [.int .i64]) (hs : j.size = 1) (hb : j.bytes * m ≤ 281474976710656) (hn : m ≤ maxLen) (hr : (mkS E ⟨n, l⟩).row n = none) (h0 : Nat.beq n 0 = false) :
    Does P nt ⟨dst, .makeSlice t p q, ty, pos, aft, gd⟩ ⟨fo p ++ fo q, [n]⟩ (.own n 0) [(n, some ⟨e, 1, 0, true, false, ints (List.replicate m 0)⟩)] (mkS E ⟨n, l⟩) := by
  have := st_make (P := P) (nt := nt) (E := E) (dst := dst) (ty := ty) (pos := pos) (aft := aft) (gd := gd) hT hd hp hq hL hC ht hu he hz hs hb hn hr h0
  have e1 : List.replicate m (AV.v (ZK.int .i64).val) = ints (List.replicate m 0) := by simp [ints]; exact .inr rfl
  rw [e1] at this
  exact this
theorem fill_ints {n : Nat} (vs : List Value) (cells : Array Value) (hv : ∀ v, v ∈ vs → v.cells = #[v]) (hc : cells.size = vs.length) : Instr.fill (fun i => some (i * 1, 1)) cells (vs.zipIdx.map fun x => (x.2, x.1)) = some vs.toArray := by
  obtain ⟨r, h1, h2, h3⟩ := Great.fill_dense (s := 1) (by omega) vs 0 cells (fun v hv' => by rw [hv v hv']; rfl) (by omega)
  have e : r = vs.toArray := by
    apply Array.ext_getElem?
    intro k
    rw [h3 k]
    by_cases hk : k < vs.length
    · rw [if_pos (by omega)]
      simp [hk, hv vs[k] (List.getElem_mem hk), Nat.mod_one]
    · rw [if_neg (by omega), Array.getElem?_eq_none (by omega)]
      simp; omega
  rw [← e]
  simpa using h1
theorem evs_vals {σ τ : St} {R : Foot} {F : Fr} {φ : Nat → Value} {Z : Nat → Prop} {a : Act} {w : World} (hag : Agree R τ σ) (hS : SimAt F φ Z τ a w) : ∀ {ps : List Operand} {zs : List Int}, ps.map σ.ev = ints zs → (∀ t, t ∈ ps.flatMap fo → t ∈ R.e) → ps.map a.eval = zs.map (Value.int .i64)
  | [], zs, h, _ => by cases zs <;> simp [ints] at h; rfl
  | p :: ps, [], h, _ => by simp [ints] at h
  | p :: ps, z :: zs, h, hR => by
    simp only [ints, List.map_cons, List.cons.injEq] at h
    have h1 := ev_v hag hS (x := p) h.1 (fun t ht => hR t (by simp [ht]))
    simp only [List.map_cons, h1]
    rw [evs_vals hag hS (ps := ps) (zs := zs) h.2 (fun t ht => hR t (List.mem_flatMap.2 (by obtain ⟨q, hq, hq2⟩ := List.mem_flatMap.1 ht; exact ⟨q, by simp [hq], hq2⟩)))]
theorem does_lit {σ : St} (hT : TabOk P T) {t e n m : Nat} {ps : List Operand} {zs : List Int} {i j : TyI} {parts : Array (Nat × Operand)} (hd : dstOk nt dst = true) (hparts : parts = ((ps.zipIdx).map fun x => (x.2, x.1)).toArray) (hm : m = ps.length) (hp : ps.map σ.ev = ints zs)
    (ht : lkT T t = some i) (hu : i.u = .slice e) (he : lkT T e = some j) (hs : j.size = 1) (hl0 : 0 < zs.length) (hl : zs.length ≤ 1000) (hr : σ.row n = none) (h0 : n ≠ 0) :
    Does P nt ⟨dst, .buildSlice t m parts, ty, pos, aft, gd⟩ ⟨ps.flatMap fo, [n]⟩ (.own n 0) [(n, some ⟨e, 1, 0, true, false, ints zs⟩)] σ :=
  does_run hd fun τ hag F φ Z a w hF hS => by
    have hr' : τ.row n = none := by rw [hag.2 n (by simp)]; exact hr
    have hv := evs_vals hag hS hp (fun t ht => ht)
    have hlen : ps.length = zs.length := by have := congrArg List.length hp; simpa [ints_length] using this
    obtain ⟨inf, d, hk⟩ := hT.known ht
    obtain ⟨inf2, d2, hk2⟩ := hT.known he
    obtain ⟨z, hz, _⟩ := hk2.zero
    have hi : inf2.size = 1 := by rw [hk2.size, hs]
    have hone : ∀ u, u ∈ zs.map (Value.int .i64) → u.oneCell' = true := fun u hu => by obtain ⟨q, _, rfl⟩ := List.mem_map.1 hu; rfl
    have hrel : relL (cxOf φ Z τ w) (ints zs) (zs.map (Value.int .i64)) := by
      clear hp hv hlen hl0 hl hone
      induction zs with
      | nil => simp [ints, relL]
      | cons q zs ih => simp only [ints, List.map_cons, relL, relV]; exact ⟨_, _, rfl, rfl, ih⟩
    obtain ⟨φ', h4, h5, h6⟩ := alloc_row hS hr' h0 (t := e) (sz := 1) (n := zs.length) (pure := true) (box := false) hrel hone (by omega) (by rw [ints_length]; omega) (by unfold maxLen; omega) (fun _ => pure_ints zs)
    have hpm : parts.map (fun x => (x.1, a.eval x.2)) = (((zs.map (Value.int .i64)).zipIdx).map fun x => (x.2, x.1)).toArray := by
      rw [hparts, ← hv, List.zipIdx_map]
      simp [Function.comp_def]
    have hfill := fill_ints (n := 0) (zs.map (Value.int .i64)) ((Array.range (m * inf2.size)).map (z.cells[· % z.cells.size]!)) (fun v hv => by obtain ⟨q, _, rfl⟩ := List.mem_map.1 hv; rfl) (by simp [hi, hm, hlen])
    have hrun := run_buildSlice (P := P) w t e m (parts.map fun x => (x.1, a.eval x.2)) (zs.map (Value.int .i64)).toArray inf2 z (hk.slice hu) hk2.info hz (by rw [hi, hm, hlen]; omega) (by rw [hi, hm, hlen]; omega) (by rw [hpm, hi]; rw [hi] at hfill; exact hfill)
    refine ⟨.slice (some ⟨w.heap.size, 0, none⟩) m m, w.alloc (.cells (zs.map (Value.int .i64)).toArray e), φ', Z, by simp only [execOp]; rw [show (parts.map fun x => match x with | (i, x) => (i, a.eval x)) = parts.map (fun x => (x.1, a.eval x.2)) from rfl, Sem.run_bind, hrun]; simp, by simpa using h4, ?_⟩
    simp only [relV, cxOf, St.rowsUpd, overR]
    simp
    exact ⟨_, _, ⟨rfl, rfl⟩, fun _ => by rw [h5, hm, hlen]⟩
theorem st_lit2 (hT : TabOk P T) {t e n : Nat} {l : List (Nat × Option Row)} {p q : Operand} {i j : TyI} {x y : Int} (hd : dstOk nt dst = true) (hp : (mkS E ⟨n, l⟩).ev p = .int x) (hq : (mkS E ⟨n, l⟩).ev q = .int y) (ht : lkT T t = some i) (hu : i.u = .slice e) (he : lkT T e = some j) (hs : j.size = 1) (hr : (mkS E ⟨n, l⟩).row n = none) (h0 : Nat.beq n 0 = false) :
    Does P nt ⟨dst, .buildSlice t 2 #[(0, p), (1, q)], ty, pos, aft, gd⟩ ⟨fo p ++ (fo q ++ []), [n]⟩ (.own n 0) [(n, some ⟨e, 1, 0, true, false, ints [x, y]⟩)] (mkS E ⟨n, l⟩) :=
  does_lit hT hd (ps := [p, q]) rfl rfl (by simp [ints, hp, hq]) ht hu he hs (by simp) (by simp) hr (fun h => by subst h; simp at h0)
theorem st_lit4 (hT : TabOk P T) {t e n : Nat} {l : List (Nat × Option Row)} {p q p' q' : Operand} {i j : TyI} {x y x' y' : Int} (hd : dstOk nt dst = true) (hp : (mkS E ⟨n, l⟩).ev p = .int x) (hq : (mkS E ⟨n, l⟩).ev q = .int y) (hp' : (mkS E ⟨n, l⟩).ev p' = .int x') (hq' : (mkS E ⟨n, l⟩).ev q' = .int y') (ht : lkT T t = some i) (hu : i.u = .slice e) (he : lkT T e = some j) (hs : j.size = 1) (hr : (mkS E ⟨n, l⟩).row n = none) (h0 : Nat.beq n 0 = false) :
    Does P nt ⟨dst, .buildSlice t 4 #[(0, p), (1, q), (2, p'), (3, q')], ty, pos, aft, gd⟩ ⟨fo p ++ (fo q ++ (fo p' ++ (fo q' ++ []))), [n]⟩ (.own n 0) [(n, some ⟨e, 1, 0, true, false, ints [x, y, x', y']⟩)] (mkS E ⟨n, l⟩) :=
  does_lit hT hd (ps := [p, q, p', q']) rfl rfl (by simp [ints, hp, hq, hp', hq']) ht hu he hs (by simp) (by simp) hr (fun h => by subst h; simp at h0)
end

/-! parts of still memory; appending it -/
section
variable {P : Program} {T : List (Nat × TyI)} {nt : Nat} {E : List (Nat × AV)} {H : Hp} {dst : Option Nat} {ty : Nat} {pos : String} {aft : Array Edge} {gd : Option (Nat × Bool)}
theorem st_app_sl (hT : TabOk P T) {t e : Nat} {x y : Operand} {i j : TyI} {r k ty' sz' : Nat} {row : Row} {zs ys : List Int} (hd : dstOk nt dst = true) (hx : (mkS E H).ev x = .own r k) (hr : (mkS E H).row r = some row) (hc : row.cs = ints zs) (hv : row.ver = k) (hbx : row.box = false) (hp : row.pure = true) (h0 : Nat.beq r 0 = false)
    (hy : (mkS E H).ev y = .sl ty' sz' (ints ys)) (hs2 : sz' = 1)
    (ht : lkT T t = some i) (hu : i.u = .slice e) (he : lkT T e = some j) (hty : row.ty = e) (hsz : row.sz = 1) (hs : j.size = 1) (hzl : j.zero.length = 1) (hby : j.bytes = 8) (hb : zs.length + ys.length ≤ 4294967296) :
    Does P nt ⟨dst, .call ⟨.builtin .append, #[x, y], #[t, t]⟩, ty, pos, aft, gd⟩ ⟨fo x ++ fo y, [r]⟩ (.own r (k + 1)) [(r, some ⟨row.ty, 1, k + 1, true, false, ints (zs ++ ys)⟩)] (mkS E H) := by
  have hsrc := src_sl (R := ⟨fo x ++ fo y, [r]⟩) hy (by simp +contextual)
  rw [hs2] at hsrc
  have := does_append (P := P) (ty := ty) (pos := pos) (aft := aft) (gd := gd) hT hd hx hr hv hbx (fun h => by rw [h] at h0; simp at h0) ht hu he hty (by rw [hsz, hs]) (by rw [hzl, hs]) (by rw [hs]; exact hsrc) (by simp +contextual) (by simp) (by rw [hc, ints_length, ints_length, hby]; omega)
  rw [hc, ints_append, hp, hsz] at this; exact this
theorem relC_drop {cx : Cx} {b : Nat} : ∀ (k : Nat) (cs : List AV) (off : Nat), relC cx b off cs → relC cx b (off + k) (cs.drop k)
  | 0, cs, off, h => by simpa using h
  | k+1, [], off, h => by simp [relC]
  | k+1, x :: cs, off, h => by
    simp only [List.drop_succ_cons]
    simp only [relC] at h
    have := relC_drop k cs (off + 1) h.2
    rw [show off + (k + 1) = off + 1 + k by omega]; exact this
theorem relC_take' {cx : Cx} {b : Nat} : ∀ (k : Nat) (cs : List AV) (off : Nat), relC cx b off cs → relC cx b off (cs.take k)
  | 0, cs, off, h => by simp [relC]
  | k+1, [], off, h => by simp [relC]
  | k+1, x :: cs, off, h => by
    simp only [List.take_succ_cons, relC] at h ⊢
    exact ⟨h.1, relC_take' k cs (off + 1) h.2⟩
theorem does_from (hT : TabOk P T) {σ : St} {t e : Nat} {x y : Operand} {i j : TyI} {ty' : Nat} {cs : List AV} {z : Int} (hd : dstOk nt dst = true) (hx : σ.ev x = .sl ty' 1 cs) (hy : σ.ev y = .int z) (ht : lkT T t = some i) (hu : i.u = .slice e) (he : lkT T e = some j) (hs : j.size = 1) (hz : 0 ≤ z ∧ z.toNat ≤ cs.length) :
    Does P nt ⟨dst, .slice t x (some y) none none, ty, pos, aft, gd⟩ ⟨fo x ++ fo y, []⟩ (.sl ty' 1 (cs.drop z.toNat)) [] σ :=
  does_pure hd fun τ hag F φ Z a w hF hS => by
    have e2 := ev_v hag hS hy (by simp +contextual)
    have h2 := ev_rel hag hS hx (by simp +contextual)
    simp only [relV] at h2
    obtain ⟨hp, ao, n, c, e1, h3, h4, h5, h6, h7⟩ := h2
    obtain ⟨inf, d, hk⟩ := hT.known ht
    obtain ⟨inf2, d2, hk2⟩ := hT.known he
    obtain ⟨k, rfl⟩ := Int.eq_ofNat_of_zero_le hz.1
    have hkn : k ≤ n := by simp at hz; omega
    have hkn' : (k : Int) ≤ (n : Int) := by omega
    refine ⟨.slice (if c = k then ao else ao.map (·.add k)) (n - k) (c - k), ?_, ?_⟩
    · simp [execOp, e1, e2, Instr.sliceAt, Instr.slice, Instr.sliceBounds, Instr.sliceBound, asIntOf, run_underlying (hk.slice hu), run_sizeOf_known hk2.info, hk2.size, hs, hkn']
      intro hh; omega
    · simp only [relV]
      refine ⟨pureL_of fun x hx => pureL_mem hp x (List.mem_of_mem_drop hx), _, _, _, rfl, by omega, by omega, by omega, by simp; omega, ?_⟩
      by_cases hcn : n = k
      · left; apply List.drop_eq_nil_of_le; simp; omega
      · right
        rcases h7 with h7 | ⟨b, off, rfl, hb, hcc⟩
        · rw [h7] at h6; simp at h6; omega
        · refine ⟨b, off + k, ?_, hb, by simpa using relC_drop k _ _ hcc⟩
          rw [if_neg (by omega)]
          simp [Addr.add]
theorem does_upto (hT : TabOk P T) {σ : St} {t e sz : Nat} {x y : Operand} {i j : TyI} {ty' : Nat} {cs : List AV} {z : Int} (hd : dstOk nt dst = true) (hx : σ.ev x = .sl ty' sz cs) (hy : σ.ev y = .int z) (ht : lkT T t = some i) (hu : i.u = .slice e) (he : lkT T e = some j) (hs : j.size = sz) (hz : 0 ≤ z ∧ z.toNat * sz ≤ cs.length) :
    Does P nt ⟨dst, .slice t x none (some y) none, ty, pos, aft, gd⟩ ⟨fo x ++ fo y, []⟩ (.sl ty' sz (cs.take (z.toNat * sz))) [] σ :=
  does_pure hd fun τ hag F φ Z a w hF hS => by
    have e2 := ev_v hag hS hy (by simp +contextual)
    have h2 := ev_rel hag hS hx (by simp +contextual)
    simp only [relV] at h2
    obtain ⟨hp, ao, n, c, e1, h3, h4, h5, h6, h7⟩ := h2
    obtain ⟨inf, d, hk⟩ := hT.known ht
    obtain ⟨inf2, d2, hk2⟩ := hT.known he
    obtain ⟨k, rfl⟩ := Int.eq_ofNat_of_zero_le hz.1
    have hkn : k ≤ n := by
      have h8 : k * sz ≤ n * sz := by simp at hz; omega
      exact Nat.le_of_mul_le_mul_right h8 h5
    have hkn' : (k : Int) ≤ (c : Int) := by omega
    refine ⟨.slice ao k c, ?_, ?_⟩
    · by_cases hc0 : c = 0
      · have : k = 0 := by omega
        subst this hc0
        simp [execOp, e1, e2, Instr.sliceAt, Instr.slice, Instr.sliceBounds, Instr.sliceBound, asIntOf, run_underlying (hk.slice hu), run_sizeOf_known hk2.info]
      · have hadd : ao.map (·.add 0) = ao := by cases ao <;> simp [Addr.add]
        simp [execOp, e1, e2, Instr.sliceAt, Instr.slice, Instr.sliceBounds, Instr.sliceBound, asIntOf, run_underlying (hk.slice hu), run_sizeOf_known hk2.info, hkn', hc0, hadd]
        intro hh; omega
    · simp only [relV]
      have hks : k * sz ≤ cs.length := by simpa using hz.2
      refine ⟨pureL_of fun x hx => pureL_mem hp x (List.mem_of_mem_take hx), _, _, _, rfl, by omega, h4, h5, by rw [List.length_take]; simp; omega, ?_⟩
      rcases h7 with h7 | ⟨b, off, rfl, hb, hcc⟩
      · left; rw [h7]; simp
      · exact .inr ⟨b, off, rfl, hb, relC_take' _ _ _ hcc⟩
theorem st_from (hT : TabOk P T) {t e : Nat} {x y : Operand} {i j : TyI} {ty' sz o : Nat} {zs : List Int} {z : Int} (hd : dstOk nt dst = true) (hx : (mkS E H).ev x = .sl ty' sz (ints zs)) (hsz : sz = 1) (hy : (mkS E H).ev y = .int z) (ht : lkT T t = some i) (hu : i.u = .slice e) (he : lkT T e = some j) (hs : j.size = 1) (ho : z.toNat = o) (hz : 0 ≤ z ∧ o ≤ zs.length) :
    Does P nt ⟨dst, .slice t x (some y) none none, ty, pos, aft, gd⟩ ⟨fo x ++ fo y, []⟩ (.sl ty' 1 (ints (zs.drop o))) [] (mkS E H) := by
  subst hsz ho
  have := does_from (P := P) (nt := nt) (dst := dst) (ty := ty) (pos := pos) (aft := aft) (gd := gd) hT hd hx hy ht hu he hs (by rw [ints_length]; exact hz)
  rw [ints_drop] at this
  exact this
theorem st_upto (hT : TabOk P T) {t e : Nat} {x y : Operand} {i j : TyI} {ty' sz o : Nat} {zs : List Int} {z : Int} (hd : dstOk nt dst = true) (hx : (mkS E H).ev x = .sl ty' sz (ints zs)) (hsz : sz = 1) (hy : (mkS E H).ev y = .int z) (ht : lkT T t = some i) (hu : i.u = .slice e) (he : lkT T e = some j) (hs : j.size = 1) (ho : z.toNat = o) (hz : 0 ≤ z ∧ o ≤ zs.length) :
    Does P nt ⟨dst, .slice t x none (some y) none, ty, pos, aft, gd⟩ ⟨fo x ++ fo y, []⟩ (.sl ty' 1 (ints (zs.take o))) [] (mkS E H) := by
  subst hsz ho
  have := does_upto (P := P) (nt := nt) (dst := dst) (ty := ty) (pos := pos) (aft := aft) (gd := gd) hT hd hx hy ht hu he hs (by rw [ints_length]; omega)
  rw [Nat.mul_one, ints_take] at this
  exact this
end

/-! functions of which one knows that a result is there -/
structure ExOk {ι : Type} (T : List (Nat × TyI)) (rs : List ResultVar) (Good : ι → Prop) (res : ι → AV) (e : Exit) (σ : St) : Prop where
  out : ∃ i, Good i ∧ ResOk T rs (res i) e σ
structure ExOkR {ι : Type} (T : List (Nat × TyI)) (rs : List ResultVar) (ty : Nat) (x0 : Value) (t0 : Nat) (cs : List AV) (Good : ι → Prop) (pos : ι → Int) (res : ι → AV) (e : Exit) (σ : St) : Prop where
  out : ∃ i, Good i ∧ ResOkR T rs (rdRow ty x0 t0 cs (pos i)) (res i) e σ
section
variable {P : Program} {T : List (Nat × TyI)} {f nt : Nat} {fn : Func} {c : Code} {rs : List ResultVar} {ι : Type} {Good : ι → Prop} {res : ι → AV} {pos : ι → Int} {ty t0 : Nat} {x0 : Value} {cs : List AV} {p : Int}
theorem fnx_of {ts : List AV} (hT : TabOk P T) (hf : P.funcs[f]? = some fn) (hb : fn.body = some c) (hnm : (fn.name == "runtime.NumGoroutine") = false) (hnt : fn.ntmps = nt) (hrs : fn.results = rs.toArray) (hl : ts.length ≤ nt) (h : AX P nt c (mkSt (entE 0 ts) []) (ExOk T rs Good res)) : ∃ i, Good i ∧ FnS P f ts (res i) := by
  obtain ⟨e, σ', ⟨i, hG, hR⟩, hend⟩ := h
  exact ⟨i, hG, fn_of_ax hT hf hb hnm hnt hrs hl ⟨e, σ', hR, hend⟩⟩
theorem nothing : True := trivial
theorem fnx_go1 (hT : TabOk P T) {a0 : AV} (hf : P.funcs[f]? = some fn) (hb : fn.body = some c) (hnm : (fn.name == "runtime.NumGoroutine") = false) (hnt : fn.ntmps = nt) (hrs : fn.results = rs.toArray) (hl : 1 ≤ nt) (h : AX P nt c (mkS [(0, a0)] ⟨1, []⟩) (ExOk T rs Good res)) : ∃ i, Good i ∧ FnS P f [a0] (res i) :=
  fnx_of hT hf hb hnm hnt hrs (by simpa using hl) h
theorem fnr_of {ts : List AV} (hT : TabOk P T) (hf : P.funcs[f]? = some fn) (hb : fn.body = some c) (hnm : (fn.name == "runtime.NumGoroutine") = false) (hnt : fn.ntmps = nt) (hrs : fn.results = rs.toArray) (hl : ts.length + 1 ≤ nt) (h : AX P nt c (mkSt (entE 0 (.ptr 0 0 0 :: ts)) [(0, some (rdRow ty x0 t0 cs p))]) (ExOkR T rs ty x0 t0 cs Good pos res)) : ∃ i, Good i ∧ FnR P f ty x0 t0 cs p ts (pos i) (res i) := by
  obtain ⟨e, σ', ⟨i, hG, hR⟩, hend⟩ := h
  exact ⟨i, hG, fnr_of_ax hT hf hb hnm hnt hrs hl ⟨e, σ', hR, hend⟩⟩
theorem fnr_go2 (hT : TabOk P T) {a1 : AV} (hf : P.funcs[f]? = some fn) (hb : fn.body = some c) (hnm : (fn.name == "runtime.NumGoroutine") = false) (hnt : fn.ntmps = nt) (hrs : fn.results = rs.toArray) (hl : 2 ≤ nt) (h : AX P nt c (mkS [(0, .ptr 0 0 0), (1, a1)] ⟨1, [(0, some ⟨ty, 2, 0, true, true, [.both x0 (.sl t0 1 cs), .int p]⟩)]⟩) (ExOkR T rs ty x0 t0 cs Good pos res)) : ∃ i, Good i ∧ FnR P f ty x0 t0 cs p [a1] (pos i) (res i) :=
  fnr_of hT hf hb hnm hnt hrs (by simpa using hl) h
end
end Go.Sym
end
