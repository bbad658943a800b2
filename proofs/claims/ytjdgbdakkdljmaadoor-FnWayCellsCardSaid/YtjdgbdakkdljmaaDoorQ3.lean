/-
  What operations on memory do to an abstract state; nothing of the program stands here.
-/
import Derived.Test.YtjdgbdakkdljmaaDoorQ2
set_option linter.unusedVariables false
set_option linter.unusedSimpArgs false
namespace Go.Sym
open Go Go.RowKit

def rd (cs : List AV) (off : Nat) : AV := cs.getD off (.int 0)
def rds (cs : List AV) (off : Nat) : Nat → List AV
  | 0 => []
  | n+1 => rd cs off :: rds cs (off + 1) n
theorem rds_length (cs : List AV) : ∀ n off, (rds cs off n).length = n
  | 0, off => rfl
  | n+1, off => by simp [rds, rds_length cs n]
theorem rds_get (cs : List AV) : ∀ n off i, i < n → (rds cs off n)[i]? = some (rd cs (off + i))
  | n+1, off, 0, _ => by simp [rds]
  | n+1, off, i+1, h => by
    simp only [rds, List.getElem?_cons_succ]
    rw [rds_get cs n (off + 1) i (by omega)]
    congr 2; omega
theorem rd_get {cs : List AV} {j : Nat} (h : j < cs.length) : cs[j]? = some (rd cs j) := by simp [rd, List.getD, h]
def setL (cs : List AV) (o : Nat) : List AV → List AV
  | [] => cs
  | y :: ys => setL (cs.set o y) (o + 1) ys
theorem setL_length (ys : List AV) : ∀ (cs : List AV) (o : Nat), (setL cs o ys).length = cs.length := by
  induction ys with
  | nil => intro cs o; rfl
  | cons y ys ih => intro cs o; simp [setL, ih]
theorem setL_get (ys : List AV) : ∀ (cs : List AV) (o i : Nat), o + ys.length ≤ cs.length → (setL cs o ys)[i]? = if o ≤ i ∧ i < o + ys.length then ys[i - o]? else cs[i]? := by
  induction ys with
  | nil => intro cs o i h; simp [setL]; intro h1 h2; omega
  | cons y ys ih =>
    intro cs o i h
    simp only [List.length_cons] at h
    rw [setL, ih (cs.set o y) (o + 1) i (by simp; omega)]
    by_cases h1 : o = i
    · subst h1
      rw [if_neg (by omega), if_pos (by simp), List.getElem?_set, if_pos rfl, if_pos (by omega)]
      simp
    · by_cases h2 : o + 1 ≤ i ∧ i < o + 1 + ys.length
      · rw [if_pos h2, if_pos (by simp; omega)]
        rw [show i - o = (i - (o + 1)) + 1 by omega, List.getElem?_cons_succ]
      · rw [if_neg h2, if_neg (by simp; omega), List.getElem?_set, if_neg h1]

/-- one cell -/
def AV.one : AV → Bool
  | .any => false
  | .v x => x.oneCell'
  | .agg _ => false
  | .tup _ => false
  | _ => true
/-- a value that is one cell, plainly: a scalar, a slice of still memory, the slice of a row that stands -/
def cellB (σ : St) : AV → Bool
  | .v x => x.oneCell'
  | .sl _ _ _ => true
  | .both _ (.sl _ _ _) => true
  | .own r k => match σ.row r with
    | some row => Nat.beq row.ver k
    | none => false
  | _ => false
def rowOf : AV → List Nat
  | .own r _ => [r]
  | _ => []
def rowsOf : List AV → List Nat
  | [] => []
  | x :: xs => rowOf x ++ rowsOf xs
def allCells (σ : St) : List AV → Bool
  | [] => true
  | x :: xs => cellB σ x && allCells σ xs
theorem cellB_agree {R : Foot} {τ σ : St} (hag : Agree R τ σ) {x : AV} (h : ∀ r, r ∈ rowOf x → r ∈ R.r) : cellB τ x = cellB σ x := by
  cases x <;> simp only [cellB]
  case own r k => rw [hag.2 r (h r (by simp [rowOf]))]
  case both x y => cases y <;> rfl
theorem allCells_agree {R : Foot} {τ σ : St} (hag : Agree R τ σ) : ∀ {xs : List AV}, (∀ r, r ∈ rowsOf xs → r ∈ R.r) → allCells τ xs = allCells σ xs
  | [], _ => rfl
  | x :: xs, h => by
    simp only [allCells]
    rw [cellB_agree hag (fun r hr => h r (by simp [rowsOf, hr])), allCells_agree hag (fun r hr => h r (by simp [rowsOf, hr]))]
theorem rowTip {F : Fr} {φ : Nat → Value} {Z : Nat → Prop} {σ : St} {a : Act} {w : World} (h : SimAt F φ Z σ a w) {r : Nat} {row : Row} (hr : σ.row r = some row) : (cxOf φ Z σ w).tip r = some (φ r, row.ver) := by
  simp [cxOf, hr]
theorem own_one {w : World} {b : Nat} {e : TypeId} {s : Nat} {v : Value} {n : Nat} {xs : List Value} (h : w.ownsRow b e s v n xs) : v.oneCell' = true := by
  rcases h.2 with ⟨rfl, _⟩ | ⟨g, cap, cur, rfl, _⟩ <;> rfl
theorem cellB_one {F : Fr} {φ : Nat → Value} {Z : Nat → Prop} {σ : St} {a : Act} {w : World} (h : SimAt F φ Z σ a w) {x : AV} {u : Value} (hx : relV (cxOf φ Z σ w) x u) (hc : cellB σ x = true) : u.oneCell' = true := by
  cases x <;> simp only [cellB] at hc <;> try (cases hc; done)
  case v c => simp [relV] at hx; subst hx; exact hc
  case sl ty sz cs => simp only [relV] at hx; obtain ⟨_, ao, n, c, rfl, _⟩ := hx; rfl
  case both x y =>
    cases y <;> simp at hc
    simp only [relV] at hx; obtain ⟨_, _, ao, n, c, rfl, _⟩ := hx; rfl
  case own r k =>
    cases hr : σ.row r with
    | none => simp [hr] at hc
    | some row =>
      rw [hr] at hc
      have hv := Nat.eq_of_beq_eq_true hc
      simp only [relV, rowTip h hr] at hx
      obtain ⟨t, j, e, _, h4⟩ := hx
      simp at e
      obtain ⟨rfl, rfl⟩ := e
      rw [h4 hv]
      obtain ⟨n, xs, ho, _⟩ := (h.rows r row hr).own
      exact own_one ho
theorem allCells_one {F : Fr} {φ : Nat → Value} {Z : Nat → Prop} {σ : St} {a : Act} {w : World} (h : SimAt F φ Z σ a w) : ∀ {xs : List AV} {us : List Value}, relL (cxOf φ Z σ w) xs us → allCells σ xs = true → ∀ u, u ∈ us → u.oneCell' = true
  | [], us, hx, _, u, hu => by simp [relL] at hx; subst hx; simp at hu
  | x :: xs, us, hx, hc, u, hu => by
    simp only [relL] at hx
    obtain ⟨v, vs, rfl, h1, h2⟩ := hx
    simp only [allCells, Bool.and_eq_true] at hc
    rcases List.mem_cons.1 hu with rfl | hu
    · exact cellB_one h h1 hc.1
    · exact allCells_one h h2 hc.2 u hu

/-! what a row is in memory -/
structure RowMem (w : World) (t : Value) (row : Row) (cx : Cx) (n : Nat) (xs : List Value) : Prop where
  own : w.ownsRow 0 row.ty row.sz t n xs
  len : row.cs.length = n * row.sz
  rel : relL cx row.cs xs
  one : ∀ u, u ∈ xs → u.oneCell' = true
theorem rowMem {F : Fr} {φ : Nat → Value} {Z : Nat → Prop} {σ : St} {a : Act} {w : World} (h : SimAt F φ Z σ a w) {r : Nat} {row : Row} (hr : σ.row r = some row) : ∃ n xs, RowMem w (φ r) row (cxOf φ Z σ w) n xs := by
  obtain ⟨n, xs, h1, h2, h3, h4⟩ := (h.rows r row hr).own
  exact ⟨n, xs, h1, h2, h3, h4⟩
/-- the block of a row that is not empty -/
theorem RowMem.open {w : World} {t : Value} {row : Row} {cx : Cx} {n : Nat} {xs : List Value} (h : RowMem w t row cx n xs) (hne : 0 < row.cs.length) :
    ∃ g cap cur, t = .slice (some ⟨g, 0, none⟩) n cap ∧ w.heap[g]? = some (.cells cur row.ty (0, 0)) ∧ n ≤ cap ∧ cap ≤ maxLen ∧ cur.size = cap * row.sz ∧ cur.toList.take (n * row.sz) = xs := by
  rcases h.own.2 with ⟨rfl, h0⟩ | ⟨g, cap, cur, h1, _, h2⟩
  · have := h.len
    rw [h0] at this
    omega
  · exact ⟨g, cap, cur, h1, h2⟩
theorem RowMem.cell {w : World} {t : Value} {row : Row} {cx : Cx} {n : Nat} {xs : List Value} (h : RowMem w t row cx n xs) {g m c : Nat} (ht : t = .slice (some ⟨g, 0, none⟩) m c) {j : Nat} (hj : j < row.cs.length) :
    ∃ u, w.cell? ⟨g, j, none⟩ = some u ∧ relV cx (rd row.cs j) u := by
  obtain ⟨g', cap, cur, e, hg, h1, h2, h3, h4⟩ := h.open (by omega)
  rw [ht] at e
  cases e
  obtain ⟨u, hu, hr⟩ := relL_get h.rel j _ (rd_get hj)
  refine ⟨u, ?_, hr⟩
  rw [cell_of_row w g j cur _ _ hg]
  rw [← h4, List.getElem?_take] at hu
  split at hu
  · simpa using hu
  · cases hu
theorem ptr_open {F : Fr} {φ : Nat → Value} {Z : Nat → Prop} {σ : St} {a : Act} {w : World} (h : SimAt F φ Z σ a w) {r k off : Nat} {row : Row} {u : Value} (hr : σ.row r = some row) (hv : row.ver = k) (hu : relV (cxOf φ Z σ w) (.ptr r k off) u) :
    ∃ g m c, φ r = .slice (some ⟨g, 0, none⟩) m c ∧ u = .pointer (some ⟨g, off, none⟩) := by
  simp only [relV, rowTip h hr] at hu
  obtain ⟨t, j, e, _, h4⟩ := hu
  simp at e
  obtain ⟨rfl, rfl⟩ := e
  exact h4 hv
theorem own_open {F : Fr} {φ : Nat → Value} {Z : Nat → Prop} {σ : St} {a : Act} {w : World} (h : SimAt F φ Z σ a w) {r k : Nat} {row : Row} {u : Value} (hr : σ.row r = some row) (hv : row.ver = k) (hu : relV (cxOf φ Z σ w) (.own r k) u) : u = φ r := by
  simp only [relV, rowTip h hr] at hu
  obtain ⟨t, j, e, _, h4⟩ := hu
  simp at e
  obtain ⟨rfl, rfl⟩ := e
  exact h4 hv
theorem pre_open {F : Fr} {φ : Nat → Value} {Z : Nat → Prop} {σ : St} {a : Act} {w : World} (h : SimAt F φ Z σ a w) {r k n : Nat} {row : Row} {u : Value} (hr : σ.row r = some row) (hv : row.ver = k) (hu : relV (cxOf φ Z σ w) (.pre r k n) u) :
    (φ r = .slice none 0 0 ∧ u = φ r ∧ n = 0) ∨ ∃ g m c, φ r = .slice (some ⟨g, 0, none⟩) m c ∧ u = .slice (some ⟨g, 0, none⟩) n c ∧ n ≤ m := by
  simp only [relV, rowTip h hr] at hu
  obtain ⟨t, j, e, _, h4⟩ := hu
  simp at e
  obtain ⟨rfl, rfl⟩ := e
  exact h4 hv
theorem sub_open {F : Fr} {φ : Nat → Value} {Z : Nat → Prop} {σ : St} {a : Act} {w : World} (h : SimAt F φ Z σ a w) {r k off n : Nat} {row : Row} {u : Value} (hr : σ.row r = some row) (hv : row.ver = k) (hu : relV (cxOf φ Z σ w) (.sub r k off n) u) :
    ∃ ao c, u = .slice ao n c ∧ n ≤ c ∧ c ≤ maxLen ∧ (n = 0 ∨ ∃ g m c', φ r = .slice (some ⟨g, 0, none⟩) m c' ∧ ao = some ⟨g, off, none⟩) := by
  simp only [relV, rowTip h hr] at hu
  obtain ⟨t, j, e, _, h4⟩ := hu
  simp at e
  obtain ⟨rfl, rfl⟩ := e
  exact h4 hv

section
variable {P : Program} {T : List (Nat × TyI)} {nt : Nat} {σ : St} {dst : Option Nat} {ty : Nat} {pos : String} {aft : Array Edge} {gd : Option (Nat × Bool)}

/-! loads -/
theorem run_load_one (hT : TabOk P T) {t : Nat} {i : TyI} (ht : lkT T t = some i) (hg : i.agg = false) {w : World} {A : Addr} {u : Value} (hc : w.cell? A = some u) : (Instr.loadAt t (.pointer (some A))).run P w = .ok u w := by
  obtain ⟨inf, d, hk⟩ := hT.known ht
  simp [Instr.loadAt, Instr.sureAddr, loadVar, hk.run_agg w, hg, hc]
theorem run_load_many (hT : TabOk P T) {t : Nat} {i : TyI} (ht : lkT T t = some i) (hg : i.agg = true) {w : World} {g o : Nat} {us : List Value} (hl : us.length = i.size) (hc : ∀ j u, us[j]? = some u → w.cell? ⟨g, o + j, none⟩ = some u) :
    (Instr.loadAt t (.pointer (some ⟨g, o, none⟩))).run P w = .ok (.agg us.toArray) w := by
  obtain ⟨inf, d, hk⟩ := hT.known ht
  have h1 := run_loadCells_list (P := P) (w := w) ⟨g, o, none⟩ us (fun j v hj => by rw [Addr.add_lit]; exact hc j v hj)
  simp [Instr.loadAt, Instr.sureAddr, loadVar, hk.run_agg w, hg, run_sizeOf_known hk.info, hk.size, ← hl, h1]
theorem cells_list {cx : Cx} {cs : List AV} {f : Nat → Option Value} : ∀ n off, (∀ j, off ≤ j → j < off + n → ∃ u, f j = some u ∧ relV cx (rd cs j) u) → ∃ us : List Value, us.length = n ∧ (∀ j u, us[j]? = some u → f (off + j) = some u) ∧ relL cx (rds cs off n) us
  | 0, off, h => ⟨[], rfl, by simp, by simp [rds, relL]⟩
  | n+1, off, h => by
    obtain ⟨us, h1, h2, h3⟩ := cells_list n (off + 1) (fun j a b => h j (by omega) (by omega))
    obtain ⟨u, hu, hr⟩ := h off (by omega) (by omega)
    refine ⟨u :: us, by simp [h1], ?_, ?_⟩
    · intro j v hj
      cases j with
      | zero => simp at hj; subst hj; simpa using hu
      | succ j => simp at hj; rw [show off + (j + 1) = off + 1 + j by omega]; exact h2 j v hj
    · simp only [rds, relL]; exact ⟨u, us, rfl, hr, h3⟩

theorem does_load (hT : TabOk P T) {t : Nat} {x : Operand} {i : TyI} {r k off : Nat} {row : Row} (hd : dstOk nt dst = true) (hx : σ.ev x = .ptr r k off) (hr : σ.row r = some row) (hv : row.ver = k) (ht : lkT T t = some i) (hg : i.agg = false) (ho : off < row.cs.length) :
    Does P nt ⟨dst, .load t x, ty, pos, aft, gd⟩ ⟨fo x, [r]⟩ (rd row.cs off) [] σ :=
  does_pure hd fun τ hag F φ Z a w hF hS => by
    have hr' : τ.row r = some row := by rw [hag.2 r (by simp)]; exact hr
    obtain ⟨g, m, c, e1, e2⟩ := ptr_open hS hr' hv (ev_rel hag hS hx (by simp))
    obtain ⟨n, xs, hm⟩ := rowMem hS hr'
    obtain ⟨u, hu, hrel⟩ := hm.cell e1 ho
    exact ⟨u, by simp [execOp, e2, run_load_one hT ht hg hu], hrel⟩
theorem does_load_agg (hT : TabOk P T) {t : Nat} {x : Operand} {i : TyI} {r k off : Nat} {row : Row} (hd : dstOk nt dst = true) (hx : σ.ev x = .ptr r k off) (hr : σ.row r = some row) (hv : row.ver = k) (ht : lkT T t = some i) (hg : i.agg = true) (ho : off + i.size ≤ row.cs.length) :
    Does P nt ⟨dst, .load t x, ty, pos, aft, gd⟩ ⟨fo x, [r]⟩ (.agg (rds row.cs off i.size)) [] σ :=
  does_pure hd fun τ hag F φ Z a w hF hS => by
    have hr' : τ.row r = some row := by rw [hag.2 r (by simp)]; exact hr
    obtain ⟨g, m, c, e1, e2⟩ := ptr_open hS hr' hv (ev_rel hag hS hx (by simp))
    obtain ⟨n, xs, hm⟩ := rowMem hS hr'
    obtain ⟨us, h1, h2, h3⟩ := cells_list (cx := cxOf φ Z τ w) (cs := row.cs) (f := fun j => w.cell? ⟨g, j, none⟩) i.size off (fun j a b => hm.cell e1 (by omega))
    exact ⟨.agg us.toArray, by simp [execOp, e2, run_load_many hT ht hg h1 h2], by simp only [relV]; exact ⟨us, rfl, h3⟩⟩
theorem ip_cell {cx : Cx} {cs : List AV} {k : Nat} {u : Value} (h : relV cx (.ip cs k) u) : ∃ b off, u = .pointer (some ⟨b, off + k, none⟩) ∧ cx.Z b ∧ ∀ j, j < cs.length → ∃ v, cx.w.cell? ⟨b, off + j, none⟩ = some v ∧ relV cx (rd cs j) v := by
  simp only [relV] at h
  obtain ⟨_, b, off, rfl, hb, hc⟩ := h
  exact ⟨b, off, rfl, hb, fun j hj => by obtain ⟨u, h1, _, h2⟩ := relC_get hc j _ (rd_get hj); exact ⟨u, h1, h2⟩⟩
theorem does_load_ip (hT : TabOk P T) {t : Nat} {x : Operand} {i : TyI} {cs : List AV} {off : Nat} (hd : dstOk nt dst = true) (hx : σ.ev x = .ip cs off) (ht : lkT T t = some i) (hg : i.agg = false) (ho : off < cs.length) :
    Does P nt ⟨dst, .load t x, ty, pos, aft, gd⟩ ⟨fo x, []⟩ (rd cs off) [] σ :=
  does_pure hd fun τ hag F φ Z a w hF hS => by
    obtain ⟨b, o, e, hb, hc⟩ := ip_cell (ev_rel hag hS hx (by simp))
    obtain ⟨u, hu, hrel⟩ := hc off ho
    have hu' : w.cell? ⟨b, o + off, none⟩ = some u := hu
    exact ⟨u, by simp [execOp, e, run_load_one hT ht hg hu'], hrel⟩
theorem does_load_agg_ip (hT : TabOk P T) {t : Nat} {x : Operand} {i : TyI} {cs : List AV} {off : Nat} (hd : dstOk nt dst = true) (hx : σ.ev x = .ip cs off) (ht : lkT T t = some i) (hg : i.agg = true) (ho : off + i.size ≤ cs.length) :
    Does P nt ⟨dst, .load t x, ty, pos, aft, gd⟩ ⟨fo x, []⟩ (.agg (rds cs off i.size)) [] σ :=
  does_pure hd fun τ hag F φ Z a w hF hS => by
    obtain ⟨b, o, e, hb, hc⟩ := ip_cell (ev_rel hag hS hx (by simp))
    obtain ⟨us, h1, h2, h3⟩ := cells_list (cx := cxOf φ Z τ w) (cs := cs) (f := fun j => w.cell? ⟨b, o + j, none⟩) i.size off (fun j a b => hc j (by omega))
    exact ⟨.agg us.toArray, by simp [execOp, e, run_load_many hT ht hg h1 (fun j u hj => by rw [Nat.add_assoc]; exact h2 j u hj)], by simp only [relV]; exact ⟨us, rfl, h3⟩⟩

/-! addresses -/
theorem run_field (hT : TabOk P T) {t f : Nat} {i : TyI} {l : List (Nat × Nat × Nat)} {o ft s : Nat} (ht : lkT T t = some i) (hu : i.u = .struct l) (hf : l[f]? = some (o, ft, s)) (hs : 0 < s) (w : World) (g off : Nat) :
    (Instr.fieldAt t (.pointer (some ⟨g, off, none⟩)) f).run P w = .ok (.pointer (some ⟨g, off + o, none⟩)) w := by
  obtain ⟨inf, d, hk⟩ := hT.known ht
  obtain ⟨fs, h1, h2⟩ := hk.struct hu
  rw [← h2] at hf
  simp only [List.getElem?_map, Option.map_eq_some_iff, Prod.mk.injEq] at hf
  obtain ⟨fd, h3, rfl, rfl, h4⟩ := hf
  have h3' : fs[f]? = some fd := by simpa using h3
  cases h5 : P.info? fd.type with
  | none => simp [h5] at h4; omega
  | some inf2 =>
    simp [h5] at h4
    have h6 : ¬ (inf2.size = 0) := by omega
    simp [Instr.fieldAt, Instr.sureAddr, run_underlying h1, h3', fieldPlace, run_sizeOf_known h5, h6, Addr.add_lit]
theorem does_fieldAddr (hT : TabOk P T) {t f : Nat} {x : Operand} {i : TyI} {l : List (Nat × Nat × Nat)} {o ft s : Nat} {r k off : Nat} {row : Row} (hd : dstOk nt dst = true) (hx : σ.ev x = .ptr r k off) (hr : σ.row r = some row) (hv : row.ver = k)
    (ht : lkT T t = some i) (hu : i.u = .struct l) (hf : l[f]? = some (o, ft, s)) (hs : 0 < s) :
    Does P nt ⟨dst, .fieldAddr t x f, ty, pos, aft, gd⟩ ⟨fo x, [r]⟩ (.ptr r k (off + o)) [] σ :=
  does_pure hd fun τ hag F φ Z a w hF hS => by
    have hr' : τ.row r = some row := by rw [hag.2 r (by simp)]; exact hr
    obtain ⟨g, m, c, e1, e2⟩ := ptr_open hS hr' hv (ev_rel hag hS hx (by simp))
    refine ⟨.pointer (some ⟨g, off + o, none⟩), by simp [execOp, e2, run_field hT ht hu hf hs], ?_⟩
    simp only [relV, rowTip hS hr']
    exact ⟨_, _, rfl, by omega, fun _ => ⟨g, m, c, e1, rfl⟩⟩
theorem does_fieldAddr_ip (hT : TabOk P T) {t f : Nat} {x : Operand} {i : TyI} {l : List (Nat × Nat × Nat)} {o ft s : Nat} {cs : List AV} {off : Nat} (hd : dstOk nt dst = true) (hx : σ.ev x = .ip cs off)
    (ht : lkT T t = some i) (hu : i.u = .struct l) (hf : l[f]? = some (o, ft, s)) (hs : 0 < s) :
    Does P nt ⟨dst, .fieldAddr t x f, ty, pos, aft, gd⟩ ⟨fo x, []⟩ (.ip cs (off + o)) [] σ :=
  does_pure hd fun τ hag F φ Z a w hF hS => by
    have h1 := ev_rel hag hS hx (by simp)
    simp only [relV] at h1
    obtain ⟨h0, b, of, e, hb, hc⟩ := h1
    refine ⟨.pointer (some ⟨b, of + (off + o), none⟩), by simp [execOp, e, run_field hT ht hu hf hs, Nat.add_assoc], ?_⟩
    simp only [relV]
    exact ⟨h0, b, of, rfl, hb, hc⟩
theorem run_indexAt (hT : TabOk P T) {t e : Nat} {i j : TyI} (ht : lkT T t = some i) (hu : i.u = .slice e) (he : lkT T e = some j) (w : World) (g off n c : Nat) (kd : IntKind) (z : Int) (h0 : 0 ≤ z) (h1 : z < n) :
    (Instr.indexAt t (.slice (some ⟨g, off, none⟩) n c) (.int kd z)).run P w = .ok (.pointer (some ⟨g, off + z.toNat * j.size, none⟩)) w := by
  obtain ⟨inf, d, hk⟩ := hT.known ht
  obtain ⟨inf2, d2, hk2⟩ := hT.known he
  have h2 := hk.slice hu
  simp [Instr.indexAt, asIntOf, run_underlying h2, run_sizeOf_known hk2.info, hk2.size, h0, h1, Addr.add_lit]
theorem mul_lt_len {z n s l : Nat} (hs : 0 < s) (hl : l = n * s) (h : z * s < l) : z < n := by
  subst hl
  exact Nat.lt_of_mul_lt_mul_right h
theorem does_index_own (hT : TabOk P T) {t e : Nat} {x y : Operand} {i j : TyI} {r k : Nat} {row : Row} {kd : IntKind} {z : Int} (hd : dstOk nt dst = true) (hx : σ.ev x = .own r k) (hy : σ.ev y = .v (.int kd z)) (hr : σ.row r = some row) (hv : row.ver = k)
    (ht : lkT T t = some i) (hu : i.u = .slice e) (he : lkT T e = some j) (hs : row.sz = j.size) (h0 : 0 ≤ z) (h1 : z.toNat * j.size < row.cs.length) :
    Does P nt ⟨dst, .indexAddr t x y, ty, pos, aft, gd⟩ ⟨fo x ++ fo y, [r]⟩ (.ptr r k (z.toNat * j.size)) [] σ :=
  does_pure hd fun τ hag F φ Z a w hF hS => by
    have hr' : τ.row r = some row := by rw [hag.2 r (by simp)]; exact hr
    have e1 := own_open hS hr' hv (ev_rel hag hS hx (by simp +contextual))
    have e2 := ev_v hag hS hy (by simp +contextual)
    obtain ⟨n, xs, hm⟩ := rowMem hS hr'
    obtain ⟨g, cap, cur, e3, h2⟩ := hm.open (by omega)
    have hsz := (hS.rows r row hr').sz
    have hz : z < n := by
      have := mul_lt_len (by omega) hm.len (by rw [hs]; exact h1)
      omega
    refine ⟨.pointer (some ⟨g, 0 + z.toNat * j.size, none⟩), by simp [execOp, e1, e2, e3, run_indexAt hT ht hu he w g 0 n cap kd z h0 hz], ?_⟩
    simp only [relV, rowTip hS hr']
    exact ⟨_, _, rfl, by omega, fun _ => ⟨g, n, cap, e3, by simp⟩⟩
theorem does_index_pre (hT : TabOk P T) {t e : Nat} {x y : Operand} {i j : TyI} {r k n : Nat} {row : Row} {kd : IntKind} {z : Int} (hd : dstOk nt dst = true) (hx : σ.ev x = .pre r k n) (hy : σ.ev y = .v (.int kd z)) (hr : σ.row r = some row) (hv : row.ver = k)
    (ht : lkT T t = some i) (hu : i.u = .slice e) (he : lkT T e = some j) (h0 : 0 ≤ z) (h1 : z < n) :
    Does P nt ⟨dst, .indexAddr t x y, ty, pos, aft, gd⟩ ⟨fo x ++ fo y, [r]⟩ (.ptr r k (z.toNat * j.size)) [] σ :=
  does_pure hd fun τ hag F φ Z a w hF hS => by
    have hr' : τ.row r = some row := by rw [hag.2 r (by simp)]; exact hr
    have e2 := ev_v hag hS hy (by simp +contextual)
    rcases pre_open hS hr' hv (ev_rel hag hS hx (by simp +contextual)) with ⟨_, _, h3⟩ | ⟨g, m, c, e3, e1, h2⟩
    · omega
    · refine ⟨.pointer (some ⟨g, 0 + z.toNat * j.size, none⟩), by simp [execOp, e1, e2, run_indexAt hT ht hu he w g 0 n c kd z h0 h1], ?_⟩
      simp only [relV, rowTip hS hr']
      exact ⟨_, _, rfl, by omega, fun _ => ⟨g, m, c, e3, by simp⟩⟩
theorem does_index_sub (hT : TabOk P T) {t e : Nat} {x y : Operand} {i j : TyI} {r k off n : Nat} {row : Row} {kd : IntKind} {z : Int} (hd : dstOk nt dst = true) (hx : σ.ev x = .sub r k off n) (hy : σ.ev y = .v (.int kd z)) (hr : σ.row r = some row) (hv : row.ver = k)
    (ht : lkT T t = some i) (hu : i.u = .slice e) (he : lkT T e = some j) (h0 : 0 ≤ z) (h1 : z < n) :
    Does P nt ⟨dst, .indexAddr t x y, ty, pos, aft, gd⟩ ⟨fo x ++ fo y, [r]⟩ (.ptr r k (off + z.toNat * j.size)) [] σ :=
  does_pure hd fun τ hag F φ Z a w hF hS => by
    have hr' : τ.row r = some row := by rw [hag.2 r (by simp)]; exact hr
    have e2 := ev_v hag hS hy (by simp +contextual)
    obtain ⟨ao, c, e1, h3, h4, h5⟩ := sub_open hS hr' hv (ev_rel hag hS hx (by simp +contextual))
    rcases h5 with h5 | ⟨g, m, c', e3, rfl⟩
    · omega
    · refine ⟨.pointer (some ⟨g, off + z.toNat * j.size, none⟩), by simp [execOp, e1, e2, run_indexAt hT ht hu he w g off n c kd z h0 h1], ?_⟩
      simp only [relV, rowTip hS hr']
      exact ⟨_, _, rfl, by omega, fun _ => ⟨g, m, c', e3, rfl⟩⟩
theorem does_index_sl (hT : TabOk P T) {t e : Nat} {x y : Operand} {i j : TyI} {ty' sz : Nat} {cs : List AV} {kd : IntKind} {z : Int} (hd : dstOk nt dst = true) (hx : σ.ev x = .sl ty' sz cs) (hy : σ.ev y = .v (.int kd z))
    (ht : lkT T t = some i) (hu : i.u = .slice e) (he : lkT T e = some j) (hs : sz = j.size) (h0 : 0 ≤ z) (h1 : z.toNat * j.size < cs.length) :
    Does P nt ⟨dst, .indexAddr t x y, ty, pos, aft, gd⟩ ⟨fo x ++ fo y, []⟩ (.ip cs (z.toNat * j.size)) [] σ :=
  does_pure hd fun τ hag F φ Z a w hF hS => by
    have e2 := ev_v hag hS hy (by simp +contextual)
    have h2 := ev_rel hag hS hx (by simp +contextual)
    simp only [relV] at h2
    obtain ⟨hp, ao, n, c, e1, h3, h4, h5, h6, h7⟩ := h2
    rcases h7 with h7 | ⟨b, off, rfl, hb, hc⟩
    · rw [h7] at h1; simp at h1
    · have hz : z < n := by
        have := mul_lt_len (by omega) h6 (by rw [hs]; exact h1)
        omega
      refine ⟨.pointer (some ⟨b, off + z.toNat * j.size, none⟩), by simp [execOp, e1, e2, run_indexAt hT ht hu he w b off n c kd z h0 hz], ?_⟩
      simp only [relV]
      exact ⟨hp, b, off, rfl, hb, hc⟩

/-! lengths -/
theorem run_len_slice (hT : TabOk P T) {t e : Nat} {i : TyI} (ht : lkT T t = some i) (hu : i.u = .slice e) (w : World) (ao : Option Addr) (n c ty : Nat) :
    (Builtin.len_ #[t] ty #[.slice ao n c]).run P w = .ok (.int .i64 n) w := by
  obtain ⟨inf, d, hk⟩ := hT.known ht
  simp [Builtin.len_, run_underlying (hk.slice hu), goInt]
theorem div_len {l n s : Nat} (hs : 0 < s) (h : l = n * s) : l / s = n := by rw [h, Nat.mul_div_cancel _ hs]
theorem does_len_own (hT : TabOk P T) {t e : Nat} {x : Operand} {i : TyI} {r k : Nat} {row : Row} (hd : dstOk nt dst = true) (hx : σ.ev x = .own r k) (hr : σ.row r = some row) (hv : row.ver = k) (ht : lkT T t = some i) (hu : i.u = .slice e) :
    Does P nt ⟨dst, .call ⟨.builtin .len, #[x], #[t]⟩, ty, pos, aft, gd⟩ ⟨fo x, [r]⟩ (.int ((row.cs.length / row.sz : Nat) : Int)) [] σ :=
  does_pure hd fun τ hag F φ Z a w hF hS => by
    have hr' : τ.row r = some row := by rw [hag.2 r (by simp)]; exact hr
    have e1 := own_open hS hr' hv (ev_rel hag hS hx (by simp))
    obtain ⟨n, xs, hm⟩ := rowMem hS hr'
    have hn := div_len (hS.rows r row hr').sz hm.len
    have hsl : ∃ ao c, φ r = .slice ao n c := by
      rcases hm.own.2 with ⟨h1, h2⟩ | ⟨g, cap, cur, h1, _⟩
      · exact ⟨none, 0, by rw [h1, h2]⟩
      · exact ⟨_, _, h1⟩
    obtain ⟨ao, c, e2⟩ := hsl
    exact ⟨.int .i64 n, by simp [execOp, resolve, invoke, builtin, e1, e2, run_len_slice hT ht hu], by simp [relV, hn]⟩
theorem does_len_pre (hT : TabOk P T) {t e : Nat} {x : Operand} {i : TyI} {r k n : Nat} {row : Row} (hd : dstOk nt dst = true) (hx : σ.ev x = .pre r k n) (hr : σ.row r = some row) (hv : row.ver = k) (ht : lkT T t = some i) (hu : i.u = .slice e) :
    Does P nt ⟨dst, .call ⟨.builtin .len, #[x], #[t]⟩, ty, pos, aft, gd⟩ ⟨fo x, [r]⟩ (.int (n : Int)) [] σ :=
  does_pure hd fun τ hag F φ Z a w hF hS => by
    have hr' : τ.row r = some row := by rw [hag.2 r (by simp)]; exact hr
    rcases pre_open hS hr' hv (ev_rel hag hS hx (by simp)) with ⟨h1, h2, h3⟩ | ⟨g, m, c, e3, e1, h2⟩
    · exact ⟨.int .i64 n, by simp [execOp, resolve, invoke, builtin, h2, h1, run_len_slice hT ht hu, h3], by simp [relV]⟩
    · exact ⟨.int .i64 n, by simp [execOp, resolve, invoke, builtin, e1, run_len_slice hT ht hu], by simp [relV]⟩
theorem does_len_sub (hT : TabOk P T) {t e : Nat} {x : Operand} {i : TyI} {r k off n : Nat} {row : Row} (hd : dstOk nt dst = true) (hx : σ.ev x = .sub r k off n) (hr : σ.row r = some row) (hv : row.ver = k) (ht : lkT T t = some i) (hu : i.u = .slice e) :
    Does P nt ⟨dst, .call ⟨.builtin .len, #[x], #[t]⟩, ty, pos, aft, gd⟩ ⟨fo x, [r]⟩ (.int (n : Int)) [] σ :=
  does_pure hd fun τ hag F φ Z a w hF hS => by
    have hr' : τ.row r = some row := by rw [hag.2 r (by simp)]; exact hr
    obtain ⟨ao, c, e1, _⟩ := sub_open hS hr' hv (ev_rel hag hS hx (by simp))
    exact ⟨.int .i64 n, by simp [execOp, resolve, invoke, builtin, e1, run_len_slice hT ht hu], by simp [relV]⟩
theorem does_len_sl (hT : TabOk P T) {t e : Nat} {x : Operand} {i : TyI} {ty' sz : Nat} {cs : List AV} (hd : dstOk nt dst = true) (hx : σ.ev x = .sl ty' sz cs) (ht : lkT T t = some i) (hu : i.u = .slice e) :
    Does P nt ⟨dst, .call ⟨.builtin .len, #[x], #[t]⟩, ty, pos, aft, gd⟩ ⟨fo x, []⟩ (.int ((cs.length / sz : Nat) : Int)) [] σ :=
  does_pure hd fun τ hag F φ Z a w hF hS => by
    have h2 := ev_rel hag hS hx (by simp)
    simp only [relV] at h2
    obtain ⟨hp, ao, n, c, e1, h3, h4, h5, h6, h7⟩ := h2
    exact ⟨.int .i64 n, by simp [execOp, resolve, invoke, builtin, e1, run_len_slice hT ht hu], by simp [relV, div_len h5 h6]⟩
theorem does_len_nil (hT : TabOk P T) {t e : Nat} {x : Operand} {i : TyI} {ao : Option Addr} {n c : Nat} (hd : dstOk nt dst = true) (hx : σ.ev x = .v (.slice ao n c)) (ht : lkT T t = some i) (hu : i.u = .slice e) :
    Does P nt ⟨dst, .call ⟨.builtin .len, #[x], #[t]⟩, ty, pos, aft, gd⟩ ⟨fo x, []⟩ (.int (n : Int)) [] σ :=
  does_pure hd fun τ hag F φ Z a w hF hS =>
    ⟨.int .i64 n, by simp [execOp, resolve, invoke, builtin, ev_v hag hS hx (by simp), run_len_slice hT ht hu], by simp [relV]⟩
theorem does_len_str (hT : TabOk P T) {t : Nat} {x : Operand} {i : TyI} {s : ByteArray} (hd : dstOk nt dst = true) (hx : σ.ev x = .str s) (ht : lkT T t = some i) (hu : i.u = .str) :
    Does P nt ⟨dst, .call ⟨.builtin .len, #[x], #[t]⟩, ty, pos, aft, gd⟩ ⟨fo x, []⟩ (.int (s.size : Int)) [] σ :=
  does_pure hd fun τ hag F φ Z a w hF hS => by
    obtain ⟨inf, d, hk⟩ := hT.known ht
    exact ⟨.int .i64 s.size, by simp [execOp, resolve, invoke, builtin, ev_v hag hS hx (by simp), Builtin.len_, run_underlying (hk.str hu), goInt], by simp [relV]⟩

theorem does_extract {x : Operand} {n : Nat} {xs : List AV} {y : AV} (hd : dstOk nt dst = true) (hx : σ.ev x = .tup xs) (hy : xs[n]? = some y) :
    Does P nt ⟨dst, .extract x n, ty, pos, aft, gd⟩ ⟨fo x, []⟩ y [] σ :=
  does_pure hd fun τ hag F φ Z a w hF hS => by
    have h2 := ev_rel hag hS hx (by simp)
    simp only [relV] at h2
    obtain ⟨vs, e1, h3⟩ := h2
    obtain ⟨u, hu, hr⟩ := relL_get h3 n y hy
    exact ⟨u, by simp [execOp, e1, Instr.extract, hu], hr⟩

end
end Go.Sym
