/-
  Calls of readers' methods and calls that give two slices, typed; functions of which one knows that a result is there.
-/
import Derived.Test.YtjdgbdakkdljmaaDoorQG
set_option linter.unusedVariables false
set_option linter.unusedSimpArgs false
namespace Go.Sym
open Go Go.RowKit Go.Park Go.Proofs.YtjdgbdakkdljmaaDoor

section
variable {P : Program} {nt : Nat} {ops : Array Oper} {os : List Oper} {fs : List Fp} {E : List (Nat × AV)} {K : List Fp → St → Prop} {R : Foot} {x : AV} {Rg : List Nat}
/-- two rows turn, or are laid down -/
theorem rh2 {d : Nat} {op : Op} {ty : Nat} {pos : String} {aft : Array Edge} {gd : Option (Nat × Bool)} {r s n : Nat} {row row2 : Option Row} {l : List (Nat × Option Row)} (h : Does P nt ⟨some d, op, ty, pos, aft, gd⟩ R x [(r, row), (s, row2)] (mkS E ⟨n, l⟩)) (hw : Want ops ⟨some d, op, ty, pos, aft, gd⟩ E Rg) (k : RunsH P nt ops os (fs ++ [⟨Rg ++ R.e, R.r, [d], [r, s]⟩]) ((d, x) :: E) ⟨n + 2, (r, row) :: (s, row2) :: l⟩ K) : RunsH P nt ops (⟨some d, op, ty, pos, aft, gd⟩ :: os) fs E ⟨n, l⟩ K :=
  rh_of (n + 2) h hw k
theorem rh3 {d : Nat} {op : Op} {ty : Nat} {pos : String} {aft : Array Edge} {gd : Option (Nat × Bool)} {r s q n : Nat} {row row2 row3 : Option Row} {l : List (Nat × Option Row)} (h : Does P nt ⟨some d, op, ty, pos, aft, gd⟩ R x [(r, row), (s, row2), (q, row3)] (mkS E ⟨n, l⟩)) (hw : Want ops ⟨some d, op, ty, pos, aft, gd⟩ E Rg) (k : RunsH P nt ops os (fs ++ [⟨Rg ++ R.e, R.r, [d], [r, s, q]⟩]) ((d, x) :: E) ⟨n + 3, (r, row) :: (s, row2) :: (q, row3) :: l⟩ K) : RunsH P nt ops (⟨some d, op, ty, pos, aft, gd⟩ :: os) fs E ⟨n, l⟩ K :=
  rh_of (n + 3) h hw k
end
section
variable {P : Program} {T : List (Nat × TyI)} {nt : Nat} {E : List (Nat × AV)} {H : Hp} {dst : Option Nat} {ty : Nat} {pos : String} {aft : Array Edge} {gd : Option (Nat × Bool)} {f : Nat} {args : List Operand} {at' : Array TypeId} {ts : List AV} {u es : List Nat}
theorem nz {n : Nat} (h0 : Nat.beq n 0 = false) : 0 < n := Nat.pos_of_ne_zero fun h => by subst h; simp at h0
theorem st_call_hs {n : Nat} {l : List (Nat × Option Row)} {t sz t' sz' : Nat} {cs cs' : List AV} {a b : Value} (hd : dstOk nt dst = true) (hfn : FnS P f ts (.tup [.agg [.v a, .v b, .sl t sz cs], .sl t' sz' cs'])) (hfz : FrzA (mkS E ⟨n, l⟩) args ts u es) (hr : (mkS E ⟨n, l⟩).row n = none) (hr' : (mkS E ⟨n, l⟩).row (n + 1) = none) (h0 : Nat.beq n 0 = false) :
    Does P nt ⟨dst, .call ⟨.value (.func f), args.toArray, at'⟩, ty, pos, aft, gd⟩ ⟨es, u ++ [n, n + 1]⟩ (.tup [.agg [.v a, .v b, .own n 0], .own (n + 1) 0]) [(n + 1, some ⟨t', sz', 0, true, false, cs'⟩), (n, some ⟨t, sz, 0, true, false, cs⟩)] (mkS E ⟨n, l⟩) :=
  does_call n hd hfn hfz (nz h0) (ids := [n, n + 1]) (fun m h1 h2 => by simp [ado, adoL] at h2; simp; omega) (by simpa using ⟨hr, hr'⟩)
theorem st_call_hh {n : Nat} {l : List (Nat × Option Row)} {t sz t' sz' : Nat} {cs cs' : List AV} {a b a' b' : Value} (hd : dstOk nt dst = true) (hfn : FnS P f ts (.tup [.agg [.v a, .v b, .sl t sz cs], .agg [.v a', .v b', .sl t' sz' cs']])) (hfz : FrzA (mkS E ⟨n, l⟩) args ts u es) (hr : (mkS E ⟨n, l⟩).row n = none) (hr' : (mkS E ⟨n, l⟩).row (n + 1) = none) (h0 : Nat.beq n 0 = false) :
    Does P nt ⟨dst, .call ⟨.value (.func f), args.toArray, at'⟩, ty, pos, aft, gd⟩ ⟨es, u ++ [n, n + 1]⟩ (.tup [.agg [.v a, .v b, .own n 0], .agg [.v a', .v b', .own (n + 1) 0]]) [(n + 1, some ⟨t', sz', 0, true, false, cs'⟩), (n, some ⟨t, sz, 0, true, false, cs⟩)] (mkS E ⟨n, l⟩) :=
  does_call n hd hfn hfz (nz h0) (ids := [n, n + 1]) (fun m h1 h2 => by simp [ado, adoL] at h2; simp; omega) (by simpa using ⟨hr, hr'⟩)
theorem st_call_ha {n : Nat} {l : List (Nat × Option Row)} {t sz : Nat} {cs : List AV} {a b c d : Value} (hd : dstOk nt dst = true) (hfn : FnS P f ts (.tup [.agg [.v a, .v b, .sl t sz cs], .agg [.v c, .v d]])) (hfz : FrzA (mkS E ⟨n, l⟩) args ts u es) (hr : (mkS E ⟨n, l⟩).row n = none) (h0 : Nat.beq n 0 = false) :
    Does P nt ⟨dst, .call ⟨.value (.func f), args.toArray, at'⟩, ty, pos, aft, gd⟩ ⟨es, u ++ [n]⟩ (.tup [.agg [.v a, .v b, .own n 0], .agg [.v c, .v d]]) [(n, some ⟨t, sz, 0, true, false, cs⟩)] (mkS E ⟨n, l⟩) :=
  does_call n hd hfn hfz (nz h0) (ids := [n]) (fun m h1 h2 => by simp [ado, adoL] at h2; simp; omega) (by simpa using hr)
theorem st_call_hvvv {n : Nat} {l : List (Nat × Option Row)} {t sz : Nat} {cs : List AV} {a b c d e : Value} (hd : dstOk nt dst = true) (hfn : FnS P f ts (.tup [.agg [.v a, .v b, .sl t sz cs], .v c, .v d, .v e])) (hfz : FrzA (mkS E ⟨n, l⟩) args ts u es) (hr : (mkS E ⟨n, l⟩).row n = none) (h0 : Nat.beq n 0 = false) :
    Does P nt ⟨dst, .call ⟨.value (.func f), args.toArray, at'⟩, ty, pos, aft, gd⟩ ⟨es, u ++ [n]⟩ (.tup [.agg [.v a, .v b, .own n 0], .v c, .v d, .v e]) [(n, some ⟨t, sz, 0, true, false, cs⟩)] (mkS E ⟨n, l⟩) :=
  does_call n hd hfn hfz (nz h0) (ids := [n]) (fun m h1 h2 => by simp [ado, adoL] at h2; simp; omega) (by simpa using hr)

/-! the reader's methods -/
variable {rt t0 r k : Nat} {x0 : Value} {rc : List AV} {p p' : Int} {bx : Bool} {x : Operand} {row : Row}
theorem st_recv_v {n : Nat} {l : List (Nat × Option Row)} {c : Value} (hd : dstOk nt dst = true) (hfn : FnR P f rt x0 t0 rc p ts p' (.v c)) (hx : (mkS E ⟨n, l⟩).ev x = .ptr r k 0) (hr : (mkS E ⟨n, l⟩).row r = some row) (hw : row = ⟨rt, 2, k, true, bx, [.both x0 (.sl t0 1 rc), .int p]⟩) (hfz : FrzA (mkS E ⟨n, l⟩) args ts u es) (hru : (u.all fun s => !Nat.beq r s) = true) (h0 : Nat.beq n 0 = false) :
    Does P nt ⟨dst, .call ⟨.value (.func f), (x :: args).toArray, at'⟩, ty, pos, aft, gd⟩ ⟨fo x ++ es, r :: (u ++ [])⟩ (.v c) [(r, some ⟨rt, 2, k, true, bx, [.both x0 (.sl t0 1 rc), .int p']⟩)] (mkS E ⟨n, l⟩) := by
  subst hw
  exact does_recv n hd hfn hx hr hfz hru (nz h0) (ids := []) (fun m h1 h2 => by simp [ado] at h2; omega) (by simp)
theorem st_recv_h {n : Nat} {l : List (Nat × Option Row)} {t sz : Nat} {cs : List AV} {a b : Value} (hd : dstOk nt dst = true) (hfn : FnR P f rt x0 t0 rc p ts p' (.agg [.v a, .v b, .sl t sz cs])) (hx : (mkS E ⟨n, l⟩).ev x = .ptr r k 0) (hr : (mkS E ⟨n, l⟩).row r = some row) (hw : row = ⟨rt, 2, k, true, bx, [.both x0 (.sl t0 1 rc), .int p]⟩) (hfz : FrzA (mkS E ⟨n, l⟩) args ts u es) (hru : (u.all fun s => !Nat.beq r s) = true) (hn : (mkS E ⟨n, l⟩).row n = none) (h0 : Nat.beq n 0 = false) :
    Does P nt ⟨dst, .call ⟨.value (.func f), (x :: args).toArray, at'⟩, ty, pos, aft, gd⟩ ⟨fo x ++ es, r :: (u ++ [n])⟩ (.agg [.v a, .v b, .own n 0]) [(n, some ⟨t, sz, 0, true, false, cs⟩), (r, some ⟨rt, 2, k, true, bx, [.both x0 (.sl t0 1 rc), .int p']⟩)] (mkS E ⟨n, l⟩) := by
  subst hw
  exact does_recv n hd hfn hx hr hfz hru (nz h0) (ids := [n]) (fun m h1 h2 => by simp [ado, adoL] at h2; simp; omega) (by simpa using hn)
theorem st_recv_hv {n : Nat} {l : List (Nat × Option Row)} {t sz : Nat} {cs : List AV} {a b c : Value} (hd : dstOk nt dst = true) (hfn : FnR P f rt x0 t0 rc p ts p' (.tup [.agg [.v a, .v b, .sl t sz cs], .v c])) (hx : (mkS E ⟨n, l⟩).ev x = .ptr r k 0) (hr : (mkS E ⟨n, l⟩).row r = some row) (hw : row = ⟨rt, 2, k, true, bx, [.both x0 (.sl t0 1 rc), .int p]⟩) (hfz : FrzA (mkS E ⟨n, l⟩) args ts u es) (hru : (u.all fun s => !Nat.beq r s) = true) (hn : (mkS E ⟨n, l⟩).row n = none) (h0 : Nat.beq n 0 = false) :
    Does P nt ⟨dst, .call ⟨.value (.func f), (x :: args).toArray, at'⟩, ty, pos, aft, gd⟩ ⟨fo x ++ es, r :: (u ++ [n])⟩ (.tup [.agg [.v a, .v b, .own n 0], .v c]) [(n, some ⟨t, sz, 0, true, false, cs⟩), (r, some ⟨rt, 2, k, true, bx, [.both x0 (.sl t0 1 rc), .int p']⟩)] (mkS E ⟨n, l⟩) := by
  subst hw
  exact does_recv n hd hfn hx hr hfz hru (nz h0) (ids := [n]) (fun m h1 h2 => by simp [ado, adoL] at h2; simp; omega) (by simpa using hn)
theorem st_recv_hs {n : Nat} {l : List (Nat × Option Row)} {t sz t' sz' : Nat} {cs cs' : List AV} {a b : Value} (hd : dstOk nt dst = true) (hfn : FnR P f rt x0 t0 rc p ts p' (.tup [.agg [.v a, .v b, .sl t sz cs], .sl t' sz' cs'])) (hx : (mkS E ⟨n, l⟩).ev x = .ptr r k 0) (hr : (mkS E ⟨n, l⟩).row r = some row) (hw : row = ⟨rt, 2, k, true, bx, [.both x0 (.sl t0 1 rc), .int p]⟩) (hfz : FrzA (mkS E ⟨n, l⟩) args ts u es) (hru : (u.all fun s => !Nat.beq r s) = true) (hn : (mkS E ⟨n, l⟩).row n = none) (hn' : (mkS E ⟨n, l⟩).row (n + 1) = none) (h0 : Nat.beq n 0 = false) :
    Does P nt ⟨dst, .call ⟨.value (.func f), (x :: args).toArray, at'⟩, ty, pos, aft, gd⟩ ⟨fo x ++ es, r :: (u ++ [n, n + 1])⟩ (.tup [.agg [.v a, .v b, .own n 0], .own (n + 1) 0]) [(n + 1, some ⟨t', sz', 0, true, false, cs'⟩), (n, some ⟨t, sz, 0, true, false, cs⟩), (r, some ⟨rt, 2, k, true, bx, [.both x0 (.sl t0 1 rc), .int p']⟩)] (mkS E ⟨n, l⟩) := by
  subst hw
  exact does_recv n hd hfn hx hr hfz hru (nz h0) (ids := [n, n + 1]) (fun m h1 h2 => by simp [ado, adoL] at h2; simp; omega) (by simpa using ⟨hn, hn'⟩)
end

/-! literals of more than one, made slices -/
section
variable {P : Program} {T : List (Nat × TyI)} {nt : Nat} {E : List (Nat × AV)} {dst : Option Nat} {ty : Nat} {pos : String} {aft : Array Edge} {gd : Option (Nat × Bool)}
theorem st_make (hT : TabOk P T) {t e m n : Nat} {l : List (Nat × Option Row)} {p q : Operand} {i j : TyI} {zk : ZK} {L C : Int} (hd : dstOk nt dst = true) (hp : (mkS E ⟨n, l⟩).ev p = .int L) (hq : (mkS E ⟨n, l⟩).ev q = .int C) (hL : L = (m : Int)) (hC : C = (m : Int))
    (ht : lkT T t = some i) (hu : i.u = .slice e) (he : lkT T e = some j) (hz : j.zero = [zk]) (hs : j.size = 1) (hb : j.bytes * m ≤ 281474976710656) (hn : m ≤ maxLen) (hr : (mkS E ⟨n, l⟩).row n = none) (h0 : Nat.beq n 0 = false) :
    Does P nt ⟨dst, .makeSlice t p q, ty, pos, aft, gd⟩ ⟨fo p ++ fo q, [n]⟩ (.own n 0) [(n, some ⟨e, 1, 0, true, false, List.replicate m (.v zk.val)⟩)] (mkS E ⟨n, l⟩) :=
  does_make hT hd hp hq hL hC ht hu he hz hs hb hn hr (fun h => by subst h; simp at h0)
theorem st_make_i (hT : TabOk P T) {t e m n : Nat} {l : List (Nat × Option Row)} {p q : Operand} {i j : TyI} {L C : Int} (hd : dstOk nt dst = true) (hp : (mkS E ⟨n, l⟩).ev p = .int L) (hq : (mkS E ⟨n, l⟩).ev q = .int C) (hL : L = (m : Int)) (hC : C = (m : Int))
    (ht : lkT T t = some i) (hu : i.u = .slice e) (he : lkT T e = some j) (hz : j.zero = [.int .i64]) (hs : j.size = 1) (hb : j.bytes * m ≤ 281474976710656) (hn : m ≤ maxLen) (hr : (mkS E ⟨n, l⟩).row n = none) (h0 : Nat.beq n 0 = false) :
    Does P nt ⟨dst, .makeSlice t p q, ty, pos, aft, gd⟩ ⟨fo p ++ fo q, [n]⟩ (.own n 0) [(n, some ⟨e, 1, 0, true, false, ints (List.replicate m 0)⟩)] (mkS E ⟨n, l⟩) := by
  have := st_make (P := P) (nt := nt) (E := E) (dst := dst) (ty := ty) (pos := pos) (aft := aft) (gd := gd) hT hd hp hq hL hC ht hu he hz hs hb hn hr h0
  have e1 : List.replicate m (AV.v (ZK.int .i64).val) = ints (List.replicate m 0) := by simp [ints]; exact .inr rfl
  rw [e1] at this
  exact this
theorem fill_ints {n : Nat} (vs : List Value) (cells : Array Value) (hv : ∀ v, v ∈ vs → v.cells = #[v]) (hc : cells.size = vs.length) : Instr.fill (fun i => some (i * 1, 1)) cells (vs.zipIdx.map fun x => (x.2, x.1)) = some vs.toArray := by
  obtain ⟨r, h1, h2, h3⟩ := Great.fill_dense (s := 1) (by omega) vs 0 cells (fun v hv' => by rw [hv v hv']; rfl) (by omega)
  have e : r = vs.toArray := by
    apply Array.ext_getElem?
    intro k
    rw [h3 k]
    by_cases hk : k < vs.length
    · rw [if_pos (by omega)]
      simp [hk, hv vs[k] (List.getElem_mem hk), Nat.mod_one]
    · rw [if_neg (by omega), Array.getElem?_eq_none (by omega)]
      simp; omega
  rw [← e]
  simpa using h1
theorem evs_vals {σ τ : St} {R : Foot} {F : Fr} {φ : Nat → Value} {Z : Nat → Prop} {a : Act} {w : World} (hag : Agree R τ σ) (hS : SimAt F φ Z τ a w) : ∀ {ps : List Operand} {zs : List Int}, ps.map σ.ev = ints zs → (∀ t, t ∈ ps.flatMap fo → t ∈ R.e) → ps.map a.eval = zs.map (Value.int .i64)
  | [], zs, h, _ => by cases zs <;> simp [ints] at h; rfl
  | p :: ps, [], h, _ => by simp [ints] at h
  | p :: ps, z :: zs, h, hR => by
    simp only [ints, List.map_cons, List.cons.injEq] at h
    have h1 := ev_v hag hS (x := p) h.1 (fun t ht => hR t (by simp [ht]))
    simp only [List.map_cons, h1]
    rw [evs_vals hag hS (ps := ps) (zs := zs) h.2 (fun t ht => hR t (List.mem_flatMap.2 (by obtain ⟨q, hq, hq2⟩ := List.mem_flatMap.1 ht; exact ⟨q, by simp [hq], hq2⟩)))]
theorem does_lit {σ : St} (hT : TabOk P T) {t e n m : Nat} {ps : List Operand} {zs : List Int} {i j : TyI} {parts : Array (Nat × Operand)} (hd : dstOk nt dst = true) (hparts : parts = ((ps.zipIdx).map fun x => (x.2, x.1)).toArray) (hm : m = ps.length) (hp : ps.map σ.ev = ints zs)
    (ht : lkT T t = some i) (hu : i.u = .slice e) (he : lkT T e = some j) (hs : j.size = 1) (hl0 : 0 < zs.length) (hl : zs.length ≤ 1000) (hr : σ.row n = none) (h0 : n ≠ 0) :
    Does P nt ⟨dst, .buildSlice t m parts, ty, pos, aft, gd⟩ ⟨ps.flatMap fo, [n]⟩ (.own n 0) [(n, some ⟨e, 1, 0, true, false, ints zs⟩)] σ :=
  does_run hd fun τ hag F φ Z a w hF hS => by
    have hr' : τ.row n = none := by rw [hag.2 n (by simp)]; exact hr
    have hv := evs_vals hag hS hp (fun t ht => ht)
    have hlen : ps.length = zs.length := by have := congrArg List.length hp; simpa [ints_length] using this
    obtain ⟨inf, d, hk⟩ := hT.known ht
    obtain ⟨inf2, d2, hk2⟩ := hT.known he
    obtain ⟨z, hz, _⟩ := hk2.zero
    have hi : inf2.size = 1 := by rw [hk2.size, hs]
    have hone : ∀ u, u ∈ zs.map (Value.int .i64) → u.oneCell' = true := fun u hu => by obtain ⟨q, _, rfl⟩ := List.mem_map.1 hu; rfl
    have hrel : relL (cxOf φ Z τ w) (ints zs) (zs.map (Value.int .i64)) := by
      clear hp hv hlen hl0 hl hone
      induction zs with
      | nil => simp [ints, relL]
      | cons q zs ih => simp only [ints, List.map_cons, relL, relV]; exact ⟨_, _, rfl, rfl, ih⟩
    obtain ⟨φ', h4, h5, h6⟩ := alloc_row hS hr' h0 (t := e) (sz := 1) (n := zs.length) (pure := true) (box := false) hrel hone (by omega) (by rw [ints_length]; omega) (by unfold maxLen; omega) (fun _ => pure_ints zs)
    have hpm : parts.map (fun x => (x.1, a.eval x.2)) = (((zs.map (Value.int .i64)).zipIdx).map fun x => (x.2, x.1)).toArray := by
      rw [hparts, ← hv, List.zipIdx_map]
      simp [Function.comp_def]
    have hfill := fill_ints (n := 0) (zs.map (Value.int .i64)) ((Array.range (m * inf2.size)).map (z.cells[· % z.cells.size]!)) (fun v hv => by obtain ⟨q, _, rfl⟩ := List.mem_map.1 hv; rfl) (by simp [hi, hm, hlen])
    have hrun := run_buildSlice (P := P) w t e m (parts.map fun x => (x.1, a.eval x.2)) (zs.map (Value.int .i64)).toArray inf2 z (hk.slice hu) hk2.info hz (by rw [hi, hm, hlen]; omega) (by rw [hi, hm, hlen]; omega) (by rw [hpm, hi]; rw [hi] at hfill; exact hfill)
    refine ⟨.slice (some ⟨w.heap.size, 0, none⟩) m m, w.alloc (.cells (zs.map (Value.int .i64)).toArray e), φ', Z, by simp only [execOp]; rw [show (parts.map fun x => match x with | (i, x) => (i, a.eval x)) = parts.map (fun x => (x.1, a.eval x.2)) from rfl, Sem.run_bind, hrun]; simp, by simpa using h4, ?_⟩
    simp only [relV, cxOf, St.rowsUpd, overR]
    simp
    exact ⟨_, _, ⟨rfl, rfl⟩, fun _ => by rw [h5, hm, hlen]⟩
theorem st_lit2 (hT : TabOk P T) {t e n : Nat} {l : List (Nat × Option Row)} {p q : Operand} {i j : TyI} {x y : Int} (hd : dstOk nt dst = true) (hp : (mkS E ⟨n, l⟩).ev p = .int x) (hq : (mkS E ⟨n, l⟩).ev q = .int y) (ht : lkT T t = some i) (hu : i.u = .slice e) (he : lkT T e = some j) (hs : j.size = 1) (hr : (mkS E ⟨n, l⟩).row n = none) (h0 : Nat.beq n 0 = false) :
    Does P nt ⟨dst, .buildSlice t 2 #[(0, p), (1, q)], ty, pos, aft, gd⟩ ⟨fo p ++ (fo q ++ []), [n]⟩ (.own n 0) [(n, some ⟨e, 1, 0, true, false, ints [x, y]⟩)] (mkS E ⟨n, l⟩) :=
  does_lit hT hd (ps := [p, q]) rfl rfl (by simp [ints, hp, hq]) ht hu he hs (by simp) (by simp) hr (fun h => by subst h; simp at h0)
theorem st_lit4 (hT : TabOk P T) {t e n : Nat} {l : List (Nat × Option Row)} {p q p' q' : Operand} {i j : TyI} {x y x' y' : Int} (hd : dstOk nt dst = true) (hp : (mkS E ⟨n, l⟩).ev p = .int x) (hq : (mkS E ⟨n, l⟩).ev q = .int y) (hp' : (mkS E ⟨n, l⟩).ev p' = .int x') (hq' : (mkS E ⟨n, l⟩).ev q' = .int y') (ht : lkT T t = some i) (hu : i.u = .slice e) (he : lkT T e = some j) (hs : j.size = 1) (hr : (mkS E ⟨n, l⟩).row n = none) (h0 : Nat.beq n 0 = false) :
    Does P nt ⟨dst, .buildSlice t 4 #[(0, p), (1, q), (2, p'), (3, q')], ty, pos, aft, gd⟩ ⟨fo p ++ (fo q ++ (fo p' ++ (fo q' ++ []))), [n]⟩ (.own n 0) [(n, some ⟨e, 1, 0, true, false, ints [x, y, x', y']⟩)] (mkS E ⟨n, l⟩) :=
  does_lit hT hd (ps := [p, q, p', q']) rfl rfl (by simp [ints, hp, hq, hp', hq']) ht hu he hs (by simp) (by simp) hr (fun h => by subst h; simp at h0)
end

/-! parts of still memory; appending it -/
section
variable {P : Program} {T : List (Nat × TyI)} {nt : Nat} {E : List (Nat × AV)} {H : Hp} {dst : Option Nat} {ty : Nat} {pos : String} {aft : Array Edge} {gd : Option (Nat × Bool)}
theorem st_app_sl (hT : TabOk P T) {t e : Nat} {x y : Operand} {i j : TyI} {r k ty' sz' : Nat} {row : Row} {zs ys : List Int} (hd : dstOk nt dst = true) (hx : (mkS E H).ev x = .own r k) (hr : (mkS E H).row r = some row) (hc : row.cs = ints zs) (hv : row.ver = k) (hbx : row.box = false) (hp : row.pure = true) (h0 : Nat.beq r 0 = false)
    (hy : (mkS E H).ev y = .sl ty' sz' (ints ys)) (hs2 : sz' = 1)
    (ht : lkT T t = some i) (hu : i.u = .slice e) (he : lkT T e = some j) (hty : row.ty = e) (hsz : row.sz = 1) (hs : j.size = 1) (hzl : j.zero.length = 1) (hby : j.bytes = 8) (hb : zs.length + ys.length ≤ 4294967296) :
    Does P nt ⟨dst, .call ⟨.builtin .append, #[x, y], #[t, t]⟩, ty, pos, aft, gd⟩ ⟨fo x ++ fo y, [r]⟩ (.own r (k + 1)) [(r, some ⟨row.ty, 1, k + 1, true, false, ints (zs ++ ys)⟩)] (mkS E H) := by
  have hsrc := src_sl (R := ⟨fo x ++ fo y, [r]⟩) hy (by simp +contextual)
  rw [hs2] at hsrc
  have := does_append (P := P) (ty := ty) (pos := pos) (aft := aft) (gd := gd) hT hd hx hr hv hbx (fun h => by rw [h] at h0; simp at h0) ht hu he hty (by rw [hsz, hs]) (by rw [hzl, hs]) (by rw [hs]; exact hsrc) (by simp +contextual) (by simp) (by rw [hc, ints_length, ints_length, hby]; omega)
  rw [hc, ints_append, hp, hsz] at this; exact this
theorem relC_drop {cx : Cx} {b : Nat} : ∀ (k : Nat) (cs : List AV) (off : Nat), relC cx b off cs → relC cx b (off + k) (cs.drop k)
  | 0, cs, off, h => by simpa using h
  | k+1, [], off, h => by simp [relC]
  | k+1, x :: cs, off, h => by
    simp only [List.drop_succ_cons]
    simp only [relC] at h
    have := relC_drop k cs (off + 1) h.2
    rw [show off + (k + 1) = off + 1 + k by omega]; exact this
theorem relC_take' {cx : Cx} {b : Nat} : ∀ (k : Nat) (cs : List AV) (off : Nat), relC cx b off cs → relC cx b off (cs.take k)
  | 0, cs, off, h => by simp [relC]
  | k+1, [], off, h => by simp [relC]
  | k+1, x :: cs, off, h => by
    simp only [List.take_succ_cons, relC] at h ⊢
    exact ⟨h.1, relC_take' k cs (off + 1) h.2⟩
theorem does_from (hT : TabOk P T) {σ : St} {t e : Nat} {x y : Operand} {i j : TyI} {ty' : Nat} {cs : List AV} {z : Int} (hd : dstOk nt dst = true) (hx : σ.ev x = .sl ty' 1 cs) (hy : σ.ev y = .int z) (ht : lkT T t = some i) (hu : i.u = .slice e) (he : lkT T e = some j) (hs : j.size = 1) (hz : 0 ≤ z ∧ z.toNat ≤ cs.length) :
    Does P nt ⟨dst, .slice t x (some y) none none, ty, pos, aft, gd⟩ ⟨fo x ++ fo y, []⟩ (.sl ty' 1 (cs.drop z.toNat)) [] σ :=
  does_pure hd fun τ hag F φ Z a w hF hS => by
    have e2 := ev_v hag hS hy (by simp +contextual)
    have h2 := ev_rel hag hS hx (by simp +contextual)
    simp only [relV] at h2
    obtain ⟨hp, ao, n, c, e1, h3, h4, h5, h6, h7⟩ := h2
    obtain ⟨inf, d, hk⟩ := hT.known ht
    obtain ⟨inf2, d2, hk2⟩ := hT.known he
    obtain ⟨k, rfl⟩ := Int.eq_ofNat_of_zero_le hz.1
    have hkn : k ≤ n := by simp at hz; omega
    have hkn' : (k : Int) ≤ (n : Int) := by omega
    refine ⟨.slice (if c = k then ao else ao.map (·.add k)) (n - k) (c - k), ?_, ?_⟩
    · simp [execOp, e1, e2, Instr.sliceAt, Instr.slice, Instr.sliceBounds, Instr.sliceBound, asIntOf, run_underlying (hk.slice hu), run_sizeOf_known hk2.info, hk2.size, hs, hkn']
      intro hh; omega
    · simp only [relV]
      refine ⟨pureL_of fun x hx => pureL_mem hp x (List.mem_of_mem_drop hx), _, _, _, rfl, by omega, by omega, by omega, by simp; omega, ?_⟩
      by_cases hcn : n = k
      · left; apply List.drop_eq_nil_of_le; simp; omega
      · right
        rcases h7 with h7 | ⟨b, off, rfl, hb, hcc⟩
        · rw [h7] at h6; simp at h6; omega
        · refine ⟨b, off + k, ?_, hb, by simpa using relC_drop k _ _ hcc⟩
          rw [if_neg (by omega)]
          simp [Addr.add]
theorem does_upto (hT : TabOk P T) {σ : St} {t e sz : Nat} {x y : Operand} {i j : TyI} {ty' : Nat} {cs : List AV} {z : Int} (hd : dstOk nt dst = true) (hx : σ.ev x = .sl ty' sz cs) (hy : σ.ev y = .int z) (ht : lkT T t = some i) (hu : i.u = .slice e) (he : lkT T e = some j) (hs : j.size = sz) (hz : 0 ≤ z ∧ z.toNat * sz ≤ cs.length) :
    Does P nt ⟨dst, .slice t x none (some y) none, ty, pos, aft, gd⟩ ⟨fo x ++ fo y, []⟩ (.sl ty' sz (cs.take (z.toNat * sz))) [] σ :=
  does_pure hd fun τ hag F φ Z a w hF hS => by
    have e2 := ev_v hag hS hy (by simp +contextual)
    have h2 := ev_rel hag hS hx (by simp +contextual)
    simp only [relV] at h2
    obtain ⟨hp, ao, n, c, e1, h3, h4, h5, h6, h7⟩ := h2
    obtain ⟨inf, d, hk⟩ := hT.known ht
    obtain ⟨inf2, d2, hk2⟩ := hT.known he
    obtain ⟨k, rfl⟩ := Int.eq_ofNat_of_zero_le hz.1
    have hkn : k ≤ n := by
      have h8 : k * sz ≤ n * sz := by simp at hz; omega
      exact Nat.le_of_mul_le_mul_right h8 h5
    have hkn' : (k : Int) ≤ (c : Int) := by omega
    refine ⟨.slice ao k c, ?_, ?_⟩
    · by_cases hc0 : c = 0
      · have : k = 0 := by omega
        subst this hc0
        simp [execOp, e1, e2, Instr.sliceAt, Instr.slice, Instr.sliceBounds, Instr.sliceBound, asIntOf, run_underlying (hk.slice hu), run_sizeOf_known hk2.info]
      · have hadd : ao.map (·.add 0) = ao := by cases ao <;> simp [Addr.add]
        simp [execOp, e1, e2, Instr.sliceAt, Instr.slice, Instr.sliceBounds, Instr.sliceBound, asIntOf, run_underlying (hk.slice hu), run_sizeOf_known hk2.info, hkn', hc0, hadd]
        intro hh; omega
    · simp only [relV]
      have hks : k * sz ≤ cs.length := by simpa using hz.2
      refine ⟨pureL_of fun x hx => pureL_mem hp x (List.mem_of_mem_take hx), _, _, _, rfl, by omega, h4, h5, by rw [List.length_take]; simp; omega, ?_⟩
      rcases h7 with h7 | ⟨b, off, rfl, hb, hcc⟩
      · left; rw [h7]; simp
      · exact .inr ⟨b, off, rfl, hb, relC_take' _ _ _ hcc⟩
theorem st_from (hT : TabOk P T) {t e : Nat} {x y : Operand} {i j : TyI} {ty' sz o : Nat} {zs : List Int} {z : Int} (hd : dstOk nt dst = true) (hx : (mkS E H).ev x = .sl ty' sz (ints zs)) (hsz : sz = 1) (hy : (mkS E H).ev y = .int z) (ht : lkT T t = some i) (hu : i.u = .slice e) (he : lkT T e = some j) (hs : j.size = 1) (ho : z.toNat = o) (hz : 0 ≤ z ∧ o ≤ zs.length) :
    Does P nt ⟨dst, .slice t x (some y) none none, ty, pos, aft, gd⟩ ⟨fo x ++ fo y, []⟩ (.sl ty' 1 (ints (zs.drop o))) [] (mkS E H) := by
  subst hsz ho
  have := does_from (P := P) (nt := nt) (dst := dst) (ty := ty) (pos := pos) (aft := aft) (gd := gd) hT hd hx hy ht hu he hs (by rw [ints_length]; exact hz)
  rw [ints_drop] at this
  exact this
theorem st_upto (hT : TabOk P T) {t e : Nat} {x y : Operand} {i j : TyI} {ty' sz o : Nat} {zs : List Int} {z : Int} (hd : dstOk nt dst = true) (hx : (mkS E H).ev x = .sl ty' sz (ints zs)) (hsz : sz = 1) (hy : (mkS E H).ev y = .int z) (ht : lkT T t = some i) (hu : i.u = .slice e) (he : lkT T e = some j) (hs : j.size = 1) (ho : z.toNat = o) (hz : 0 ≤ z ∧ o ≤ zs.length) :
    Does P nt ⟨dst, .slice t x none (some y) none, ty, pos, aft, gd⟩ ⟨fo x ++ fo y, []⟩ (.sl ty' 1 (ints (zs.take o))) [] (mkS E H) := by
  subst hsz ho
  have := does_upto (P := P) (nt := nt) (dst := dst) (ty := ty) (pos := pos) (aft := aft) (gd := gd) hT hd hx hy ht hu he hs (by rw [ints_length]; omega)
  rw [Nat.mul_one, ints_take] at this
  exact this
end

/-! functions of which one knows that a result is there -/
structure ExOk {ι : Type} (T : List (Nat × TyI)) (rs : List ResultVar) (Good : ι → Prop) (res : ι → AV) (e : Exit) (σ : St) : Prop where
  out : ∃ i, Good i ∧ ResOk T rs (res i) e σ
structure ExOkR {ι : Type} (T : List (Nat × TyI)) (rs : List ResultVar) (ty : Nat) (x0 : Value) (t0 : Nat) (cs : List AV) (Good : ι → Prop) (pos : ι → Int) (res : ι → AV) (e : Exit) (σ : St) : Prop where
  out : ∃ i, Good i ∧ ResOkR T rs (rdRow ty x0 t0 cs (pos i)) (res i) e σ
section
variable {P : Program} {T : List (Nat × TyI)} {f nt : Nat} {fn : Func} {c : Code} {rs : List ResultVar} {ι : Type} {Good : ι → Prop} {res : ι → AV} {pos : ι → Int} {ty t0 : Nat} {x0 : Value} {cs : List AV} {p : Int}
theorem fnx_of {ts : List AV} (hT : TabOk P T) (hf : P.funcs[f]? = some fn) (hb : fn.body = some c) (hnm : (fn.name == "runtime.NumGoroutine") = false) (hnt : fn.ntmps = nt) (hrs : fn.results = rs.toArray) (hl : ts.length ≤ nt) (h : AX P nt c (mkSt (entE 0 ts) []) (ExOk T rs Good res)) : ∃ i, Good i ∧ FnS P f ts (res i) := by
  obtain ⟨e, σ', ⟨i, hG, hR⟩, hend⟩ := h
  exact ⟨i, hG, fn_of_ax hT hf hb hnm hnt hrs hl ⟨e, σ', hR, hend⟩⟩
theorem nothing : True := trivial
theorem fnx_go1 (hT : TabOk P T) {a0 : AV} (hf : P.funcs[f]? = some fn) (hb : fn.body = some c) (hnm : (fn.name == "runtime.NumGoroutine") = false) (hnt : fn.ntmps = nt) (hrs : fn.results = rs.toArray) (hl : 1 ≤ nt) (h : AX P nt c (mkS [(0, a0)] ⟨1, []⟩) (ExOk T rs Good res)) : ∃ i, Good i ∧ FnS P f [a0] (res i) :=
  fnx_of hT hf hb hnm hnt hrs (by simpa using hl) h
theorem fnr_of {ts : List AV} (hT : TabOk P T) (hf : P.funcs[f]? = some fn) (hb : fn.body = some c) (hnm : (fn.name == "runtime.NumGoroutine") = false) (hnt : fn.ntmps = nt) (hrs : fn.results = rs.toArray) (hl : ts.length + 1 ≤ nt) (h : AX P nt c (mkSt (entE 0 (.ptr 0 0 0 :: ts)) [(0, some (rdRow ty x0 t0 cs p))]) (ExOkR T rs ty x0 t0 cs Good pos res)) : ∃ i, Good i ∧ FnR P f ty x0 t0 cs p ts (pos i) (res i) := by
  obtain ⟨e, σ', ⟨i, hG, hR⟩, hend⟩ := h
  exact ⟨i, hG, fnr_of_ax hT hf hb hnm hnt hrs hl ⟨e, σ', hR, hend⟩⟩
theorem fnr_go2 (hT : TabOk P T) {a1 : AV} (hf : P.funcs[f]? = some fn) (hb : fn.body = some c) (hnm : (fn.name == "runtime.NumGoroutine") = false) (hnt : fn.ntmps = nt) (hrs : fn.results = rs.toArray) (hl : 2 ≤ nt) (h : AX P nt c (mkS [(0, .ptr 0 0 0), (1, a1)] ⟨1, [(0, some ⟨ty, 2, 0, true, true, [.both x0 (.sl t0 1 cs), .int p]⟩)]⟩) (ExOkR T rs ty x0 t0 cs Good pos res)) : ∃ i, Good i ∧ FnR P f ty x0 t0 cs p [a1] (pos i) (res i) :=
  fnr_of hT hf hb hnm hnt hrs (by simpa using hl) h
end
end Go.Sym
