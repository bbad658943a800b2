/-
  Texts: what the draws of texts need: a row of six texts, a text held against the empty one.
-/
import Derived.Test.YtnfjmcenjpoloaaDoorTV
import Derived.Test.YtnfjmcenjpoloaaDoorP8
set_option linter.unusedVariables false
set_option linter.unusedSimpArgs false
set_option maxRecDepth 100000
namespace Go.Sym
open Go Go.RowKit Go.Park Go.Proofs.YtnfjmcenjpoloaaDoor
section
variable {P : Program} {T : List (Nat × TyI)} {nt : Nat} {dst : Option Nat} {ty : Nat} {pos : String} {aft : Array Edge} {gd : Option (Nat × Bool)} {E : List (Nat × AV)} {H : Hp}
theorem st_teq0 {t t' : Nat} {x y : Operand} {a : ByteArray} (hd : dstOk nt dst = true) (hx : (mkS E H).ev x = .v (.string a)) (hy : (mkS E H).ev y = .v (.string a)) :
    Does P nt ⟨dst, .binOp .eql t x y t', ty, pos, aft, gd⟩ ⟨fo x ++ fo y, []⟩ (.bool true) [] (mkS E H) := by
  have := st_seql (P := P) (nt := nt) (dst := dst) (ty := ty) (pos := pos) (aft := aft) (gd := gd) (t := t) (t' := t') hd hx hy
  rw [decide_eq_true rfl] at this
  exact this
theorem st_teq1 {t t' : Nat} {x y : Operand} {a b : ByteArray} (hne : a ≠ b) (hd : dstOk nt dst = true) (hx : (mkS E H).ev x = .v (.string a)) (hy : (mkS E H).ev y = .v (.string b)) :
    Does P nt ⟨dst, .binOp .eql t x y t', ty, pos, aft, gd⟩ ⟨fo x ++ fo y, []⟩ (.bool false) [] (mkS E H) := by
  have := st_seql (P := P) (nt := nt) (dst := dst) (ty := ty) (pos := pos) (aft := aft) (gd := gd) (t := t) (t' := t') hd hx hy
  rw [decide_eq_false hne] at this
  exact this
theorem evs_txts {σ τ : St} {R : Foot} {F : Fr} {φ : Nat → Value} {Z : Nat → Prop} {a : Act} {w : World} (hag : Agree R τ σ) (hS : SimAt F φ Z τ a w) : ∀ {ps : List Operand} {zs : List (List UInt8)}, ps.map σ.ev = txts zs → (∀ t, t ∈ ps.flatMap fo → t ∈ R.e) → ps.map a.eval = zs.map (fun z => Value.string ⟨z.toArray⟩)
  | [], zs, h, _ => by cases zs <;> simp [txts] at h; rfl
  | p :: ps, [], h, _ => by simp [txts] at h
  | p :: ps, z :: zs, h, hR => by
    simp only [txts, List.map_cons, List.cons.injEq] at h
    have h1 := ev_v hag hS (x := p) h.1 (fun t ht => hR t (by simp [ht]))
    simp only [List.map_cons, h1]
    rw [evs_txts hag hS (ps := ps) (zs := zs) h.2 (fun t ht => hR t (List.mem_flatMap.2 (by obtain ⟨q, hq, hq2⟩ := List.mem_flatMap.1 ht; exact ⟨q, by simp [hq], hq2⟩)))]
theorem does_lit_t {σ : St} (hT : TabOk P T) {t e n m : Nat} {ps : List Operand} {zs : List (List UInt8)} {i j : TyI} {parts : Array (Nat × Operand)} (hd : dstOk nt dst = true) (hparts : parts = ((ps.zipIdx).map fun x => (x.2, x.1)).toArray) (hm : m = ps.length) (hp : ps.map σ.ev = txts zs)
    (ht : lkT T t = some i) (hu : i.u = .slice e) (he : lkT T e = some j) (hs : j.size = 1) (hl0 : 0 < zs.length) (hl : zs.length ≤ 1000) (hr : σ.row n = none) (h0 : n ≠ 0) :
    Does P nt ⟨dst, .buildSlice t m parts, ty, pos, aft, gd⟩ ⟨ps.flatMap fo, [n]⟩ (.own n 0) [(n, some ⟨e, 1, 0, true, false, txts zs⟩)] σ :=
  does_run hd fun τ hag F φ Z a w hF hS => by
    have hr' : τ.row n = none := by rw [hag.2 n (by simp)]; exact hr
    have hv := evs_txts hag hS hp (fun t ht => ht)
    have hlen : ps.length = zs.length := by have := congrArg List.length hp; simpa [txts_length] using this
    obtain ⟨inf, d, hk⟩ := hT.known ht
    obtain ⟨inf2, d2, hk2⟩ := hT.known he
    obtain ⟨z, hz, _⟩ := hk2.zero
    have hi : inf2.size = 1 := by rw [hk2.size, hs]
    have hone : ∀ u, u ∈ zs.map (fun z => Value.string ⟨z.toArray⟩) → u.oneCell' = true := fun u hu => by obtain ⟨q, _, rfl⟩ := List.mem_map.1 hu; rfl
    have hrel : relL (cxOf φ Z τ w) (txts zs) (zs.map (fun z => Value.string ⟨z.toArray⟩)) := by
      clear hp hv hlen hl0 hl hone
      induction zs with
      | nil => simp [txts, relL]
      | cons q zs ih => simp only [txts, List.map_cons, relL, relV]; exact ⟨_, _, rfl, rfl, ih⟩
    obtain ⟨φ', h4, h5, h6⟩ := alloc_row hS hr' h0 (t := e) (sz := 1) (n := zs.length) (pure := true) (box := false) hrel hone (by omega) (by rw [txts_length]; omega) (by unfold maxLen; omega) (fun _ => pure_txts zs)
    have hpm : parts.map (fun x => (x.1, a.eval x.2)) = (((zs.map (fun z => Value.string ⟨z.toArray⟩)).zipIdx).map fun x => (x.2, x.1)).toArray := by
      rw [hparts, ← hv, List.zipIdx_map]
      simp [Function.comp_def]
    have hfill := fill_ints (n := 0) (zs.map (fun z => Value.string ⟨z.toArray⟩)) ((Array.range (m * inf2.size)).map (z.cells[· % z.cells.size]!)) (fun v hv => by obtain ⟨q, _, rfl⟩ := List.mem_map.1 hv; rfl) (by simp [hi, hm, hlen])
    have hrun := run_buildSlice (P := P) w t e m (parts.map fun x => (x.1, a.eval x.2)) (zs.map (fun z => Value.string ⟨z.toArray⟩)).toArray inf2 z (hk.slice hu) hk2.info hz (by rw [hi, hm, hlen]; omega) (by rw [hi, hm, hlen]; omega) (by rw [hpm, hi]; rw [hi] at hfill; exact hfill)
    refine ⟨.slice (some ⟨w.heap.size, 0, none⟩) m m, w.alloc (.cells (zs.map (fun z => Value.string ⟨z.toArray⟩)).toArray e), φ', Z, by simp only [execOp]; rw [show (parts.map fun x => match x with | (i, x) => (i, a.eval x)) = parts.map (fun x => (x.1, a.eval x.2)) from rfl, Sem.run_bind, hrun]; simp, by simpa using h4, ?_⟩
    simp only [relV, cxOf, St.rowsUpd, overR]
    simp
    exact ⟨_, _, ⟨rfl, rfl⟩, fun _ => by rw [h5, hm, hlen]⟩
theorem st_lit6_t (hT : TabOk P T) {t e n : Nat} {l : List (Nat × Option Row)} {a b c d f g : List UInt8} {p0 p1 p2 p3 p4 p5 : Operand} {i j : TyI} (hd : dstOk nt dst = true) (h0' : (mkS E ⟨n, l⟩).ev p0 = .txt a) (h1 : (mkS E ⟨n, l⟩).ev p1 = .txt b) (h2 : (mkS E ⟨n, l⟩).ev p2 = .txt c) (h3 : (mkS E ⟨n, l⟩).ev p3 = .txt d) (h4 : (mkS E ⟨n, l⟩).ev p4 = .txt f) (h5 : (mkS E ⟨n, l⟩).ev p5 = .txt g) (ht : lkT T t = some i) (hu : i.u = .slice e) (he : lkT T e = some j) (hs : j.size = 1) (hr : (mkS E ⟨n, l⟩).row n = none) (h0 : Nat.beq n 0 = false) :
    Does P nt ⟨dst, .buildSlice t 6 #[(0, p0), (1, p1), (2, p2), (3, p3), (4, p4), (5, p5)], ty, pos, aft, gd⟩ ⟨fo p0 ++ (fo p1 ++ (fo p2 ++ (fo p3 ++ (fo p4 ++ (fo p5 ++ []))))), [n]⟩ (.own n 0) [(n, some ⟨e, 1, 0, true, false, txts [a, b, c, d, f, g]⟩)] (mkS E ⟨n, l⟩) :=
  does_lit_t hT hd (ps := [p0, p1, p2, p3, p4, p5]) rfl rfl (by simp [txts, h0', h1, h2, h3, h4, h5]) ht hu he hs (by simp) (by simp) hr (fun h => by subst h; simp at h0)
end
end Go.Sym
