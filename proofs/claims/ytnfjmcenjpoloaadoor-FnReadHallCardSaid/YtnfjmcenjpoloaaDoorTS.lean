/-
  Steps on texts: bytes of a text, parts of it, rows of texts, one text behind another.
-/
import Derived.Test.YtnfjmcenjpoloaaDoorP6
import Derived.Test.YtnfjmcenjpoloaaDoorTP
import Derived.Laws.BytesString
set_option linter.unusedVariables false
set_option linter.unusedSimpArgs false
namespace Go.Sym
open Go Go.RowKit Go.Park Go.Proofs.YtnfjmcenjpoloaaDoor

abbrev AV.txt (l : List UInt8) : AV := .v (.string ⟨l.toArray⟩)
def txts (ls : List (List UInt8)) : List AV := ls.map AV.txt
def gt (ls : List (List UInt8)) (j : Nat) : List UInt8 := ls.getD j []
theorem gt_is {ls : List (List UInt8)} {j : Nat} (h : j < ls.length) : gt ls j = ls[j] := by simp [gt, List.getD_eq_getElem?_getD, List.getElem?_eq_getElem h]
theorem txts_length (ls : List (List UInt8)) : (txts ls).length = ls.length := by simp [txts]
theorem rd_txts {ls : List (List UInt8)} {j : Nat} (h : j < ls.length) : rd (txts ls) j = .txt (gt ls j) := by simp [rd, txts, gt, List.getD, h]
theorem txts_append (a b : List (List UInt8)) : txts a ++ txts b = txts (a ++ b) := by simp [txts]
theorem scal_txts (ls : List (List UInt8)) : scalL (txts ls) := fun x hx => by
  obtain ⟨z, _, rfl⟩ := List.mem_map.1 hx
  exact ⟨_, rfl⟩
theorem pure_txts (ls : List (List UInt8)) : pureL (txts ls) := pureL_scal (scal_txts ls)
theorem mk_append (a b : List UInt8) : (⟨a.toArray⟩ : ByteArray) ++ ⟨b.toArray⟩ = ⟨(a ++ b).toArray⟩ := by
  apply ByteArray.ext
  rw [ByteArray.data_append]
  simp
theorem mk_extract (l : List UInt8) (a b : Nat) : (⟨l.toArray⟩ : ByteArray).extract a b = ⟨((l.drop a).take (b - a)).toArray⟩ := by
  apply ByteArray.ext
  apply Array.ext'
  rw [Lib.extract_data]
theorem mk_inj {a b : List UInt8} : (⟨a.toArray⟩ : ByteArray) = ⟨b.toArray⟩ ↔ a = b := ⟨fun h => by
  have := congrArg (fun x : ByteArray => x.data.toList) h
  simpa using this, fun h => by rw [h]⟩
theorem mk_size (l : List UInt8) : (⟨l.toArray⟩ : ByteArray).size = l.length := by simp [ByteArray.size]
theorem mk_get (l : List UInt8) (j : Nat) (h : j < l.length) : (⟨l.toArray⟩ : ByteArray)[j]? = some l[j] := by
  rw [getElem?_pos (⟨l.toArray⟩ : ByteArray) j (by rw [mk_size]; exact h)]
  rfl
section
variable {P : Program} {T : List (Nat × TyI)} {nt : Nat} {dst : Option Nat} {ty : Nat} {pos : String} {aft : Array Edge} {gd : Option (Nat × Bool)} {E : List (Nat × AV)} {H : Hp}
theorem st_sidx (hT : TabOk P T) {t o : Nat} {x y : Operand} {i : TyI} {l : List UInt8} {z : Int} (hd : dstOk nt dst = true) (hx : (mkS E H).ev x = .txt l) (hy : (mkS E H).ev y = .int z) (ht : lkT T t = some i) (hu : i.u = .str) (ho : z.toNat = o) (h0 : 0 ≤ z ∧ o < l.length) :
    Does P nt ⟨dst, .index t x y, ty, pos, aft, gd⟩ ⟨fo x ++ fo y, []⟩ (.v (.int .u8 (gu l o))) [] (mkS E H) :=
  does_pure hd fun τ hag F φ Z a w hF hS => by
    obtain ⟨inf, d, hk⟩ := hT.known ht
    subst ho
    exact ⟨.int .u8 (gu l z.toNat), by simp [execOp, Instr.index, asIntOf, run_underlying (hk.str hu), ev_v hag hS hx (by simp +contextual), ev_v hag hS hy (by simp +contextual), h0.1, mk_get l _ h0.2, gu_is h0.2], by simp [relV]⟩
theorem st_sfrom (hT : TabOk P T) {t o : Nat} {x y : Operand} {i : TyI} {l : List UInt8} {z : Int} (hd : dstOk nt dst = true) (hx : (mkS E H).ev x = .txt l) (hy : (mkS E H).ev y = .int z) (ht : lkT T t = some i) (hu : i.u = .str) (ho : z.toNat = o) (h0 : 0 ≤ z ∧ o ≤ l.length) :
    Does P nt ⟨dst, .slice t x (some y) none none, ty, pos, aft, gd⟩ ⟨fo x ++ fo y, []⟩ (.txt (l.drop o)) [] (mkS E H) :=
  does_pure hd fun τ hag F φ Z a w hF hS => by
    obtain ⟨inf, d, hk⟩ := hT.known ht
    subst ho
    have hle : z ≤ (l.length : Int) := by omega
    have he : (⟨l.toArray⟩ : ByteArray).extract z.toNat l.length = ⟨(l.drop z.toNat).toArray⟩ := by
      rw [mk_extract, List.take_of_length_le (by simp)]
    exact ⟨.string ⟨(l.drop z.toNat).toArray⟩, by simp [execOp, Instr.sliceAt, Instr.slice, Instr.sliceBounds, Instr.sliceBound, asIntOf, run_underlying (hk.str hu), ev_v hag hS hx (by simp +contextual), ev_v hag hS hy (by simp +contextual), h0.1, mk_size, hle, he], by simp [relV]⟩
theorem st_supto (hT : TabOk P T) {t o : Nat} {x y : Operand} {i : TyI} {l : List UInt8} {z : Int} (hd : dstOk nt dst = true) (hx : (mkS E H).ev x = .txt l) (hy : (mkS E H).ev y = .int z) (ht : lkT T t = some i) (hu : i.u = .str) (ho : z.toNat = o) (h0 : 0 ≤ z ∧ o ≤ l.length) :
    Does P nt ⟨dst, .slice t x none (some y) none, ty, pos, aft, gd⟩ ⟨fo x ++ fo y, []⟩ (.txt (l.take o)) [] (mkS E H) :=
  does_pure hd fun τ hag F φ Z a w hF hS => by
    obtain ⟨inf, d, hk⟩ := hT.known ht
    subst ho
    have hle : z ≤ (l.length : Int) := by omega
    have he : (⟨l.toArray⟩ : ByteArray).extract 0 z.toNat = ⟨(l.take z.toNat).toArray⟩ := by rw [mk_extract]; simp
    exact ⟨.string ⟨(l.take z.toNat).toArray⟩, by simp [execOp, Instr.sliceAt, Instr.slice, Instr.sliceBounds, Instr.sliceBound, asIntOf, run_underlying (hk.str hu), ev_v hag hS hx (by simp +contextual), ev_v hag hS hy (by simp +contextual), h0.1, mk_size, hle, he], by simp [relV]⟩
theorem st_spart (hT : TabOk P T) {t o o' : Nat} {x y y' : Operand} {i : TyI} {l : List UInt8} {z z' : Int} (hd : dstOk nt dst = true) (hx : (mkS E H).ev x = .txt l) (hy : (mkS E H).ev y = .int z) (hy' : (mkS E H).ev y' = .int z') (ht : lkT T t = some i) (hu : i.u = .str) (ho : z.toNat = o) (ho' : z'.toNat = o') (h0 : 0 ≤ z ∧ z ≤ z' ∧ o' ≤ l.length) :
    Does P nt ⟨dst, .slice t x (some y) (some y') none, ty, pos, aft, gd⟩ ⟨fo x ++ (fo y ++ fo y'), []⟩ (.txt ((l.drop o).take (o' - o))) [] (mkS E H) :=
  does_pure hd fun τ hag F φ Z a w hF hS => by
    obtain ⟨inf, d, hk⟩ := hT.known ht
    subst ho ho'
    have hle : z' ≤ (l.length : Int) := by omega
    have h1 : 0 ≤ z' := by omega
    have h2 : z ≤ ((z'.toNat : Nat) : Int) := by omega
    have h3 : z ≤ max z' 0 := by omega
    exact ⟨.string ⟨((l.drop z.toNat).take (z'.toNat - z.toNat)).toArray⟩, by simp [execOp, Instr.sliceAt, Instr.slice, Instr.sliceBounds, Instr.sliceBound, asIntOf, run_underlying (hk.str hu), ev_v hag hS hx (by simp +contextual), ev_v hag hS hy (by simp +contextual), ev_v hag hS hy' (by simp +contextual), h0.1, h0.2.1, h1, h2, h3, mk_size, hle, mk_extract], by simp [relV]⟩
theorem st_stadd {t t' : Nat} {x y : Operand} {a b : List UInt8} (hd : dstOk nt dst = true) (hx : (mkS E H).ev x = .txt a) (hy : (mkS E H).ev y = .txt b) (hs : a.length + b.length ≤ 4294967296) :
    Does P nt ⟨dst, .binOp .add t x y t', ty, pos, aft, gd⟩ ⟨fo x ++ fo y, []⟩ (.txt (a ++ b)) [] (mkS E H) := by
  have := st_sadd (P := P) (nt := nt) (dst := dst) (ty := ty) (pos := pos) (aft := aft) (gd := gd) (t := t) (t' := t') hd hx hy (by rw [mk_size, mk_size]; omega)
  rw [mk_append] at this
  exact this
theorem st_steql {t t' : Nat} {x y : Operand} {a b : List UInt8} (hd : dstOk nt dst = true) (hx : (mkS E H).ev x = .txt a) (hy : (mkS E H).ev y = .txt b) :
    Does P nt ⟨dst, .binOp .eql t x y t', ty, pos, aft, gd⟩ ⟨fo x ++ fo y, []⟩ (.bool (decide (a = b))) [] (mkS E H) := by
  have := st_seql (P := P) (nt := nt) (dst := dst) (ty := ty) (pos := pos) (aft := aft) (gd := gd) (t := t) (t' := t') hd hx hy
  rw [show decide ((⟨a.toArray⟩ : ByteArray) = ⟨b.toArray⟩) = decide (a = b) from decide_eq_decide.2 mk_inj] at this
  exact this
theorem st_stneq {t t' : Nat} {x y : Operand} {a b : List UInt8} (hd : dstOk nt dst = true) (hx : (mkS E H).ev x = .txt a) (hy : (mkS E H).ev y = .txt b) :
    Does P nt ⟨dst, .binOp .neq t x y t', ty, pos, aft, gd⟩ ⟨fo x ++ fo y, []⟩ (.bool (decide (a ≠ b))) [] (mkS E H) := by
  have := st_sneq (P := P) (nt := nt) (dst := dst) (ty := ty) (pos := pos) (aft := aft) (gd := gd) (t := t) (t' := t') hd hx hy
  rw [show decide ((⟨a.toArray⟩ : ByteArray) ≠ ⟨b.toArray⟩) = decide (a ≠ b) from decide_eq_decide.2 (not_congr mk_inj)] at this
  exact this
theorem st_slen (hT : TabOk P T) {t : Nat} {x : Operand} {i : TyI} {l : List UInt8} (hd : dstOk nt dst = true) (hx : (mkS E H).ev x = .txt l) (ht : lkT T t = some i) (hu : i.u = .str) :
    Does P nt ⟨dst, .call ⟨.builtin .len, #[x], #[t]⟩, ty, pos, aft, gd⟩ ⟨fo x, []⟩ (.int (l.length : Int)) [] (mkS E H) := by
  have := does_len_str (P := P) (nt := nt) (dst := dst) (ty := ty) (pos := pos) (aft := aft) (gd := gd) hT hd hx ht hu
  rw [mk_size] at this
  exact this
theorem st_u8sub {t t' : Nat} {x y : Operand} {i j : Int} (hd : dstOk nt dst = true) (hx : (mkS E H).ev x = .v (.int .u8 i)) (hy : (mkS E H).ev y = .v (.int .u8 j)) (h : 0 ≤ i - j ∧ i - j ≤ 255) :
    Does P nt ⟨dst, .binOp .sub t x y t', ty, pos, aft, gd⟩ ⟨fo x ++ fo y, []⟩ (.v (.int .u8 (i - j))) [] (mkS E H) := does_sub hd hx hy (IntWalk.u8_in _ (by omega))
/-! rows of texts -/
theorem st_ix_own_t (hT : TabOk P T) {t e o : Nat} {x y : Operand} {i j : TyI} {r k : Nat} {row : Row} {z : Int} {ls : List (List UInt8)} (hd : dstOk nt dst = true) (hx : (mkS E H).ev x = .own r k) (hr : (mkS E H).row r = some row) (hc : row.cs = txts ls) (hv : row.ver = k) (hy : (mkS E H).ev y = .int z)
    (ht : lkT T t = some i) (hu : i.u = .slice e) (he : lkT T e = some j) (hs : row.sz = 1) (hs' : j.size = 1) (ho : z.toNat = o) (h0 : 0 ≤ z ∧ o < ls.length) :
    Does P nt ⟨dst, .indexAddr t x y, ty, pos, aft, gd⟩ ⟨fo x ++ fo y, [r]⟩ (.ptr r k o) [] (mkS E H) := by
  have := does_index_own (P := P) (ty := ty) (pos := pos) (aft := aft) (gd := gd) hT hd hx hy hr hv ht hu he (by rw [hs, hs']) h0.1 (by rw [hs', hc, txts_length]; omega)
  rw [hs', Nat.mul_one, ho] at this; exact this
theorem st_ld_t (hT : TabOk P T) {t : Nat} {x : Operand} {i : TyI} {r k o : Nat} {row : Row} {ls : List (List UInt8)} (hd : dstOk nt dst = true) (hx : (mkS E H).ev x = .ptr r k o) (hr : (mkS E H).row r = some row) (hc : row.cs = txts ls) (hv : row.ver = k) (ht : lkT T t = some i) (hg : i.agg = false) (ho : o < ls.length) :
    Does P nt ⟨dst, .load t x, ty, pos, aft, gd⟩ ⟨fo x, [r]⟩ (.txt (gt ls o)) [] (mkS E H) := by
  have := does_load (P := P) (ty := ty) (pos := pos) (aft := aft) (gd := gd) hT hd hx hr hv ht hg (by rw [hc, txts_length]; exact ho)
  rw [hc, rd_txts ho] at this; exact this
theorem st_len_own_t (hT : TabOk P T) {t e : Nat} {x : Operand} {i : TyI} {r k : Nat} {row : Row} {ls : List (List UInt8)} (hd : dstOk nt dst = true) (hx : (mkS E H).ev x = .own r k) (hr : (mkS E H).row r = some row) (hc : row.cs = txts ls) (hv : row.ver = k) (hs : row.sz = 1) (ht : lkT T t = some i) (hu : i.u = .slice e) :
    Does P nt ⟨dst, .call ⟨.builtin .len, #[x], #[t]⟩, ty, pos, aft, gd⟩ ⟨fo x, [r]⟩ (.int (ls.length : Int)) [] (mkS E H) := by
  have := does_len_own (P := P) (ty := ty) (pos := pos) (aft := aft) (gd := gd) hT hd hx hr hv ht hu
  rw [hc, hs, txts_length, Nat.div_one] at this; exact this
theorem st_lit0_t (hT : TabOk P T) {t e n : Nat} {l : List (Nat × Option Row)} {i j : TyI} (hd : dstOk nt dst = true) (ht : lkT T t = some i) (hu : i.u = .slice e) (he : lkT T e = some j) (hs : j.size = 1) (hj : j.u = .str) (hr : (mkS E ⟨n, l⟩).row n = none) (h0 : Nat.beq n 0 = false) :
    Does P nt ⟨dst, .buildSlice t 0 #[], ty, pos, aft, gd⟩ ⟨[], [n]⟩ (.own n 0) [(n, some ⟨e, 1, 0, true, false, txts []⟩)] (mkS E ⟨n, l⟩) := by
  have := does_buildSlice0 (P := P) (ty := ty) (pos := pos) (aft := aft) (gd := gd) hT hd ht hu he (by omega) hr (fun h => by rw [h] at h0; simp at h0)
  rw [hs] at this; exact this
theorem st_lit1_t (hT : TabOk P T) {t e n : Nat} {l : List (Nat × Option Row)} {p : Operand} {i j : TyI} {zs : List UInt8} (hd : dstOk nt dst = true) (hp : (mkS E ⟨n, l⟩).ev p = .txt zs) (ht : lkT T t = some i) (hu : i.u = .slice e) (he : lkT T e = some j) (hs : j.size = 1) (hr : (mkS E ⟨n, l⟩).row n = none) (h0 : Nat.beq n 0 = false) :
    Does P nt ⟨dst, .buildSlice t 1 #[(0, p)], ty, pos, aft, gd⟩ ⟨fo p, [n]⟩ (.own n 0) [(n, some ⟨e, 1, 0, true, false, txts [zs]⟩)] (mkS E ⟨n, l⟩) := by
  have := does_buildSlice1 (P := P) (ty := ty) (pos := pos) (aft := aft) (gd := gd) hT hd hp (ys := [.txt zs]) rfl rfl ht hu he (by omega) (by omega) hs.symm hr (fun h => by rw [h] at h0; simp at h0)
  rw [hs] at this; exact this
theorem st_app_t (hT : TabOk P T) {t e : Nat} {x y : Operand} {i j : TyI} {r k r2 k2 : Nat} {row row2 : Row} {zs ys : List (List UInt8)} (hd : dstOk nt dst = true) (hx : (mkS E H).ev x = .own r k) (hr : (mkS E H).row r = some row) (hc : row.cs = txts zs) (hv : row.ver = k) (hbx : row.box = false) (hp : row.pure = true) (h0 : Nat.beq r 0 = false)
    (hy : (mkS E H).ev y = .own r2 k2) (hr2 : (mkS E H).row r2 = some row2) (hc2 : row2.cs = txts ys) (hv2 : row2.ver = k2) (hp2 : row2.pure = true) (hs2 : row2.sz = 1)
    (ht : lkT T t = some i) (hu : i.u = .slice e) (he : lkT T e = some j) (hty : row.ty = e) (hsz : row.sz = 1) (hs : j.size = 1) (hzl : j.zero.length = 1) (hby : j.bytes = 16) (hb : zs.length + ys.length ≤ 4294967296) :
    Does P nt ⟨dst, .call ⟨.builtin .append, #[x, y], #[t, t]⟩, ty, pos, aft, gd⟩ ⟨fo x ++ fo y, [r, r2]⟩ (.own r (k + 1)) [(r, some ⟨row.ty, 1, k + 1, true, false, txts (zs ++ ys)⟩)] (mkS E H) := by
  have hsrc := src_own (R := ⟨fo x ++ fo y, [r, r2]⟩) hy hr2 hv2 (by simp +contextual) (by simp)
  rw [hs2, hc2] at hsrc
  have := does_append (P := P) (ty := ty) (pos := pos) (aft := aft) (gd := gd) hT hd hx hr hv hbx (fun h => by rw [h] at h0; simp at h0) ht hu he hty (by rw [hsz, hs]) (by rw [hzl, hs]) (by rw [hs]; exact hsrc) (by simp +contextual) (by simp) (by rw [hc, txts_length, txts_length, hby]; omega)
  rw [hc, txts_append, hp, hp2, hsz] at this; exact this
/-! a text of one byte -/
theorem st_lit1_b (hT : TabOk P T) {t e n : Nat} {l : List (Nat × Option Row)} {p : Operand} {i j : TyI} {z : Int} (hd : dstOk nt dst = true) (hp : (mkS E ⟨n, l⟩).ev p = .v (.int .u8 z)) (ht : lkT T t = some i) (hu : i.u = .slice e) (he : lkT T e = some j) (hs : j.size = 1) (hr : (mkS E ⟨n, l⟩).row n = none) (h0 : Nat.beq n 0 = false) :
    Does P nt ⟨dst, .buildSlice t 1 #[(0, p)], ty, pos, aft, gd⟩ ⟨fo p, [n]⟩ (.own n 0) [(n, some ⟨e, 1, 0, true, false, [.v (.int .u8 z)]⟩)] (mkS E ⟨n, l⟩) := by
  have := does_buildSlice1 (P := P) (ty := ty) (pos := pos) (aft := aft) (gd := gd) hT hd hp (ys := [.v (.int .u8 z)]) rfl rfl ht hu he (by omega) (by omega) hs.symm hr (fun h => by rw [h] at h0; simp at h0)
  rw [hs] at this; exact this
theorem st_b2s1 (hT : TabOk P T) {s t e r k : Nat} {x : Operand} {i j i' : TyI} {row : Row} {z : Int} (hd : dstOk nt dst = true) (hx : (mkS E H).ev x = .own r k) (hr : (mkS E H).row r = some row) (hv : row.ver = k) (hc : row.cs = [.v (.int .u8 z)]) (hsz : row.sz = 1) (ht : lkT T s = some i) (hu : i.u = .slice e) (he : lkT T e = some j) (hj : j.u = .int .u8) (ht' : lkT T t = some i') (hu' : i'.u = .str) :
    Does P nt ⟨dst, .convert s t x, ty, pos, aft, gd⟩ ⟨fo x, [r]⟩ (.txt [UInt8.ofNat z.toNat]) [] (mkS E H) :=
  does_pure hd fun τ hag F φ Z a w hF hS => by
    have hr' : τ.row r = some row := by rw [hag.2 r (by simp)]; exact hr
    have e1 := own_open hS hr' hv (ev_rel hag hS hx (by simp +contextual))
    obtain ⟨n, xs, hm⟩ := rowMem hS hr'
    have h6 := hm.len
    have h7 := hm.rel
    rw [hc] at h6 h7
    rw [hsz] at h6
    have hn : n = 1 := by simp at h6; omega
    subst hn
    simp only [relL, relV] at h7
    obtain ⟨u, us, rfl, rfl, rfl⟩ := h7
    obtain ⟨inf, d, hk⟩ := hT.known ht
    obtain ⟨inf2, d2, hk2⟩ := hT.known he
    obtain ⟨inf3, d3, hk3⟩ := hT.known ht'
    rcases hm.own.2 with ⟨h1, h2⟩ | ⟨g, cap, cur, h1, _⟩
    · omega
    · have hcell := hm.own.cells (g := g) (by rw [h1]; rfl)
      have hl := run_loadCells_list (P := P) (w := w) ⟨g, 0, none⟩ [.int .u8 z] (fun j v hj => hcell j v hj)
      have hb := Go.run_bytesToString (P := P) w ⟨g, 0, none⟩ 1 cap [z] hl
      exact ⟨.string ⟨#[UInt8.ofNat z.toNat]⟩, by simp [execOp, convert, run_underlying (hk.slice hu), run_underlying (hk2.int hj), run_underlying (hk3.str hu'), e1, h1, hb]; rfl, by simp [relV]⟩
end
end Go.Sym
namespace Go.Proofs.YtnfjmcenjpoloaaDoor
open Go Go.RowKit Go.Park Go.Sym
section
variable {nt : Nat} {E : List (Nat × AV)} {H : Hp} {R : Foot} {x : AV}
theorem x0 {o : Oper} (h : Does Tryd.prog nt o R x [] (mkS E H) := by first | (apply st_sidx tabOk; (iterate 5 exact rfl); (first | with_reducible exact to0 | with_reducible exact to1 | with_reducible exact to2 | with_reducible exact toC _ | exact rfl); omega) | (apply st_spart tabOk; (iterate 6 exact rfl); (first | with_reducible exact to0 | with_reducible exact to1 | with_reducible exact to2 | with_reducible exact toC _ | exact rfl); (first | with_reducible exact to0 | with_reducible exact to1 | with_reducible exact to2 | with_reducible exact toC _ | exact rfl); omega) | (apply st_sfrom tabOk; (iterate 5 exact rfl); (first | with_reducible exact to0 | with_reducible exact to1 | with_reducible exact to2 | with_reducible exact toC _ | exact rfl); omega) | (apply st_supto tabOk; (iterate 5 exact rfl); (first | with_reducible exact to0 | with_reducible exact to1 | with_reducible exact to2 | with_reducible exact toC _ | exact rfl); omega) | (apply st_stadd; (iterate 3 exact rfl); (first | omega | (simp only [List.length_cons, List.length_nil, List.length_append]; omega))) | (apply does_neqs_same; (iterate 4 exact rfl)) | (apply st_steql; (iterate 3 exact rfl)) | (apply st_stneq; (iterate 3 exact rfl)) | (apply st_slen tabOk; (iterate 4 exact rfl)) | (apply st_u8sub; (iterate 3 exact rfl); omega) | (apply st_ix_own_t tabOk; (iterate 11 exact rfl); (first | with_reducible exact to0 | with_reducible exact to1 | with_reducible exact to2 | with_reducible exact toC _ | exact rfl); omega) | (apply st_ld_t tabOk; (iterate 7 exact rfl); omega) | (apply st_len_own_t tabOk; (iterate 8 exact rfl)) | fail) : Does Tryd.prog nt o R x [] (mkS E H) := h
theorem x1 {o : Oper} {r n : Nat} {row : Option Row} {l : List (Nat × Option Row)} (h : Does Tryd.prog nt o R x [(r, row)] (mkS E ⟨n, l⟩) := by first | (apply st_lit0_t tabOk; (iterate 8 exact rfl)) | (apply st_lit1_t tabOk; (iterate 8 exact rfl)) | (apply st_app_t tabOk; (iterate 22 exact rfl); (first | omega | (simp only [List.length_cons, List.length_nil, List.length_append]; omega))) | fail) : Does Tryd.prog nt o R x [(r, row)] (mkS E ⟨n, l⟩) := h
end
end Go.Proofs.YtnfjmcenjpoloaaDoor
