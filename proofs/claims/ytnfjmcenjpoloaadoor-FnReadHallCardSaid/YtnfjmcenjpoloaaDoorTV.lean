/-
  Texts: strings.Split as a fact on abstract values; the reading of halls, the reference's and the program's.
-/
import Derived.Test.YtnfjmcenjpoloaaDoorTW
import Derived.Test.YtnfjmcenjpoloaaDoorQT
import Derived.Test.YtnfjmcenjpoloaaDoorP7
import Derived.Test.YtnfjmcenjpoloaaDoorShT
set_option linter.unusedVariables false
set_option linter.unusedSimpArgs false
set_option maxRecDepth 100000
namespace Go.Sym
open Go Go.RowKit Go.Park Go.Proofs.YtnfjmcenjpoloaaDoor
section
variable {P : Program} {T : List (Nat × TyI)} {nt : Nat} {dst : Option Nat} {ty : Nat} {pos : String} {aft : Array Edge} {gd : Option (Nat × Bool)} {E : List (Nat × AV)} {H : Hp}
/-- a hall of which its second part alone is told -/
theorem st_build1_h (hT : TabOk P T) {t ft : Nat} {p : Operand} {i : TyI} {l : List (Nat × Nat × Nat)} {z : Int} (hd : dstOk nt dst = true) (ht : lkT T t = some i) (hu : i.u = .struct l) (hl : (l.all fun x => !Nat.beq x.2.2 0) = true) (hf : l[1]? = some (1, ft, 1)) (hz : (i.zero.map fun z => AV.v z.val) = [.int 0, .int 0, .v (.slice none 0 0)]) (hp : (mkS E H).ev p = .int z) :
    Does P nt ⟨dst, .build t #[(1, p)], ty, pos, aft, gd⟩ ⟨fo p, []⟩ (.agg [.int 0, .int z, .v (.slice none 0 0)]) [] (mkS E H) := by
  have hlen : i.zero.length = 3 := by have := congrArg List.length hz; simpa using this
  have := does_build1 (P := P) (nt := nt) (dst := dst) (ty := ty) (pos := pos) (aft := aft) (gd := gd) (σ := mkS E H) hT hd ht hu hl hf (by omega) hp rfl
  rw [hz] at this
  exact this
end
end Go.Sym
namespace Go.Proofs.YtnfjmcenjpoloaaDoor
open Go Go.RowKit Go.Park Go.Sym
theorem cellsTo_len (f : List UInt8 → Int) : ∀ rows : List (List UInt8), (cellsTo f rows).length ≤ sumL rows
  | [] => by simp [cellsTo]
  | r :: rows => by
    have ih := cellsTo_len f rows
    have := cutL_len 44 r
    simp only [cellsTo, sumL, List.flatMap_cons, List.length_append, List.length_map] at ih ⊢
    omega
theorem cellsTo_next (f : List UInt8 → Int) {rows : List (List UInt8)} {k : Nat} (hk : k < rows.length) : cellsTo f (rows.take (k + 1)) = cellsTo f (rows.take k) ++ (cutL 44 rows[k]).map f := by
  have e : rows.take (k + 1) = rows.take k ++ [rows[k]] := by rw [List.take_add_one, List.getElem?_eq_getElem hk]; rfl
  rw [e]
  simp only [cellsTo, List.flatMap_append, List.flatMap_cons, List.flatMap_nil, List.append_nil]
theorem wideOf_next {rows : List (List UInt8)} {k : Nat} (hk : k < rows.length) : wideOf (rows.take (k + 1)) = (cutL 44 rows[k]).length := by
  have e : rows.take (k + 1) = rows.take k ++ [rows[k]] := by rw [List.take_add_one, List.getElem?_eq_getElem hk]; rfl
  rw [e, wideOf, List.getLast?_concat]
theorem sumL_take (rows : List (List UInt8)) (k : Nat) : sumL (rows.take k) ≤ sumL rows := by
  have := sumL_append (rows.take k) (rows.drop k)
  rw [List.take_append_drop] at this
  omega
theorem sumL_next {rows : List (List UInt8)} {k : Nat} (hk : k < rows.length) : sumL (rows.take k) + (rows[k].length + 1) ≤ sumL rows := by
  have h1 := sumL_take rows (k + 1)
  rw [List.take_add_one, List.getElem?_eq_getElem hk, sumL_append] at h1
  simp [sumL] at h1
  omega
theorem cells_step (f : List UInt8 → Int) {ps : List (List UInt8)} {j : Nat} (hj : j < ps.length) (cs : List Int) : cs ++ (ps.take j).map f ++ [f (gt ps j)] = cs ++ (ps.take (j + 1)).map f := by
  have e : ps.take (j + 1) = ps.take j ++ [ps[j]] := by rw [List.take_add_one, List.getElem?_eq_getElem hj]; rfl
  rw [e, List.map_append, gt_is hj, List.append_assoc]; rfl
theorem cellS_dot : cellS [46] = 0 := by rw [cellS, if_pos rfl]
theorem cellS_num {l : List UInt8} (h : l ≠ [46]) : cellS l = readS l := by rw [cellS, if_neg h]; rfl
theorem cellI_dot : cellI [46] = 0 := by rw [cellI, if_pos rfl]
theorem cellI_num {l : List UInt8} (h : l ≠ [46]) : cellI l = (readI l).1 := by
  rw [cellI, if_neg h, readI]
  cases readL 2 l <;> rfl
set_option maxHeartbeats 8000000 in
theorem specReadHall_fn (s : List UInt8) (hs : s.length ≤ 2000000) : FnS Tryd.prog 42 [.txt s] (.tup [hallV (readF s).1, .bool (readF s).2]) := by
  obtain ⟨rows, hrows⟩ : ∃ rows, rows = cutL 47 s := ⟨_, rfl⟩
  have hC := l1Cut_fn s 47 (by omega)
  rw [← hrows] at hC
  have hsum : sumL rows = s.length + 1 := by rw [hrows]; exact cutL_sum 47 s
  have hrl : rows.length ≤ s.length + 1 := by rw [hrows]; exact cutL_len 47 s
  refine fn_go1 tabOk Tryd.func42 rfl (by kernel_rfl) Tryd.ntmps42 Tryd.results42 (by decide) ?_
  repeat first | refine Ua ?_ | refine Ub ?_ | refine Uc ?_ | refine Ud ?_ | refine Ue ?_ | refine Ug ⟨by kernel_rfl, ?_⟩ | refine Ug ?_ | refine Uh ?_ | refine Ui ?_ | refine Uj ?_ | refine Uk rfl ?_ | refine Ul rfl ?_ | refine Um ?_ | refine Un ?_ | refine Uo ?_ | refine Up rfl ?_ | refine Uq ?_ | refine Ur ?_ | refine Us ?_ | refine Ut ?_ | refine Uu ?_ | refine Ux ?_ | refine Uv rfl rfl rfl rfl ?_ | refine Uw rfl rfl rfl ?_ | refine U0 (by first | exact x0 | (apply st_build1_h tabOk; iterate 7 exact rfl) | exact z0 | fail) ?_ | refine U1 (by first | (apply st_call_s (hfn := hC ); exact rfl; exact fz; iterate 2 exact rfl) | exact x1 | exact z1 | fail) ?_ | refine U9 zs ?_
  refine ax_loop (fun i : Nat × Int × List Int => mkS [(6, .int (i.1 : Int)), (5, .ptr 3 0 0), (4, .own 2 0), (2, .ptr 1 0 0), (0, .txt s)] ⟨5, [(1, some zeroRow), (2, some (txtsRow rows)), (3, some (boxRow i.2.1 (rows.length : Int) 4 0)), (4, some (intsRow i.2.2))]⟩) (fun i => i.1 ≤ rows.length ∧ i.2.2 = cellsTo cellS (rows.take i.1) ∧ i.2.1 = ((wideOf (rows.take i.1) : Nat) : Int)) (fun i => rows.length - i.1) ((0, 0, [])) (⟨Nat.zero_le _, rfl, rfl⟩) (weak_of [] (by repeat first | exact .nil | refine LeEs.cons ?_ ?_ | exact .v (by first | rfl | (rfl)) | exact .own rfl rfl rfl rfl rfl | exact .ptr rfl rfl rfl rfl rfl rfl | exact .nil rfl rfl rfl | exact .sl (by first | rfl | (rfl)) | exact .both rfl rfl | exact .frz rfl rfl rfl rfl rfl (by first | rfl | (rfl)) rfl | exact .tab rfl | exact .any _) (by repeat first | exact .nil | refine LeHs.keep rfl ⟨rfl, rfl, rfl, .inl ⟨rfl, by first | rfl | (rfl)⟩⟩ ?_ | refine LeHs.keep rfl ⟨rfl, rfl, rfl, .inr ⟨(by first | exact .inl rfl | exact .inr rfl), by repeat first | exact .nil | refine LeVL.cons ?_ ?_ | exact .v (by first | rfl | (rfl)) | exact .own rfl rfl rfl rfl rfl | exact .sl (by first | rfl | (rfl)) | exact .both rfl rfl | exact .nil rfl rfl rfl⟩⟩ ?_ | refine LeHs.fresh rfl rfl rfl (Nat.succ_pos _) rfl ?_) rfl rfl) ?_
  rintro ⟨k, W, cs⟩ ⟨h1, h2, h3⟩
  dsimp only at h1 h2 h3 ⊢
  have hcl : cs.length ≤ sumL (rows.take k) := by rw [h2]; exact cellsTo_len _ _
  have hsk := sumL_take rows k
  repeat first | refine Ua ?_ | refine Ub ?_ | refine Uc ?_ | refine Ud ?_ | refine Ue ?_ | refine Ug ⟨by kernel_rfl, ?_⟩ | refine Ug ?_ | refine Uh ?_ | refine Ui ?_ | refine Uj ?_ | refine Uk rfl ?_ | refine Ul rfl ?_ | refine Um ?_ | refine Un ?_ | refine Uo ?_ | refine Up rfl ?_ | refine Uq ?_ | refine Ur ?_ | refine Us ?_ | refine Ut ?_ | refine Uu ?_ | refine Ux ?_ | refine Uv rfl rfl rfl rfl ?_ | refine Uw rfl rfl rfl ?_ | refine U0 (by first | exact x0 | exact z0 | fail) ?_ | refine U1 (by first | exact x1 | exact z1 | fail) ?_ | refine U9 zs ?_
  refine ax_cond rfl (fun hb => ?_) (fun hb => ?_)
  · have hk : k < rows.length := by simpa using hb
    have hrk := gt_is hk
    have hsn := sumL_next hk
    rw [← hrk] at hsn
    have hC2 := l1Cut_fn (gt rows k) 44 (by omega)
    obtain ⟨ps, hps⟩ : ∃ ps, ps = cutL 44 (gt rows k) := ⟨_, rfl⟩
    have hpl : ps.length ≤ (gt rows k).length + 1 := by rw [hps]; exact cutL_len 44 _
    rw [← hps] at hC2
    repeat first | refine Ua ?_ | refine Ub ?_ | refine Uc ?_ | refine Ud ?_ | refine Ue ?_ | refine Ug ⟨by kernel_rfl, ?_⟩ | refine Ug ?_ | refine Uh ?_ | refine Ui ?_ | refine Uj ?_ | refine Uk rfl ?_ | refine Ul rfl ?_ | refine Um ?_ | refine Un ?_ | refine Uo ?_ | refine Up rfl ?_ | refine Uq ?_ | refine Ur ?_ | refine Us ?_ | refine Ut ?_ | refine Uu ?_ | refine Ux ?_ | refine Uv rfl rfl rfl rfl ?_ | refine Uw rfl rfl rfl ?_ | refine U0 (by first | exact x0 | exact z0 | fail) ?_ | refine U1 (by first | (apply st_call_s (hfn := hC2 ); exact rfl; exact fz; iterate 2 exact rfl) | exact x1 | exact z1 | fail) ?_ | refine U9 zs ?_
    refine ax_loop (fun i : Nat × List Int => mkS [(8, .int (i.1 : Int)), (7, .own 5 0), (6, .int (k : Int)), (5, .ptr 3 0 0), (4, .own 2 0), (2, .ptr 1 0 0), (0, .txt s)] ⟨6, [(1, some zeroRow), (2, some (txtsRow rows)), (3, some (boxRow (ps.length : Int) (rows.length : Int) 4 0)), (4, some (intsRow i.2)), (5, some (txtsRow ps))]⟩) (fun i => i.1 ≤ ps.length ∧ i.2 = cs ++ (ps.take i.1).map cellS) (fun i => ps.length - i.1) ((0, cs)) (⟨Nat.zero_le _, by simp⟩) (Lw (ρ := [])) ?_
    rintro ⟨j, ds⟩ ⟨h4, h5⟩
    dsimp only at h4 h5 ⊢
    have hdl : ds.length ≤ 4000000 := by rw [h5]; simp; omega
    repeat first | refine Ua ?_ | refine Ub ?_ | refine Uc ?_ | refine Ud ?_ | refine Ue ?_ | refine Ug ⟨by kernel_rfl, ?_⟩ | refine Ug ?_ | refine Uh ?_ | refine Ui ?_ | refine Uj ?_ | refine Uk rfl ?_ | refine Ul rfl ?_ | refine Um ?_ | refine Un ?_ | refine Uo ?_ | refine Up rfl ?_ | refine Uq ?_ | refine Ur ?_ | refine Us ?_ | refine Ut ?_ | refine Uu ?_ | refine Ux ?_ | refine Uv rfl rfl rfl rfl ?_ | refine Uw rfl rfl rfl ?_ | refine U0 (by first | exact x0 | exact z0 | fail) ?_ | refine U1 (by first | exact x1 | exact z1 | fail) ?_ | refine U9 zs ?_
    refine ax_cond rfl (fun hb2 => ?_) (fun hb2 => ?_)
    · have hj : j < ps.length := by simpa using hb2
      have hst := cells_step cellS hj cs
      repeat first | refine Ua ?_ | refine Ub ?_ | refine Uc ?_ | refine Ud ?_ | refine Ue ?_ | refine Ug ⟨by kernel_rfl, ?_⟩ | refine Ug ?_ | refine Uh ?_ | refine Ui ?_ | refine Uj ?_ | refine Uk rfl ?_ | refine Ul rfl ?_ | refine Um ?_ | refine Un ?_ | refine Uo ?_ | refine Up rfl ?_ | refine Uq ?_ | refine Ur ?_ | refine Us ?_ | refine Ut ?_ | refine Uu ?_ | refine Ux ?_ | refine Uv rfl rfl rfl rfl ?_ | refine Uw rfl rfl rfl ?_ | refine U0 (by first | exact x0 | exact z0 | fail) ?_ | refine U1 (by first | exact x1 | exact z1 | fail) ?_ | refine U9 zs ?_
      refine ax_cond rfl (fun hb3 => ?_) (fun hb3 => ?_)
      · have e : gt ps j = [46] := of_decide_eq_true hb3
        rw [e, cellS_dot] at hst
        repeat first | refine Ua ?_ | refine Ub ?_ | refine Uc ?_ | refine Ud ?_ | refine Ue ?_ | refine Ug ⟨by kernel_rfl, ?_⟩ | refine Ug ?_ | refine Uh ?_ | refine Ui ?_ | refine Uj ?_ | refine Uk rfl ?_ | refine Ul rfl ?_ | refine Um ?_ | refine Un ?_ | refine Uo ?_ | refine Up rfl ?_ | refine Uq ?_ | refine Ur ?_ | refine Us ?_ | refine Ut ?_ | refine Uu ?_ | refine Ux ?_ | refine Uv rfl rfl rfl rfl ?_ | refine Uw rfl rfl rfl ?_ | refine U0 (by first | exact x0 | exact z0 | fail) ?_ | refine U1 (by first | exact x1 | exact z1 | fail) ?_ | refine U9 zs ?_
        refine round_next ((j + 1, ds ++ [0])) (⟨hj, by rw [h5]; exact hst⟩) ((by show ps.length - (j + 1) < ps.length - j; omega)) (Lw (ρ := []))
      · have e : gt ps j ≠ [46] := of_decide_eq_false hb3
        rw [cellS_num e] at hst
        repeat first | refine Ua ?_ | refine Ub ?_ | refine Uc ?_ | refine Ud ?_ | refine Ue ?_ | refine Ug ⟨by kernel_rfl, ?_⟩ | refine Ug ?_ | refine Uh ?_ | refine Ui ?_ | refine Uj ?_ | refine Uk rfl ?_ | refine Ul rfl ?_ | refine Um ?_ | refine Un ?_ | refine Uo ?_ | refine Up rfl ?_ | refine Uq ?_ | refine Ur ?_ | refine Us ?_ | refine Ut ?_ | refine Uu ?_ | refine Ux ?_ | refine Uv rfl rfl rfl rfl ?_ | refine Uw rfl rfl rfl ?_ | refine U0 (by first | (apply st_call (hfn := l1Read_fn (gt ps j) ); exact rfl; exact fz) | exact x0 | exact z0 | fail) ?_ | refine U1 (by first | exact x1 | exact z1 | fail) ?_ | refine U9 zs ?_
        refine round_next ((j + 1, ds ++ [readS (gt ps j)])) (⟨hj, by rw [h5]; exact hst⟩) ((by show ps.length - (j + 1) < ps.length - j; omega)) (Lw (ρ := []))
    have hj : j = ps.length := by simp at hb2; omega
    subst hj
    have e1 : ds = cellsTo cellS (rows.take (k + 1)) := by rw [cellsTo_next cellS hk, h5, h2, ← hrk, ← hps, List.take_length]
    have e2 : (ps.length : Int) = ((wideOf (rows.take (k + 1)) : Nat) : Int) := by rw [wideOf_next hk, ← hrk, ← hps]
    repeat first | refine Ua ?_ | refine Ub ?_ | refine Uc ?_ | refine Ud ?_ | refine Ue ?_ | refine Ug ⟨by kernel_rfl, ?_⟩ | refine Ug ?_ | refine Uh ?_ | refine Ui ?_ | refine Uj ?_ | refine Uk rfl ?_ | refine Ul rfl ?_ | refine Um ?_ | refine Un ?_ | refine Uo ?_ | refine Up rfl ?_ | refine Uq ?_ | refine Ur ?_ | refine Us ?_ | refine Ut ?_ | refine Uu ?_ | refine Ux ?_ | refine Uv rfl rfl rfl rfl ?_ | refine Uw rfl rfl rfl ?_ | refine U0 (by first | exact x0 | exact z0 | fail) ?_ | refine U1 (by first | exact x1 | exact z1 | fail) ?_ | refine U9 zs ?_
    refine round_next ((k + 1, (ps.length : Int), ds)) (⟨hk, e1, e2⟩) ((by show rows.length - (k + 1) < rows.length - k; omega)) (Lw (ρ := []))
  have hk : k = rows.length := by simp at hb; omega
  subst hk
  have hP : parseF cellS s = ⟨W, (rows.length : Int), cs⟩ := by
    rw [parseF, ← hrows, h2, h3, List.take_length]
  have hll : (⟨W, (rows.length : Int), cs⟩ : PHall).cells.length ≤ lim := by have := lim_eq; show cs.length ≤ lim; omega
  have hll2 : cs.length ≤ 1073741824 := by omega
  have hV := specHallValid_fn ⟨W, (rows.length : Int), cs⟩ hll
  have hT := specHallText_fn ⟨W, (rows.length : Int), cs⟩ hll
  by_cases hI : IsText ⟨W, (rows.length : Int), cs⟩ s
  · rw [readF_is hI]
    rw [hI.1] at hV
    rw [hI.2] at hT
    repeat first | refine Ua ?_ | refine Ub ?_ | refine Uc ?_ | refine Ud ?_ | refine Ue ?_ | refine Ug ⟨by kernel_rfl, ?_⟩ | refine Ug ?_ | refine Uh ?_ | refine Ui ?_ | refine Uj ?_ | refine Uk rfl ?_ | refine Ul rfl ?_ | refine Um ?_ | refine Un ?_ | refine Uo ?_ | refine Up rfl ?_ | refine Uq ?_ | refine Ur ?_ | refine Us ?_ | refine Ut ?_ | refine Uu ?_ | refine Ux ?_ | refine Af (h := ?_) | refine At (h := ?_) | refine Uv rfl rfl rfl rfl ?_ | refine Uw rfl rfl rfl ?_ | refine U0 (by first | (apply st_call (hfn := hV ); exact rfl; exact fz) | (apply st_call (hfn := hT ); exact rfl; exact fz) | exact x0 | exact z0 | fail) ?_ | refine U1 (by first | exact x1 | exact z1 | fail) ?_ | refine U9 zs ?_ | refine Kf (h := ?_) | refine Kt (h := ?_)
    exact ⟨.inl rfl, Rx⟩
  · rw [readF_not cellS_good (by rw [hP]; exact hI)]
    cases hv : validB ⟨W, (rows.length : Int), cs⟩
    · rw [hv] at hV
      repeat first | refine Ua ?_ | refine Ub ?_ | refine Uc ?_ | refine Ud ?_ | refine Ue ?_ | refine Ug ⟨by kernel_rfl, ?_⟩ | refine Ug ?_ | refine Uh ?_ | refine Ui ?_ | refine Uj ?_ | refine Uk rfl ?_ | refine Ul rfl ?_ | refine Um ?_ | refine Un ?_ | refine Uo ?_ | refine Up rfl ?_ | refine Uq ?_ | refine Ur ?_ | refine Us ?_ | refine Ut ?_ | refine Uu ?_ | refine Ux ?_ | refine Af (h := ?_) | refine At (h := ?_) | refine Uv rfl rfl rfl rfl ?_ | refine Uw rfl rfl rfl ?_ | refine U0 (by first | (apply st_call (hfn := hV ); exact rfl; exact fz) | (apply st_call (hfn := hT ); exact rfl; exact fz) | exact x0 | exact z0 | fail) ?_ | refine U1 (by first | exact x1 | exact z1 | fail) ?_ | refine U9 zs ?_ | refine Kf (h := ?_) | refine Kt (h := ?_)
      exact ⟨.inl rfl, Rx⟩
    · rw [hv] at hV
      have hne : textF ⟨W, (rows.length : Int), cs⟩ ≠ ⟨s.toArray⟩ := fun e => hI ⟨hv, e⟩
      repeat first | refine Ua ?_ | refine Ub ?_ | refine Uc ?_ | refine Ud ?_ | refine Ue ?_ | refine Ug ⟨by kernel_rfl, ?_⟩ | refine Ug ?_ | refine Uh ?_ | refine Ui ?_ | refine Uj ?_ | refine Uk rfl ?_ | refine Ul rfl ?_ | refine Um ?_ | refine Un ?_ | refine Uo ?_ | refine Up rfl ?_ | refine Uq ?_ | refine Ur ?_ | refine Us ?_ | refine Ut ?_ | refine Uu ?_ | refine Ux ?_ | refine Af (h := ?_) | refine At (h := ?_) | refine Uv rfl rfl rfl rfl ?_ | refine Uw rfl rfl rfl ?_ | refine U0 (by first | (apply st_call (hfn := hV ); exact rfl; exact fz) | (apply st_call (hfn := hT ); exact rfl; exact fz) | (apply st_sneq; iterate 3 exact rfl) | exact x0 | exact z0 | fail) ?_ | refine U1 (by first | exact x1 | exact z1 | fail) ?_ | refine U9 zs ?_ | refine Kf (h := ?_) | refine Kt (h := ?_)
      exact ⟨.inl rfl, Rx⟩
theorem relL_txts {cx : Cx} : ∀ L : List ByteArray, relL cx (txts (L.map (·.data.toList))) (L.map Value.string)
  | [] => by simp [txts, relL]
  | x :: L => by
    have ih := relL_txts (cx := cx) L
    simp only [txts] at ih ⊢
    simp only [List.map_cons, relL, relV]
    exact ⟨_, _, rfl, rfl, ih⟩
theorem split_fn (m : Int) (l : List UInt8) (c : UInt8) (hl : l.length ≤ 2147483647) : FnG Tryd.prog 1 [.v (.int .i64 m)] 87 [.txt l, .txt [c]] (.sl 9 1 (txts (cutL c l))) := by
  refine ⟨⟨_, Tryd.func87, by kernel_rfl, rfl⟩, fun w vs ht hp hx => ?_⟩
  simp only [relL, relV] at hx
  obtain ⟨_, _, rfl, rfl, _, _, rfl, rfl, rfl⟩ := hx
  have hm : w.cell? ⟨1, 0, none⟩ = some (.int .i64 m) := by
    obtain ⟨u, h1, _, h2⟩ := relC_get ht.2.2 0 _ rfl
    simp only [relV] at h2
    subst h2
    exact h1
  have hcut := splitB_cut c ⟨l.toArray⟩
  have hlen := Lib.splitB_all ⟨#[c]⟩ (by show 1 ≤ 1; omega) 0 _ (⟨l.toArray⟩ : ByteArray) rfl
  have hcl := cutL_len c l
  refine (Tryd.strings_Split ⟨l.toArray⟩ ⟨#[c]⟩ m w (by rw [mk_size]; omega) hm (by show 1 ≤ 1; omega)).mono fun e w' ⟨he, hw⟩ => ?_
  generalize Lib.countB ⟨l.toArray⟩ ⟨#[c]⟩ = n at he hw hcut hlen
  generalize Lib.splitB ⟨#[c]⟩ 0 n ⟨l.toArray⟩ = L at hw hcut hlen
  subst he hw
  have e1 : (⟨l.toArray⟩ : ByteArray).data.toList = l := by simp
  rw [e1] at hcut
  have hn : n + 1 = (cutL c l).length := by rw [← hcut, List.length_map, hlen]
  have hrel : ∀ cx, relL cx (txts (cutL c l)) (L.map Value.string) := fun cx => by
    rw [← hcut]
    exact relL_txts L
  refine ⟨_, [w.heap.size], rfl, ⟨(Below.refl _ _).alloc (Nat.le_refl _) _, by simp, by simp, ?_⟩⟩
  rw [relO]
  refine ⟨rfl, by omega, pure_txts _, n + 1, L.map Value.string, ?_, by rw [txts_length]; omega, hrel _, fun u hu => ?_⟩
  · have := World.ownsRow_lit (base := w.heap.size) (e := 9) (size := 1) w (L.map Value.string).toArray (n + 1) (Nat.le_refl _) (by unfold maxLen; omega) (by simp; omega)
    simpa using this
  · obtain ⟨x, _, rfl⟩ := List.mem_map.1 hu; rfl
abbrev tabM (m : Int) : Nat × AV := (tbi, .tab 1 [.v (.int .i64 m)])
set_option maxHeartbeats 8000000 in
theorem readHall_fn (m : Int) (s : List UInt8) (hs : s.length ≤ 2000000) : FnG Tryd.prog 1 [.v (.int .i64 m)] 40 [.txt s] (.tup [hallV (readF s).1, .bool (readF s).2]) := by
  obtain ⟨rows, hrows⟩ : ∃ rows, rows = cutL 47 s := ⟨_, rfl⟩
  have hC := split_fn m s 47 (by omega)
  rw [← hrows] at hC
  have hsum : sumL rows = s.length + 1 := by rw [hrows]; exact cutL_sum 47 s
  have hrl : rows.length ≤ s.length + 1 := by rw [hrows]; exact cutL_len 47 s
  by_cases h3r : 3 < rows.length
  · rw [readF_no fun h hh => by have := (isText_rows hh).1; rw [← hrows] at this; omega]
    refine fng_go1 tabOk Tryd.func40 rfl (by kernel_rfl) Tryd.ntmps40 Tryd.results40 (by decide) ?_
    repeat first | refine Ua ?_ | refine Ub ?_ | refine Uc ?_ | refine Ud ?_ | refine Ue ?_ | refine Ug ⟨by kernel_rfl, ?_⟩ | refine Ug ?_ | refine Uh ?_ | refine Ui ?_ | refine Uj ?_ | refine Uk rfl ?_ | refine Ul rfl ?_ | refine Um ?_ | refine Un ?_ | refine Uo ?_ | refine Up rfl ?_ | refine Uq ?_ | refine Ur ?_ | refine Us ?_ | refine Ut ?_ | refine Uu ?_ | refine Ux ?_ | refine Af (h := ?_) | refine At (h := ?_) | refine Uv rfl rfl rfl rfl ?_ | refine Uw rfl rfl rfl ?_ | refine U0 (by first | exact x0 | exact z0 | fail) ?_ | refine U1 (by first | (apply st_callg_s (hfn := hC ); exact rfl; exact fz; iterate 3 exact rfl) | exact x1 | exact z1 | fail) ?_ | refine U9 zs ?_ | refine Kf (h := ?_) | refine Kt (h := ?_)
    exact ⟨.inl rfl, Rx⟩
  refine fng_go1 tabOk Tryd.func40 rfl (by kernel_rfl) Tryd.ntmps40 Tryd.results40 (by decide) ?_
  repeat first | refine Ua ?_ | refine Ub ?_ | refine Uc ?_ | refine Ud ?_ | refine Ue ?_ | refine Ug ⟨by kernel_rfl, ?_⟩ | refine Ug ?_ | refine Uh ?_ | refine Ui ?_ | refine Uj ?_ | refine Uk rfl ?_ | refine Ul rfl ?_ | refine Um ?_ | refine Un ?_ | refine Uo ?_ | refine Up rfl ?_ | refine Uq ?_ | refine Ur ?_ | refine Us ?_ | refine Ut ?_ | refine Uu ?_ | refine Ux ?_ | refine Af (h := ?_) | refine At (h := ?_) | refine Uv rfl rfl rfl rfl ?_ | refine Uw rfl rfl rfl ?_ | refine U0 (by first | exact x0 | (apply st_build1_h tabOk; iterate 7 exact rfl) | exact z0 | fail) ?_ | refine U1 (by first | (apply st_callg_s (hfn := hC ); exact rfl; exact fz; iterate 3 exact rfl) | exact x1 | exact z1 | fail) ?_ | refine U9 zs ?_ | refine Kf (h := ?_) | refine Kt (h := ?_)
  refine ax_loop (fun i : Nat × Int × List Int => mkS [(25, .int (i.1 : Int)), (24, .int (rows.length : Int)), (23, .own 2 0), (5, .ptr 3 0 0), (2, .ptr 1 0 0), (0, .txt s), tabM m] ⟨5, [(1, some zeroRow), (2, some (txtsRow rows)), (3, some (boxRow i.2.1 (rows.length : Int) 4 0)), (4, some (intsRow i.2.2))]⟩) (fun i => i.1 ≤ rows.length ∧ i.2.2 = cellsTo cellI (rows.take i.1) ∧ i.2.1 = ((wideOf (rows.take i.1) : Nat) : Int)) (fun i => rows.length - i.1) ((0, 0, [])) (⟨Nat.zero_le _, rfl, rfl⟩) (weak_of [] (by repeat first | exact .nil | refine LeEs.cons ?_ ?_ | exact .v (by first | rfl | (rfl)) | exact .own rfl rfl rfl rfl rfl | exact .ptr rfl rfl rfl rfl rfl rfl | exact .nil rfl rfl rfl | exact .sl (by first | rfl | (rfl)) | exact .both rfl rfl | exact .frz rfl rfl rfl rfl rfl (by first | rfl | (rfl)) rfl | exact .tab rfl | exact .any _) (by repeat first | exact .nil | refine LeHs.keep rfl ⟨rfl, rfl, rfl, .inl ⟨rfl, by first | rfl | (rfl)⟩⟩ ?_ | refine LeHs.keep rfl ⟨rfl, rfl, rfl, .inr ⟨(by first | exact .inl rfl | exact .inr rfl), by repeat first | exact .nil | refine LeVL.cons ?_ ?_ | exact .v (by first | rfl | (rfl)) | exact .own rfl rfl rfl rfl rfl | exact .sl (by first | rfl | (rfl)) | exact .both rfl rfl | exact .nil rfl rfl rfl⟩⟩ ?_ | refine LeHs.fresh rfl rfl rfl (Nat.succ_pos _) rfl ?_) rfl rfl) ?_
  rintro ⟨k, W, cs⟩ ⟨h1, h2, h3⟩
  dsimp only at h1 h2 h3 ⊢
  have hcl : cs.length ≤ sumL (rows.take k) := by rw [h2]; exact cellsTo_len _ _
  have hsk := sumL_take rows k
  repeat first | refine Ua ?_ | refine Ub ?_ | refine Uc ?_ | refine Ud ?_ | refine Ue ?_ | refine Ug ⟨by kernel_rfl, ?_⟩ | refine Ug ?_ | refine Uh ?_ | refine Ui ?_ | refine Uj ?_ | refine Uk rfl ?_ | refine Ul rfl ?_ | refine Um ?_ | refine Un ?_ | refine Uo ?_ | refine Up rfl ?_ | refine Uq ?_ | refine Ur ?_ | refine Us ?_ | refine Ut ?_ | refine Uu ?_ | refine Ux ?_ | refine Uv rfl rfl rfl rfl ?_ | refine Uw rfl rfl rfl ?_ | refine U0 (by first | exact x0 | exact z0 | fail) ?_ | refine U1 (by first | exact x1 | exact z1 | fail) ?_ | refine U9 zs ?_
  refine ax_cond rfl (fun hb => ?_) (fun hb => ?_)
  · have hk : k < rows.length := by simpa using hb
    have hrk := gt_is hk
    have hsn := sumL_next hk
    rw [← hrk] at hsn
    have hC2 := split_fn m (gt rows k) 44 (by omega)
    have hrm : gt rows k ∈ cutL 47 s := by rw [hrk, ← hrows]; exact List.getElem_mem hk
    obtain ⟨ps, hps⟩ : ∃ ps, ps = cutL 44 (gt rows k) := ⟨_, rfl⟩
    have hpl : ps.length ≤ (gt rows k).length + 1 := by rw [hps]; exact cutL_len 44 _
    rw [← hps] at hC2
    by_cases h4p : 4 < ps.length
    · rw [readF_no fun h hh => by have := ((isText_rows hh).2 _ hrm).2.1; rw [← hps] at this; omega]
      repeat first | refine Ua ?_ | refine Ub ?_ | refine Uc ?_ | refine Ud ?_ | refine Ue ?_ | refine Ug ⟨by kernel_rfl, ?_⟩ | refine Ug ?_ | refine Uh ?_ | refine Ui ?_ | refine Uj ?_ | refine Uk rfl ?_ | refine Ul rfl ?_ | refine Um ?_ | refine Un ?_ | refine Uo ?_ | refine Up rfl ?_ | refine Uq ?_ | refine Ur ?_ | refine Us ?_ | refine Ut ?_ | refine Uu ?_ | refine Ux ?_ | refine Af (h := ?_) | refine At (h := ?_) | refine Uv rfl rfl rfl rfl ?_ | refine Uw rfl rfl rfl ?_ | refine U0 (by first | exact x0 | exact z0 | fail) ?_ | refine U1 (by first | (apply st_callg_s (hfn := hC2 ); exact rfl; exact fz; iterate 3 exact rfl) | exact x1 | exact z1 | fail) ?_ | refine U9 zs ?_ | refine Kf (h := ?_) | refine Kt (h := ?_)
      exact ⟨.inl rfl, Rx⟩
    repeat first | refine Ua ?_ | refine Ub ?_ | refine Uc ?_ | refine Ud ?_ | refine Ue ?_ | refine Ug ⟨by kernel_rfl, ?_⟩ | refine Ug ?_ | refine Uh ?_ | refine Ui ?_ | refine Uj ?_ | refine Uk rfl ?_ | refine Ul rfl ?_ | refine Um ?_ | refine Un ?_ | refine Uo ?_ | refine Up rfl ?_ | refine Uq ?_ | refine Ur ?_ | refine Us ?_ | refine Ut ?_ | refine Uu ?_ | refine Ux ?_ | refine Af (h := ?_) | refine At (h := ?_) | refine Uv rfl rfl rfl rfl ?_ | refine Uw rfl rfl rfl ?_ | refine U0 (by first | exact x0 | exact z0 | fail) ?_ | refine U1 (by first | (apply st_callg_s (hfn := hC2 ); exact rfl; exact fz; iterate 3 exact rfl) | exact x1 | exact z1 | fail) ?_ | refine U9 zs ?_ | refine Kf (h := ?_) | refine Kt (h := ?_)
    refine ax_loop (fun i : Nat × List Int => mkS [(40, .int (i.1 : Int)), (39, .int (ps.length : Int)), (38, .own 5 0), (25, .int (k : Int)), (24, .int (rows.length : Int)), (23, .own 2 0), (5, .ptr 3 0 0), (2, .ptr 1 0 0), (0, .txt s), tabM m] ⟨6, [(1, some zeroRow), (2, some (txtsRow rows)), (3, some (boxRow (ps.length : Int) (rows.length : Int) 4 0)), (4, some (intsRow i.2)), (5, some (txtsRow ps))]⟩) (fun i => i.1 ≤ ps.length ∧ i.2 = cs ++ (ps.take i.1).map cellI) (fun i => ps.length - i.1) ((0, cs)) (⟨Nat.zero_le _, by simp⟩) (Lw (ρ := [])) ?_
    rintro ⟨j, ds⟩ ⟨h4, h5⟩
    dsimp only at h4 h5 ⊢
    have hdl : ds.length ≤ 4000000 := by rw [h5]; simp; omega
    repeat first | refine Ua ?_ | refine Ub ?_ | refine Uc ?_ | refine Ud ?_ | refine Ue ?_ | refine Ug ⟨by kernel_rfl, ?_⟩ | refine Ug ?_ | refine Uh ?_ | refine Ui ?_ | refine Uj ?_ | refine Uk rfl ?_ | refine Ul rfl ?_ | refine Um ?_ | refine Un ?_ | refine Uo ?_ | refine Up rfl ?_ | refine Uq ?_ | refine Ur ?_ | refine Us ?_ | refine Ut ?_ | refine Uu ?_ | refine Ux ?_ | refine Uv rfl rfl rfl rfl ?_ | refine Uw rfl rfl rfl ?_ | refine U0 (by first | exact x0 | exact z0 | fail) ?_ | refine U1 (by first | exact x1 | exact z1 | fail) ?_ | refine U9 zs ?_
    refine ax_cond rfl (fun hb2 => ?_) (fun hb2 => ?_)
    · have hj : j < ps.length := by simpa using hb2
      have hst := cells_step cellI hj cs
      have hpm : gt ps j ∈ cutL 44 (gt rows k) := by rw [gt_is hj, ← hps]; exact List.getElem_mem hj
      repeat first | refine Ua ?_ | refine Ub ?_ | refine Uc ?_ | refine Ud ?_ | refine Ue ?_ | refine Ug ⟨by kernel_rfl, ?_⟩ | refine Ug ?_ | refine Uh ?_ | refine Ui ?_ | refine Uj ?_ | refine Uk rfl ?_ | refine Ul rfl ?_ | refine Um ?_ | refine Un ?_ | refine Uo ?_ | refine Up rfl ?_ | refine Uq ?_ | refine Ur ?_ | refine Us ?_ | refine Ut ?_ | refine Uu ?_ | refine Ux ?_ | refine Uv rfl rfl rfl rfl ?_ | refine Uw rfl rfl rfl ?_ | refine U0 (by first | exact x0 | exact z0 | fail) ?_ | refine U1 (by first | exact x1 | exact z1 | fail) ?_ | refine U9 zs ?_
      refine ax_cond rfl (fun hb3 => ?_) (fun hb3 => ?_)
      · have e : gt ps j ≠ [46] := of_decide_eq_true hb3
        rw [cellI_num e] at hst
        have hN := readNumber_fn (gt ps j)
        cases hr : (readI (gt ps j)).2
        · have hno : readF s = (zeroHall, false) := readF_no fun h hh => by
            rcases ((isText_rows hh).2 _ hrm).2.2 _ hpm with e2 | ⟨n, e2⟩
            · exact e e2
            · rw [readI_some e2] at hr; cases hr
          rw [hno]
          rw [hr] at hN
          repeat first | refine Ua ?_ | refine Ub ?_ | refine Uc ?_ | refine Ud ?_ | refine Ue ?_ | refine Ug ⟨by kernel_rfl, ?_⟩ | refine Ug ?_ | refine Uh ?_ | refine Ui ?_ | refine Uj ?_ | refine Uk rfl ?_ | refine Ul rfl ?_ | refine Um ?_ | refine Un ?_ | refine Uo ?_ | refine Up rfl ?_ | refine Uq ?_ | refine Ur ?_ | refine Us ?_ | refine Ut ?_ | refine Uu ?_ | refine Ux ?_ | refine Uv rfl rfl rfl rfl ?_ | refine Uw rfl rfl rfl ?_ | refine U0 (by first | (apply st_call_vv (hfn := hN ); exact rfl; exact fz) | exact x0 | exact z0 | fail) ?_ | refine U1 (by first | exact x1 | exact z1 | fail) ?_ | refine U9 zs ?_
          exact ⟨.inl rfl, Rx⟩
        · rw [hr] at hN
          repeat first | refine Ua ?_ | refine Ub ?_ | refine Uc ?_ | refine Ud ?_ | refine Ue ?_ | refine Ug ⟨by kernel_rfl, ?_⟩ | refine Ug ?_ | refine Uh ?_ | refine Ui ?_ | refine Uj ?_ | refine Uk rfl ?_ | refine Ul rfl ?_ | refine Um ?_ | refine Un ?_ | refine Uo ?_ | refine Up rfl ?_ | refine Uq ?_ | refine Ur ?_ | refine Us ?_ | refine Ut ?_ | refine Uu ?_ | refine Ux ?_ | refine Uv rfl rfl rfl rfl ?_ | refine Uw rfl rfl rfl ?_ | refine U0 (by first | (apply st_call_vv (hfn := hN ); exact rfl; exact fz) | exact x0 | exact z0 | fail) ?_ | refine U1 (by first | exact x1 | exact z1 | fail) ?_ | refine U9 zs ?_
          refine round_next ((j + 1, ds ++ [(readI (gt ps j)).1])) (⟨hj, by rw [h5]; exact hst⟩) ((by show ps.length - (j + 1) < ps.length - j; omega)) (Lw (ρ := []))
      · have e : gt ps j = [46] := Classical.byContradiction fun h => of_decide_eq_false hb3 h
        rw [e, cellI_dot] at hst
        repeat first | refine Ua ?_ | refine Ub ?_ | refine Uc ?_ | refine Ud ?_ | refine Ue ?_ | refine Ug ⟨by kernel_rfl, ?_⟩ | refine Ug ?_ | refine Uh ?_ | refine Ui ?_ | refine Uj ?_ | refine Uk rfl ?_ | refine Ul rfl ?_ | refine Um ?_ | refine Un ?_ | refine Uo ?_ | refine Up rfl ?_ | refine Uq ?_ | refine Ur ?_ | refine Us ?_ | refine Ut ?_ | refine Uu ?_ | refine Ux ?_ | refine Uv rfl rfl rfl rfl ?_ | refine Uw rfl rfl rfl ?_ | refine U0 (by first | exact x0 | exact z0 | fail) ?_ | refine U1 (by first | exact x1 | exact z1 | fail) ?_ | refine U9 zs ?_
        refine round_next ((j + 1, ds ++ [0])) (⟨hj, by rw [h5]; exact hst⟩) ((by show ps.length - (j + 1) < ps.length - j; omega)) (Lw (ρ := []))
    have hj : j = ps.length := by simp at hb2; omega
    subst hj
    have e1 : ds = cellsTo cellI (rows.take (k + 1)) := by rw [cellsTo_next cellI hk, h5, h2, ← hrk, ← hps, List.take_length]
    have e2 : (ps.length : Int) = ((wideOf (rows.take (k + 1)) : Nat) : Int) := by rw [wideOf_next hk, ← hrk, ← hps]
    repeat first | refine Ua ?_ | refine Ub ?_ | refine Uc ?_ | refine Ud ?_ | refine Ue ?_ | refine Ug ⟨by kernel_rfl, ?_⟩ | refine Ug ?_ | refine Uh ?_ | refine Ui ?_ | refine Uj ?_ | refine Uk rfl ?_ | refine Ul rfl ?_ | refine Um ?_ | refine Un ?_ | refine Uo ?_ | refine Up rfl ?_ | refine Uq ?_ | refine Ur ?_ | refine Us ?_ | refine Ut ?_ | refine Uu ?_ | refine Ux ?_ | refine Uv rfl rfl rfl rfl ?_ | refine Uw rfl rfl rfl ?_ | refine U0 (by first | exact x0 | exact z0 | fail) ?_ | refine U1 (by first | exact x1 | exact z1 | fail) ?_ | refine U9 zs ?_
    refine round_next ((k + 1, (ps.length : Int), ds)) (⟨hk, e1, e2⟩) ((by show rows.length - (k + 1) < rows.length - k; omega)) (Lw (ρ := []))
  have hk : k = rows.length := by simp at hb; omega
  subst hk
  have hP : parseF cellI s = ⟨W, (rows.length : Int), cs⟩ := by
    rw [parseF, ← hrows, h2, h3, List.take_length]
  have hll : (⟨W, (rows.length : Int), cs⟩ : PHall).cells.length ≤ lim := by have := lim_eq; show cs.length ≤ lim; omega
  have hll2 : cs.length ≤ 1073741824 := by omega
  have hV := hallValid_fn ⟨W, (rows.length : Int), cs⟩ hll
  have hT := hallText_fn ⟨W, (rows.length : Int), cs⟩ hll
  by_cases hI : IsText ⟨W, (rows.length : Int), cs⟩ s
  · rw [readF_is hI]
    rw [hI.1] at hV
    rw [hI.2] at hT
    repeat first | refine Ua ?_ | refine Ub ?_ | refine Uc ?_ | refine Ud ?_ | refine Ue ?_ | refine Ug ⟨by kernel_rfl, ?_⟩ | refine Ug ?_ | refine Uh ?_ | refine Ui ?_ | refine Uj ?_ | refine Uk rfl ?_ | refine Ul rfl ?_ | refine Um ?_ | refine Un ?_ | refine Uo ?_ | refine Up rfl ?_ | refine Uq ?_ | refine Ur ?_ | refine Us ?_ | refine Ut ?_ | refine Uu ?_ | refine Ux ?_ | refine Af (h := ?_) | refine At (h := ?_) | refine Uv rfl rfl rfl rfl ?_ | refine Uw rfl rfl rfl ?_ | refine U0 (by first | (apply st_call (hfn := hV ); exact rfl; exact fz) | (apply st_call (hfn := hT ); exact rfl; exact fz) | exact x0 | exact z0 | fail) ?_ | refine U1 (by first | exact x1 | exact z1 | fail) ?_ | refine U9 zs ?_ | refine Kf (h := ?_) | refine Kt (h := ?_)
    exact ⟨.inl rfl, Rx⟩
  · rw [readF_not cellI_good (by rw [hP]; exact hI)]
    cases hv : validB ⟨W, (rows.length : Int), cs⟩
    · rw [hv] at hV
      repeat first | refine Ua ?_ | refine Ub ?_ | refine Uc ?_ | refine Ud ?_ | refine Ue ?_ | refine Ug ⟨by kernel_rfl, ?_⟩ | refine Ug ?_ | refine Uh ?_ | refine Ui ?_ | refine Uj ?_ | refine Uk rfl ?_ | refine Ul rfl ?_ | refine Um ?_ | refine Un ?_ | refine Uo ?_ | refine Up rfl ?_ | refine Uq ?_ | refine Ur ?_ | refine Us ?_ | refine Ut ?_ | refine Uu ?_ | refine Ux ?_ | refine Af (h := ?_) | refine At (h := ?_) | refine Uv rfl rfl rfl rfl ?_ | refine Uw rfl rfl rfl ?_ | refine U0 (by first | (apply st_call (hfn := hV ); exact rfl; exact fz) | (apply st_call (hfn := hT ); exact rfl; exact fz) | exact x0 | exact z0 | fail) ?_ | refine U1 (by first | exact x1 | exact z1 | fail) ?_ | refine U9 zs ?_ | refine Kf (h := ?_) | refine Kt (h := ?_)
      exact ⟨.inl rfl, Rx⟩
    · rw [hv] at hV
      have hne : textF ⟨W, (rows.length : Int), cs⟩ ≠ ⟨s.toArray⟩ := fun e => hI ⟨hv, e⟩
      repeat first | refine Ua ?_ | refine Ub ?_ | refine Uc ?_ | refine Ud ?_ | refine Ue ?_ | refine Ug ⟨by kernel_rfl, ?_⟩ | refine Ug ?_ | refine Uh ?_ | refine Ui ?_ | refine Uj ?_ | refine Uk rfl ?_ | refine Ul rfl ?_ | refine Um ?_ | refine Un ?_ | refine Uo ?_ | refine Up rfl ?_ | refine Uq ?_ | refine Ur ?_ | refine Us ?_ | refine Ut ?_ | refine Uu ?_ | refine Ux ?_ | refine Af (h := ?_) | refine At (h := ?_) | refine Uv rfl rfl rfl rfl ?_ | refine Uw rfl rfl rfl ?_ | refine U0 (by first | (apply st_call (hfn := hV ); exact rfl; exact fz) | (apply st_call (hfn := hT ); exact rfl; exact fz) | (apply st_sneq; iterate 3 exact rfl) | exact x0 | exact z0 | fail) ?_ | refine U1 (by first | exact x1 | exact z1 | fail) ?_ | refine U9 zs ?_ | refine Kf (h := ?_) | refine Kt (h := ?_)
      exact ⟨.inl rfl, Rx⟩
end Go.Proofs.YtnfjmcenjpoloaaDoor
