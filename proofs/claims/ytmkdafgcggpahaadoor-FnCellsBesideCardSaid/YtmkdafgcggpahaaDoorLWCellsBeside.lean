/-
  Proved: FnCellsBeside returns true for every argument, and its argument reads afterwards as it read before (the card). No condition.
-/
import Derived.Test.YtmkdafgcggpahaaDoorRow3
import Derived.Test.YtmkdafgcggpahaaDoorMain
import Derived.Test.YtmkdafgcggpahaaDoorW4
import Derived.Laws.StructEq
import Derived.ChangeKeysEq
set_option linter.unusedVariables false
set_option linter.unusedSimpArgs false
set_option maxRecDepth 100000
namespace Go.Proofs.YtmkdafgcggpahaaDoor
open Go Go.RowKit Go.Park Go.Sym
open Go.ChangeShapes Go.WideShapes Go.ChangeAt

/-! slides compared -/
theorem slide_eqIn (w : World) (a b c d : Int) : (Op.equalIn 10000 38 (.agg #[.int .i64 a, .int .i64 b]) (.agg #[.int .i64 c, .int .i64 d])).run Tryd.prog w = .ok (decide (a = c ∧ b = d)) w := by
  have h1 : (Tryd.prog).underlying 38 = some (.struct ((Tryd.prog).fieldsOf 38)) := by kernel_rfl
  have h2 : (Tryd.prog).stoodInHeld 38 = false := by kernel_rfl
  have h3 : ((Tryd.prog).fieldsOf 38).toList.map (fun f => (f.name == "_", f.type, f.offset)) = [(false, 3, 0), (false, 3, 1)] := by kernel_rfl
  obtain ⟨l, hl⟩ : ∃ l, l = ((Tryd.prog).fieldsOf 38).toList := ⟨_, rfl⟩
  rw [← hl] at h3
  have h5 : (Tryd.prog).underlying 3 = some (.int .i64) := by kernel_rfl
  have h6 : (Tryd.prog).plainKey 3 = true := by kernel_rfl
  rw [run_equalIn_struct w 9999 _ _ _ h1 h2, ← hl]
  match l, h3 with
  | [f, g], h3 =>
    simp only [List.map_cons, List.map_nil, List.cons.injEq, Prod.mk.injEq, and_true, beq_eq_false_iff_ne] at h3
    obtain ⟨⟨n1, t1, o1⟩, n2, t2, o2⟩ := h3
    have p0 : ∀ (u v : Int) (w : World), (part 3 #[.int .i64 u, .int .i64 v] 0).run Tryd.prog w = .ok (.int .i64 u) w := fun u v w => run_part_plain w h6 rfl
    have p1 : ∀ (u v : Int) (w : World), (part 3 #[.int .i64 u, .int .i64 v] 1).run Tryd.prog w = .ok (.int .i64 v) w := fun u v w => run_part_plain w h6 rfl
    simp only [Op.eqFields, if_pos n1, if_pos n2, t1, t2, o1, o2, Sem.run_bind, p0, p1, Result.andThen_ok, run_equalIn_int w 9998 3 .i64 .i64 _ _ h5, Sem.run_ite, Sem.run_pure]
    by_cases e1 : a = c <;> by_cases e2 : b = d <;> simp [e1, e2]
section
variable {nt : Nat} {E : List (Nat × AV)} {H : Hp} {dst : Option Nat} {ty : Nat} {pos : String} {aft : Array Edge} {gd : Option (Nat × Bool)}
theorem slide_rel {cx : Cx} {a b : Int} {v : Value} (h : relV cx (.agg [.int a, .int b]) v) : v = .agg #[.int .i64 a, .int .i64 b] := by
  rw [relV] at h
  obtain ⟨vs, rfl, h⟩ := h
  rw [relL] at h
  obtain ⟨u0, us0, rfl, h0, h⟩ := h
  rw [relL] at h
  obtain ⟨u1, us1, rfl, h1, h⟩ := h
  rw [relL] at h
  rw [relV] at h0 h1
  subst h h0 h1
  rfl
theorem st_lf0 {P : Program} {T : List (Nat × TyI)} (hT : TabOk P T) {t : Nat} {x : Operand} {i : TyI} {r k o : Nat} {row : Row} {l : List (Int × Int)} (hd : dstOk nt dst = true) (hx : (mkS E H).ev x = .ptr r k (o * 2 + 0)) (hr : (mkS E H).row r = some row) (hc : row.cs = slc l) (hv : row.ver = k) (ht : lkT T t = some i) (hg : i.agg = false) (ho : o < l.length) :
    Does P nt ⟨dst, .load t x, ty, pos, aft, gd⟩ ⟨fo x, [r]⟩ (.int (gs l o).1) [] (mkS E H) := by
  have := does_load (P := P) (ty := ty) (pos := pos) (aft := aft) (gd := gd) hT hd hx hr hv ht hg (by rw [hc, slc_length]; omega)
  rw [hc, Nat.add_zero, rd_slc0] at this
  exact this
theorem st_lf1 {P : Program} {T : List (Nat × TyI)} (hT : TabOk P T) {t : Nat} {x : Operand} {i : TyI} {r k o : Nat} {row : Row} {l : List (Int × Int)} (hd : dstOk nt dst = true) (hx : (mkS E H).ev x = .ptr r k (o * 2 + 1)) (hr : (mkS E H).row r = some row) (hc : row.cs = slc l) (hv : row.ver = k) (ht : lkT T t = some i) (hg : i.agg = false) (ho : o < l.length) :
    Does P nt ⟨dst, .load t x, ty, pos, aft, gd⟩ ⟨fo x, [r]⟩ (.int (gs l o).2) [] (mkS E H) := by
  have := does_load (P := P) (ty := ty) (pos := pos) (aft := aft) (gd := gd) hT hd hx hr hv ht hg (by rw [hc, slc_length]; omega)
  rw [hc, rd_slc1] at this
  exact this
theorem st_neqs {t' : Nat} {x y : Operand} {a b c d : Int} (hd : dstOk nt dst = true) (hx : (mkS E H).ev x = .agg [.int a, .int b]) (hy : (mkS E H).ev y = .agg [.int c, .int d]) :
    Does Tryd.prog nt ⟨dst, .binOp .neq 38 x y t', ty, pos, aft, gd⟩ ⟨fo x ++ fo y, []⟩ (.bool (!decide (a = c ∧ b = d))) [] (mkS E H) :=
  does_pure hd fun τ hag F φ Z a' w hF hS => by
    have e1 := ev_rel hag hS hx (by simp +contextual)
    have e2 := ev_rel hag hS hy (by simp +contextual)
    have hm : (Tryd.prog).eqGuardType (Tryd.prog).depth 38 = false := by kernel_rfl
    exact ⟨.bool (!decide (a = c ∧ b = d)), by simp [execOp, slide_rel e1, slide_rel e2, run_eqGuard_agg _ _ _ _ _ _ _ hm, run_neq_struct, slide_eqIn], by simp [relV]⟩
theorem st_eqls {t' : Nat} {x y : Operand} {a b c d : Int} (hd : dstOk nt dst = true) (hx : (mkS E H).ev x = .agg [.int a, .int b]) (hy : (mkS E H).ev y = .agg [.int c, .int d]) :
    Does Tryd.prog nt ⟨dst, .binOp .eql 38 x y t', ty, pos, aft, gd⟩ ⟨fo x ++ fo y, []⟩ (.bool (decide (a = c ∧ b = d))) [] (mkS E H) :=
  does_pure hd fun τ hag F φ Z a' w hF hS => by
    have e1 := ev_rel hag hS hx (by simp +contextual)
    have e2 := ev_rel hag hS hy (by simp +contextual)
    have hm : (Tryd.prog).eqGuardType (Tryd.prog).depth 38 = false := by kernel_rfl
    exact ⟨.bool (decide (a = c ∧ b = d)), by simp [execOp, slide_rel e1, slide_rel e2, run_eqGuard_agg _ _ _ _ _ _ _ hm, run_eql_struct, slide_eqIn], by simp [relV]⟩
theorem does_eqlb {P : Program} {T : List (Nat × TyI)} (hT : TabOk P T) {t t' : Nat} {i : TyI} {x y : Operand} {a b : Bool} (hd : dstOk nt dst = true) (ht : lkT T t = some i) (hu : i.u = .bool) (hx : (mkS E H).ev x = .bool a) (hy : (mkS E H).ev y = .bool b) :
    Does P nt ⟨dst, .binOp .eql t x y t', ty, pos, aft, gd⟩ ⟨fo x ++ fo y, []⟩ (.bool (a == b)) [] (mkS E H) :=
  does_pure hd fun τ hag F φ Z a' w hF hS => by
    obtain ⟨inf, d, hk⟩ := hT.known ht
    exact ⟨.bool (a == b), by simp [execOp, eqGuard, binOp, run_equal_bool _ _ _ _ (hk.bool hu), ev_v hag hS hx (by simp +contextual), ev_v hag hS hy (by simp +contextual)], by simp [relV]⟩
end
theorem gs_ext {a b : List (Int × Int)} (hl : a.length = b.length) (h : ∀ j, j < a.length → gs a j = gs b j) : a = b := by
  apply List.ext_getElem hl
  intro i h1 h2
  have := h i h1
  simpa [gs, List.getD, h1, h2] using this
set_option maxHeartbeats 1000000 in
theorem sameSlides_fn (a b : List (Int × Int)) (ha : a.length ≤ lim) (hb : b.length ≤ lim) : FnS Tryd.prog 34 [slcV a, slcV b] (.bool (decide (a = b))) := by
  have ha' : a.length ≤ 1073741824 := ha
  have hb' : b.length ≤ 1073741824 := hb
  refine fn_go2 tabOk Tryd.func34 rfl (by kernel_rfl) Tryd.ntmps34 Tryd.results34 (by decide) ?_
  repeat first | refine ax_seq ?_ | refine ax_next ?_ | refine rg_text ?_ | refine rg_any mixed ?_ | refine ax_block ?_ | refine rh_nil ⟨(by kernel_rfl), ?_⟩ | refine rh_nil ?_ | refine ax_ret ?_ | refine ax_skip ?_ | refine ax_exit ?_ | refine ax_true rfl ?_ | refine ax_false rfl ?_ | refine then_ret ?_ | refine then_exit ?_ | refine out_here ?_ | refine out_away rfl ?_ | refine out_normal ?_ | refine out_ret ?_ | refine round_exit ?_ | refine round_ret ?_ | refine meet_ret ?_ | refine meet_exit ?_ | (apply rh_no; iterate 4 exact rfl) | (apply rh_un; iterate 3 exact rfl) | (apply rh0; (case h => exact z0); (case hw => exact wt)) | (apply rh1; (case h => exact z1); (case hw => exact wt)) | (apply rhs; (case h => exact zs); (case hw => exact wt))
  refine ax_cond rfl (fun hl => ?_) (fun hl => ?_)
  · have hF : decide (a = b) = false := decide_eq_false (fun e => by subst e; simp at hl)
    repeat first | refine ax_seq ?_ | refine ax_next ?_ | refine rg_text ?_ | refine rg_any mixed ?_ | refine ax_block ?_ | refine rh_nil ⟨(by kernel_rfl), ?_⟩ | refine rh_nil ?_ | refine ax_ret ?_ | refine ax_skip ?_ | refine ax_exit ?_ | refine ax_true rfl ?_ | refine ax_false rfl ?_ | refine then_ret ?_ | refine then_exit ?_ | refine out_here ?_ | refine out_away rfl ?_ | refine out_normal ?_ | refine out_ret ?_ | refine round_exit ?_ | refine round_ret ?_ | refine meet_ret ?_ | refine meet_exit ?_ | (apply rh_no; iterate 4 exact rfl) | (apply rh_un; iterate 3 exact rfl) | (apply rh0; (case h => exact z0); (case hw => exact wt)) | (apply rh1; (case h => exact z1); (case hw => exact wt)) | (apply rhs; (case h => exact zs); (case hw => exact wt))
    refine ⟨.inl rfl, _, _, (by repeat first | exact .nil | apply ResL.cons | exact .tmp rfl | exact .agg rfl rfl rfl rfl rfl (Nat.le_of_ble_eq_true rfl) rfl | exact .cell rfl rfl rfl rfl rfl (Nat.le_of_ble_eq_true rfl) rfl), (by first | exact .one (by first | exact .one (.v (by first | rfl | (rw [hF]))) | exact .one (.own rfl rfl rfl rfl rfl rfl (by first | rfl | (rw [hF])) (by first | exact scal_ints _ | exact scal_slc _)) | exact .one (.nil (by decide) (by first | rfl | (rw [hF]))) | exact .agg (.cons (.v (by first | rfl | (rw [hF]))) (.cons (.v (by first | rfl | (rw [hF]))) (.cons (.own rfl rfl rfl rfl rfl rfl (by first | rfl | (rw [hF])) (scal_ints _)) .nil))) | exact .agg (.cons (.v (by first | rfl | (rw [hF]))) (.cons (.v (by first | rfl | (rw [hF]))) (.cons (.nil (by decide) (by first | rfl | (rw [hF]))) .nil))) | exact .agg (.cons (.v (by first | rfl | (rw [hF]))) (.cons (.v (by first | rfl | (rw [hF]))) .nil))) | exact .two (by repeat first | exact .nil | apply ExpL.cons | exact (by first | exact .one (.v (by first | rfl | (rw [hF]))) | exact .one (.own rfl rfl rfl rfl rfl rfl (by first | rfl | (rw [hF])) (by first | exact scal_ints _ | exact scal_slc _)) | exact .one (.nil (by decide) (by first | rfl | (rw [hF]))) | exact .agg (.cons (.v (by first | rfl | (rw [hF]))) (.cons (.v (by first | rfl | (rw [hF]))) (.cons (.own rfl rfl rfl rfl rfl rfl (by first | rfl | (rw [hF])) (scal_ints _)) .nil))) | exact .agg (.cons (.v (by first | rfl | (rw [hF]))) (.cons (.v (by first | rfl | (rw [hF]))) (.cons (.nil (by decide) (by first | rfl | (rw [hF]))) .nil))) | exact .agg (.cons (.v (by first | rfl | (rw [hF]))) (.cons (.v (by first | rfl | (rw [hF]))) .nil))))), (by decide)⟩
  have hlen : a.length = b.length := by
    have : (a.length : Int) = (b.length : Int) := by simpa using hl
    omega
  repeat first | refine ax_seq ?_ | refine ax_next ?_ | refine rg_text ?_ | refine rg_any mixed ?_ | refine ax_block ?_ | refine rh_nil ⟨(by kernel_rfl), ?_⟩ | refine rh_nil ?_ | refine ax_ret ?_ | refine ax_skip ?_ | refine ax_exit ?_ | refine ax_true rfl ?_ | refine ax_false rfl ?_ | refine then_ret ?_ | refine then_exit ?_ | refine out_here ?_ | refine out_away rfl ?_ | refine out_normal ?_ | refine out_ret ?_ | refine round_exit ?_ | refine round_ret ?_ | refine meet_ret ?_ | refine meet_exit ?_ | (apply rh_no; iterate 4 exact rfl) | (apply rh_un; iterate 3 exact rfl) | (apply rh0; (case h => exact z0); (case hw => exact wt)) | (apply rh1; (case h => exact z1); (case hw => exact wt)) | (apply rhs; (case h => exact zs); (case hw => exact wt))
  refine ax_loop (fun k : Nat => mkS [(5, .int (k : Int)), (0, slcV a), (1, slcV b)] ⟨1, []⟩) (fun k => k ≤ a.length ∧ ∀ j, j < k → gs a j = gs b j) (fun k => a.length - k) (0) (⟨Nat.zero_le _, fun j hj => by omega⟩) (weak_of [] (by repeat first | exact .nil | refine LeEs.cons ?_ ?_ | exact .v (by first | rfl | (rfl)) | exact .own rfl rfl rfl rfl rfl | exact .ptr rfl rfl rfl rfl rfl rfl | exact .nil rfl rfl rfl | exact .sl (by first | rfl | (rfl)) | exact .both rfl rfl | exact .frz rfl rfl rfl rfl rfl (by first | rfl | (rfl)) rfl | exact .any _) (by repeat first | exact .nil | refine LeHs.keep rfl ⟨rfl, rfl, rfl, .inl ⟨rfl, by first | rfl | (rfl)⟩⟩ ?_ | refine LeHs.keep rfl ⟨rfl, rfl, rfl, .inr ⟨(by first | exact .inl rfl | exact .inr rfl), by repeat first | exact .nil | refine LeVL.cons ?_ ?_ | exact .v (by first | rfl | (rfl)) | exact .own rfl rfl rfl rfl rfl | exact .sl (by first | rfl | (rfl)) | exact .both rfl rfl | exact .frz rfl rfl rfl rfl rfl (by first | rfl | (rfl)) rfl⟩⟩ ?_ | refine LeHs.fresh rfl rfl rfl (Nat.succ_pos _) rfl ?_) rfl rfl) ?_
  rintro k ⟨hk, hj⟩
  repeat first | refine ax_seq ?_ | refine ax_next ?_ | refine rg_text ?_ | refine rg_any mixed ?_ | refine ax_block ?_ | refine rh_nil ⟨(by kernel_rfl), ?_⟩ | refine rh_nil ?_ | refine ax_ret ?_ | refine ax_skip ?_ | refine ax_exit ?_ | refine ax_true rfl ?_ | refine ax_false rfl ?_ | refine then_ret ?_ | refine then_exit ?_ | refine out_here ?_ | refine out_away rfl ?_ | refine out_normal ?_ | refine out_ret ?_ | refine round_exit ?_ | refine round_ret ?_ | refine meet_ret ?_ | refine meet_exit ?_ | (apply rh_no; iterate 4 exact rfl) | (apply rh_un; iterate 3 exact rfl) | (apply rh0; (case h => exact z0); (case hw => exact wt)) | (apply rh1; (case h => exact z1); (case hw => exact wt)) | (apply rhs; (case h => exact zs); (case hw => exact wt))
  refine ax_cond rfl (fun h1 => ?_) (fun h1 => ?_)
  · have hlt : k < a.length := by simpa using h1
    repeat first | refine ax_seq ?_ | refine ax_next ?_ | refine rg_text ?_ | refine rg_any mixed ?_ | refine ax_block ?_ | refine rh_nil ⟨(by kernel_rfl), ?_⟩ | refine rh_nil ?_ | refine ax_ret ?_ | refine ax_skip ?_ | refine ax_exit ?_ | refine ax_true rfl ?_ | refine ax_false rfl ?_ | refine then_ret ?_ | refine then_exit ?_ | refine out_here ?_ | refine out_away rfl ?_ | refine out_normal ?_ | refine out_ret ?_ | refine round_exit ?_ | refine round_ret ?_ | refine meet_ret ?_ | refine meet_exit ?_ | (apply rh_no; iterate 4 exact rfl) | (apply rh_un; iterate 3 exact rfl) | (apply rh0; (case h => first | (apply st_neqs; iterate 3 exact rfl) | exact z0); (case hw => exact wt)) | (apply rh1; (case h => exact z1); (case hw => exact wt)) | (apply rhs; (case h => exact zs); (case hw => exact wt))
    refine ax_cond rfl (fun h2 => ?_) (fun h2 => ?_)
    · have hF : decide (a = b) = false := decide_eq_false (fun e => by subst e; simp at h2)
      repeat first | refine ax_seq ?_ | refine ax_next ?_ | refine rg_text ?_ | refine rg_any mixed ?_ | refine ax_block ?_ | refine rh_nil ⟨(by kernel_rfl), ?_⟩ | refine rh_nil ?_ | refine ax_ret ?_ | refine ax_skip ?_ | refine ax_exit ?_ | refine ax_true rfl ?_ | refine ax_false rfl ?_ | refine then_ret ?_ | refine then_exit ?_ | refine out_here ?_ | refine out_away rfl ?_ | refine out_normal ?_ | refine out_ret ?_ | refine round_exit ?_ | refine round_ret ?_ | refine meet_ret ?_ | refine meet_exit ?_ | (apply rh_no; iterate 4 exact rfl) | (apply rh_un; iterate 3 exact rfl) | (apply rh0; (case h => exact z0); (case hw => exact wt)) | (apply rh1; (case h => exact z1); (case hw => exact wt)) | (apply rhs; (case h => exact zs); (case hw => exact wt))
      refine ⟨.inl rfl, _, _, (by repeat first | exact .nil | apply ResL.cons | exact .tmp rfl | exact .agg rfl rfl rfl rfl rfl (Nat.le_of_ble_eq_true rfl) rfl | exact .cell rfl rfl rfl rfl rfl (Nat.le_of_ble_eq_true rfl) rfl), (by first | exact .one (by first | exact .one (.v (by first | rfl | (rw [hF]))) | exact .one (.own rfl rfl rfl rfl rfl rfl (by first | rfl | (rw [hF])) (by first | exact scal_ints _ | exact scal_slc _)) | exact .one (.nil (by decide) (by first | rfl | (rw [hF]))) | exact .agg (.cons (.v (by first | rfl | (rw [hF]))) (.cons (.v (by first | rfl | (rw [hF]))) (.cons (.own rfl rfl rfl rfl rfl rfl (by first | rfl | (rw [hF])) (scal_ints _)) .nil))) | exact .agg (.cons (.v (by first | rfl | (rw [hF]))) (.cons (.v (by first | rfl | (rw [hF]))) (.cons (.nil (by decide) (by first | rfl | (rw [hF]))) .nil))) | exact .agg (.cons (.v (by first | rfl | (rw [hF]))) (.cons (.v (by first | rfl | (rw [hF]))) .nil))) | exact .two (by repeat first | exact .nil | apply ExpL.cons | exact (by first | exact .one (.v (by first | rfl | (rw [hF]))) | exact .one (.own rfl rfl rfl rfl rfl rfl (by first | rfl | (rw [hF])) (by first | exact scal_ints _ | exact scal_slc _)) | exact .one (.nil (by decide) (by first | rfl | (rw [hF]))) | exact .agg (.cons (.v (by first | rfl | (rw [hF]))) (.cons (.v (by first | rfl | (rw [hF]))) (.cons (.own rfl rfl rfl rfl rfl rfl (by first | rfl | (rw [hF])) (scal_ints _)) .nil))) | exact .agg (.cons (.v (by first | rfl | (rw [hF]))) (.cons (.v (by first | rfl | (rw [hF]))) (.cons (.nil (by decide) (by first | rfl | (rw [hF]))) .nil))) | exact .agg (.cons (.v (by first | rfl | (rw [hF]))) (.cons (.v (by first | rfl | (rw [hF]))) .nil))))), (by decide)⟩
    · have he : gs a k = gs b k := Prod.ext (by simp at h2; exact h2.1) (by simp at h2; exact h2.2)
      repeat first | refine ax_seq ?_ | refine ax_next ?_ | refine rg_text ?_ | refine rg_any mixed ?_ | refine ax_block ?_ | refine rh_nil ⟨(by kernel_rfl), ?_⟩ | refine rh_nil ?_ | refine ax_ret ?_ | refine ax_skip ?_ | refine ax_exit ?_ | refine ax_true rfl ?_ | refine ax_false rfl ?_ | refine then_ret ?_ | refine then_exit ?_ | refine out_here ?_ | refine out_away rfl ?_ | refine out_normal ?_ | refine out_ret ?_ | refine round_exit ?_ | refine round_ret ?_ | refine meet_ret ?_ | refine meet_exit ?_ | (apply rh_no; iterate 4 exact rfl) | (apply rh_un; iterate 3 exact rfl) | (apply rh0; (case h => exact z0); (case hw => exact wt)) | (apply rh1; (case h => exact z1); (case hw => exact wt)) | (apply rhs; (case h => exact zs); (case hw => exact wt))
      refine round_next (k + 1) (⟨hlt, fun j hj' => by by_cases e : j = k; (subst e; exact he); exact hj j (by omega)⟩) (by omega) (weak_of [] (by repeat first | exact .nil | refine LeEs.cons ?_ ?_ | exact .v (by first | rfl | (rfl)) | exact .own rfl rfl rfl rfl rfl | exact .ptr rfl rfl rfl rfl rfl rfl | exact .nil rfl rfl rfl | exact .sl (by first | rfl | (rfl)) | exact .both rfl rfl | exact .frz rfl rfl rfl rfl rfl (by first | rfl | (rfl)) rfl | exact .any _) (by repeat first | exact .nil | refine LeHs.keep rfl ⟨rfl, rfl, rfl, .inl ⟨rfl, by first | rfl | (rfl)⟩⟩ ?_ | refine LeHs.keep rfl ⟨rfl, rfl, rfl, .inr ⟨(by first | exact .inl rfl | exact .inr rfl), by repeat first | exact .nil | refine LeVL.cons ?_ ?_ | exact .v (by first | rfl | (rfl)) | exact .own rfl rfl rfl rfl rfl | exact .sl (by first | rfl | (rfl)) | exact .both rfl rfl | exact .frz rfl rfl rfl rfl rfl (by first | rfl | (rfl)) rfl⟩⟩ ?_ | refine LeHs.fresh rfl rfl rfl (Nat.succ_pos _) rfl ?_) rfl rfl)
  · have hkn : k = a.length := by simp at h1; omega
    have hF : decide (a = b) = true := decide_eq_true (gs_ext hlen (fun j hj' => hj j (by omega)))
    repeat first | refine ax_seq ?_ | refine ax_next ?_ | refine rg_text ?_ | refine rg_any mixed ?_ | refine ax_block ?_ | refine rh_nil ⟨(by kernel_rfl), ?_⟩ | refine rh_nil ?_ | refine ax_ret ?_ | refine ax_skip ?_ | refine ax_exit ?_ | refine ax_true rfl ?_ | refine ax_false rfl ?_ | refine then_ret ?_ | refine then_exit ?_ | refine out_here ?_ | refine out_away rfl ?_ | refine out_normal ?_ | refine out_ret ?_ | refine round_exit ?_ | refine round_ret ?_ | refine meet_ret ?_ | refine meet_exit ?_ | (apply rh_no; iterate 4 exact rfl) | (apply rh_un; iterate 3 exact rfl) | (apply rh0; (case h => exact z0); (case hw => exact wt)) | (apply rh1; (case h => exact z1); (case hw => exact wt)) | (apply rhs; (case h => exact zs); (case hw => exact wt))
    refine ⟨.inl rfl, _, _, (by repeat first | exact .nil | apply ResL.cons | exact .tmp rfl | exact .agg rfl rfl rfl rfl rfl (Nat.le_of_ble_eq_true rfl) rfl | exact .cell rfl rfl rfl rfl rfl (Nat.le_of_ble_eq_true rfl) rfl), (by first | exact .one (by first | exact .one (.v (by first | rfl | (rw [hF]))) | exact .one (.own rfl rfl rfl rfl rfl rfl (by first | rfl | (rw [hF])) (by first | exact scal_ints _ | exact scal_slc _)) | exact .one (.nil (by decide) (by first | rfl | (rw [hF]))) | exact .agg (.cons (.v (by first | rfl | (rw [hF]))) (.cons (.v (by first | rfl | (rw [hF]))) (.cons (.own rfl rfl rfl rfl rfl rfl (by first | rfl | (rw [hF])) (scal_ints _)) .nil))) | exact .agg (.cons (.v (by first | rfl | (rw [hF]))) (.cons (.v (by first | rfl | (rw [hF]))) (.cons (.nil (by decide) (by first | rfl | (rw [hF]))) .nil))) | exact .agg (.cons (.v (by first | rfl | (rw [hF]))) (.cons (.v (by first | rfl | (rw [hF]))) .nil))) | exact .two (by repeat first | exact .nil | apply ExpL.cons | exact (by first | exact .one (.v (by first | rfl | (rw [hF]))) | exact .one (.own rfl rfl rfl rfl rfl rfl (by first | rfl | (rw [hF])) (by first | exact scal_ints _ | exact scal_slc _)) | exact .one (.nil (by decide) (by first | rfl | (rw [hF]))) | exact .agg (.cons (.v (by first | rfl | (rw [hF]))) (.cons (.v (by first | rfl | (rw [hF]))) (.cons (.own rfl rfl rfl rfl rfl rfl (by first | rfl | (rw [hF])) (scal_ints _)) .nil))) | exact .agg (.cons (.v (by first | rfl | (rw [hF]))) (.cons (.v (by first | rfl | (rw [hF]))) (.cons (.nil (by decide) (by first | rfl | (rw [hF]))) .nil))) | exact .agg (.cons (.v (by first | rfl | (rw [hF]))) (.cons (.v (by first | rfl | (rw [hF]))) .nil))))), (by decide)⟩
def anyTo (p : Nat → Bool) : Nat → Bool
  | 0 => false
  | k+1 => anyTo p k || p k
theorem anyTo_iff {p : Nat → Bool} : ∀ {n : Nat}, anyTo p n = true ↔ ∃ j, j < n ∧ p j = true
  | 0 => by simp [anyTo]
  | n+1 => by
    rw [anyTo, Bool.or_eq_true, anyTo_iff]
    constructor
    · rintro (⟨j, h1, h2⟩ | h2)
      · exact ⟨j, by omega, h2⟩
      · exact ⟨n, by omega, h2⟩
    · rintro ⟨j, h1, h2⟩
      by_cases e : j = n
      · subst e; exact .inr h2
      · exact .inl ⟨j, by omega, h2⟩
def besW (w : Int) (n : Nat) (c : Int) : List Int := selTo (fun j => decide (apartF w c j = 1)) n
/-- of all cells of a shape: 2 to 4 beside, one of them nearer to any other cell -/
def besChk (w : Int) (n : Nat) : Bool :=
  (List.range n).all fun c => (2 ≤ (besW w n c).length && (besW w n c).length ≤ 4) && (List.range n).all fun f => f == c || (besW w n c).any fun x => decide (apartF w f x = apartF w f c - 1)
theorem besChk_all : (besChk 2 4 && besChk 2 6 && (besChk 3 6 && besChk 3 9) && (besChk 4 8 && besChk 4 12)) = true := by kernel_rfl
theorem bes_shape {w d : Int} {n : Nat} (hw : 2 ≤ w ∧ w ≤ 4) (hd : 2 ≤ d ∧ d ≤ 3) (hn : (n : Int) = w * d) : besChk w n = true := by
  have h := besChk_all
  simp only [Bool.and_eq_true] at h
  obtain ⟨⟨⟨h1, h2⟩, h3, h4⟩, h5, h6⟩ := h
  obtain rfl | rfl | rfl : w = 2 ∨ w = 3 ∨ w = 4 := by omega
  all_goals (obtain rfl | rfl : d = 2 ∨ d = 3 := by omega)
  · obtain rfl : n = 4 := by omega
    exact h1
  · obtain rfl : n = 6 := by omega
    exact h2
  · obtain rfl : n = 6 := by omega
    exact h3
  · obtain rfl : n = 9 := by omega
    exact h4
  · obtain rfl : n = 8 := by omega
    exact h5
  · obtain rfl : n = 12 := by omega
    exact h6
theorem bes_facts {w : Int} {n : Nat} (h : besChk w n = true) {c : Nat} (hc : c < n) : (2 ≤ (besW w n c).length ∧ (besW w n c).length ≤ 4) ∧ ∀ f, f < n → f ≠ c → ∃ j, j < (besW w n c).length ∧ apartF w f (gi (besW w n c) j) = apartF w f c - 1 := by
  unfold besChk at h
  have h1 := List.all_eq_true.1 h c (List.mem_range.2 hc)
  simp only [Bool.and_eq_true, decide_eq_true_eq] at h1
  refine ⟨h1.1, fun f hf hfc => ?_⟩
  have h2 := List.all_eq_true.1 h1.2 f (List.mem_range.2 hf)
  simp only [Bool.or_eq_true, beq_iff_eq, List.any_eq_true, decide_eq_true_eq] at h2
  rcases h2 with h2 | ⟨x, hx, e⟩
  · exact absurd h2 hfc
  · obtain ⟨j, hj, rfl⟩ := mem_gi.1 hx
    exact ⟨j, hj, e⟩
theorem bes_of {h : PHall} {c : Int} (hv : validB h = true) (hc : hasCellB h c = true) : besideF h c = besW h.wide h.cells.length c := by
  unfold besideF besW; rw [if_pos ⟨hv, hc⟩]
theorem bes_at {w : Int} {n : Nat} {c : Int} {k : Nat} (hk : k < (besW w n c).length) : ∃ j : Nat, j < n ∧ gi (besW w n c) k = j ∧ apartF w c j = 1 := by
  have hm : gi (besW w n c) k ∈ besW w n c := by rw [gi_of_lt' hk]; exact List.getElem_mem hk
  obtain ⟨j, h1, h2, h3⟩ := selTo_mem.1 hm
  exact ⟨j, h1, h3, by simpa using h2⟩
theorem farF_nonneg (x y : Int) : 0 ≤ farF x y := by unfold farF; omega
theorem apartF_nonneg (w a b : Int) : 0 ≤ apartF w a b := by
  have := farF_nonneg (a % w) (b % w); have := farF_nonneg (a / w) (b / w)
  unfold apartF; omega
theorem apartF_le {w a b : Int} (hw : 2 ≤ w ∧ w ≤ 4) (ha : 0 ≤ a ∧ a < 13) (hb : 0 ≤ b ∧ b < 13) : apartF w a b ≤ 24 := by
  unfold apartF farF
  obtain rfl | rfl | rfl : w = 2 ∨ w = 3 ∨ w = 4 := by omega
  all_goals omega
theorem apartAt_of {h : PHall} {a b : Int} (hv : validB h = true) (ha : hasCellB h a = true) (hb : hasCellB h b = true) : apartAt h a b = apartF h.wide a b := by unfold apartAt; rw [if_pos ⟨hv, ha, hb⟩]
set_option maxHeartbeats 8000000 in
theorem fnCellsBeside_fn (v0 : Value) (bs : List Int) (hB : OkB bs) : FnS Tryd.prog 9 [codeV v0 bs] (.bool true) := by
  obtain ⟨⟨h, c⟩, g1, hH⟩ := drawCellsBeside_fn v0 bs hB
  dsimp only at g1 hH
  have hlim := lim_eq
  have hl : h.cells.length ≤ lim := by omega
  have hP := cellsBeside_fn h hl c
  have hP2 := specCellsBeside_fn h hl c
  by_cases hc : validB h = true ∧ hasCellB h c = true
  · obtain ⟨hv, hc⟩ := hc
    have hs := (valid_iff.1 hv).1
    have hl12 := (valid_len hv).2
    have hcr := hasCell_iff.1 hc
    obtain ⟨C, rfl⟩ : ∃ C : Nat, c = C := ⟨c.toNat, by omega⟩
    have hC : C < h.cells.length := by omega
    obtain ⟨⟨f1, f2⟩, f3⟩ := bes_facts (bes_shape hs.1 hs.2.1 hs.2.2) hC
    have hat := fun k hk => bes_at (w := h.wide) (n := h.cells.length) (c := C) (k := k) hk
    have hup : upB (besW h.wide h.cells.length C) = true := upB_iff.2 (selTo_sorted _ _)
    rw [bes_of hv hc] at hP hP2
    obtain ⟨L, hL⟩ : ∃ L, L = besW h.wide h.cells.length C := ⟨_, rfl⟩
    rw [← hL] at hP hP2 f1 f2 f3 hat hup
    have hS := sameInts_fn L L (by omega) (by omega)
    rw [decide_eq_true rfl] at hS
    have hA := ascend_fn L (by omega)
    rw [hup] at hA
    refine fn_go1 tabOk Tryd.func9 rfl (by kernel_rfl) Tryd.ntmps9 Tryd.results9 (by decide) ?_
    repeat first | refine ax_seq ?_ | refine ax_next ?_ | refine rg_text ?_ | refine rg_any mixed ?_ | refine ax_block ?_ | refine rh_nil ⟨(by kernel_rfl), ?_⟩ | refine rh_nil ?_ | refine ax_ret ?_ | refine ax_skip ?_ | refine ax_exit ?_ | refine ax_true rfl ?_ | refine ax_false rfl ?_ | refine then_ret ?_ | refine then_exit ?_ | refine out_here ?_ | refine out_away rfl ?_ | refine out_normal ?_ | refine out_ret ?_ | refine round_exit ?_ | refine round_ret ?_ | refine meet_ret ?_ | refine meet_exit ?_ | (apply rh_no; iterate 4 exact rfl) | (apply rh_un; iterate 3 exact rfl) | (apply rh0; (case h => exact z0); (case hw => exact wt)) | (apply rh1; (case h => exact z1); (case hw => exact wt)) | (apply rhs; (case h => exact zs); (case hw => exact wt))
    refine ax_cond rfl (fun hb0 => ?_) (fun hb0 => ?_)
    · repeat first | refine ax_seq ?_ | refine ax_next ?_ | refine rg_text ?_ | refine rg_any mixed ?_ | refine ax_block ?_ | refine rh_nil ⟨(by kernel_rfl), ?_⟩ | refine rh_nil ?_ | refine ax_ret ?_ | refine ax_skip ?_ | refine ax_exit ?_ | refine ax_true rfl ?_ | refine ax_false rfl ?_ | refine then_ret ?_ | refine then_exit ?_ | refine out_here ?_ | refine out_away rfl ?_ | refine out_normal ?_ | refine out_ret ?_ | refine round_exit ?_ | refine round_ret ?_ | refine meet_ret ?_ | refine meet_exit ?_ | (apply rh_no; iterate 4 exact rfl) | (apply rh_un; iterate 3 exact rfl) | (apply rh0; (case h => exact z0); (case hw => exact wt)) | (apply rh1; (case h => exact z1); (case hw => exact wt)) | (apply rhs; (case h => exact zs); (case hw => exact wt))
      refine ⟨.inl rfl, _, _, (by repeat first | exact .nil | apply ResL.cons | exact .tmp rfl | exact .agg rfl rfl rfl rfl rfl (Nat.le_of_ble_eq_true rfl) rfl | exact .cell rfl rfl rfl rfl rfl (Nat.le_of_ble_eq_true rfl) rfl), (by first | exact .one (by first | exact .one (.v rfl) | exact .one (.own rfl rfl rfl rfl rfl rfl rfl (by first | exact scal_ints _ | exact scal_slc _)) | exact .one (.nil (by decide) rfl) | exact .agg (.cons (.v rfl) (.cons (.v rfl) (.cons (.own rfl rfl rfl rfl rfl rfl rfl (scal_ints _)) .nil))) | exact .agg (.cons (.v rfl) (.cons (.v rfl) (.cons (.nil (by decide) rfl) .nil))) | exact .agg (.cons (.v rfl) (.cons (.v rfl) .nil))) | exact .two (by repeat first | exact .nil | apply ExpL.cons | exact (by first | exact .one (.v rfl) | exact .one (.own rfl rfl rfl rfl rfl rfl rfl (by first | exact scal_ints _ | exact scal_slc _)) | exact .one (.nil (by decide) rfl) | exact .agg (.cons (.v rfl) (.cons (.v rfl) (.cons (.own rfl rfl rfl rfl rfl rfl rfl (scal_ints _)) .nil))) | exact .agg (.cons (.v rfl) (.cons (.v rfl) (.cons (.nil (by decide) rfl) .nil))) | exact .agg (.cons (.v rfl) (.cons (.v rfl) .nil))))), (by decide)⟩
    repeat first | refine ax_seq ?_ | refine ax_next ?_ | refine rg_text ?_ | refine rg_any mixed ?_ | refine ax_block ?_ | refine rh_nil ⟨(by kernel_rfl), ?_⟩ | refine rh_nil ?_ | refine ax_ret ?_ | refine ax_skip ?_ | refine ax_exit ?_ | refine ax_true rfl ?_ | refine ax_false rfl ?_ | refine then_ret ?_ | refine then_exit ?_ | refine out_here ?_ | refine out_away rfl ?_ | refine out_normal ?_ | refine out_ret ?_ | refine round_exit ?_ | refine round_ret ?_ | refine meet_ret ?_ | refine meet_exit ?_ | refine Af (h := ?_) | refine At (h := ?_) | (apply rh_no; iterate 4 exact rfl) | (apply rh_un; iterate 3 exact rfl) | (apply rh0; (case h => first | (apply st_call (hfn := hS ); exact rfl; exact fz) | exact z0); (case hw => exact wt)) | (apply rh1; (case h => first | (apply st_call_hv (hfn := hH ); exact rfl; exact fz; iterate 2 exact rfl) | (apply st_call_s (hfn := hP ); exact rfl; exact fz; iterate 2 exact rfl) | (apply st_call_s (hfn := hP2 ); exact rfl; exact fz; iterate 2 exact rfl) | exact z1); (case hw => exact wt)) | (apply rhs; (case h => exact zs); (case hw => exact wt)) | refine Kf (h := ?_) | refine Kt (h := ?_)
    refine ax_loop (fun k : Nat => mkS [(6, .int (k : Int)), (5, .own 3 0), (4, .int (C : Int)), (3, .ptr 2 0 0)] ⟨5, [(1, some (intsRow h.cells)), (2, some (boxRow h.wide h.deep 1 0)), (3, some (intsRow L))]⟩) (fun k => k ≤ L.length) (fun k => L.length - k) (0) (Nat.zero_le _) (weak_of [] (by repeat first | exact .nil | refine LeEs.cons ?_ ?_ | exact .v (by first | rfl | (rfl)) | exact .own rfl rfl rfl rfl rfl | exact .ptr rfl rfl rfl rfl rfl rfl | exact .nil rfl rfl rfl | exact .sl (by first | rfl | (rfl)) | exact .both rfl rfl | exact .frz rfl rfl rfl rfl rfl (by first | rfl | (rfl)) rfl | exact .any _) (by repeat first | exact .nil | refine LeHs.keep rfl ⟨rfl, rfl, rfl, .inl ⟨rfl, by first | rfl | (rfl)⟩⟩ ?_ | refine LeHs.keep rfl ⟨rfl, rfl, rfl, .inr ⟨(by first | exact .inl rfl | exact .inr rfl), by repeat first | exact .nil | refine LeVL.cons ?_ ?_ | exact .v (by first | rfl | (rfl)) | exact .own rfl rfl rfl rfl rfl | exact .sl (by first | rfl | (rfl)) | exact .both rfl rfl | exact .frz rfl rfl rfl rfl rfl (by first | rfl | (rfl)) rfl⟩⟩ ?_ | refine LeHs.fresh rfl rfl rfl (Nat.succ_pos _) rfl ?_) rfl rfl) ?_
    intro k hk
    repeat first | refine ax_seq ?_ | refine ax_next ?_ | refine rg_text ?_ | refine rg_any mixed ?_ | refine ax_block ?_ | refine rh_nil ⟨(by kernel_rfl), ?_⟩ | refine rh_nil ?_ | refine ax_ret ?_ | refine ax_skip ?_ | refine ax_exit ?_ | refine ax_true rfl ?_ | refine ax_false rfl ?_ | refine then_ret ?_ | refine then_exit ?_ | refine out_here ?_ | refine out_away rfl ?_ | refine out_normal ?_ | refine out_ret ?_ | refine round_exit ?_ | refine round_ret ?_ | refine meet_ret ?_ | refine meet_exit ?_ | (apply rh_no; iterate 4 exact rfl) | (apply rh_un; iterate 3 exact rfl) | (apply rh0; (case h => exact z0); (case hw => exact wt)) | (apply rh1; (case h => exact z1); (case hw => exact wt)) | (apply rhs; (case h => exact zs); (case hw => exact wt))
    refine ax_cond rfl (fun hb2 => ?_) (fun hb2 => ?_)
    · have hlt : k < L.length := by simpa using hb2
      obtain ⟨j, j1, j2, j3⟩ := hat k hlt
      have hcj : hasCellB h (gi L k) = true := by rw [j2]; exact hasCell_iff.2 (by omega)
      have hm : (C : Int) ∈ besideF h (gi L k) := by
        rw [bes_of hv hcj, j2]
        exact selTo_mem.2 ⟨C, hC, by rw [apartF_comm]; simp [j3], rfl⟩
      have hbl : (besideF h (gi L k)).length ≤ 12 := by
        have := selTo_length (fun j => decide (apartF h.wide (gi L k) j = 1)) h.cells.length
        rw [bes_of hv hcj]; unfold besW; omega
      have hI := hasInt_fn (besideF h (gi L k)) (by omega) C
      rw [decide_eq_true hm] at hI
      repeat first | refine ax_seq ?_ | refine ax_next ?_ | refine rg_text ?_ | refine rg_any mixed ?_ | refine ax_block ?_ | refine rh_nil ⟨(by kernel_rfl), ?_⟩ | refine rh_nil ?_ | refine ax_ret ?_ | refine ax_skip ?_ | refine ax_exit ?_ | refine ax_true rfl ?_ | refine ax_false rfl ?_ | refine then_ret ?_ | refine then_exit ?_ | refine out_here ?_ | refine out_away rfl ?_ | refine out_normal ?_ | refine out_ret ?_ | refine round_exit ?_ | refine round_ret ?_ | refine meet_ret ?_ | refine meet_exit ?_ | refine Af (h := ?_) | refine At (h := ?_) | (apply rh_no; iterate 4 exact rfl) | (apply rh_un; iterate 3 exact rfl) | (apply rh0; (case h => first | (apply st_call (hfn := hI ); exact rfl; exact fz) | exact z0); (case hw => exact wt)) | (apply rh1; (case h => first | (apply st_call_s (hfn := cellsBeside_fn h hl (gi L k) ); exact rfl; exact fz; iterate 2 exact rfl) | exact z1); (case hw => exact wt)) | (apply rhs; (case h => exact zs); (case hw => exact wt)) | refine Kf (h := ?_) | refine Kt (h := ?_)
      refine round_next (k + 1) (hlt) (by omega) (weak_of [] (by repeat first | exact .nil | refine LeEs.cons ?_ ?_ | exact .v (by first | rfl | (rfl)) | exact .own rfl rfl rfl rfl rfl | exact .ptr rfl rfl rfl rfl rfl rfl | exact .nil rfl rfl rfl | exact .sl (by first | rfl | (rfl)) | exact .both rfl rfl | exact .frz rfl rfl rfl rfl rfl (by first | rfl | (rfl)) rfl | exact .any _) (by repeat first | exact .nil | refine LeHs.keep rfl ⟨rfl, rfl, rfl, .inl ⟨rfl, by first | rfl | (rfl)⟩⟩ ?_ | refine LeHs.keep rfl ⟨rfl, rfl, rfl, .inr ⟨(by first | exact .inl rfl | exact .inr rfl), by repeat first | exact .nil | refine LeVL.cons ?_ ?_ | exact .v (by first | rfl | (rfl)) | exact .own rfl rfl rfl rfl rfl | exact .sl (by first | rfl | (rfl)) | exact .both rfl rfl | exact .frz rfl rfl rfl rfl rfl (by first | rfl | (rfl)) rfl⟩⟩ ?_ | refine LeHs.fresh rfl rfl rfl (Nat.succ_pos _) rfl ?_) rfl rfl)
    · repeat first | refine ax_seq ?_ | refine ax_next ?_ | refine rg_text ?_ | refine rg_any mixed ?_ | refine ax_block ?_ | refine rh_nil ⟨(by kernel_rfl), ?_⟩ | refine rh_nil ?_ | refine ax_ret ?_ | refine ax_skip ?_ | refine ax_exit ?_ | refine ax_true rfl ?_ | refine ax_false rfl ?_ | refine then_ret ?_ | refine then_exit ?_ | refine out_here ?_ | refine out_away rfl ?_ | refine out_normal ?_ | refine out_ret ?_ | refine round_exit ?_ | refine round_ret ?_ | refine meet_ret ?_ | refine meet_exit ?_ | (apply rh_no; iterate 4 exact rfl) | (apply rh_un; iterate 3 exact rfl) | (apply rh0; (case h => exact z0); (case hw => exact wt)) | (apply rh1; (case h => exact z1); (case hw => exact wt)) | (apply rhs; (case h => exact zs); (case hw => exact wt))
      refine ax_loop (fun f : Nat => mkS [(7, .int (f : Int)), (5, .own 3 0), (4, .int (C : Int)), (3, .ptr 2 0 0)] ⟨5, [(1, some (intsRow h.cells)), (2, some (boxRow h.wide h.deep 1 0)), (3, some (intsRow L))]⟩) (fun f => f ≤ h.cells.length) (fun f => h.cells.length - f) (0) (Nat.zero_le _) (weak_of [] (by repeat first | exact .nil | refine LeEs.cons ?_ ?_ | exact .v (by first | rfl | (rfl)) | exact .own rfl rfl rfl rfl rfl | exact .ptr rfl rfl rfl rfl rfl rfl | exact .nil rfl rfl rfl | exact .sl (by first | rfl | (rfl)) | exact .both rfl rfl | exact .frz rfl rfl rfl rfl rfl (by first | rfl | (rfl)) rfl | exact .any _) (by repeat first | exact .nil | refine LeHs.keep rfl ⟨rfl, rfl, rfl, .inl ⟨rfl, by first | rfl | (rfl)⟩⟩ ?_ | refine LeHs.keep rfl ⟨rfl, rfl, rfl, .inr ⟨(by first | exact .inl rfl | exact .inr rfl), by repeat first | exact .nil | refine LeVL.cons ?_ ?_ | exact .v (by first | rfl | (rfl)) | exact .own rfl rfl rfl rfl rfl | exact .sl (by first | rfl | (rfl)) | exact .both rfl rfl | exact .frz rfl rfl rfl rfl rfl (by first | rfl | (rfl)) rfl⟩⟩ ?_ | refine LeHs.fresh rfl rfl rfl (Nat.succ_pos _) rfl ?_) rfl rfl) ?_
      intro f hf
      repeat first | refine ax_seq ?_ | refine ax_next ?_ | refine rg_text ?_ | refine rg_any mixed ?_ | refine ax_block ?_ | refine rh_nil ⟨(by kernel_rfl), ?_⟩ | refine rh_nil ?_ | refine ax_ret ?_ | refine ax_skip ?_ | refine ax_exit ?_ | refine ax_true rfl ?_ | refine ax_false rfl ?_ | refine then_ret ?_ | refine then_exit ?_ | refine out_here ?_ | refine out_away rfl ?_ | refine out_normal ?_ | refine out_ret ?_ | refine round_exit ?_ | refine round_ret ?_ | refine meet_ret ?_ | refine meet_exit ?_ | (apply rh_no; iterate 4 exact rfl) | (apply rh_un; iterate 3 exact rfl) | (apply rh0; (case h => exact z0); (case hw => exact wt)) | (apply rh1; (case h => exact z1); (case hw => exact wt)) | (apply rhs; (case h => exact zs); (case hw => exact wt))
      refine ax_cond rfl (fun hb3 => ?_) (fun hb3 => ?_)
      · have hft : f < h.cells.length := by simpa using hb3
        have hcf : hasCellB h (f : Int) = true := hasCell_iff.2 (by omega)
        have hA1 := cellsApart_fn h hl f C
        rw [apartAt_of hv hcf hc] at hA1
        have d0 := apartF_nonneg h.wide f C
        have d1 := apartF_le (a := (f : Int)) (b := (C : Int)) hs.1 (by omega) (by omega)
        obtain ⟨D, hD⟩ : ∃ D, D = apartF h.wide f C := ⟨_, rfl⟩
        have f4 := f3 f hft
        rw [← hD] at hA1 d0 d1 f4
        repeat first | refine ax_seq ?_ | refine ax_next ?_ | refine rg_text ?_ | refine rg_any mixed ?_ | refine ax_block ?_ | refine rh_nil ⟨(by kernel_rfl), ?_⟩ | refine rh_nil ?_ | refine ax_ret ?_ | refine ax_skip ?_ | refine ax_exit ?_ | refine ax_true rfl ?_ | refine ax_false rfl ?_ | refine then_ret ?_ | refine then_exit ?_ | refine out_here ?_ | refine out_away rfl ?_ | refine out_normal ?_ | refine out_ret ?_ | refine round_exit ?_ | refine round_ret ?_ | refine meet_ret ?_ | refine meet_exit ?_ | (apply rh_no; iterate 4 exact rfl) | (apply rh_un; iterate 3 exact rfl) | (apply rh0; (case h => exact z0); (case hw => exact wt)) | (apply rh1; (case h => exact z1); (case hw => exact wt)) | (apply rhs; (case h => exact zs); (case hw => exact wt))
        refine ax_loop (fun k : Nat => mkS [(9, .int (k : Int)), (8, .bool (anyTo (fun j => decide (apartF h.wide f (gi L j) = D - 1)) k)), (7, .int (f : Int)), (5, .own 3 0), (4, .int (C : Int)), (3, .ptr 2 0 0)] ⟨5, [(1, some (intsRow h.cells)), (2, some (boxRow h.wide h.deep 1 0)), (3, some (intsRow L))]⟩) (fun k => k ≤ L.length) (fun k => L.length - k) (0) (Nat.zero_le _) (weak_of [] (by repeat first | exact .nil | refine LeEs.cons ?_ ?_ | exact .v (by first | rfl | (rfl)) | exact .own rfl rfl rfl rfl rfl | exact .ptr rfl rfl rfl rfl rfl rfl | exact .nil rfl rfl rfl | exact .sl (by first | rfl | (rfl)) | exact .both rfl rfl | exact .frz rfl rfl rfl rfl rfl (by first | rfl | (rfl)) rfl | exact .any _) (by repeat first | exact .nil | refine LeHs.keep rfl ⟨rfl, rfl, rfl, .inl ⟨rfl, by first | rfl | (rfl)⟩⟩ ?_ | refine LeHs.keep rfl ⟨rfl, rfl, rfl, .inr ⟨(by first | exact .inl rfl | exact .inr rfl), by repeat first | exact .nil | refine LeVL.cons ?_ ?_ | exact .v (by first | rfl | (rfl)) | exact .own rfl rfl rfl rfl rfl | exact .sl (by first | rfl | (rfl)) | exact .both rfl rfl | exact .frz rfl rfl rfl rfl rfl (by first | rfl | (rfl)) rfl⟩⟩ ?_ | refine LeHs.fresh rfl rfl rfl (Nat.succ_pos _) rfl ?_) rfl rfl) ?_
        intro k hk
        obtain ⟨B, hB2⟩ : ∃ B, B = anyTo (fun j => decide (apartF h.wide f (gi L j) = D - 1)) k := ⟨_, rfl⟩
        rw [← hB2]
        repeat first | refine ax_seq ?_ | refine ax_next ?_ | refine rg_text ?_ | refine rg_any mixed ?_ | refine ax_block ?_ | refine rh_nil ⟨(by kernel_rfl), ?_⟩ | refine rh_nil ?_ | refine ax_ret ?_ | refine ax_skip ?_ | refine ax_exit ?_ | refine ax_true rfl ?_ | refine ax_false rfl ?_ | refine then_ret ?_ | refine then_exit ?_ | refine out_here ?_ | refine out_away rfl ?_ | refine out_normal ?_ | refine out_ret ?_ | refine round_exit ?_ | refine round_ret ?_ | refine meet_ret ?_ | refine meet_exit ?_ | (apply rh_no; iterate 4 exact rfl) | (apply rh_un; iterate 3 exact rfl) | (apply rh0; (case h => exact z0); (case hw => exact wt)) | (apply rh1; (case h => exact z1); (case hw => exact wt)) | (apply rhs; (case h => exact zs); (case hw => exact wt))
        refine ax_cond rfl (fun hb4 => ?_) (fun hb4 => ?_)
        · have hlt : k < L.length := by simpa using hb4
          obtain ⟨j, j1, j2, j3⟩ := hat k hlt
          have hcj : hasCellB h (gi L k) = true := by rw [j2]; exact hasCell_iff.2 (by omega)
          have hA2 := cellsApart_fn h hl f (gi L k)
          rw [apartAt_of hv hcf hcj] at hA2
          have e0 := apartF_nonneg h.wide f (gi L k)
          have e2 : anyTo (fun j => decide (apartF h.wide f (gi L j) = D - 1)) (k + 1) = (B || decide (apartF h.wide f (gi L k) = D - 1)) := by rw [anyTo, ← hB2]
          cases B
          · repeat first | refine ax_seq ?_ | refine ax_next ?_ | refine rg_text ?_ | refine rg_any mixed ?_ | refine ax_block ?_ | refine rh_nil ⟨(by kernel_rfl), ?_⟩ | refine rh_nil ?_ | refine ax_ret ?_ | refine ax_skip ?_ | refine ax_exit ?_ | refine ax_true rfl ?_ | refine ax_false rfl ?_ | refine then_ret ?_ | refine then_exit ?_ | refine out_here ?_ | refine out_away rfl ?_ | refine out_normal ?_ | refine out_ret ?_ | refine round_exit ?_ | refine round_ret ?_ | refine meet_ret ?_ | refine meet_exit ?_ | refine Af (h := ?_) | refine At (h := ?_) | (apply rh_no; iterate 4 exact rfl) | (apply rh_un; iterate 3 exact rfl) | (apply rh0; (case h => first | (apply st_call (hfn := hA2 ); exact rfl; exact fz) | (apply st_call (hfn := hA1 ); exact rfl; exact fz) | exact z0); (case hw => exact wt)) | (apply rh1; (case h => exact z1); (case hw => exact wt)) | (apply rhs; (case h => exact zs); (case hw => exact wt)) | refine Kf (h := ?_) | refine Kt (h := ?_)
            refine round_next (k + 1) (hlt) (by omega) (weak_of [] (by repeat first | exact .nil | refine LeEs.cons ?_ ?_ | exact .v (by first | rfl | ((rw [e2]; simp))) | exact .own rfl rfl rfl rfl rfl | exact .ptr rfl rfl rfl rfl rfl rfl | exact .nil rfl rfl rfl | exact .sl (by first | rfl | ((rw [e2]; simp))) | exact .both rfl rfl | exact .frz rfl rfl rfl rfl rfl (by first | rfl | ((rw [e2]; simp))) rfl | exact .any _) (by repeat first | exact .nil | refine LeHs.keep rfl ⟨rfl, rfl, rfl, .inl ⟨rfl, by first | rfl | ((rw [e2]; simp))⟩⟩ ?_ | refine LeHs.keep rfl ⟨rfl, rfl, rfl, .inr ⟨(by first | exact .inl rfl | exact .inr rfl), by repeat first | exact .nil | refine LeVL.cons ?_ ?_ | exact .v (by first | rfl | ((rw [e2]; simp))) | exact .own rfl rfl rfl rfl rfl | exact .sl (by first | rfl | ((rw [e2]; simp))) | exact .both rfl rfl | exact .frz rfl rfl rfl rfl rfl (by first | rfl | ((rw [e2]; simp))) rfl⟩⟩ ?_ | refine LeHs.fresh rfl rfl rfl (Nat.succ_pos _) rfl ?_) rfl rfl)
          · repeat first | refine ax_seq ?_ | refine ax_next ?_ | refine rg_text ?_ | refine rg_any mixed ?_ | refine ax_block ?_ | refine rh_nil ⟨(by kernel_rfl), ?_⟩ | refine rh_nil ?_ | refine ax_ret ?_ | refine ax_skip ?_ | refine ax_exit ?_ | refine ax_true rfl ?_ | refine ax_false rfl ?_ | refine then_ret ?_ | refine then_exit ?_ | refine out_here ?_ | refine out_away rfl ?_ | refine out_normal ?_ | refine out_ret ?_ | refine round_exit ?_ | refine round_ret ?_ | refine meet_ret ?_ | refine meet_exit ?_ | refine Af (h := ?_) | refine At (h := ?_) | (apply rh_no; iterate 4 exact rfl) | (apply rh_un; iterate 3 exact rfl) | (apply rh0; (case h => first | (apply st_call (hfn := hA2 ); exact rfl; exact fz) | (apply st_call (hfn := hA1 ); exact rfl; exact fz) | exact z0); (case hw => exact wt)) | (apply rh1; (case h => exact z1); (case hw => exact wt)) | (apply rhs; (case h => exact zs); (case hw => exact wt)) | refine Kf (h := ?_) | refine Kt (h := ?_)
            refine round_next (k + 1) (hlt) (by omega) (weak_of [] (by repeat first | exact .nil | refine LeEs.cons ?_ ?_ | exact .v (by first | rfl | ((rw [e2]; simp))) | exact .own rfl rfl rfl rfl rfl | exact .ptr rfl rfl rfl rfl rfl rfl | exact .nil rfl rfl rfl | exact .sl (by first | rfl | ((rw [e2]; simp))) | exact .both rfl rfl | exact .frz rfl rfl rfl rfl rfl (by first | rfl | ((rw [e2]; simp))) rfl | exact .any _) (by repeat first | exact .nil | refine LeHs.keep rfl ⟨rfl, rfl, rfl, .inl ⟨rfl, by first | rfl | ((rw [e2]; simp))⟩⟩ ?_ | refine LeHs.keep rfl ⟨rfl, rfl, rfl, .inr ⟨(by first | exact .inl rfl | exact .inr rfl), by repeat first | exact .nil | refine LeVL.cons ?_ ?_ | exact .v (by first | rfl | ((rw [e2]; simp))) | exact .own rfl rfl rfl rfl rfl | exact .sl (by first | rfl | ((rw [e2]; simp))) | exact .both rfl rfl | exact .frz rfl rfl rfl rfl rfl (by first | rfl | ((rw [e2]; simp))) rfl⟩⟩ ?_ | refine LeHs.fresh rfl rfl rfl (Nat.succ_pos _) rfl ?_) rfl rfl)
        · have hkn : k = L.length := by simp at hb4; omega
          have hX : f ≠ C → B = true := fun hne => by
            obtain ⟨j, h1, h2⟩ := f4 hne
            rw [hB2, hkn]
            exact anyTo_iff.2 ⟨j, h1, by simpa using h2⟩
          by_cases hfc : f = C
          · have hfc2 : (f : Int) = (C : Int) := by omega
            cases B
            · repeat first | refine ax_seq ?_ | refine ax_next ?_ | refine rg_text ?_ | refine rg_any mixed ?_ | refine ax_block ?_ | refine rh_nil ⟨(by kernel_rfl), ?_⟩ | refine rh_nil ?_ | refine ax_ret ?_ | refine ax_skip ?_ | refine ax_exit ?_ | refine ax_true rfl ?_ | refine ax_false rfl ?_ | refine then_ret ?_ | refine then_exit ?_ | refine out_here ?_ | refine out_away rfl ?_ | refine out_normal ?_ | refine out_ret ?_ | refine round_exit ?_ | refine round_ret ?_ | refine meet_ret ?_ | refine meet_exit ?_ | refine Af (h := ?_) | refine At (h := ?_) | (apply rh_no; iterate 4 exact rfl) | (apply rh_un; iterate 3 exact rfl) | (apply rh0; (case h => exact z0); (case hw => exact wt)) | (apply rh1; (case h => exact z1); (case hw => exact wt)) | (apply rhs; (case h => exact zs); (case hw => exact wt)) | refine Kf (h := ?_) | refine Kt (h := ?_)
              refine round_next (f + 1) (hft) (by omega) (weak_of [] (by repeat first | exact .nil | refine LeEs.cons ?_ ?_ | exact .v (by first | rfl | (rfl)) | exact .own rfl rfl rfl rfl rfl | exact .ptr rfl rfl rfl rfl rfl rfl | exact .nil rfl rfl rfl | exact .sl (by first | rfl | (rfl)) | exact .both rfl rfl | exact .frz rfl rfl rfl rfl rfl (by first | rfl | (rfl)) rfl | exact .any _) (by repeat first | exact .nil | refine LeHs.keep rfl ⟨rfl, rfl, rfl, .inl ⟨rfl, by first | rfl | (rfl)⟩⟩ ?_ | refine LeHs.keep rfl ⟨rfl, rfl, rfl, .inr ⟨(by first | exact .inl rfl | exact .inr rfl), by repeat first | exact .nil | refine LeVL.cons ?_ ?_ | exact .v (by first | rfl | (rfl)) | exact .own rfl rfl rfl rfl rfl | exact .sl (by first | rfl | (rfl)) | exact .both rfl rfl | exact .frz rfl rfl rfl rfl rfl (by first | rfl | (rfl)) rfl⟩⟩ ?_ | refine LeHs.fresh rfl rfl rfl (Nat.succ_pos _) rfl ?_) rfl rfl)
            · repeat first | refine ax_seq ?_ | refine ax_next ?_ | refine rg_text ?_ | refine rg_any mixed ?_ | refine ax_block ?_ | refine rh_nil ⟨(by kernel_rfl), ?_⟩ | refine rh_nil ?_ | refine ax_ret ?_ | refine ax_skip ?_ | refine ax_exit ?_ | refine ax_true rfl ?_ | refine ax_false rfl ?_ | refine then_ret ?_ | refine then_exit ?_ | refine out_here ?_ | refine out_away rfl ?_ | refine out_normal ?_ | refine out_ret ?_ | refine round_exit ?_ | refine round_ret ?_ | refine meet_ret ?_ | refine meet_exit ?_ | refine Af (h := ?_) | refine At (h := ?_) | (apply rh_no; iterate 4 exact rfl) | (apply rh_un; iterate 3 exact rfl) | (apply rh0; (case h => exact z0); (case hw => exact wt)) | (apply rh1; (case h => exact z1); (case hw => exact wt)) | (apply rhs; (case h => exact zs); (case hw => exact wt)) | refine Kf (h := ?_) | refine Kt (h := ?_)
              refine round_next (f + 1) (hft) (by omega) (weak_of [] (by repeat first | exact .nil | refine LeEs.cons ?_ ?_ | exact .v (by first | rfl | (rfl)) | exact .own rfl rfl rfl rfl rfl | exact .ptr rfl rfl rfl rfl rfl rfl | exact .nil rfl rfl rfl | exact .sl (by first | rfl | (rfl)) | exact .both rfl rfl | exact .frz rfl rfl rfl rfl rfl (by first | rfl | (rfl)) rfl | exact .any _) (by repeat first | exact .nil | refine LeHs.keep rfl ⟨rfl, rfl, rfl, .inl ⟨rfl, by first | rfl | (rfl)⟩⟩ ?_ | refine LeHs.keep rfl ⟨rfl, rfl, rfl, .inr ⟨(by first | exact .inl rfl | exact .inr rfl), by repeat first | exact .nil | refine LeVL.cons ?_ ?_ | exact .v (by first | rfl | (rfl)) | exact .own rfl rfl rfl rfl rfl | exact .sl (by first | rfl | (rfl)) | exact .both rfl rfl | exact .frz rfl rfl rfl rfl rfl (by first | rfl | (rfl)) rfl⟩⟩ ?_ | refine LeHs.fresh rfl rfl rfl (Nat.succ_pos _) rfl ?_) rfl rfl)
          · have hX := hX hfc
            subst hX
            repeat first | refine ax_seq ?_ | refine ax_next ?_ | refine rg_text ?_ | refine rg_any mixed ?_ | refine ax_block ?_ | refine rh_nil ⟨(by kernel_rfl), ?_⟩ | refine rh_nil ?_ | refine ax_ret ?_ | refine ax_skip ?_ | refine ax_exit ?_ | refine ax_true rfl ?_ | refine ax_false rfl ?_ | refine then_ret ?_ | refine then_exit ?_ | refine out_here ?_ | refine out_away rfl ?_ | refine out_normal ?_ | refine out_ret ?_ | refine round_exit ?_ | refine round_ret ?_ | refine meet_ret ?_ | refine meet_exit ?_ | refine Af (h := ?_) | refine At (h := ?_) | (apply rh_no; iterate 4 exact rfl) | (apply rh_un; iterate 3 exact rfl) | (apply rh0; (case h => exact z0); (case hw => exact wt)) | (apply rh1; (case h => exact z1); (case hw => exact wt)) | (apply rhs; (case h => exact zs); (case hw => exact wt)) | refine Kf (h := ?_) | refine Kt (h := ?_)
            refine round_next (f + 1) (hft) (by omega) (weak_of [] (by repeat first | exact .nil | refine LeEs.cons ?_ ?_ | exact .v (by first | rfl | (rfl)) | exact .own rfl rfl rfl rfl rfl | exact .ptr rfl rfl rfl rfl rfl rfl | exact .nil rfl rfl rfl | exact .sl (by first | rfl | (rfl)) | exact .both rfl rfl | exact .frz rfl rfl rfl rfl rfl (by first | rfl | (rfl)) rfl | exact .any _) (by repeat first | exact .nil | refine LeHs.keep rfl ⟨rfl, rfl, rfl, .inl ⟨rfl, by first | rfl | (rfl)⟩⟩ ?_ | refine LeHs.keep rfl ⟨rfl, rfl, rfl, .inr ⟨(by first | exact .inl rfl | exact .inr rfl), by repeat first | exact .nil | refine LeVL.cons ?_ ?_ | exact .v (by first | rfl | (rfl)) | exact .own rfl rfl rfl rfl rfl | exact .sl (by first | rfl | (rfl)) | exact .both rfl rfl | exact .frz rfl rfl rfl rfl rfl (by first | rfl | (rfl)) rfl⟩⟩ ?_ | refine LeHs.fresh rfl rfl rfl (Nat.succ_pos _) rfl ?_) rfl rfl)
      · repeat first | refine ax_seq ?_ | refine ax_next ?_ | refine rg_text ?_ | refine rg_any mixed ?_ | refine ax_block ?_ | refine rh_nil ⟨(by kernel_rfl), ?_⟩ | refine rh_nil ?_ | refine ax_ret ?_ | refine ax_skip ?_ | refine ax_exit ?_ | refine ax_true rfl ?_ | refine ax_false rfl ?_ | refine then_ret ?_ | refine then_exit ?_ | refine out_here ?_ | refine out_away rfl ?_ | refine out_normal ?_ | refine out_ret ?_ | refine round_exit ?_ | refine round_ret ?_ | refine meet_ret ?_ | refine meet_exit ?_ | refine Af (h := ?_) | refine At (h := ?_) | (apply rh_no; iterate 4 exact rfl) | (apply rh_un; iterate 3 exact rfl) | (apply rh0; (case h => first | (apply st_call (hfn := hA ); exact rfl; exact fz) | exact z0); (case hw => exact wt)) | (apply rh1; (case h => exact z1); (case hw => exact wt)) | (apply rhs; (case h => exact zs); (case hw => exact wt)) | refine Kf (h := ?_) | refine Kt (h := ?_)
        refine ⟨.inl rfl, _, _, (by repeat first | exact .nil | apply ResL.cons | exact .tmp rfl | exact .agg rfl rfl rfl rfl rfl (Nat.le_of_ble_eq_true rfl) rfl | exact .cell rfl rfl rfl rfl rfl (Nat.le_of_ble_eq_true rfl) rfl), (by first | exact .one (by first | exact .one (.v rfl) | exact .one (.own rfl rfl rfl rfl rfl rfl rfl (by first | exact scal_ints _ | exact scal_slc _)) | exact .one (.nil (by decide) rfl) | exact .agg (.cons (.v rfl) (.cons (.v rfl) (.cons (.own rfl rfl rfl rfl rfl rfl rfl (scal_ints _)) .nil))) | exact .agg (.cons (.v rfl) (.cons (.v rfl) (.cons (.nil (by decide) rfl) .nil))) | exact .agg (.cons (.v rfl) (.cons (.v rfl) .nil))) | exact .two (by repeat first | exact .nil | apply ExpL.cons | exact (by first | exact .one (.v rfl) | exact .one (.own rfl rfl rfl rfl rfl rfl rfl (by first | exact scal_ints _ | exact scal_slc _)) | exact .one (.nil (by decide) rfl) | exact .agg (.cons (.v rfl) (.cons (.v rfl) (.cons (.own rfl rfl rfl rfl rfl rfl rfl (scal_ints _)) .nil))) | exact .agg (.cons (.v rfl) (.cons (.v rfl) (.cons (.nil (by decide) rfl) .nil))) | exact .agg (.cons (.v rfl) (.cons (.v rfl) .nil))))), (by decide)⟩
  · have he : besideF h c = [] := by unfold besideF; rw [if_neg hc]
    rw [he] at hP hP2
    have hS := sameInts_fn [] [] (by simp) (by simp)
    rw [decide_eq_true rfl] at hS
    refine fn_go1 tabOk Tryd.func9 rfl (by kernel_rfl) Tryd.ntmps9 Tryd.results9 (by decide) ?_
    repeat first | refine ax_seq ?_ | refine ax_next ?_ | refine rg_text ?_ | refine rg_any mixed ?_ | refine ax_block ?_ | refine rh_nil ⟨(by kernel_rfl), ?_⟩ | refine rh_nil ?_ | refine ax_ret ?_ | refine ax_skip ?_ | refine ax_exit ?_ | refine ax_true rfl ?_ | refine ax_false rfl ?_ | refine then_ret ?_ | refine then_exit ?_ | refine out_here ?_ | refine out_away rfl ?_ | refine out_normal ?_ | refine out_ret ?_ | refine round_exit ?_ | refine round_ret ?_ | refine meet_ret ?_ | refine meet_exit ?_ | (apply rh_no; iterate 4 exact rfl) | (apply rh_un; iterate 3 exact rfl) | (apply rh0; (case h => exact z0); (case hw => exact wt)) | (apply rh1; (case h => exact z1); (case hw => exact wt)) | (apply rhs; (case h => exact zs); (case hw => exact wt))
    refine ax_cond rfl (fun hb0 => ?_) (fun hb0 => ?_)
    · repeat first | refine ax_seq ?_ | refine ax_next ?_ | refine rg_text ?_ | refine rg_any mixed ?_ | refine ax_block ?_ | refine rh_nil ⟨(by kernel_rfl), ?_⟩ | refine rh_nil ?_ | refine ax_ret ?_ | refine ax_skip ?_ | refine ax_exit ?_ | refine ax_true rfl ?_ | refine ax_false rfl ?_ | refine then_ret ?_ | refine then_exit ?_ | refine out_here ?_ | refine out_away rfl ?_ | refine out_normal ?_ | refine out_ret ?_ | refine round_exit ?_ | refine round_ret ?_ | refine meet_ret ?_ | refine meet_exit ?_ | (apply rh_no; iterate 4 exact rfl) | (apply rh_un; iterate 3 exact rfl) | (apply rh0; (case h => exact z0); (case hw => exact wt)) | (apply rh1; (case h => exact z1); (case hw => exact wt)) | (apply rhs; (case h => exact zs); (case hw => exact wt))
      refine ⟨.inl rfl, _, _, (by repeat first | exact .nil | apply ResL.cons | exact .tmp rfl | exact .agg rfl rfl rfl rfl rfl (Nat.le_of_ble_eq_true rfl) rfl | exact .cell rfl rfl rfl rfl rfl (Nat.le_of_ble_eq_true rfl) rfl), (by first | exact .one (by first | exact .one (.v rfl) | exact .one (.own rfl rfl rfl rfl rfl rfl rfl (by first | exact scal_ints _ | exact scal_slc _)) | exact .one (.nil (by decide) rfl) | exact .agg (.cons (.v rfl) (.cons (.v rfl) (.cons (.own rfl rfl rfl rfl rfl rfl rfl (scal_ints _)) .nil))) | exact .agg (.cons (.v rfl) (.cons (.v rfl) (.cons (.nil (by decide) rfl) .nil))) | exact .agg (.cons (.v rfl) (.cons (.v rfl) .nil))) | exact .two (by repeat first | exact .nil | apply ExpL.cons | exact (by first | exact .one (.v rfl) | exact .one (.own rfl rfl rfl rfl rfl rfl rfl (by first | exact scal_ints _ | exact scal_slc _)) | exact .one (.nil (by decide) rfl) | exact .agg (.cons (.v rfl) (.cons (.v rfl) (.cons (.own rfl rfl rfl rfl rfl rfl rfl (scal_ints _)) .nil))) | exact .agg (.cons (.v rfl) (.cons (.v rfl) (.cons (.nil (by decide) rfl) .nil))) | exact .agg (.cons (.v rfl) (.cons (.v rfl) .nil))))), (by decide)⟩
    repeat first | refine ax_seq ?_ | refine ax_next ?_ | refine rg_text ?_ | refine rg_any mixed ?_ | refine ax_block ?_ | refine rh_nil ⟨(by kernel_rfl), ?_⟩ | refine rh_nil ?_ | refine ax_ret ?_ | refine ax_skip ?_ | refine ax_exit ?_ | refine ax_true rfl ?_ | refine ax_false rfl ?_ | refine then_ret ?_ | refine then_exit ?_ | refine out_here ?_ | refine out_away rfl ?_ | refine out_normal ?_ | refine out_ret ?_ | refine round_exit ?_ | refine round_ret ?_ | refine meet_ret ?_ | refine meet_exit ?_ | refine Af (h := ?_) | refine At (h := ?_) | (apply rh_no; iterate 4 exact rfl) | (apply rh_un; iterate 3 exact rfl) | (apply rh0; (case h => first | (apply st_call (hfn := hS ); exact rfl; exact fz) | (apply st_call (hfn := alive_fn ); exact rfl; exact fz) | exact z0); (case hw => exact wt)) | (apply rh1; (case h => first | (apply st_call_hv (hfn := hH ); exact rfl; exact fz; iterate 2 exact rfl) | (apply st_call_s (hfn := hP ); exact rfl; exact fz; iterate 2 exact rfl) | (apply st_call_s (hfn := hP2 ); exact rfl; exact fz; iterate 2 exact rfl) | exact z1); (case hw => exact wt)) | (apply rhs; (case h => exact zs); (case hw => exact wt)) | refine Kf (h := ?_) | refine Kt (h := ?_)
    refine ⟨.inl rfl, _, _, (by repeat first | exact .nil | apply ResL.cons | exact .tmp rfl | exact .agg rfl rfl rfl rfl rfl (Nat.le_of_ble_eq_true rfl) rfl | exact .cell rfl rfl rfl rfl rfl (Nat.le_of_ble_eq_true rfl) rfl), (by first | exact .one (by first | exact .one (.v rfl) | exact .one (.own rfl rfl rfl rfl rfl rfl rfl (by first | exact scal_ints _ | exact scal_slc _)) | exact .one (.nil (by decide) rfl) | exact .agg (.cons (.v rfl) (.cons (.v rfl) (.cons (.own rfl rfl rfl rfl rfl rfl rfl (scal_ints _)) .nil))) | exact .agg (.cons (.v rfl) (.cons (.v rfl) (.cons (.nil (by decide) rfl) .nil))) | exact .agg (.cons (.v rfl) (.cons (.v rfl) .nil))) | exact .two (by repeat first | exact .nil | apply ExpL.cons | exact (by first | exact .one (.v rfl) | exact .one (.own rfl rfl rfl rfl rfl rfl rfl (by first | exact scal_ints _ | exact scal_slc _)) | exact .one (.nil (by decide) rfl) | exact .agg (.cons (.v rfl) (.cons (.v rfl) (.cons (.own rfl rfl rfl rfl rfl rfl rfl (scal_ints _)) .nil))) | exact .agg (.cons (.v rfl) (.cons (.v rfl) (.cons (.nil (by decide) rfl) .nil))) | exact .agg (.cons (.v rfl) (.cons (.v rfl) .nil))))), (by decide)⟩

theorem fnCellsBeside_walk (w : World) (v0 : Value) (b0 : List Int) (q0 : RawBytes w v0 b0) : Calls Tryd.prog 9 #[v0] w (Gives (.bool true) w) := by
  refine ((fnCellsBeside_fn v0 b0 q0.choose_spec.choose_spec.2.2.2.2).2 w [v0] (by simp only [pureL, pureV]; exact ⟨pure_byts b0, trivial⟩) (by simp only [relL]; exact ⟨_, _, rfl, rel_of_rawBytes q0, rfl⟩)).mono fun e w' hh => gives_v_of hh

set_option maxRecDepth 100000 in
theorem fnCellsBeside_lifted (os : Os) (started : os.Started) (H : Type) (enc : TypeId × Value → H) :
    ReturnsInHanded {} Tryd.checked os 9 .any (fun w args => (Rows.fnCellsBesideSpec.pre enc Tryd.prog Tryd.f9 Rows.fnCellsBesideRow.domain false w args ∧ laidMetH Tryd.prog laidL w) ∧ sizedMet enc Tryd.prog Tryd.f9 (OpenSpec.ofChange Rows.fnCellsBesideSpec) false w args)
      (Rows.fnCellsBesideSpec.post enc Tryd.prog Tryd.f9 false true false false) := by
  refine returnsInHanded_of_change_and (C := Tryd.checked) (X := fun w _ => laidMetH Tryd.prog laidL w) (fun _ _ _ hh h => h.of_heap hh) Tryd.own started (by kernel_rfl) Tryd.func9
    (ChangeSpec.witness_shaped (enc := enc) (C := Tryd.checked) (os := os) (X := fun w _ => laidMetH Tryd.prog laidL w) false (World.doorLaid Tryd.prog 400 os) #[.slice none 0 0] 8 rfl (World.shaped_of_RefB (by kernel_rfl) (by kernel_rfl)) (by kernel_rfl) (by kernel_rfl) (by kernel_rfl) (door_met os _)) ?_
  intro W base args ds gs before hval0 hW _ _ _ _
  have hval : ∀ (j : Nat) t v, Tryd.f9.params[j]? = some t → args[j]? = some v → Value.okWide Tryd.prog W .any base t v := hval0
  have hW' := hW
  obtain ⟨p, q, hA0, hV, rfl, hfz, hnd⟩ := hW
  have hA : DataW.TrodAll enc Tryd.prog W 0 (fun _ => true) true Tryd.f9.params.toList args.toList ds p := hA0
  rw [Tryd.params9] at hA hval
  obtain ⟨v0, vs0, d0, ds0, p0, q0, hargs, rfl, rfl, h0, r0⟩ := trodAll_cons hA
  obtain ⟨rfl, rfl, rfl⟩ := trodAll_nil r0
  obtain rfl : args = #[v0] := by cases args; simp_all
  obtain ⟨rfl, rfl⟩ := trodVars_none hV
  have lt0 := lt_of_trod h0
  obtain ⟨b0, w0⟩ := open_raw_bytes_arg (fun _ => rfl) (hval 0 22 v0 rfl rfl) h0
  clear hA0 hval0
  refine (fnCellsBeside_walk W v0 b0 w0).mono fun e W' ⟨he, bel⟩ => ?_
  subst he
  exact ⟨_, rfl, _, _, _, [], _, [], hW', trodAll_mk1 (shut_bool Tryd.underlying4 _), (trodAll_cons_mk (Below.trod Tryd.laidOut (by kernel_rfl) (of_decide_eq_true (by kernel_rfl)) h0 bel lt0) trodAll_mk0), rfl, bel.frame _, fun h => by cases h⟩

theorem fnCellsBeside_over : Rows.fnCellsBesideRow.holds Tryd.pinned (OpenSpec.ofChange Rows.fnCellsBesideSpec) :=
  OpenClaim.holds_of_wide 9 Tryd.f9 rfl rfl rfl rfl rfl rfl rfl ⟨rfl, rfl, rfl, rfl, rfl⟩ rfl rfl rfl rfl rfl (by kernel_rfl) Tryd.func9 (by kernel_rfl)
    (of_decide_eq_true (by kernel_rfl)) (by unfold Func.isWrapper; rw [if_neg (of_decide_eq_false (by kernel_rfl))]; exact ⟨rfl, rfl⟩)
    (fun os started H enc _ => fnCellsBeside_lifted os started H enc)

theorem fnCellsBeside_holds : Rows.FnCellsBesideCardSaid :=
  Claim7.holds_tied_plain_at .later [] [.data, .data, .data] true mainIsB false
    fnCellsBeside_over (fun _ h => by cases h) (by kernel_rfl) (fun _ h => by cases h) fnCellsBeside_row_tie rfl ⟨rfl, rfl⟩ mainFact rfl
    (fun f fn hf hfn => by
      obtain rfl : f = 9 := Option.some.inj ((show Tryd.prog.funcNamed "loop.example/parkinghouse/laws.FnCellsBeside" = some 9 by kernel_rfl).symm.trans hf) |>.symm
      obtain rfl : fn = Tryd.f9 := (Option.some.inj (Tryd.func9.symm.trans hfn)).symm
      exact ⟨noLooks, fun j t ht => by
        rw [Tryd.params9] at ht
        have hm : t ∈ [22] := by simpa using Array.mem_of_getElem? ht
        have hall : ([22].all fun u => !Tryd.prog.wantsStandIn u) = true := by kernel_rfl
        exact (show Tryd.prog.wantsStandIn t = false by simpa using List.all_eq_true.1 hall t hm)⟩)
    (by kernel_rfl)

#print axioms fnCellsBeside_holds

end Go.Proofs.YtmkdafgcggpahaaDoor
