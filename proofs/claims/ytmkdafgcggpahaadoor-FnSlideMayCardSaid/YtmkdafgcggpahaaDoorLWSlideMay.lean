/-
  Proved: FnSlideMay returns true for every argument, and its argument reads afterwards as it read before (the card). No condition.
-/
import Derived.Test.YtmkdafgcggpahaaDoorRow3
import Derived.Test.YtmkdafgcggpahaaDoorMain
import Derived.Test.YtmkdafgcggpahaaDoorW4
import Derived.Laws.StructEq
import Derived.ChangeKeysEq
set_option linter.unusedVariables false
set_option linter.unusedSimpArgs false
set_option maxRecDepth 100000
namespace Go.Proofs.YtmkdafgcggpahaaDoor
open Go Go.RowKit Go.Park Go.Sym
open Go.ChangeShapes Go.WideShapes Go.ChangeAt

/-! slides compared -/
theorem slide_eqIn (w : World) (a b c d : Int) : (Op.equalIn 10000 38 (.agg #[.int .i64 a, .int .i64 b]) (.agg #[.int .i64 c, .int .i64 d])).run Tryd.prog w = .ok (decide (a = c ∧ b = d)) w := by
  have h1 : (Tryd.prog).underlying 38 = some (.struct ((Tryd.prog).fieldsOf 38)) := by kernel_rfl
  have h2 : (Tryd.prog).stoodInHeld 38 = false := by kernel_rfl
  have h3 : ((Tryd.prog).fieldsOf 38).toList.map (fun f => (f.name == "_", f.type, f.offset)) = [(false, 3, 0), (false, 3, 1)] := by kernel_rfl
  obtain ⟨l, hl⟩ : ∃ l, l = ((Tryd.prog).fieldsOf 38).toList := ⟨_, rfl⟩
  rw [← hl] at h3
  have h5 : (Tryd.prog).underlying 3 = some (.int .i64) := by kernel_rfl
  have h6 : (Tryd.prog).plainKey 3 = true := by kernel_rfl
  rw [run_equalIn_struct w 9999 _ _ _ h1 h2, ← hl]
  match l, h3 with
  | [f, g], h3 =>
    simp only [List.map_cons, List.map_nil, List.cons.injEq, Prod.mk.injEq, and_true, beq_eq_false_iff_ne] at h3
    obtain ⟨⟨n1, t1, o1⟩, n2, t2, o2⟩ := h3
    have p0 : ∀ (u v : Int) (w : World), (part 3 #[.int .i64 u, .int .i64 v] 0).run Tryd.prog w = .ok (.int .i64 u) w := fun u v w => run_part_plain w h6 rfl
    have p1 : ∀ (u v : Int) (w : World), (part 3 #[.int .i64 u, .int .i64 v] 1).run Tryd.prog w = .ok (.int .i64 v) w := fun u v w => run_part_plain w h6 rfl
    simp only [Op.eqFields, if_pos n1, if_pos n2, t1, t2, o1, o2, Sem.run_bind, p0, p1, Result.andThen_ok, run_equalIn_int w 9998 3 .i64 .i64 _ _ h5, Sem.run_ite, Sem.run_pure]
    by_cases e1 : a = c <;> by_cases e2 : b = d <;> simp [e1, e2]
section
variable {nt : Nat} {E : List (Nat × AV)} {H : Hp} {dst : Option Nat} {ty : Nat} {pos : String} {aft : Array Edge} {gd : Option (Nat × Bool)}
theorem slide_rel {cx : Cx} {a b : Int} {v : Value} (h : relV cx (.agg [.int a, .int b]) v) : v = .agg #[.int .i64 a, .int .i64 b] := by
  rw [relV] at h
  obtain ⟨vs, rfl, h⟩ := h
  rw [relL] at h
  obtain ⟨u0, us0, rfl, h0, h⟩ := h
  rw [relL] at h
  obtain ⟨u1, us1, rfl, h1, h⟩ := h
  rw [relL] at h
  rw [relV] at h0 h1
  subst h h0 h1
  rfl
theorem st_lf0 {P : Program} {T : List (Nat × TyI)} (hT : TabOk P T) {t : Nat} {x : Operand} {i : TyI} {r k o : Nat} {row : Row} {l : List (Int × Int)} (hd : dstOk nt dst = true) (hx : (mkS E H).ev x = .ptr r k (o * 2 + 0)) (hr : (mkS E H).row r = some row) (hc : row.cs = slc l) (hv : row.ver = k) (ht : lkT T t = some i) (hg : i.agg = false) (ho : o < l.length) :
    Does P nt ⟨dst, .load t x, ty, pos, aft, gd⟩ ⟨fo x, [r]⟩ (.int (gs l o).1) [] (mkS E H) := by
  have := does_load (P := P) (ty := ty) (pos := pos) (aft := aft) (gd := gd) hT hd hx hr hv ht hg (by rw [hc, slc_length]; omega)
  rw [hc, Nat.add_zero, rd_slc0] at this
  exact this
theorem st_lf1 {P : Program} {T : List (Nat × TyI)} (hT : TabOk P T) {t : Nat} {x : Operand} {i : TyI} {r k o : Nat} {row : Row} {l : List (Int × Int)} (hd : dstOk nt dst = true) (hx : (mkS E H).ev x = .ptr r k (o * 2 + 1)) (hr : (mkS E H).row r = some row) (hc : row.cs = slc l) (hv : row.ver = k) (ht : lkT T t = some i) (hg : i.agg = false) (ho : o < l.length) :
    Does P nt ⟨dst, .load t x, ty, pos, aft, gd⟩ ⟨fo x, [r]⟩ (.int (gs l o).2) [] (mkS E H) := by
  have := does_load (P := P) (ty := ty) (pos := pos) (aft := aft) (gd := gd) hT hd hx hr hv ht hg (by rw [hc, slc_length]; omega)
  rw [hc, rd_slc1] at this
  exact this
theorem st_neqs {t' : Nat} {x y : Operand} {a b c d : Int} (hd : dstOk nt dst = true) (hx : (mkS E H).ev x = .agg [.int a, .int b]) (hy : (mkS E H).ev y = .agg [.int c, .int d]) :
    Does Tryd.prog nt ⟨dst, .binOp .neq 38 x y t', ty, pos, aft, gd⟩ ⟨fo x ++ fo y, []⟩ (.bool (!decide (a = c ∧ b = d))) [] (mkS E H) :=
  does_pure hd fun τ hag F φ Z a' w hF hS => by
    have e1 := ev_rel hag hS hx (by simp +contextual)
    have e2 := ev_rel hag hS hy (by simp +contextual)
    have hm : (Tryd.prog).eqGuardType (Tryd.prog).depth 38 = false := by kernel_rfl
    exact ⟨.bool (!decide (a = c ∧ b = d)), by simp [execOp, slide_rel e1, slide_rel e2, run_eqGuard_agg _ _ _ _ _ _ _ hm, run_neq_struct, slide_eqIn], by simp [relV]⟩
theorem st_eqls {t' : Nat} {x y : Operand} {a b c d : Int} (hd : dstOk nt dst = true) (hx : (mkS E H).ev x = .agg [.int a, .int b]) (hy : (mkS E H).ev y = .agg [.int c, .int d]) :
    Does Tryd.prog nt ⟨dst, .binOp .eql 38 x y t', ty, pos, aft, gd⟩ ⟨fo x ++ fo y, []⟩ (.bool (decide (a = c ∧ b = d))) [] (mkS E H) :=
  does_pure hd fun τ hag F φ Z a' w hF hS => by
    have e1 := ev_rel hag hS hx (by simp +contextual)
    have e2 := ev_rel hag hS hy (by simp +contextual)
    have hm : (Tryd.prog).eqGuardType (Tryd.prog).depth 38 = false := by kernel_rfl
    exact ⟨.bool (decide (a = c ∧ b = d)), by simp [execOp, slide_rel e1, slide_rel e2, run_eqGuard_agg _ _ _ _ _ _ _ hm, run_eql_struct, slide_eqIn], by simp [relV]⟩
theorem does_eqlb {P : Program} {T : List (Nat × TyI)} (hT : TabOk P T) {t t' : Nat} {i : TyI} {x y : Operand} {a b : Bool} (hd : dstOk nt dst = true) (ht : lkT T t = some i) (hu : i.u = .bool) (hx : (mkS E H).ev x = .bool a) (hy : (mkS E H).ev y = .bool b) :
    Does P nt ⟨dst, .binOp .eql t x y t', ty, pos, aft, gd⟩ ⟨fo x ++ fo y, []⟩ (.bool (a == b)) [] (mkS E H) :=
  does_pure hd fun τ hag F φ Z a' w hF hS => by
    obtain ⟨inf, d, hk⟩ := hT.known ht
    exact ⟨.bool (a == b), by simp [execOp, eqGuard, binOp, run_equal_bool _ _ _ _ (hk.bool hu), ev_v hag hS hx (by simp +contextual), ev_v hag hS hy (by simp +contextual)], by simp [relV]⟩
end
theorem gs_ext {a b : List (Int × Int)} (hl : a.length = b.length) (h : ∀ j, j < a.length → gs a j = gs b j) : a = b := by
  apply List.ext_getElem hl
  intro i h1 h2
  have := h i h1
  simpa [gs, List.getD, h1, h2] using this
set_option maxHeartbeats 1000000 in
theorem sameSlides_fn (a b : List (Int × Int)) (ha : a.length ≤ lim) (hb : b.length ≤ lim) : FnS Tryd.prog 34 [slcV a, slcV b] (.bool (decide (a = b))) := by
  have ha' : a.length ≤ 1073741824 := ha
  have hb' : b.length ≤ 1073741824 := hb
  refine fn_go2 tabOk Tryd.func34 rfl (by kernel_rfl) Tryd.ntmps34 Tryd.results34 (by decide) ?_
  repeat first | refine ax_seq ?_ | refine ax_next ?_ | refine rg_text ?_ | refine rg_any mixed ?_ | refine ax_block ?_ | refine rh_nil ⟨(by kernel_rfl), ?_⟩ | refine rh_nil ?_ | refine ax_ret ?_ | refine ax_skip ?_ | refine ax_exit ?_ | refine ax_true rfl ?_ | refine ax_false rfl ?_ | refine then_ret ?_ | refine then_exit ?_ | refine out_here ?_ | refine out_away rfl ?_ | refine out_normal ?_ | refine out_ret ?_ | refine round_exit ?_ | refine round_ret ?_ | refine meet_ret ?_ | refine meet_exit ?_ | (apply rh_no; iterate 4 exact rfl) | (apply rh_un; iterate 3 exact rfl) | (apply rh0; (case h => exact z0); (case hw => exact wt)) | (apply rh1; (case h => exact z1); (case hw => exact wt)) | (apply rhs; (case h => exact zs); (case hw => exact wt))
  refine ax_cond rfl (fun hl => ?_) (fun hl => ?_)
  · have hF : decide (a = b) = false := decide_eq_false (fun e => by subst e; simp at hl)
    repeat first | refine ax_seq ?_ | refine ax_next ?_ | refine rg_text ?_ | refine rg_any mixed ?_ | refine ax_block ?_ | refine rh_nil ⟨(by kernel_rfl), ?_⟩ | refine rh_nil ?_ | refine ax_ret ?_ | refine ax_skip ?_ | refine ax_exit ?_ | refine ax_true rfl ?_ | refine ax_false rfl ?_ | refine then_ret ?_ | refine then_exit ?_ | refine out_here ?_ | refine out_away rfl ?_ | refine out_normal ?_ | refine out_ret ?_ | refine round_exit ?_ | refine round_ret ?_ | refine meet_ret ?_ | refine meet_exit ?_ | (apply rh_no; iterate 4 exact rfl) | (apply rh_un; iterate 3 exact rfl) | (apply rh0; (case h => exact z0); (case hw => exact wt)) | (apply rh1; (case h => exact z1); (case hw => exact wt)) | (apply rhs; (case h => exact zs); (case hw => exact wt))
    refine ⟨.inl rfl, _, _, (by repeat first | exact .nil | apply ResL.cons | exact .tmp rfl | exact .agg rfl rfl rfl rfl rfl (Nat.le_of_ble_eq_true rfl) rfl | exact .cell rfl rfl rfl rfl rfl (Nat.le_of_ble_eq_true rfl) rfl), (by first | exact .one (by first | exact .one (.v (by first | rfl | (rw [hF]))) | exact .one (.own rfl rfl rfl rfl rfl rfl (by first | rfl | (rw [hF])) (by first | exact scal_ints _ | exact scal_slc _)) | exact .one (.nil (by decide) (by first | rfl | (rw [hF]))) | exact .agg (.cons (.v (by first | rfl | (rw [hF]))) (.cons (.v (by first | rfl | (rw [hF]))) (.cons (.own rfl rfl rfl rfl rfl rfl (by first | rfl | (rw [hF])) (scal_ints _)) .nil))) | exact .agg (.cons (.v (by first | rfl | (rw [hF]))) (.cons (.v (by first | rfl | (rw [hF]))) (.cons (.nil (by decide) (by first | rfl | (rw [hF]))) .nil))) | exact .agg (.cons (.v (by first | rfl | (rw [hF]))) (.cons (.v (by first | rfl | (rw [hF]))) .nil))) | exact .two (by repeat first | exact .nil | apply ExpL.cons | exact (by first | exact .one (.v (by first | rfl | (rw [hF]))) | exact .one (.own rfl rfl rfl rfl rfl rfl (by first | rfl | (rw [hF])) (by first | exact scal_ints _ | exact scal_slc _)) | exact .one (.nil (by decide) (by first | rfl | (rw [hF]))) | exact .agg (.cons (.v (by first | rfl | (rw [hF]))) (.cons (.v (by first | rfl | (rw [hF]))) (.cons (.own rfl rfl rfl rfl rfl rfl (by first | rfl | (rw [hF])) (scal_ints _)) .nil))) | exact .agg (.cons (.v (by first | rfl | (rw [hF]))) (.cons (.v (by first | rfl | (rw [hF]))) (.cons (.nil (by decide) (by first | rfl | (rw [hF]))) .nil))) | exact .agg (.cons (.v (by first | rfl | (rw [hF]))) (.cons (.v (by first | rfl | (rw [hF]))) .nil))))), (by decide)⟩
  have hlen : a.length = b.length := by
    have : (a.length : Int) = (b.length : Int) := by simpa using hl
    omega
  repeat first | refine ax_seq ?_ | refine ax_next ?_ | refine rg_text ?_ | refine rg_any mixed ?_ | refine ax_block ?_ | refine rh_nil ⟨(by kernel_rfl), ?_⟩ | refine rh_nil ?_ | refine ax_ret ?_ | refine ax_skip ?_ | refine ax_exit ?_ | refine ax_true rfl ?_ | refine ax_false rfl ?_ | refine then_ret ?_ | refine then_exit ?_ | refine out_here ?_ | refine out_away rfl ?_ | refine out_normal ?_ | refine out_ret ?_ | refine round_exit ?_ | refine round_ret ?_ | refine meet_ret ?_ | refine meet_exit ?_ | (apply rh_no; iterate 4 exact rfl) | (apply rh_un; iterate 3 exact rfl) | (apply rh0; (case h => exact z0); (case hw => exact wt)) | (apply rh1; (case h => exact z1); (case hw => exact wt)) | (apply rhs; (case h => exact zs); (case hw => exact wt))
  refine ax_loop (fun k : Nat => mkS [(5, .int (k : Int)), (0, slcV a), (1, slcV b)] ⟨1, []⟩) (fun k => k ≤ a.length ∧ ∀ j, j < k → gs a j = gs b j) (fun k => a.length - k) (0) (⟨Nat.zero_le _, fun j hj => by omega⟩) (weak_of [] (by repeat first | exact .nil | refine LeEs.cons ?_ ?_ | exact .v (by first | rfl | (rfl)) | exact .own rfl rfl rfl rfl rfl | exact .ptr rfl rfl rfl rfl rfl rfl | exact .nil rfl rfl rfl | exact .sl (by first | rfl | (rfl)) | exact .both rfl rfl | exact .frz rfl rfl rfl rfl rfl (by first | rfl | (rfl)) rfl | exact .any _) (by repeat first | exact .nil | refine LeHs.keep rfl ⟨rfl, rfl, rfl, .inl ⟨rfl, by first | rfl | (rfl)⟩⟩ ?_ | refine LeHs.keep rfl ⟨rfl, rfl, rfl, .inr ⟨(by first | exact .inl rfl | exact .inr rfl), by repeat first | exact .nil | refine LeVL.cons ?_ ?_ | exact .v (by first | rfl | (rfl)) | exact .own rfl rfl rfl rfl rfl | exact .sl (by first | rfl | (rfl)) | exact .both rfl rfl | exact .frz rfl rfl rfl rfl rfl (by first | rfl | (rfl)) rfl⟩⟩ ?_ | refine LeHs.fresh rfl rfl rfl (Nat.succ_pos _) rfl ?_) rfl rfl) ?_
  rintro k ⟨hk, hj⟩
  repeat first | refine ax_seq ?_ | refine ax_next ?_ | refine rg_text ?_ | refine rg_any mixed ?_ | refine ax_block ?_ | refine rh_nil ⟨(by kernel_rfl), ?_⟩ | refine rh_nil ?_ | refine ax_ret ?_ | refine ax_skip ?_ | refine ax_exit ?_ | refine ax_true rfl ?_ | refine ax_false rfl ?_ | refine then_ret ?_ | refine then_exit ?_ | refine out_here ?_ | refine out_away rfl ?_ | refine out_normal ?_ | refine out_ret ?_ | refine round_exit ?_ | refine round_ret ?_ | refine meet_ret ?_ | refine meet_exit ?_ | (apply rh_no; iterate 4 exact rfl) | (apply rh_un; iterate 3 exact rfl) | (apply rh0; (case h => exact z0); (case hw => exact wt)) | (apply rh1; (case h => exact z1); (case hw => exact wt)) | (apply rhs; (case h => exact zs); (case hw => exact wt))
  refine ax_cond rfl (fun h1 => ?_) (fun h1 => ?_)
  · have hlt : k < a.length := by simpa using h1
    repeat first | refine ax_seq ?_ | refine ax_next ?_ | refine rg_text ?_ | refine rg_any mixed ?_ | refine ax_block ?_ | refine rh_nil ⟨(by kernel_rfl), ?_⟩ | refine rh_nil ?_ | refine ax_ret ?_ | refine ax_skip ?_ | refine ax_exit ?_ | refine ax_true rfl ?_ | refine ax_false rfl ?_ | refine then_ret ?_ | refine then_exit ?_ | refine out_here ?_ | refine out_away rfl ?_ | refine out_normal ?_ | refine out_ret ?_ | refine round_exit ?_ | refine round_ret ?_ | refine meet_ret ?_ | refine meet_exit ?_ | (apply rh_no; iterate 4 exact rfl) | (apply rh_un; iterate 3 exact rfl) | (apply rh0; (case h => first | (apply st_neqs; iterate 3 exact rfl) | exact z0); (case hw => exact wt)) | (apply rh1; (case h => exact z1); (case hw => exact wt)) | (apply rhs; (case h => exact zs); (case hw => exact wt))
    refine ax_cond rfl (fun h2 => ?_) (fun h2 => ?_)
    · have hF : decide (a = b) = false := decide_eq_false (fun e => by subst e; simp at h2)
      repeat first | refine ax_seq ?_ | refine ax_next ?_ | refine rg_text ?_ | refine rg_any mixed ?_ | refine ax_block ?_ | refine rh_nil ⟨(by kernel_rfl), ?_⟩ | refine rh_nil ?_ | refine ax_ret ?_ | refine ax_skip ?_ | refine ax_exit ?_ | refine ax_true rfl ?_ | refine ax_false rfl ?_ | refine then_ret ?_ | refine then_exit ?_ | refine out_here ?_ | refine out_away rfl ?_ | refine out_normal ?_ | refine out_ret ?_ | refine round_exit ?_ | refine round_ret ?_ | refine meet_ret ?_ | refine meet_exit ?_ | (apply rh_no; iterate 4 exact rfl) | (apply rh_un; iterate 3 exact rfl) | (apply rh0; (case h => exact z0); (case hw => exact wt)) | (apply rh1; (case h => exact z1); (case hw => exact wt)) | (apply rhs; (case h => exact zs); (case hw => exact wt))
      refine ⟨.inl rfl, _, _, (by repeat first | exact .nil | apply ResL.cons | exact .tmp rfl | exact .agg rfl rfl rfl rfl rfl (Nat.le_of_ble_eq_true rfl) rfl | exact .cell rfl rfl rfl rfl rfl (Nat.le_of_ble_eq_true rfl) rfl), (by first | exact .one (by first | exact .one (.v (by first | rfl | (rw [hF]))) | exact .one (.own rfl rfl rfl rfl rfl rfl (by first | rfl | (rw [hF])) (by first | exact scal_ints _ | exact scal_slc _)) | exact .one (.nil (by decide) (by first | rfl | (rw [hF]))) | exact .agg (.cons (.v (by first | rfl | (rw [hF]))) (.cons (.v (by first | rfl | (rw [hF]))) (.cons (.own rfl rfl rfl rfl rfl rfl (by first | rfl | (rw [hF])) (scal_ints _)) .nil))) | exact .agg (.cons (.v (by first | rfl | (rw [hF]))) (.cons (.v (by first | rfl | (rw [hF]))) (.cons (.nil (by decide) (by first | rfl | (rw [hF]))) .nil))) | exact .agg (.cons (.v (by first | rfl | (rw [hF]))) (.cons (.v (by first | rfl | (rw [hF]))) .nil))) | exact .two (by repeat first | exact .nil | apply ExpL.cons | exact (by first | exact .one (.v (by first | rfl | (rw [hF]))) | exact .one (.own rfl rfl rfl rfl rfl rfl (by first | rfl | (rw [hF])) (by first | exact scal_ints _ | exact scal_slc _)) | exact .one (.nil (by decide) (by first | rfl | (rw [hF]))) | exact .agg (.cons (.v (by first | rfl | (rw [hF]))) (.cons (.v (by first | rfl | (rw [hF]))) (.cons (.own rfl rfl rfl rfl rfl rfl (by first | rfl | (rw [hF])) (scal_ints _)) .nil))) | exact .agg (.cons (.v (by first | rfl | (rw [hF]))) (.cons (.v (by first | rfl | (rw [hF]))) (.cons (.nil (by decide) (by first | rfl | (rw [hF]))) .nil))) | exact .agg (.cons (.v (by first | rfl | (rw [hF]))) (.cons (.v (by first | rfl | (rw [hF]))) .nil))))), (by decide)⟩
    · have he : gs a k = gs b k := Prod.ext (by simp at h2; exact h2.1) (by simp at h2; exact h2.2)
      repeat first | refine ax_seq ?_ | refine ax_next ?_ | refine rg_text ?_ | refine rg_any mixed ?_ | refine ax_block ?_ | refine rh_nil ⟨(by kernel_rfl), ?_⟩ | refine rh_nil ?_ | refine ax_ret ?_ | refine ax_skip ?_ | refine ax_exit ?_ | refine ax_true rfl ?_ | refine ax_false rfl ?_ | refine then_ret ?_ | refine then_exit ?_ | refine out_here ?_ | refine out_away rfl ?_ | refine out_normal ?_ | refine out_ret ?_ | refine round_exit ?_ | refine round_ret ?_ | refine meet_ret ?_ | refine meet_exit ?_ | (apply rh_no; iterate 4 exact rfl) | (apply rh_un; iterate 3 exact rfl) | (apply rh0; (case h => exact z0); (case hw => exact wt)) | (apply rh1; (case h => exact z1); (case hw => exact wt)) | (apply rhs; (case h => exact zs); (case hw => exact wt))
      refine round_next (k + 1) (⟨hlt, fun j hj' => by by_cases e : j = k; (subst e; exact he); exact hj j (by omega)⟩) (by omega) (weak_of [] (by repeat first | exact .nil | refine LeEs.cons ?_ ?_ | exact .v (by first | rfl | (rfl)) | exact .own rfl rfl rfl rfl rfl | exact .ptr rfl rfl rfl rfl rfl rfl | exact .nil rfl rfl rfl | exact .sl (by first | rfl | (rfl)) | exact .both rfl rfl | exact .frz rfl rfl rfl rfl rfl (by first | rfl | (rfl)) rfl | exact .any _) (by repeat first | exact .nil | refine LeHs.keep rfl ⟨rfl, rfl, rfl, .inl ⟨rfl, by first | rfl | (rfl)⟩⟩ ?_ | refine LeHs.keep rfl ⟨rfl, rfl, rfl, .inr ⟨(by first | exact .inl rfl | exact .inr rfl), by repeat first | exact .nil | refine LeVL.cons ?_ ?_ | exact .v (by first | rfl | (rfl)) | exact .own rfl rfl rfl rfl rfl | exact .sl (by first | rfl | (rfl)) | exact .both rfl rfl | exact .frz rfl rfl rfl rfl rfl (by first | rfl | (rfl)) rfl⟩⟩ ?_ | refine LeHs.fresh rfl rfl rfl (Nat.succ_pos _) rfl ?_) rfl rfl)
  · have hkn : k = a.length := by simp at h1; omega
    have hF : decide (a = b) = true := decide_eq_true (gs_ext hlen (fun j hj' => hj j (by omega)))
    repeat first | refine ax_seq ?_ | refine ax_next ?_ | refine rg_text ?_ | refine rg_any mixed ?_ | refine ax_block ?_ | refine rh_nil ⟨(by kernel_rfl), ?_⟩ | refine rh_nil ?_ | refine ax_ret ?_ | refine ax_skip ?_ | refine ax_exit ?_ | refine ax_true rfl ?_ | refine ax_false rfl ?_ | refine then_ret ?_ | refine then_exit ?_ | refine out_here ?_ | refine out_away rfl ?_ | refine out_normal ?_ | refine out_ret ?_ | refine round_exit ?_ | refine round_ret ?_ | refine meet_ret ?_ | refine meet_exit ?_ | (apply rh_no; iterate 4 exact rfl) | (apply rh_un; iterate 3 exact rfl) | (apply rh0; (case h => exact z0); (case hw => exact wt)) | (apply rh1; (case h => exact z1); (case hw => exact wt)) | (apply rhs; (case h => exact zs); (case hw => exact wt))
    refine ⟨.inl rfl, _, _, (by repeat first | exact .nil | apply ResL.cons | exact .tmp rfl | exact .agg rfl rfl rfl rfl rfl (Nat.le_of_ble_eq_true rfl) rfl | exact .cell rfl rfl rfl rfl rfl (Nat.le_of_ble_eq_true rfl) rfl), (by first | exact .one (by first | exact .one (.v (by first | rfl | (rw [hF]))) | exact .one (.own rfl rfl rfl rfl rfl rfl (by first | rfl | (rw [hF])) (by first | exact scal_ints _ | exact scal_slc _)) | exact .one (.nil (by decide) (by first | rfl | (rw [hF]))) | exact .agg (.cons (.v (by first | rfl | (rw [hF]))) (.cons (.v (by first | rfl | (rw [hF]))) (.cons (.own rfl rfl rfl rfl rfl rfl (by first | rfl | (rw [hF])) (scal_ints _)) .nil))) | exact .agg (.cons (.v (by first | rfl | (rw [hF]))) (.cons (.v (by first | rfl | (rw [hF]))) (.cons (.nil (by decide) (by first | rfl | (rw [hF]))) .nil))) | exact .agg (.cons (.v (by first | rfl | (rw [hF]))) (.cons (.v (by first | rfl | (rw [hF]))) .nil))) | exact .two (by repeat first | exact .nil | apply ExpL.cons | exact (by first | exact .one (.v (by first | rfl | (rw [hF]))) | exact .one (.own rfl rfl rfl rfl rfl rfl (by first | rfl | (rw [hF])) (by first | exact scal_ints _ | exact scal_slc _)) | exact .one (.nil (by decide) (by first | rfl | (rw [hF]))) | exact .agg (.cons (.v (by first | rfl | (rw [hF]))) (.cons (.v (by first | rfl | (rw [hF]))) (.cons (.own rfl rfl rfl rfl rfl rfl (by first | rfl | (rw [hF])) (scal_ints _)) .nil))) | exact .agg (.cons (.v (by first | rfl | (rw [hF]))) (.cons (.v (by first | rfl | (rw [hF]))) (.cons (.nil (by decide) (by first | rfl | (rw [hF]))) .nil))) | exact .agg (.cons (.v (by first | rfl | (rw [hF]))) (.cons (.v (by first | rfl | (rw [hF]))) .nil))))), (by decide)⟩
theorem mem_row {h : PHall} {k m : Nat} {s : Int × Int} : s ∈ mayRow h k m ↔ ∃ j : Nat, j < m ∧ slideMayB h k j = true ∧ s = ((k : Int), (j : Int)) := by
  unfold mayRow
  rw [List.mem_map]
  constructor
  · rintro ⟨x, hx, rfl⟩
    obtain ⟨j, h1, h2, rfl⟩ := selTo_mem.1 hx
    exact ⟨j, h1, h2, rfl⟩
  · rintro ⟨j, h1, h2, rfl⟩
    exact ⟨j, selTo_mem.2 ⟨j, h1, h2, rfl⟩, rfl⟩
theorem mem_to {h : PHall} {n : Nat} {s : Int × Int} : s ∈ mayTo h n ↔ ∃ k : Nat, k < n ∧ s ∈ mayRow h k h.cells.length := by
  induction n with
  | zero => simp [mayTo]
  | succ n ih =>
    rw [mayTo, List.mem_append, ih]
    constructor
    · rintro (⟨k, h1, h2⟩ | h2)
      · exact ⟨k, by omega, h2⟩
      · exact ⟨n, by omega, h2⟩
    · rintro ⟨k, h1, h2⟩
      by_cases e : k = n
      · subst e; exact .inr h2
      · exact .inl ⟨k, by omega, h2⟩
theorem mem_all {h : PHall} {s : Int × Int} : s ∈ slidesAllF h ↔ slideMayB h s.1 s.2 = true := by
  unfold slidesAllF
  rw [mem_to]
  constructor
  · rintro ⟨k, _, h2⟩
    obtain ⟨j, _, h3, rfl⟩ := mem_row.1 h2
    exact h3
  · intro hm
    obtain ⟨h1, h2, _⟩ := may_cells hm
    have ha := hasCell_iff.1 h1
    have hb := hasCell_iff.1 h2
    obtain ⟨a, b⟩ := s
    dsimp only at hm ha hb
    refine ⟨a.toNat, by omega, mem_row.2 ⟨b.toNat, by omega, ?_, ?_⟩⟩
    · rw [Int.toNat_of_nonneg ha.1, Int.toNat_of_nonneg hb.1]; exact hm
    · rw [Int.toNat_of_nonneg ha.1, Int.toNat_of_nonneg hb.1]
theorem mem_take_succ {l : List (Int × Int)} {k : Nat} (hk : k < l.length) (s : Int × Int) : s ∈ l.take (k + 1) ↔ s ∈ l.take k ∨ gs l k = s := by
  have e1 : l.take (k + 1) = l.take k ++ [gs l k] := by
    rw [List.take_succ_eq_append_getElem hk]
    simp [gs, List.getD, hk]
  rw [e1, List.mem_append, List.mem_singleton]
  constructor
  · rintro (h | h); exact .inl h; exact .inr h.symm
  · rintro (h | h); exact .inl h; exact .inr h.symm
set_option maxHeartbeats 4000000 in
theorem fnSlideMay_fn (v0 : Value) (bs : List Int) (hB : OkB bs) : FnS Tryd.prog 7 [codeV v0 bs] (.bool true) := by
  obtain ⟨⟨h, a, b⟩, g1, hH⟩ := drawSlideMay_fn v0 bs hB
  dsimp only at g1 hH
  have hlim := lim_eq
  have hl : h.cells.length ≤ lim := by omega
  have hls : (slidesAllF h).length ≤ 200 := by have := may_small h h.cells.length 0 (Nat.le_refl _) (Nat.zero_le _); simp [mayRow, selTo] at this; exact this
  have hP := slideMay_fn h hl a b
  have hP2 := specSlideMay_fn h hl a b
  have hQ := slideMay_fn h hl b a
  obtain ⟨m, hm⟩ : ∃ m, m = slideMayB h a b := ⟨_, rfl⟩
  rw [← hm] at hP hP2
  refine fn_go1 tabOk Tryd.func7 rfl (by kernel_rfl) Tryd.ntmps7 Tryd.results7 (by decide) ?_
  repeat first | refine ax_seq ?_ | refine ax_next ?_ | refine rg_text ?_ | refine rg_any mixed ?_ | refine ax_block ?_ | refine rh_nil ⟨(by kernel_rfl), ?_⟩ | refine rh_nil ?_ | refine ax_ret ?_ | refine ax_skip ?_ | refine ax_exit ?_ | refine ax_true rfl ?_ | refine ax_false rfl ?_ | refine then_ret ?_ | refine then_exit ?_ | refine out_here ?_ | refine out_away rfl ?_ | refine out_normal ?_ | refine out_ret ?_ | refine round_exit ?_ | refine round_ret ?_ | refine meet_ret ?_ | refine meet_exit ?_ | (apply rh_no; iterate 4 exact rfl) | (apply rh_un; iterate 3 exact rfl) | (apply rh0; (case h => exact z0); (case hw => exact wt)) | (apply rh1; (case h => exact z1); (case hw => exact wt)) | (apply rhs; (case h => exact zs); (case hw => exact wt))
  refine ax_cond rfl (fun hb0 => ?_) (fun hb0 => ?_)
  · repeat first | refine ax_seq ?_ | refine ax_next ?_ | refine rg_text ?_ | refine rg_any mixed ?_ | refine ax_block ?_ | refine rh_nil ⟨(by kernel_rfl), ?_⟩ | refine rh_nil ?_ | refine ax_ret ?_ | refine ax_skip ?_ | refine ax_exit ?_ | refine ax_true rfl ?_ | refine ax_false rfl ?_ | refine then_ret ?_ | refine then_exit ?_ | refine out_here ?_ | refine out_away rfl ?_ | refine out_normal ?_ | refine out_ret ?_ | refine round_exit ?_ | refine round_ret ?_ | refine meet_ret ?_ | refine meet_exit ?_ | (apply rh_no; iterate 4 exact rfl) | (apply rh_un; iterate 3 exact rfl) | (apply rh0; (case h => exact z0); (case hw => exact wt)) | (apply rh1; (case h => exact z1); (case hw => exact wt)) | (apply rhs; (case h => exact zs); (case hw => exact wt))
    refine ⟨.inl rfl, _, _, (by repeat first | exact .nil | apply ResL.cons | exact .tmp rfl | exact .agg rfl rfl rfl rfl rfl (Nat.le_of_ble_eq_true rfl) rfl | exact .cell rfl rfl rfl rfl rfl (Nat.le_of_ble_eq_true rfl) rfl), (by first | exact .one (by first | exact .one (.v rfl) | exact .one (.own rfl rfl rfl rfl rfl rfl rfl (by first | exact scal_ints _ | exact scal_slc _)) | exact .one (.nil (by decide) rfl) | exact .agg (.cons (.v rfl) (.cons (.v rfl) (.cons (.own rfl rfl rfl rfl rfl rfl rfl (scal_ints _)) .nil))) | exact .agg (.cons (.v rfl) (.cons (.v rfl) (.cons (.nil (by decide) rfl) .nil))) | exact .agg (.cons (.v rfl) (.cons (.v rfl) .nil))) | exact .two (by repeat first | exact .nil | apply ExpL.cons | exact (by first | exact .one (.v rfl) | exact .one (.own rfl rfl rfl rfl rfl rfl rfl (by first | exact scal_ints _ | exact scal_slc _)) | exact .one (.nil (by decide) rfl) | exact .agg (.cons (.v rfl) (.cons (.v rfl) (.cons (.own rfl rfl rfl rfl rfl rfl rfl (scal_ints _)) .nil))) | exact .agg (.cons (.v rfl) (.cons (.v rfl) (.cons (.nil (by decide) rfl) .nil))) | exact .agg (.cons (.v rfl) (.cons (.v rfl) .nil))))), (by decide)⟩
  repeat first | refine ax_seq ?_ | refine ax_next ?_ | refine rg_text ?_ | refine rg_any mixed ?_ | refine ax_block ?_ | refine rh_nil ⟨(by kernel_rfl), ?_⟩ | refine rh_nil ?_ | refine ax_ret ?_ | refine ax_skip ?_ | refine ax_exit ?_ | refine ax_true rfl ?_ | refine ax_false rfl ?_ | refine then_ret ?_ | refine then_exit ?_ | refine out_here ?_ | refine out_away rfl ?_ | refine out_normal ?_ | refine out_ret ?_ | refine round_exit ?_ | refine round_ret ?_ | refine meet_ret ?_ | refine meet_exit ?_ | refine Af (h := ?_) | refine At (h := ?_) | (apply rh_no; iterate 4 exact rfl) | (apply rh_un; iterate 3 exact rfl) | (apply rh0; (case h => first | (apply st_call (hfn := hP ); exact rfl; exact fz) | (apply st_call (hfn := hP2 ); exact rfl; exact fz) | exact z0); (case hw => exact wt)) | (apply rh1; (case h => first | (apply st_call_ha (hfn := hH ); exact rfl; exact fz; iterate 2 exact rfl) | (apply st_call_s (hfn := slidesAll_fn h hl ); exact rfl; exact fz; iterate 2 exact rfl) | exact z1); (case hw => exact wt)) | (apply rhs; (case h => exact zs); (case hw => exact wt)) | refine Kf (h := ?_) | refine Kt (h := ?_)
  refine ax_loop (fun k : Nat => mkS [(8, .int (k : Int)), (7, .bool (decide ((a, b) ∈ (slidesAllF h).take k))), (6, .own 4 0), (5, .bool m), (4, .ptr 3 0 0), (3, .ptr 2 0 0)] ⟨5, [(1, some (intsRow h.cells)), (2, some (boxRow h.wide h.deep 1 0)), (3, some ⟨38, 2, 0, true, true, [.int a, .int b]⟩), (4, some (slcRow (slidesAllF h)))]⟩) (fun k => k ≤ (slidesAllF h).length) (fun k => (slidesAllF h).length - k) (0) (Nat.zero_le _) (weak_of [] (by repeat first | exact .nil | refine LeEs.cons ?_ ?_ | exact .v (by first | rfl | (first | rfl | simp)) | exact .own rfl rfl rfl rfl rfl | exact .ptr rfl rfl rfl rfl rfl rfl | exact .nil rfl rfl rfl | exact .sl (by first | rfl | (first | rfl | simp)) | exact .both rfl rfl | exact .frz rfl rfl rfl rfl rfl (by first | rfl | (first | rfl | simp)) rfl | exact .any _) (by repeat first | exact .nil | refine LeHs.keep rfl ⟨rfl, rfl, rfl, .inl ⟨rfl, by first | rfl | (first | rfl | simp)⟩⟩ ?_ | refine LeHs.keep rfl ⟨rfl, rfl, rfl, .inr ⟨(by first | exact .inl rfl | exact .inr rfl), by repeat first | exact .nil | refine LeVL.cons ?_ ?_ | exact .v (by first | rfl | (first | rfl | simp)) | exact .own rfl rfl rfl rfl rfl | exact .sl (by first | rfl | (first | rfl | simp)) | exact .both rfl rfl | exact .frz rfl rfl rfl rfl rfl (by first | rfl | (first | rfl | simp)) rfl⟩⟩ ?_ | refine LeHs.fresh rfl rfl rfl (Nat.succ_pos _) rfl ?_) rfl rfl) ?_
  intro k hk
  repeat first | refine ax_seq ?_ | refine ax_next ?_ | refine rg_text ?_ | refine rg_any mixed ?_ | refine ax_block ?_ | refine rh_nil ⟨(by kernel_rfl), ?_⟩ | refine rh_nil ?_ | refine ax_ret ?_ | refine ax_skip ?_ | refine ax_exit ?_ | refine ax_true rfl ?_ | refine ax_false rfl ?_ | refine then_ret ?_ | refine then_exit ?_ | refine out_here ?_ | refine out_away rfl ?_ | refine out_normal ?_ | refine out_ret ?_ | refine round_exit ?_ | refine round_ret ?_ | refine meet_ret ?_ | refine meet_exit ?_ | (apply rh_no; iterate 4 exact rfl) | (apply rh_un; iterate 3 exact rfl) | (apply rh0; (case h => exact z0); (case hw => exact wt)) | (apply rh1; (case h => exact z1); (case hw => exact wt)) | (apply rhs; (case h => exact zs); (case hw => exact wt))
  refine ax_cond rfl (fun hb2 => ?_) (fun hb2 => ?_)
  · have hlt : k < (slidesAllF h).length := by simpa using hb2
    have hmt := mem_take_succ hlt (a, b)
    by_cases hin : (a, b) ∈ (slidesAllF h).take k
    · have hin2 : (a, b) ∈ (slidesAllF h).take (k + 1) := hmt.2 (.inl hin)
      repeat first | refine ax_seq ?_ | refine ax_next ?_ | refine rg_text ?_ | refine rg_any mixed ?_ | refine ax_block ?_ | refine rh_nil ⟨(by kernel_rfl), ?_⟩ | refine rh_nil ?_ | refine ax_ret ?_ | refine ax_skip ?_ | refine ax_exit ?_ | refine ax_true rfl ?_ | refine ax_false rfl ?_ | refine then_ret ?_ | refine then_exit ?_ | refine out_here ?_ | refine out_away rfl ?_ | refine out_normal ?_ | refine out_ret ?_ | refine round_exit ?_ | refine round_ret ?_ | refine meet_ret ?_ | refine meet_exit ?_ | refine Af (h := ?_) | refine At (h := ?_) | (apply rh_no; iterate 4 exact rfl) | (apply rh_un; iterate 3 exact rfl) | (apply rh0; (case h => first | (apply st_eqls; iterate 3 exact rfl) | exact z0); (case hw => exact wt)) | (apply rh1; (case h => exact z1); (case hw => exact wt)) | (apply rhs; (case h => exact zs); (case hw => exact wt)) | refine Kf (h := ?_) | refine Kt (h := ?_)
      refine round_next (k + 1) (hlt) (by omega) (weak_of [] (by repeat first | exact .nil | refine LeEs.cons ?_ ?_ | exact .v (by first | rfl | (simp [hin2])) | exact .own rfl rfl rfl rfl rfl | exact .ptr rfl rfl rfl rfl rfl rfl | exact .nil rfl rfl rfl | exact .sl (by first | rfl | (simp [hin2])) | exact .both rfl rfl | exact .frz rfl rfl rfl rfl rfl (by first | rfl | (simp [hin2])) rfl | exact .any _) (by repeat first | exact .nil | refine LeHs.keep rfl ⟨rfl, rfl, rfl, .inl ⟨rfl, by first | rfl | (simp [hin2])⟩⟩ ?_ | refine LeHs.keep rfl ⟨rfl, rfl, rfl, .inr ⟨(by first | exact .inl rfl | exact .inr rfl), by repeat first | exact .nil | refine LeVL.cons ?_ ?_ | exact .v (by first | rfl | (simp [hin2])) | exact .own rfl rfl rfl rfl rfl | exact .sl (by first | rfl | (simp [hin2])) | exact .both rfl rfl | exact .frz rfl rfl rfl rfl rfl (by first | rfl | (simp [hin2])) rfl⟩⟩ ?_ | refine LeHs.fresh rfl rfl rfl (Nat.succ_pos _) rfl ?_) rfl rfl)
    · have hin2 : decide ((a, b) ∈ (slidesAllF h).take (k + 1)) = decide ((gs (slidesAllF h) k).1 = a ∧ (gs (slidesAllF h) k).2 = b) := decide_eq_decide.2 (hmt.trans ⟨fun e => by rcases e with e | e; exact absurd e hin; rw [e]; exact ⟨rfl, rfl⟩, fun e => .inr (Prod.ext e.1 e.2)⟩)
      repeat first | refine ax_seq ?_ | refine ax_next ?_ | refine rg_text ?_ | refine rg_any mixed ?_ | refine ax_block ?_ | refine rh_nil ⟨(by kernel_rfl), ?_⟩ | refine rh_nil ?_ | refine ax_ret ?_ | refine ax_skip ?_ | refine ax_exit ?_ | refine ax_true rfl ?_ | refine ax_false rfl ?_ | refine then_ret ?_ | refine then_exit ?_ | refine out_here ?_ | refine out_away rfl ?_ | refine out_normal ?_ | refine out_ret ?_ | refine round_exit ?_ | refine round_ret ?_ | refine meet_ret ?_ | refine meet_exit ?_ | refine Af (h := ?_) | refine At (h := ?_) | (apply rh_no; iterate 4 exact rfl) | (apply rh_un; iterate 3 exact rfl) | (apply rh0; (case h => first | (apply st_eqls; iterate 3 exact rfl) | exact z0); (case hw => exact wt)) | (apply rh1; (case h => exact z1); (case hw => exact wt)) | (apply rhs; (case h => exact zs); (case hw => exact wt)) | refine Kf (h := ?_) | refine Kt (h := ?_)
      refine round_next (k + 1) (hlt) (by omega) (weak_of [] (by repeat first | exact .nil | refine LeEs.cons ?_ ?_ | exact .v (by first | rfl | (rw [hin2])) | exact .own rfl rfl rfl rfl rfl | exact .ptr rfl rfl rfl rfl rfl rfl | exact .nil rfl rfl rfl | exact .sl (by first | rfl | (rw [hin2])) | exact .both rfl rfl | exact .frz rfl rfl rfl rfl rfl (by first | rfl | (rw [hin2])) rfl | exact .any _) (by repeat first | exact .nil | refine LeHs.keep rfl ⟨rfl, rfl, rfl, .inl ⟨rfl, by first | rfl | (rw [hin2])⟩⟩ ?_ | refine LeHs.keep rfl ⟨rfl, rfl, rfl, .inr ⟨(by first | exact .inl rfl | exact .inr rfl), by repeat first | exact .nil | refine LeVL.cons ?_ ?_ | exact .v (by first | rfl | (rw [hin2])) | exact .own rfl rfl rfl rfl rfl | exact .sl (by first | rfl | (rw [hin2])) | exact .both rfl rfl | exact .frz rfl rfl rfl rfl rfl (by first | rfl | (rw [hin2])) rfl⟩⟩ ?_ | refine LeHs.fresh rfl rfl rfl (Nat.succ_pos _) rfl ?_) rfl rfl)
  · have hkn : k = (slidesAllF h).length := by simp at hb2; omega
    have hd : decide ((a, b) ∈ (slidesAllF h).take k) = m := by
      rw [hkn, List.take_length, hm]
      cases e : slideMayB h a b with
      | true => exact decide_eq_true (mem_all.2 e)
      | false => exact decide_eq_false (fun h1 => by have := mem_all.1 h1; rw [e] at this; simp at this)
    have hno : m = true → slideMayB h b a = false := fun e => by
      rw [hm] at e
      obtain ⟨_, _, h3, h4, _⟩ := may_cells e
      cases e2 : slideMayB h b a with
      | false => rfl
      | true =>
        obtain ⟨_, _, h5, h6, _⟩ := may_cells e2
        exact absurd h6 h3
    cases m
    · have hd' : (decide ((a, b) ∈ (slidesAllF h).take k) == false) = true := by rw [hd]; rfl
      repeat first | refine ax_seq ?_ | refine ax_next ?_ | refine rg_text ?_ | refine rg_any mixed ?_ | refine ax_block ?_ | refine rh_nil ⟨(by kernel_rfl), ?_⟩ | refine rh_nil ?_ | refine ax_ret ?_ | refine ax_skip ?_ | refine ax_exit ?_ | refine ax_true rfl ?_ | refine ax_false rfl ?_ | refine then_ret ?_ | refine then_exit ?_ | refine out_here ?_ | refine out_away rfl ?_ | refine out_normal ?_ | refine out_ret ?_ | refine round_exit ?_ | refine round_ret ?_ | refine meet_ret ?_ | refine meet_exit ?_ | refine Af (h := ?_) | refine At (h := ?_) | (apply rh_no; iterate 4 exact rfl) | (apply rh_un; iterate 3 exact rfl) | (apply rh0; (case h => first | (apply does_eqlb tabOk; iterate 5 exact rfl) | (apply st_call (hfn := alive_fn ); exact rfl; exact fz) | exact z0); (case hw => exact wt)) | (apply rh1; (case h => exact z1); (case hw => exact wt)) | (apply rhs; (case h => exact zs); (case hw => exact wt)) | refine Kf (h := ?_) | refine Kt (h := ?_)
      refine ⟨.inl rfl, _, _, (by repeat first | exact .nil | apply ResL.cons | exact .tmp rfl | exact .agg rfl rfl rfl rfl rfl (Nat.le_of_ble_eq_true rfl) rfl | exact .cell rfl rfl rfl rfl rfl (Nat.le_of_ble_eq_true rfl) rfl), (by first | exact .one (by first | exact .one (.v rfl) | exact .one (.own rfl rfl rfl rfl rfl rfl rfl (by first | exact scal_ints _ | exact scal_slc _)) | exact .one (.nil (by decide) rfl) | exact .agg (.cons (.v rfl) (.cons (.v rfl) (.cons (.own rfl rfl rfl rfl rfl rfl rfl (scal_ints _)) .nil))) | exact .agg (.cons (.v rfl) (.cons (.v rfl) (.cons (.nil (by decide) rfl) .nil))) | exact .agg (.cons (.v rfl) (.cons (.v rfl) .nil))) | exact .two (by repeat first | exact .nil | apply ExpL.cons | exact (by first | exact .one (.v rfl) | exact .one (.own rfl rfl rfl rfl rfl rfl rfl (by first | exact scal_ints _ | exact scal_slc _)) | exact .one (.nil (by decide) rfl) | exact .agg (.cons (.v rfl) (.cons (.v rfl) (.cons (.own rfl rfl rfl rfl rfl rfl rfl (scal_ints _)) .nil))) | exact .agg (.cons (.v rfl) (.cons (.v rfl) (.cons (.nil (by decide) rfl) .nil))) | exact .agg (.cons (.v rfl) (.cons (.v rfl) .nil))))), (by decide)⟩
    · have hd' : (decide ((a, b) ∈ (slidesAllF h).take k) == true) = true := by rw [hd]; rfl
      rw [hno rfl] at hQ
      repeat first | refine ax_seq ?_ | refine ax_next ?_ | refine rg_text ?_ | refine rg_any mixed ?_ | refine ax_block ?_ | refine rh_nil ⟨(by kernel_rfl), ?_⟩ | refine rh_nil ?_ | refine ax_ret ?_ | refine ax_skip ?_ | refine ax_exit ?_ | refine ax_true rfl ?_ | refine ax_false rfl ?_ | refine then_ret ?_ | refine then_exit ?_ | refine out_here ?_ | refine out_away rfl ?_ | refine out_normal ?_ | refine out_ret ?_ | refine round_exit ?_ | refine round_ret ?_ | refine meet_ret ?_ | refine meet_exit ?_ | refine Af (h := ?_) | refine At (h := ?_) | (apply rh_no; iterate 4 exact rfl) | (apply rh_un; iterate 3 exact rfl) | (apply rh0; (case h => first | (apply does_eqlb tabOk; iterate 5 exact rfl) | (apply st_call (hfn := alive_fn ); exact rfl; exact fz) | (apply st_call (hfn := hQ ); exact rfl; exact fz) | exact z0); (case hw => exact wt)) | (apply rh1; (case h => exact z1); (case hw => exact wt)) | (apply rhs; (case h => exact zs); (case hw => exact wt)) | refine Kf (h := ?_) | refine Kt (h := ?_)
      refine ⟨.inl rfl, _, _, (by repeat first | exact .nil | apply ResL.cons | exact .tmp rfl | exact .agg rfl rfl rfl rfl rfl (Nat.le_of_ble_eq_true rfl) rfl | exact .cell rfl rfl rfl rfl rfl (Nat.le_of_ble_eq_true rfl) rfl), (by first | exact .one (by first | exact .one (.v rfl) | exact .one (.own rfl rfl rfl rfl rfl rfl rfl (by first | exact scal_ints _ | exact scal_slc _)) | exact .one (.nil (by decide) rfl) | exact .agg (.cons (.v rfl) (.cons (.v rfl) (.cons (.own rfl rfl rfl rfl rfl rfl rfl (scal_ints _)) .nil))) | exact .agg (.cons (.v rfl) (.cons (.v rfl) (.cons (.nil (by decide) rfl) .nil))) | exact .agg (.cons (.v rfl) (.cons (.v rfl) .nil))) | exact .two (by repeat first | exact .nil | apply ExpL.cons | exact (by first | exact .one (.v rfl) | exact .one (.own rfl rfl rfl rfl rfl rfl rfl (by first | exact scal_ints _ | exact scal_slc _)) | exact .one (.nil (by decide) rfl) | exact .agg (.cons (.v rfl) (.cons (.v rfl) (.cons (.own rfl rfl rfl rfl rfl rfl rfl (scal_ints _)) .nil))) | exact .agg (.cons (.v rfl) (.cons (.v rfl) (.cons (.nil (by decide) rfl) .nil))) | exact .agg (.cons (.v rfl) (.cons (.v rfl) .nil))))), (by decide)⟩

theorem fnSlideMay_walk (w : World) (v0 : Value) (b0 : List Int) (q0 : RawBytes w v0 b0) : Calls Tryd.prog 7 #[v0] w (Gives (.bool true) w) := by
  refine ((fnSlideMay_fn v0 b0 q0.choose_spec.choose_spec.2.2.2.2).2 w [v0] (by simp only [pureL, pureV]; exact ⟨pure_byts b0, trivial⟩) (by simp only [relL]; exact ⟨_, _, rfl, rel_of_rawBytes q0, rfl⟩)).mono fun e w' hh => gives_v_of hh

set_option maxRecDepth 100000 in
theorem fnSlideMay_lifted (os : Os) (started : os.Started) (H : Type) (enc : TypeId × Value → H) :
    ReturnsInHanded {} Tryd.checked os 7 .any (fun w args => (Rows.fnSlideMaySpec.pre enc Tryd.prog Tryd.f7 Rows.fnSlideMayRow.domain false w args ∧ laidMetH Tryd.prog laidL w) ∧ sizedMet enc Tryd.prog Tryd.f7 (OpenSpec.ofChange Rows.fnSlideMaySpec) false w args)
      (Rows.fnSlideMaySpec.post enc Tryd.prog Tryd.f7 false true false false) := by
  refine returnsInHanded_of_change_and (C := Tryd.checked) (X := fun w _ => laidMetH Tryd.prog laidL w) (fun _ _ _ hh h => h.of_heap hh) Tryd.own started (by kernel_rfl) Tryd.func7
    (ChangeSpec.witness_shaped (enc := enc) (C := Tryd.checked) (os := os) (X := fun w _ => laidMetH Tryd.prog laidL w) false (World.doorLaid Tryd.prog 400 os) #[.slice none 0 0] 8 rfl (World.shaped_of_RefB (by kernel_rfl) (by kernel_rfl)) (by kernel_rfl) (by kernel_rfl) (by kernel_rfl) (door_met os _)) ?_
  intro W base args ds gs before hval0 hW _ _ _ _
  have hval : ∀ (j : Nat) t v, Tryd.f7.params[j]? = some t → args[j]? = some v → Value.okWide Tryd.prog W .any base t v := hval0
  have hW' := hW
  obtain ⟨p, q, hA0, hV, rfl, hfz, hnd⟩ := hW
  have hA : DataW.TrodAll enc Tryd.prog W 0 (fun _ => true) true Tryd.f7.params.toList args.toList ds p := hA0
  rw [Tryd.params7] at hA hval
  obtain ⟨v0, vs0, d0, ds0, p0, q0, hargs, rfl, rfl, h0, r0⟩ := trodAll_cons hA
  obtain ⟨rfl, rfl, rfl⟩ := trodAll_nil r0
  obtain rfl : args = #[v0] := by cases args; simp_all
  obtain ⟨rfl, rfl⟩ := trodVars_none hV
  have lt0 := lt_of_trod h0
  obtain ⟨b0, w0⟩ := open_raw_bytes_arg (fun _ => rfl) (hval 0 22 v0 rfl rfl) h0
  clear hA0 hval0
  refine (fnSlideMay_walk W v0 b0 w0).mono fun e W' ⟨he, bel⟩ => ?_
  subst he
  exact ⟨_, rfl, _, _, _, [], _, [], hW', trodAll_mk1 (shut_bool Tryd.underlying4 _), (trodAll_cons_mk (Below.trod Tryd.laidOut (by kernel_rfl) (of_decide_eq_true (by kernel_rfl)) h0 bel lt0) trodAll_mk0), rfl, bel.frame _, fun h => by cases h⟩

theorem fnSlideMay_over : Rows.fnSlideMayRow.holds Tryd.pinned (OpenSpec.ofChange Rows.fnSlideMaySpec) :=
  OpenClaim.holds_of_wide 7 Tryd.f7 rfl rfl rfl rfl rfl rfl rfl ⟨rfl, rfl, rfl, rfl, rfl⟩ rfl rfl rfl rfl rfl (by kernel_rfl) Tryd.func7 (by kernel_rfl)
    (of_decide_eq_true (by kernel_rfl)) (by unfold Func.isWrapper; rw [if_neg (of_decide_eq_false (by kernel_rfl))]; exact ⟨rfl, rfl⟩)
    (fun os started H enc _ => fnSlideMay_lifted os started H enc)

theorem fnSlideMay_holds : Rows.FnSlideMayCardSaid :=
  Claim7.holds_tied_plain_at .later [] [.data, .data, .data] true mainIsB false
    fnSlideMay_over (fun _ h => by cases h) (by kernel_rfl) (fun _ h => by cases h) fnSlideMay_row_tie rfl ⟨rfl, rfl⟩ mainFact rfl
    (fun f fn hf hfn => by
      obtain rfl : f = 7 := Option.some.inj ((show Tryd.prog.funcNamed "loop.example/parkinghouse/laws.FnSlideMay" = some 7 by kernel_rfl).symm.trans hf) |>.symm
      obtain rfl : fn = Tryd.f7 := (Option.some.inj (Tryd.func7.symm.trans hfn)).symm
      exact ⟨noLooks, fun j t ht => by
        rw [Tryd.params7] at ht
        have hm : t ∈ [22] := by simpa using Array.mem_of_getElem? ht
        have hall : ([22].all fun u => !Tryd.prog.wantsStandIn u) = true := by kernel_rfl
        exact (show Tryd.prog.wantsStandIn t = false by simpa using List.all_eq_true.1 hall t hm)⟩)
    (by kernel_rfl)

#print axioms fnSlideMay_holds

end Go.Proofs.YtmkdafgcggpahaaDoor
