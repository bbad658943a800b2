/-
  Proved: FnHallTurn returns true for every argument, and its argument reads afterwards as it read before (the card). No condition.
-/
import Derived.Test.YtjdgbdakkdljmaaDoorRow3
import Derived.Test.YtjdgbdakkdljmaaDoorMain
import Derived.Test.YtjdgbdakkdljmaaDoorW4
import Derived.Laws.StructEq
import Derived.ChangeKeysEq
set_option linter.unusedVariables false
set_option linter.unusedSimpArgs false
set_option maxRecDepth 100000
namespace Go.Proofs.YtjdgbdakkdljmaaDoor
open Go Go.RowKit Go.Park Go.Sym
open Go.ChangeShapes Go.WideShapes Go.ChangeAt

/-! slides compared -/
theorem slide_eqIn (w : World) (a b c d : Int) : (Op.equalIn 10000 40 (.agg #[.int .i64 a, .int .i64 b]) (.agg #[.int .i64 c, .int .i64 d])).run Tryd.prog w = .ok (decide (a = c ∧ b = d)) w := by
  have h1 : (Tryd.prog).underlying 40 = some (.struct ((Tryd.prog).fieldsOf 40)) := by kernel_rfl
  have h2 : (Tryd.prog).stoodInHeld 40 = false := by kernel_rfl
  have h3 : ((Tryd.prog).fieldsOf 40).toList.map (fun f => (f.name == "_", f.type, f.offset)) = [(false, 3, 0), (false, 3, 1)] := by kernel_rfl
  obtain ⟨l, hl⟩ : ∃ l, l = ((Tryd.prog).fieldsOf 40).toList := ⟨_, rfl⟩
  rw [← hl] at h3
  have h5 : (Tryd.prog).underlying 3 = some (.int .i64) := by kernel_rfl
  have h6 : (Tryd.prog).plainKey 3 = true := by kernel_rfl
  rw [run_equalIn_struct w 9999 _ _ _ h1 h2, ← hl]
  match l, h3 with
  | [f, g], h3 =>
    simp only [List.map_cons, List.map_nil, List.cons.injEq, Prod.mk.injEq, and_true, beq_eq_false_iff_ne] at h3
    obtain ⟨⟨n1, t1, o1⟩, n2, t2, o2⟩ := h3
    have p0 : ∀ (u v : Int) (w : World), (part 3 #[.int .i64 u, .int .i64 v] 0).run Tryd.prog w = .ok (.int .i64 u) w := fun u v w => run_part_plain w h6 rfl
    have p1 : ∀ (u v : Int) (w : World), (part 3 #[.int .i64 u, .int .i64 v] 1).run Tryd.prog w = .ok (.int .i64 v) w := fun u v w => run_part_plain w h6 rfl
    simp only [Op.eqFields, if_pos n1, if_pos n2, t1, t2, o1, o2, Sem.run_bind, p0, p1, Result.andThen_ok, run_equalIn_int w 9998 3 .i64 .i64 _ _ h5, Sem.run_ite, Sem.run_pure]
    by_cases e1 : a = c <;> by_cases e2 : b = d <;> simp [e1, e2]
section
variable {nt : Nat} {E : List (Nat × AV)} {H : Hp} {dst : Option Nat} {ty : Nat} {pos : String} {aft : Array Edge} {gd : Option (Nat × Bool)}
theorem slide_rel {cx : Cx} {a b : Int} {v : Value} (h : relV cx (.agg [.int a, .int b]) v) : v = .agg #[.int .i64 a, .int .i64 b] := by
  rw [relV] at h
  obtain ⟨vs, rfl, h⟩ := h
  rw [relL] at h
  obtain ⟨u0, us0, rfl, h0, h⟩ := h
  rw [relL] at h
  obtain ⟨u1, us1, rfl, h1, h⟩ := h
  rw [relL] at h
  rw [relV] at h0 h1
  subst h h0 h1
  rfl
theorem st_lf0 {P : Program} {T : List (Nat × TyI)} (hT : TabOk P T) {t : Nat} {x : Operand} {i : TyI} {r k o : Nat} {row : Row} {l : List (Int × Int)} (hd : dstOk nt dst = true) (hx : (mkS E H).ev x = .ptr r k (o * 2 + 0)) (hr : (mkS E H).row r = some row) (hc : row.cs = slc l) (hv : row.ver = k) (ht : lkT T t = some i) (hg : i.agg = false) (ho : o < l.length) :
    Does P nt ⟨dst, .load t x, ty, pos, aft, gd⟩ ⟨fo x, [r]⟩ (.int (gs l o).1) [] (mkS E H) := by
  have := does_load (P := P) (ty := ty) (pos := pos) (aft := aft) (gd := gd) hT hd hx hr hv ht hg (by rw [hc, slc_length]; omega)
  rw [hc, Nat.add_zero, rd_slc0] at this
  exact this
theorem st_lf1 {P : Program} {T : List (Nat × TyI)} (hT : TabOk P T) {t : Nat} {x : Operand} {i : TyI} {r k o : Nat} {row : Row} {l : List (Int × Int)} (hd : dstOk nt dst = true) (hx : (mkS E H).ev x = .ptr r k (o * 2 + 1)) (hr : (mkS E H).row r = some row) (hc : row.cs = slc l) (hv : row.ver = k) (ht : lkT T t = some i) (hg : i.agg = false) (ho : o < l.length) :
    Does P nt ⟨dst, .load t x, ty, pos, aft, gd⟩ ⟨fo x, [r]⟩ (.int (gs l o).2) [] (mkS E H) := by
  have := does_load (P := P) (ty := ty) (pos := pos) (aft := aft) (gd := gd) hT hd hx hr hv ht hg (by rw [hc, slc_length]; omega)
  rw [hc, rd_slc1] at this
  exact this
theorem st_neqs {t' : Nat} {x y : Operand} {a b c d : Int} (hd : dstOk nt dst = true) (hx : (mkS E H).ev x = .agg [.int a, .int b]) (hy : (mkS E H).ev y = .agg [.int c, .int d]) :
    Does Tryd.prog nt ⟨dst, .binOp .neq 40 x y t', ty, pos, aft, gd⟩ ⟨fo x ++ fo y, []⟩ (.bool (!decide (a = c ∧ b = d))) [] (mkS E H) :=
  does_pure hd fun τ hag F φ Z a' w hF hS => by
    have e1 := ev_rel hag hS hx (by simp +contextual)
    have e2 := ev_rel hag hS hy (by simp +contextual)
    have hm : (Tryd.prog).eqGuardType (Tryd.prog).depth 40 = false := by kernel_rfl
    exact ⟨.bool (!decide (a = c ∧ b = d)), by simp [execOp, slide_rel e1, slide_rel e2, run_eqGuard_agg _ _ _ _ _ _ _ hm, run_neq_struct, slide_eqIn], by simp [relV]⟩
theorem st_eqls {t' : Nat} {x y : Operand} {a b c d : Int} (hd : dstOk nt dst = true) (hx : (mkS E H).ev x = .agg [.int a, .int b]) (hy : (mkS E H).ev y = .agg [.int c, .int d]) :
    Does Tryd.prog nt ⟨dst, .binOp .eql 40 x y t', ty, pos, aft, gd⟩ ⟨fo x ++ fo y, []⟩ (.bool (decide (a = c ∧ b = d))) [] (mkS E H) :=
  does_pure hd fun τ hag F φ Z a' w hF hS => by
    have e1 := ev_rel hag hS hx (by simp +contextual)
    have e2 := ev_rel hag hS hy (by simp +contextual)
    have hm : (Tryd.prog).eqGuardType (Tryd.prog).depth 40 = false := by kernel_rfl
    exact ⟨.bool (decide (a = c ∧ b = d)), by simp [execOp, slide_rel e1, slide_rel e2, run_eqGuard_agg _ _ _ _ _ _ _ hm, run_eql_struct, slide_eqIn], by simp [relV]⟩
theorem does_eqlb {P : Program} {T : List (Nat × TyI)} (hT : TabOk P T) {t t' : Nat} {i : TyI} {x y : Operand} {a b : Bool} (hd : dstOk nt dst = true) (ht : lkT T t = some i) (hu : i.u = .bool) (hx : (mkS E H).ev x = .bool a) (hy : (mkS E H).ev y = .bool b) :
    Does P nt ⟨dst, .binOp .eql t x y t', ty, pos, aft, gd⟩ ⟨fo x ++ fo y, []⟩ (.bool (a == b)) [] (mkS E H) :=
  does_pure hd fun τ hag F φ Z a' w hF hS => by
    obtain ⟨inf, d, hk⟩ := hT.known ht
    exact ⟨.bool (a == b), by simp [execOp, eqGuard, binOp, run_equal_bool _ _ _ _ (hk.bool hu), ev_v hag hS hx (by simp +contextual), ev_v hag hS hy (by simp +contextual)], by simp [relV]⟩
end
theorem gs_ext {a b : List (Int × Int)} (hl : a.length = b.length) (h : ∀ j, j < a.length → gs a j = gs b j) : a = b := by
  apply List.ext_getElem hl
  intro i h1 h2
  have := h i h1
  simpa [gs, List.getD, h1, h2] using this
set_option maxHeartbeats 1000000 in
theorem sameSlides_fn (a b : List (Int × Int)) (ha : a.length ≤ lim) (hb : b.length ≤ lim) : FnS Tryd.prog 32 [slcV a, slcV b] (.bool (decide (a = b))) := by
  have ha' : a.length ≤ 1073741824 := ha
  have hb' : b.length ≤ 1073741824 := hb
  refine fn_go2 tabOk Tryd.func32 rfl (by kernel_rfl) Tryd.ntmps32 Tryd.results32 (by decide) ?_
  repeat first | refine ax_seq ?_ | refine ax_next ?_ | refine rg_text ?_ | refine rg_any mixed ?_ | refine ax_block ?_ | refine rh_nil ⟨(by kernel_rfl), ?_⟩ | refine rh_nil ?_ | refine ax_ret ?_ | refine ax_skip ?_ | refine ax_exit ?_ | refine ax_true rfl ?_ | refine ax_false rfl ?_ | refine then_ret ?_ | refine then_exit ?_ | refine out_here ?_ | refine out_away rfl ?_ | refine out_normal ?_ | refine out_ret ?_ | refine round_exit ?_ | refine round_ret ?_ | refine meet_ret ?_ | refine meet_exit ?_ | (apply rh_no; iterate 4 exact rfl) | (apply rh_un; iterate 3 exact rfl) | (apply rh0; (case h => exact z0); (case hw => exact wt)) | (apply rh1; (case h => exact z1); (case hw => exact wt)) | (apply rhs; (case h => exact zs); (case hw => exact wt))
  refine ax_cond rfl (fun hl => ?_) (fun hl => ?_)
  · have hF : decide (a = b) = false := decide_eq_false (fun e => by subst e; simp at hl)
    repeat first | refine ax_seq ?_ | refine ax_next ?_ | refine rg_text ?_ | refine rg_any mixed ?_ | refine ax_block ?_ | refine rh_nil ⟨(by kernel_rfl), ?_⟩ | refine rh_nil ?_ | refine ax_ret ?_ | refine ax_skip ?_ | refine ax_exit ?_ | refine ax_true rfl ?_ | refine ax_false rfl ?_ | refine then_ret ?_ | refine then_exit ?_ | refine out_here ?_ | refine out_away rfl ?_ | refine out_normal ?_ | refine out_ret ?_ | refine round_exit ?_ | refine round_ret ?_ | refine meet_ret ?_ | refine meet_exit ?_ | (apply rh_no; iterate 4 exact rfl) | (apply rh_un; iterate 3 exact rfl) | (apply rh0; (case h => exact z0); (case hw => exact wt)) | (apply rh1; (case h => exact z1); (case hw => exact wt)) | (apply rhs; (case h => exact zs); (case hw => exact wt))
    refine ⟨.inl rfl, _, _, (by repeat first | exact .nil | apply ResL.cons | exact .tmp rfl | exact .agg rfl rfl rfl rfl rfl (Nat.le_of_ble_eq_true rfl) rfl | exact .cell rfl rfl rfl rfl rfl (Nat.le_of_ble_eq_true rfl) rfl), (by first | exact .one (by first | exact .one (.v (by first | rfl | (rw [hF]))) | exact .one (.own rfl rfl rfl rfl rfl rfl (by first | rfl | (rw [hF])) (by first | exact scal_ints _ | exact scal_slc _)) | exact .one (.nil (by decide) (by first | rfl | (rw [hF]))) | exact .agg (.cons (.v (by first | rfl | (rw [hF]))) (.cons (.v (by first | rfl | (rw [hF]))) (.cons (.own rfl rfl rfl rfl rfl rfl (by first | rfl | (rw [hF])) (scal_ints _)) .nil))) | exact .agg (.cons (.v (by first | rfl | (rw [hF]))) (.cons (.v (by first | rfl | (rw [hF]))) (.cons (.nil (by decide) (by first | rfl | (rw [hF]))) .nil))) | exact .agg (.cons (.v (by first | rfl | (rw [hF]))) (.cons (.v (by first | rfl | (rw [hF]))) .nil))) | exact .two (by repeat first | exact .nil | apply ExpL.cons | exact (by first | exact .one (.v (by first | rfl | (rw [hF]))) | exact .one (.own rfl rfl rfl rfl rfl rfl (by first | rfl | (rw [hF])) (by first | exact scal_ints _ | exact scal_slc _)) | exact .one (.nil (by decide) (by first | rfl | (rw [hF]))) | exact .agg (.cons (.v (by first | rfl | (rw [hF]))) (.cons (.v (by first | rfl | (rw [hF]))) (.cons (.own rfl rfl rfl rfl rfl rfl (by first | rfl | (rw [hF])) (scal_ints _)) .nil))) | exact .agg (.cons (.v (by first | rfl | (rw [hF]))) (.cons (.v (by first | rfl | (rw [hF]))) (.cons (.nil (by decide) (by first | rfl | (rw [hF]))) .nil))) | exact .agg (.cons (.v (by first | rfl | (rw [hF]))) (.cons (.v (by first | rfl | (rw [hF]))) .nil))))), (by decide)⟩
  have hlen : a.length = b.length := by
    have : (a.length : Int) = (b.length : Int) := by simpa using hl
    omega
  repeat first | refine ax_seq ?_ | refine ax_next ?_ | refine rg_text ?_ | refine rg_any mixed ?_ | refine ax_block ?_ | refine rh_nil ⟨(by kernel_rfl), ?_⟩ | refine rh_nil ?_ | refine ax_ret ?_ | refine ax_skip ?_ | refine ax_exit ?_ | refine ax_true rfl ?_ | refine ax_false rfl ?_ | refine then_ret ?_ | refine then_exit ?_ | refine out_here ?_ | refine out_away rfl ?_ | refine out_normal ?_ | refine out_ret ?_ | refine round_exit ?_ | refine round_ret ?_ | refine meet_ret ?_ | refine meet_exit ?_ | (apply rh_no; iterate 4 exact rfl) | (apply rh_un; iterate 3 exact rfl) | (apply rh0; (case h => exact z0); (case hw => exact wt)) | (apply rh1; (case h => exact z1); (case hw => exact wt)) | (apply rhs; (case h => exact zs); (case hw => exact wt))
  refine ax_loop (fun k : Nat => mkS [(5, .int (k : Int)), (0, slcV a), (1, slcV b)] ⟨1, []⟩) (fun k => k ≤ a.length ∧ ∀ j, j < k → gs a j = gs b j) (fun k => a.length - k) (0) (⟨Nat.zero_le _, fun j hj => by omega⟩) (weak_of [] (by repeat first | exact .nil | refine LeEs.cons ?_ ?_ | exact .v (by first | rfl | (rfl)) | exact .own rfl rfl rfl rfl rfl | exact .ptr rfl rfl rfl rfl rfl rfl | exact .nil rfl rfl rfl | exact .sl (by first | rfl | (rfl)) | exact .both rfl rfl | exact .frz rfl rfl rfl rfl rfl (by first | rfl | (rfl)) rfl | exact .any _) (by repeat first | exact .nil | refine LeHs.keep rfl ⟨rfl, rfl, rfl, .inl ⟨rfl, by first | rfl | (rfl)⟩⟩ ?_ | refine LeHs.keep rfl ⟨rfl, rfl, rfl, .inr ⟨(by first | exact .inl rfl | exact .inr rfl), by repeat first | exact .nil | refine LeVL.cons ?_ ?_ | exact .v (by first | rfl | (rfl)) | exact .own rfl rfl rfl rfl rfl | exact .sl (by first | rfl | (rfl)) | exact .both rfl rfl | exact .frz rfl rfl rfl rfl rfl (by first | rfl | (rfl)) rfl⟩⟩ ?_ | refine LeHs.fresh rfl rfl rfl (Nat.succ_pos _) rfl ?_) rfl rfl) ?_
  rintro k ⟨hk, hj⟩
  repeat first | refine ax_seq ?_ | refine ax_next ?_ | refine rg_text ?_ | refine rg_any mixed ?_ | refine ax_block ?_ | refine rh_nil ⟨(by kernel_rfl), ?_⟩ | refine rh_nil ?_ | refine ax_ret ?_ | refine ax_skip ?_ | refine ax_exit ?_ | refine ax_true rfl ?_ | refine ax_false rfl ?_ | refine then_ret ?_ | refine then_exit ?_ | refine out_here ?_ | refine out_away rfl ?_ | refine out_normal ?_ | refine out_ret ?_ | refine round_exit ?_ | refine round_ret ?_ | refine meet_ret ?_ | refine meet_exit ?_ | (apply rh_no; iterate 4 exact rfl) | (apply rh_un; iterate 3 exact rfl) | (apply rh0; (case h => exact z0); (case hw => exact wt)) | (apply rh1; (case h => exact z1); (case hw => exact wt)) | (apply rhs; (case h => exact zs); (case hw => exact wt))
  refine ax_cond rfl (fun h1 => ?_) (fun h1 => ?_)
  · have hlt : k < a.length := by simpa using h1
    repeat first | refine ax_seq ?_ | refine ax_next ?_ | refine rg_text ?_ | refine rg_any mixed ?_ | refine ax_block ?_ | refine rh_nil ⟨(by kernel_rfl), ?_⟩ | refine rh_nil ?_ | refine ax_ret ?_ | refine ax_skip ?_ | refine ax_exit ?_ | refine ax_true rfl ?_ | refine ax_false rfl ?_ | refine then_ret ?_ | refine then_exit ?_ | refine out_here ?_ | refine out_away rfl ?_ | refine out_normal ?_ | refine out_ret ?_ | refine round_exit ?_ | refine round_ret ?_ | refine meet_ret ?_ | refine meet_exit ?_ | (apply rh_no; iterate 4 exact rfl) | (apply rh_un; iterate 3 exact rfl) | (apply rh0; (case h => first | (apply st_neqs; iterate 3 exact rfl) | exact z0); (case hw => exact wt)) | (apply rh1; (case h => exact z1); (case hw => exact wt)) | (apply rhs; (case h => exact zs); (case hw => exact wt))
    refine ax_cond rfl (fun h2 => ?_) (fun h2 => ?_)
    · have hF : decide (a = b) = false := decide_eq_false (fun e => by subst e; simp at h2)
      repeat first | refine ax_seq ?_ | refine ax_next ?_ | refine rg_text ?_ | refine rg_any mixed ?_ | refine ax_block ?_ | refine rh_nil ⟨(by kernel_rfl), ?_⟩ | refine rh_nil ?_ | refine ax_ret ?_ | refine ax_skip ?_ | refine ax_exit ?_ | refine ax_true rfl ?_ | refine ax_false rfl ?_ | refine then_ret ?_ | refine then_exit ?_ | refine out_here ?_ | refine out_away rfl ?_ | refine out_normal ?_ | refine out_ret ?_ | refine round_exit ?_ | refine round_ret ?_ | refine meet_ret ?_ | refine meet_exit ?_ | (apply rh_no; iterate 4 exact rfl) | (apply rh_un; iterate 3 exact rfl) | (apply rh0; (case h => exact z0); (case hw => exact wt)) | (apply rh1; (case h => exact z1); (case hw => exact wt)) | (apply rhs; (case h => exact zs); (case hw => exact wt))
      refine ⟨.inl rfl, _, _, (by repeat first | exact .nil | apply ResL.cons | exact .tmp rfl | exact .agg rfl rfl rfl rfl rfl (Nat.le_of_ble_eq_true rfl) rfl | exact .cell rfl rfl rfl rfl rfl (Nat.le_of_ble_eq_true rfl) rfl), (by first | exact .one (by first | exact .one (.v (by first | rfl | (rw [hF]))) | exact .one (.own rfl rfl rfl rfl rfl rfl (by first | rfl | (rw [hF])) (by first | exact scal_ints _ | exact scal_slc _)) | exact .one (.nil (by decide) (by first | rfl | (rw [hF]))) | exact .agg (.cons (.v (by first | rfl | (rw [hF]))) (.cons (.v (by first | rfl | (rw [hF]))) (.cons (.own rfl rfl rfl rfl rfl rfl (by first | rfl | (rw [hF])) (scal_ints _)) .nil))) | exact .agg (.cons (.v (by first | rfl | (rw [hF]))) (.cons (.v (by first | rfl | (rw [hF]))) (.cons (.nil (by decide) (by first | rfl | (rw [hF]))) .nil))) | exact .agg (.cons (.v (by first | rfl | (rw [hF]))) (.cons (.v (by first | rfl | (rw [hF]))) .nil))) | exact .two (by repeat first | exact .nil | apply ExpL.cons | exact (by first | exact .one (.v (by first | rfl | (rw [hF]))) | exact .one (.own rfl rfl rfl rfl rfl rfl (by first | rfl | (rw [hF])) (by first | exact scal_ints _ | exact scal_slc _)) | exact .one (.nil (by decide) (by first | rfl | (rw [hF]))) | exact .agg (.cons (.v (by first | rfl | (rw [hF]))) (.cons (.v (by first | rfl | (rw [hF]))) (.cons (.own rfl rfl rfl rfl rfl rfl (by first | rfl | (rw [hF])) (scal_ints _)) .nil))) | exact .agg (.cons (.v (by first | rfl | (rw [hF]))) (.cons (.v (by first | rfl | (rw [hF]))) (.cons (.nil (by decide) (by first | rfl | (rw [hF]))) .nil))) | exact .agg (.cons (.v (by first | rfl | (rw [hF]))) (.cons (.v (by first | rfl | (rw [hF]))) .nil))))), (by decide)⟩
    · have he : gs a k = gs b k := Prod.ext (by simp at h2; exact h2.1) (by simp at h2; exact h2.2)
      repeat first | refine ax_seq ?_ | refine ax_next ?_ | refine rg_text ?_ | refine rg_any mixed ?_ | refine ax_block ?_ | refine rh_nil ⟨(by kernel_rfl), ?_⟩ | refine rh_nil ?_ | refine ax_ret ?_ | refine ax_skip ?_ | refine ax_exit ?_ | refine ax_true rfl ?_ | refine ax_false rfl ?_ | refine then_ret ?_ | refine then_exit ?_ | refine out_here ?_ | refine out_away rfl ?_ | refine out_normal ?_ | refine out_ret ?_ | refine round_exit ?_ | refine round_ret ?_ | refine meet_ret ?_ | refine meet_exit ?_ | (apply rh_no; iterate 4 exact rfl) | (apply rh_un; iterate 3 exact rfl) | (apply rh0; (case h => exact z0); (case hw => exact wt)) | (apply rh1; (case h => exact z1); (case hw => exact wt)) | (apply rhs; (case h => exact zs); (case hw => exact wt))
      refine round_next (k + 1) (⟨hlt, fun j hj' => by by_cases e : j = k; (subst e; exact he); exact hj j (by omega)⟩) (by omega) (weak_of [] (by repeat first | exact .nil | refine LeEs.cons ?_ ?_ | exact .v (by first | rfl | (rfl)) | exact .own rfl rfl rfl rfl rfl | exact .ptr rfl rfl rfl rfl rfl rfl | exact .nil rfl rfl rfl | exact .sl (by first | rfl | (rfl)) | exact .both rfl rfl | exact .frz rfl rfl rfl rfl rfl (by first | rfl | (rfl)) rfl | exact .any _) (by repeat first | exact .nil | refine LeHs.keep rfl ⟨rfl, rfl, rfl, .inl ⟨rfl, by first | rfl | (rfl)⟩⟩ ?_ | refine LeHs.keep rfl ⟨rfl, rfl, rfl, .inr ⟨(by first | exact .inl rfl | exact .inr rfl), by repeat first | exact .nil | refine LeVL.cons ?_ ?_ | exact .v (by first | rfl | (rfl)) | exact .own rfl rfl rfl rfl rfl | exact .sl (by first | rfl | (rfl)) | exact .both rfl rfl | exact .frz rfl rfl rfl rfl rfl (by first | rfl | (rfl)) rfl⟩⟩ ?_ | refine LeHs.fresh rfl rfl rfl (Nat.succ_pos _) rfl ?_) rfl rfl)
  · have hkn : k = a.length := by simp at h1; omega
    have hF : decide (a = b) = true := decide_eq_true (gs_ext hlen (fun j hj' => hj j (by omega)))
    repeat first | refine ax_seq ?_ | refine ax_next ?_ | refine rg_text ?_ | refine rg_any mixed ?_ | refine ax_block ?_ | refine rh_nil ⟨(by kernel_rfl), ?_⟩ | refine rh_nil ?_ | refine ax_ret ?_ | refine ax_skip ?_ | refine ax_exit ?_ | refine ax_true rfl ?_ | refine ax_false rfl ?_ | refine then_ret ?_ | refine then_exit ?_ | refine out_here ?_ | refine out_away rfl ?_ | refine out_normal ?_ | refine out_ret ?_ | refine round_exit ?_ | refine round_ret ?_ | refine meet_ret ?_ | refine meet_exit ?_ | (apply rh_no; iterate 4 exact rfl) | (apply rh_un; iterate 3 exact rfl) | (apply rh0; (case h => exact z0); (case hw => exact wt)) | (apply rh1; (case h => exact z1); (case hw => exact wt)) | (apply rhs; (case h => exact zs); (case hw => exact wt))
    refine ⟨.inl rfl, _, _, (by repeat first | exact .nil | apply ResL.cons | exact .tmp rfl | exact .agg rfl rfl rfl rfl rfl (Nat.le_of_ble_eq_true rfl) rfl | exact .cell rfl rfl rfl rfl rfl (Nat.le_of_ble_eq_true rfl) rfl), (by first | exact .one (by first | exact .one (.v (by first | rfl | (rw [hF]))) | exact .one (.own rfl rfl rfl rfl rfl rfl (by first | rfl | (rw [hF])) (by first | exact scal_ints _ | exact scal_slc _)) | exact .one (.nil (by decide) (by first | rfl | (rw [hF]))) | exact .agg (.cons (.v (by first | rfl | (rw [hF]))) (.cons (.v (by first | rfl | (rw [hF]))) (.cons (.own rfl rfl rfl rfl rfl rfl (by first | rfl | (rw [hF])) (scal_ints _)) .nil))) | exact .agg (.cons (.v (by first | rfl | (rw [hF]))) (.cons (.v (by first | rfl | (rw [hF]))) (.cons (.nil (by decide) (by first | rfl | (rw [hF]))) .nil))) | exact .agg (.cons (.v (by first | rfl | (rw [hF]))) (.cons (.v (by first | rfl | (rw [hF]))) .nil))) | exact .two (by repeat first | exact .nil | apply ExpL.cons | exact (by first | exact .one (.v (by first | rfl | (rw [hF]))) | exact .one (.own rfl rfl rfl rfl rfl rfl (by first | rfl | (rw [hF])) (by first | exact scal_ints _ | exact scal_slc _)) | exact .one (.nil (by decide) (by first | rfl | (rw [hF]))) | exact .agg (.cons (.v (by first | rfl | (rw [hF]))) (.cons (.v (by first | rfl | (rw [hF]))) (.cons (.own rfl rfl rfl rfl rfl rfl (by first | rfl | (rw [hF])) (scal_ints _)) .nil))) | exact .agg (.cons (.v (by first | rfl | (rw [hF]))) (.cons (.v (by first | rfl | (rw [hF]))) (.cons (.nil (by decide) (by first | rfl | (rw [hF]))) .nil))) | exact .agg (.cons (.v (by first | rfl | (rw [hF]))) (.cons (.v (by first | rfl | (rw [hF]))) .nil))))), (by decide)⟩
theorem mem_row {h : PHall} {k m : Nat} {s : Int × Int} : s ∈ mayRow h k m ↔ ∃ j : Nat, j < m ∧ slideMayB h k j = true ∧ s = ((k : Int), (j : Int)) := by
  unfold mayRow
  rw [List.mem_map]
  constructor
  · rintro ⟨x, hx, rfl⟩
    obtain ⟨j, h1, h2, rfl⟩ := selTo_mem.1 hx
    exact ⟨j, h1, h2, rfl⟩
  · rintro ⟨j, h1, h2, rfl⟩
    exact ⟨j, selTo_mem.2 ⟨j, h1, h2, rfl⟩, rfl⟩
theorem mem_to {h : PHall} {n : Nat} {s : Int × Int} : s ∈ mayTo h n ↔ ∃ k : Nat, k < n ∧ s ∈ mayRow h k h.cells.length := by
  induction n with
  | zero => simp [mayTo]
  | succ n ih =>
    rw [mayTo, List.mem_append, ih]
    constructor
    · rintro (⟨k, h1, h2⟩ | h2)
      · exact ⟨k, by omega, h2⟩
      · exact ⟨n, by omega, h2⟩
    · rintro ⟨k, h1, h2⟩
      by_cases e : k = n
      · subst e; exact .inr h2
      · exact .inl ⟨k, by omega, h2⟩
theorem mem_all {h : PHall} {s : Int × Int} : s ∈ slidesAllF h ↔ slideMayB h s.1 s.2 = true := by
  unfold slidesAllF
  rw [mem_to]
  constructor
  · rintro ⟨k, _, h2⟩
    obtain ⟨j, _, h3, rfl⟩ := mem_row.1 h2
    exact h3
  · intro hm
    obtain ⟨h1, h2, _⟩ := may_cells hm
    have ha := hasCell_iff.1 h1
    have hb := hasCell_iff.1 h2
    obtain ⟨a, b⟩ := s
    dsimp only at hm ha hb
    refine ⟨a.toNat, by omega, mem_row.2 ⟨b.toNat, by omega, ?_, ?_⟩⟩
    · rw [Int.toNat_of_nonneg ha.1, Int.toNat_of_nonneg hb.1]; exact hm
    · rw [Int.toNat_of_nonneg ha.1, Int.toNat_of_nonneg hb.1]
theorem gi_rev {l : List Int} {j : Nat} (hj : j < l.length) : gi l.reverse j = gi l (l.length - 1 - j) := by
  simp [gi, List.getD, List.getElem?_reverse hj]
theorem turn_of {h : PHall} (hv : validB h = true) : hallTurnF h = ⟨h.wide, h.deep, h.cells.reverse⟩ := by unfold hallTurnF; rw [if_pos hv]
theorem valid_turn {h : PHall} (hv : validB h = true) : validB ⟨h.wide, h.deep, h.cells.reverse⟩ = true := by
  obtain ⟨hs, hc⟩ := valid_iff.1 hv
  have hl : h.cells.reverse.length = h.cells.length := List.length_reverse
  refine valid_iff.2 ⟨⟨hs.1, hs.2.1, by show (h.cells.reverse.length : Int) = _; rw [hl]; exact hs.2.2⟩, fun k hk => ?_, fun i j hi hj hp e => ?_⟩
  · have hk' : k < h.cells.length := by rw [← hl]; exact hk
    show 0 ≤ gi h.cells.reverse k ∧ gi h.cells.reverse k ≤ 99
    rw [gi_rev hk']; exact hc.rng _ (by omega)
  · have hi' : i < h.cells.length := by rw [← hl]; exact hi
    have hj' : j < h.cells.length := by rw [← hl]; exact hj
    have hp' : 0 < gi h.cells.reverse i := hp
    have e' : gi h.cells.reverse i = gi h.cells.reverse j := e
    rw [gi_rev hi'] at hp' e'
    rw [gi_rev hj'] at e'
    have := hc.one _ _ (by omega) (by omega) hp' e'
    omega
theorem apart_turn {w d a b : Int} (hw : 2 ≤ w ∧ w ≤ 4) (hd : 2 ≤ d ∧ d ≤ 3) (ha : 0 ≤ a ∧ a < w * d) (hb : 0 ≤ b ∧ b < w * d) : apartF w (w * d - 1 - a) (w * d - 1 - b) = apartF w a b := by
  unfold apartF farF
  obtain rfl | rfl | rfl : w = 2 ∨ w = 3 ∨ w = 4 := by omega
  all_goals (obtain rfl | rfl : d = 2 ∨ d = 3 := by omega)
  all_goals omega
theorem may_turn {h : PHall} (hv : validB h = true) {a b : Int} (hm : slideMayB h a b = true) : slideMayB ⟨h.wide, h.deep, h.cells.reverse⟩ (h.cells.length - 1 - a) (h.cells.length - 1 - b) = true := by
  obtain ⟨h1, h2, h3, h4, h5⟩ := may_cells hm
  have ha := hasCell_iff.1 h1
  have hb := hasCell_iff.1 h2
  obtain ⟨hs, _⟩ := valid_iff.1 hv
  have hl : h.cells.reverse.length = h.cells.length := List.length_reverse
  have e5 : apartF h.wide (h.cells.length - 1 - a) (h.cells.length - 1 - b) = 1 := by
    rw [hs.2.2, apart_turn hs.1 hs.2.1 (by omega) (by omega)]; exact h5
  have g1 : gi h.cells.reverse ((h.cells.length : Int) - 1 - a).toNat = gi h.cells a.toNat := by
    rw [gi_rev (by omega)]; congr 1; omega
  have g2 : gi h.cells.reverse ((h.cells.length : Int) - 1 - b).toNat = gi h.cells b.toNat := by
    rw [gi_rev (by omega)]; congr 1; omega
  unfold slideMayB
  rw [valid_turn hv, hasCell_iff.2 (by show _ ∧ _ < (h.cells.reverse.length : Int); omega), hasCell_iff.2 (by show _ ∧ _ < (h.cells.reverse.length : Int); omega)]
  show (true && (true && (true && (decide (gi h.cells.reverse _ ≠ 0) && (decide (gi h.cells.reverse _ = 0) && decide (apartF h.wide _ _ = 1)))))) = true
  rw [g1, g2, e5]
  simp [h3, h4]
theorem row_nodup (h : PHall) (k m : Nat) : (mayRow h k m).Nodup := by
  unfold mayRow
  rw [List.Nodup, List.pairwise_map]
  exact (selTo_sorted _ _).imp (fun hh e => by simp at e; omega)
theorem to_nodup (h : PHall) : ∀ n, (mayTo h n).Nodup
  | 0 => by simp [mayTo]
  | n+1 => by
    rw [mayTo]
    refine List.pairwise_append.2 ⟨to_nodup h n, row_nodup h n _, fun a ha b hb => ?_⟩
    obtain ⟨k, hk, ha⟩ := mem_to.1 ha
    obtain ⟨i, _, _, rfl⟩ := mem_row.1 ha
    obtain ⟨j, _, _, rfl⟩ := mem_row.1 hb
    intro e; simp at e; omega
theorem turn_slides {h : PHall} (hv : validB h = true) : (slidesAllF ⟨h.wide, h.deep, h.cells.reverse⟩).length = (slidesAllF h).length := by
  let f : Int × Int → Int × Int := fun s => (h.cells.length - 1 - s.1, h.cells.length - 1 - s.2)
  have hl : h.cells.reverse.length = h.cells.length := List.length_reverse
  have hvt := valid_turn hv
  have hp : (slidesAllF ⟨h.wide, h.deep, h.cells.reverse⟩).Perm ((slidesAllF h).map f) := by
    refine (List.perm_ext_iff_of_nodup (to_nodup _ _) ?_).2 fun s => ?_
    · rw [List.Nodup, List.pairwise_map]
      refine List.Pairwise.imp ?_ (to_nodup h h.cells.length)
      intro a b hab e
      apply hab
      have e' : ((h.cells.length : Int) - 1 - a.1, (h.cells.length : Int) - 1 - a.2) = ((h.cells.length : Int) - 1 - b.1, (h.cells.length : Int) - 1 - b.2) := e
      simp only [Prod.mk.injEq] at e'
      exact Prod.ext (by omega) (by omega)
    · rw [List.mem_map]
      show s ∈ slidesAllF ⟨h.wide, h.deep, h.cells.reverse⟩ ↔ _
      rw [mem_all]
      constructor
      · intro hm
        have h2 := may_turn hvt hm
        dsimp only at h2
        rw [List.reverse_reverse, hl] at h2
        refine ⟨f s, mem_all.2 h2, ?_⟩
        show ((h.cells.length : Int) - 1 - ((h.cells.length : Int) - 1 - s.1), (h.cells.length : Int) - 1 - ((h.cells.length : Int) - 1 - s.2)) = s
        exact Prod.ext (by dsimp only; omega) (by dsimp only; omega)
      · rintro ⟨t, ht, rfl⟩
        exact may_turn hv (mem_all.1 ht)
  rw [hp.length_eq, List.length_map]
theorem cars_eq {g h : PHall} (hg : validB g = true) (hh : validB h = true) (he : ∀ x, 0 < x → (x ∈ g.cells ↔ x ∈ h.cells)) : carsF g = carsF h := by
  have s1 := upB_iff.1 (up_cars g)
  have s2 := upB_iff.1 (up_cars h)
  have n1 : (carsF g).Nodup := s1.imp (fun h => by omega)
  have n2 : (carsF h).Nodup := s2.imp (fun h => by omega)
  refine perm_sorted ((List.perm_ext_iff_of_nodup n1 n2).2 fun x => ?_) (s1.imp (fun h => by omega)) (s2.imp (fun h => by omega))
  rw [mem_cars, mem_cars]
  simp only [hg, hh, true_and]
  exact ⟨fun ⟨p, q⟩ => ⟨p, (he x p).1 q⟩, fun ⟨p, q⟩ => ⟨p, (he x p).2 q⟩⟩
set_option maxHeartbeats 4000000 in
theorem fnHallTurn_fn (v0 : Value) (bs : List Int) (hB : OkB bs) : FnS Tryd.prog 4 [codeV v0 bs] (.bool true) := by
  obtain ⟨h, g1, hH⟩ := drawHallTurn_fn v0 bs hB
  have hlim := lim_eq
  have hl : h.cells.length ≤ lim := by omega
  have hls : (slidesAllF h).length ≤ 200 := by have := may_small h h.cells.length 0 (Nat.le_refl _) (Nat.zero_le _); simp [mayRow, selTo] at this; exact this
  have hV := specHallValid_fn h hl
  have hT := hallTurn_fn h hl
  have hT2 := specHallTurn_fn h hl
  cases hv : validB h
  · have he : hallTurnF h = zeroHall := by unfold hallTurnF; rw [if_neg (by simp [hv])]
    rw [he] at hT hT2
    rw [hv] at hV
    have hz : zeroHall.cells.length ≤ lim := by simp [zeroHall, hlim]
    have hS := sameHall_fn zeroHall zeroHall hz hz
    rw [sameH_self] at hS
    refine fn_go1 tabOk Tryd.func4 rfl (by kernel_rfl) Tryd.ntmps4 Tryd.results4 (by decide) ?_
    repeat first | refine ax_seq ?_ | refine ax_next ?_ | refine rg_text ?_ | refine rg_any mixed ?_ | refine ax_block ?_ | refine rh_nil ⟨(by kernel_rfl), ?_⟩ | refine rh_nil ?_ | refine ax_ret ?_ | refine ax_skip ?_ | refine ax_exit ?_ | refine ax_true rfl ?_ | refine ax_false rfl ?_ | refine then_ret ?_ | refine then_exit ?_ | refine out_here ?_ | refine out_away rfl ?_ | refine out_normal ?_ | refine out_ret ?_ | refine round_exit ?_ | refine round_ret ?_ | refine meet_ret ?_ | refine meet_exit ?_ | (apply rh_no; iterate 4 exact rfl) | (apply rh_un; iterate 3 exact rfl) | (apply rh0; (case h => exact z0); (case hw => exact wt)) | (apply rh1; (case h => exact z1); (case hw => exact wt)) | (apply rhs; (case h => exact zs); (case hw => exact wt))
    refine ax_cond rfl (fun hb0 => ?_) (fun hb0 => ?_)
    · repeat first | refine ax_seq ?_ | refine ax_next ?_ | refine rg_text ?_ | refine rg_any mixed ?_ | refine ax_block ?_ | refine rh_nil ⟨(by kernel_rfl), ?_⟩ | refine rh_nil ?_ | refine ax_ret ?_ | refine ax_skip ?_ | refine ax_exit ?_ | refine ax_true rfl ?_ | refine ax_false rfl ?_ | refine then_ret ?_ | refine then_exit ?_ | refine out_here ?_ | refine out_away rfl ?_ | refine out_normal ?_ | refine out_ret ?_ | refine round_exit ?_ | refine round_ret ?_ | refine meet_ret ?_ | refine meet_exit ?_ | (apply rh_no; iterate 4 exact rfl) | (apply rh_un; iterate 3 exact rfl) | (apply rh0; (case h => exact z0); (case hw => exact wt)) | (apply rh1; (case h => exact z1); (case hw => exact wt)) | (apply rhs; (case h => exact zs); (case hw => exact wt))
      refine ⟨.inl rfl, _, _, (by repeat first | exact .nil | apply ResL.cons | exact .tmp rfl | exact .agg rfl rfl rfl rfl rfl (Nat.le_of_ble_eq_true rfl) rfl | exact .cell rfl rfl rfl rfl rfl (Nat.le_of_ble_eq_true rfl) rfl), (by first | exact .one (by first | exact .one (.v rfl) | exact .one (.own rfl rfl rfl rfl rfl rfl rfl (by first | exact scal_ints _ | exact scal_slc _)) | exact .one (.nil (by decide) rfl) | exact .agg (.cons (.v rfl) (.cons (.v rfl) (.cons (.own rfl rfl rfl rfl rfl rfl rfl (scal_ints _)) .nil))) | exact .agg (.cons (.v rfl) (.cons (.v rfl) (.cons (.nil (by decide) rfl) .nil))) | exact .agg (.cons (.v rfl) (.cons (.v rfl) .nil))) | exact .two (by repeat first | exact .nil | apply ExpL.cons | exact (by first | exact .one (.v rfl) | exact .one (.own rfl rfl rfl rfl rfl rfl rfl (by first | exact scal_ints _ | exact scal_slc _)) | exact .one (.nil (by decide) rfl) | exact .agg (.cons (.v rfl) (.cons (.v rfl) (.cons (.own rfl rfl rfl rfl rfl rfl rfl (scal_ints _)) .nil))) | exact .agg (.cons (.v rfl) (.cons (.v rfl) (.cons (.nil (by decide) rfl) .nil))) | exact .agg (.cons (.v rfl) (.cons (.v rfl) .nil))))), (by decide)⟩
    repeat first | refine ax_seq ?_ | refine ax_next ?_ | refine rg_text ?_ | refine rg_any mixed ?_ | refine ax_block ?_ | refine rh_nil ⟨(by kernel_rfl), ?_⟩ | refine rh_nil ?_ | refine ax_ret ?_ | refine ax_skip ?_ | refine ax_exit ?_ | refine ax_true rfl ?_ | refine ax_false rfl ?_ | refine then_ret ?_ | refine then_exit ?_ | refine out_here ?_ | refine out_away rfl ?_ | refine out_normal ?_ | refine out_ret ?_ | refine round_exit ?_ | refine round_ret ?_ | refine meet_ret ?_ | refine meet_exit ?_ | refine Af (h := ?_) | refine At (h := ?_) | (apply rh_no; iterate 4 exact rfl) | (apply rh_un; iterate 3 exact rfl) | (apply rh0; (case h => first | (apply st_call (hfn := hS ); exact rfl; exact fz) | (apply st_call (hfn := hV ); exact rfl; exact fz) | (apply st_call (hfn := alive_fn ); exact rfl; exact fz) | exact z0); (case hw => exact wt)) | (apply rh1; (case h => first | (apply st_call_h (hfn := hH ); exact rfl; exact fz; iterate 2 exact rfl) | (apply st_call_h (hfn := hT ); exact rfl; exact fz; iterate 2 exact rfl) | (apply st_call_h (hfn := hT2 ); exact rfl; exact fz; iterate 2 exact rfl) | exact z1); (case hw => exact wt)) | (apply rhs; (case h => exact zs); (case hw => exact wt)) | refine Kf (h := ?_) | refine Kt (h := ?_)
    refine ⟨.inl rfl, _, _, (by repeat first | exact .nil | apply ResL.cons | exact .tmp rfl | exact .agg rfl rfl rfl rfl rfl (Nat.le_of_ble_eq_true rfl) rfl | exact .cell rfl rfl rfl rfl rfl (Nat.le_of_ble_eq_true rfl) rfl), (by first | exact .one (by first | exact .one (.v rfl) | exact .one (.own rfl rfl rfl rfl rfl rfl rfl (by first | exact scal_ints _ | exact scal_slc _)) | exact .one (.nil (by decide) rfl) | exact .agg (.cons (.v rfl) (.cons (.v rfl) (.cons (.own rfl rfl rfl rfl rfl rfl rfl (scal_ints _)) .nil))) | exact .agg (.cons (.v rfl) (.cons (.v rfl) (.cons (.nil (by decide) rfl) .nil))) | exact .agg (.cons (.v rfl) (.cons (.v rfl) .nil))) | exact .two (by repeat first | exact .nil | apply ExpL.cons | exact (by first | exact .one (.v rfl) | exact .one (.own rfl rfl rfl rfl rfl rfl rfl (by first | exact scal_ints _ | exact scal_slc _)) | exact .one (.nil (by decide) rfl) | exact .agg (.cons (.v rfl) (.cons (.v rfl) (.cons (.own rfl rfl rfl rfl rfl rfl rfl (scal_ints _)) .nil))) | exact .agg (.cons (.v rfl) (.cons (.v rfl) (.cons (.nil (by decide) rfl) .nil))) | exact .agg (.cons (.v rfl) (.cons (.v rfl) .nil))))), (by decide)⟩
  · rw [hv] at hV
    rw [turn_of hv] at hT hT2
    have hvt := valid_turn hv
    have hts := turn_slides hv
    have hcl := carsF_len h
    have hc : carsF ⟨h.wide, h.deep, h.cells.reverse⟩ = carsF h := cars_eq hvt hv (fun x _ => List.mem_reverse)
    have hb : hallTurnF ⟨h.wide, h.deep, h.cells.reverse⟩ = h := by rw [turn_of hvt]; cases h; simp
    have hmt : ∀ a b : Int, slideMayB h a b = true → slideMayB ⟨h.wide, h.deep, h.cells.reverse⟩ (h.cells.length - 1 - a) (h.cells.length - 1 - b) = true := fun a b hm => may_turn hv hm
    have hxl : (PHall.mk h.wide h.deep h.cells.reverse).cells.length = h.cells.length := List.length_reverse
    obtain ⟨x, hx⟩ : ∃ x : PHall, x = ⟨h.wide, h.deep, h.cells.reverse⟩ := ⟨_, rfl⟩
    rw [← hx] at hT hT2 hvt hts hc hb hmt hxl
    have hlx : x.cells.length ≤ lim := by omega
    have hS := sameHall_fn x x hlx hlx
    rw [sameH_self] at hS
    have hS2 := sameHall_fn h h hl hl
    rw [sameH_self] at hS2
    have hTb := hallTurn_fn x hlx
    rw [hb] at hTb
    have hC := hallCars_fn x hlx
    rw [hc] at hC
    have hI := sameInts_fn (carsF h) (carsF h) (by omega) (by omega)
    rw [decide_eq_true rfl] at hI
    refine fn_go1 tabOk Tryd.func4 rfl (by kernel_rfl) Tryd.ntmps4 Tryd.results4 (by decide) ?_
    repeat first | refine ax_seq ?_ | refine ax_next ?_ | refine rg_text ?_ | refine rg_any mixed ?_ | refine ax_block ?_ | refine rh_nil ⟨(by kernel_rfl), ?_⟩ | refine rh_nil ?_ | refine ax_ret ?_ | refine ax_skip ?_ | refine ax_exit ?_ | refine ax_true rfl ?_ | refine ax_false rfl ?_ | refine then_ret ?_ | refine then_exit ?_ | refine out_here ?_ | refine out_away rfl ?_ | refine out_normal ?_ | refine out_ret ?_ | refine round_exit ?_ | refine round_ret ?_ | refine meet_ret ?_ | refine meet_exit ?_ | (apply rh_no; iterate 4 exact rfl) | (apply rh_un; iterate 3 exact rfl) | (apply rh0; (case h => exact z0); (case hw => exact wt)) | (apply rh1; (case h => exact z1); (case hw => exact wt)) | (apply rhs; (case h => exact zs); (case hw => exact wt))
    refine ax_cond rfl (fun hb0 => ?_) (fun hb0 => ?_)
    · repeat first | refine ax_seq ?_ | refine ax_next ?_ | refine rg_text ?_ | refine rg_any mixed ?_ | refine ax_block ?_ | refine rh_nil ⟨(by kernel_rfl), ?_⟩ | refine rh_nil ?_ | refine ax_ret ?_ | refine ax_skip ?_ | refine ax_exit ?_ | refine ax_true rfl ?_ | refine ax_false rfl ?_ | refine then_ret ?_ | refine then_exit ?_ | refine out_here ?_ | refine out_away rfl ?_ | refine out_normal ?_ | refine out_ret ?_ | refine round_exit ?_ | refine round_ret ?_ | refine meet_ret ?_ | refine meet_exit ?_ | (apply rh_no; iterate 4 exact rfl) | (apply rh_un; iterate 3 exact rfl) | (apply rh0; (case h => exact z0); (case hw => exact wt)) | (apply rh1; (case h => exact z1); (case hw => exact wt)) | (apply rhs; (case h => exact zs); (case hw => exact wt))
      refine ⟨.inl rfl, _, _, (by repeat first | exact .nil | apply ResL.cons | exact .tmp rfl | exact .agg rfl rfl rfl rfl rfl (Nat.le_of_ble_eq_true rfl) rfl | exact .cell rfl rfl rfl rfl rfl (Nat.le_of_ble_eq_true rfl) rfl), (by first | exact .one (by first | exact .one (.v rfl) | exact .one (.own rfl rfl rfl rfl rfl rfl rfl (by first | exact scal_ints _ | exact scal_slc _)) | exact .one (.nil (by decide) rfl) | exact .agg (.cons (.v rfl) (.cons (.v rfl) (.cons (.own rfl rfl rfl rfl rfl rfl rfl (scal_ints _)) .nil))) | exact .agg (.cons (.v rfl) (.cons (.v rfl) (.cons (.nil (by decide) rfl) .nil))) | exact .agg (.cons (.v rfl) (.cons (.v rfl) .nil))) | exact .two (by repeat first | exact .nil | apply ExpL.cons | exact (by first | exact .one (.v rfl) | exact .one (.own rfl rfl rfl rfl rfl rfl rfl (by first | exact scal_ints _ | exact scal_slc _)) | exact .one (.nil (by decide) rfl) | exact .agg (.cons (.v rfl) (.cons (.v rfl) (.cons (.own rfl rfl rfl rfl rfl rfl rfl (scal_ints _)) .nil))) | exact .agg (.cons (.v rfl) (.cons (.v rfl) (.cons (.nil (by decide) rfl) .nil))) | exact .agg (.cons (.v rfl) (.cons (.v rfl) .nil))))), (by decide)⟩
    repeat first | refine ax_seq ?_ | refine ax_next ?_ | refine rg_text ?_ | refine rg_any mixed ?_ | refine ax_block ?_ | refine rh_nil ⟨(by kernel_rfl), ?_⟩ | refine rh_nil ?_ | refine ax_ret ?_ | refine ax_skip ?_ | refine ax_exit ?_ | refine ax_true rfl ?_ | refine ax_false rfl ?_ | refine then_ret ?_ | refine then_exit ?_ | refine out_here ?_ | refine out_away rfl ?_ | refine out_normal ?_ | refine out_ret ?_ | refine round_exit ?_ | refine round_ret ?_ | refine meet_ret ?_ | refine meet_exit ?_ | refine Af (h := ?_) | refine At (h := ?_) | (apply rh_no; iterate 4 exact rfl) | (apply rh_un; iterate 3 exact rfl) | (apply rh0; (case h => first | (apply st_call (hfn := hS ); exact rfl; exact fz) | (apply st_call (hfn := hV ); exact rfl; exact fz) | exact z0); (case hw => exact wt)) | (apply rh1; (case h => first | (apply st_call_h (hfn := hH ); exact rfl; exact fz; iterate 2 exact rfl) | (apply st_call_h (hfn := hT ); exact rfl; exact fz; iterate 2 exact rfl) | (apply st_call_h (hfn := hT2 ); exact rfl; exact fz; iterate 2 exact rfl) | (apply st_call_s (hfn := slidesAll_fn h hl ); exact rfl; exact fz; iterate 2 exact rfl) | exact z1); (case hw => exact wt)) | (apply rhs; (case h => exact zs); (case hw => exact wt)) | refine Kf (h := ?_) | refine Kt (h := ?_)
    refine ax_loop (fun k : Nat => mkS [(7, .int (k : Int)), (6, .int (h.cells.length - 1)), (5, .own 6 0), (4, .ptr 4 0 0), (3, .ptr 2 0 0)] ⟨7, [(1, some (intsRow h.cells)), (2, some (boxRow h.wide h.deep 1 0)), (3, some (intsRow x.cells)), (4, some (boxRow x.wide x.deep 3 0)), (6, some (slcRow (slidesAllF h)))]⟩) (fun k => k ≤ (slidesAllF h).length) (fun k => (slidesAllF h).length - k) (0) (Nat.zero_le _) (weak_of [] (by repeat first | exact .nil | refine LeEs.cons ?_ ?_ | exact .v (by first | rfl | (rfl)) | exact .own rfl rfl rfl rfl rfl | exact .ptr rfl rfl rfl rfl rfl rfl | exact .nil rfl rfl rfl | exact .sl (by first | rfl | (rfl)) | exact .both rfl rfl | exact .frz rfl rfl rfl rfl rfl (by first | rfl | (rfl)) rfl | exact .any _) (by repeat first | exact .nil | refine LeHs.keep rfl ⟨rfl, rfl, rfl, .inl ⟨rfl, by first | rfl | (rfl)⟩⟩ ?_ | refine LeHs.keep rfl ⟨rfl, rfl, rfl, .inr ⟨(by first | exact .inl rfl | exact .inr rfl), by repeat first | exact .nil | refine LeVL.cons ?_ ?_ | exact .v (by first | rfl | (rfl)) | exact .own rfl rfl rfl rfl rfl | exact .sl (by first | rfl | (rfl)) | exact .both rfl rfl | exact .frz rfl rfl rfl rfl rfl (by first | rfl | (rfl)) rfl⟩⟩ ?_ | refine LeHs.fresh rfl rfl rfl (Nat.succ_pos _) rfl ?_) rfl rfl) ?_
    intro k hk
    repeat first | refine ax_seq ?_ | refine ax_next ?_ | refine rg_text ?_ | refine rg_any mixed ?_ | refine ax_block ?_ | refine rh_nil ⟨(by kernel_rfl), ?_⟩ | refine rh_nil ?_ | refine ax_ret ?_ | refine ax_skip ?_ | refine ax_exit ?_ | refine ax_true rfl ?_ | refine ax_false rfl ?_ | refine then_ret ?_ | refine then_exit ?_ | refine out_here ?_ | refine out_away rfl ?_ | refine out_normal ?_ | refine out_ret ?_ | refine round_exit ?_ | refine round_ret ?_ | refine meet_ret ?_ | refine meet_exit ?_ | (apply rh_no; iterate 4 exact rfl) | (apply rh_un; iterate 3 exact rfl) | (apply rh0; (case h => exact z0); (case hw => exact wt)) | (apply rh1; (case h => exact z1); (case hw => exact wt)) | (apply rhs; (case h => exact zs); (case hw => exact wt))
    refine ax_cond rfl (fun hb2 => ?_) (fun hb2 => ?_)
    · have hlt : k < (slidesAllF h).length := by simpa using hb2
      have hm : gs (slidesAllF h) k ∈ slidesAllF h := by
        have : gs (slidesAllF h) k = (slidesAllF h)[k] := by simp [gs, List.getD, hlt]
        rw [this]; exact List.getElem_mem hlt
      have hm := mem_all.1 hm
      have hM := slideMay_fn x hlx ((h.cells.length : Int) - 1 - (gs (slidesAllF h) k).1) ((h.cells.length : Int) - 1 - (gs (slidesAllF h) k).2)
      rw [hmt _ _ hm] at hM
      obtain ⟨m1, m2, _⟩ := may_cells hm
      have m1 := hasCell_iff.1 m1
      have m2 := hasCell_iff.1 m2
      repeat first | refine ax_seq ?_ | refine ax_next ?_ | refine rg_text ?_ | refine rg_any mixed ?_ | refine ax_block ?_ | refine rh_nil ⟨(by kernel_rfl), ?_⟩ | refine rh_nil ?_ | refine ax_ret ?_ | refine ax_skip ?_ | refine ax_exit ?_ | refine ax_true rfl ?_ | refine ax_false rfl ?_ | refine then_ret ?_ | refine then_exit ?_ | refine out_here ?_ | refine out_away rfl ?_ | refine out_normal ?_ | refine out_ret ?_ | refine round_exit ?_ | refine round_ret ?_ | refine meet_ret ?_ | refine meet_exit ?_ | refine Af (h := ?_) | refine At (h := ?_) | (apply rh_no; iterate 4 exact rfl) | (apply rh_un; iterate 3 exact rfl) | (apply rh0; (case h => first | (apply st_call (hfn := hM ); exact rfl; exact fz) | (first | (apply st_lf0 tabOk; (iterate 7 exact rfl); omega) | (apply st_lf1 tabOk; (iterate 7 exact rfl); omega)) | exact z0); (case hw => exact wt)) | (apply rh1; (case h => exact z1); (case hw => exact wt)) | (apply rhs; (case h => exact zs); (case hw => exact wt)) | refine Kf (h := ?_) | refine Kt (h := ?_)
      refine round_next (k + 1) (hlt) (by omega) (weak_of [] (by repeat first | exact .nil | refine LeEs.cons ?_ ?_ | exact .v (by first | rfl | (rfl)) | exact .own rfl rfl rfl rfl rfl | exact .ptr rfl rfl rfl rfl rfl rfl | exact .nil rfl rfl rfl | exact .sl (by first | rfl | (rfl)) | exact .both rfl rfl | exact .frz rfl rfl rfl rfl rfl (by first | rfl | (rfl)) rfl | exact .any _) (by repeat first | exact .nil | refine LeHs.keep rfl ⟨rfl, rfl, rfl, .inl ⟨rfl, by first | rfl | (rfl)⟩⟩ ?_ | refine LeHs.keep rfl ⟨rfl, rfl, rfl, .inr ⟨(by first | exact .inl rfl | exact .inr rfl), by repeat first | exact .nil | refine LeVL.cons ?_ ?_ | exact .v (by first | rfl | (rfl)) | exact .own rfl rfl rfl rfl rfl | exact .sl (by first | rfl | (rfl)) | exact .both rfl rfl | exact .frz rfl rfl rfl rfl rfl (by first | rfl | (rfl)) rfl⟩⟩ ?_ | refine LeHs.fresh rfl rfl rfl (Nat.succ_pos _) rfl ?_) rfl rfl)
    · repeat first | refine ax_seq ?_ | refine ax_next ?_ | refine rg_text ?_ | refine rg_any mixed ?_ | refine ax_block ?_ | refine rh_nil ⟨(by kernel_rfl), ?_⟩ | refine rh_nil ?_ | refine ax_ret ?_ | refine ax_skip ?_ | refine ax_exit ?_ | refine ax_true rfl ?_ | refine ax_false rfl ?_ | refine then_ret ?_ | refine then_exit ?_ | refine out_here ?_ | refine out_away rfl ?_ | refine out_normal ?_ | refine out_ret ?_ | refine round_exit ?_ | refine round_ret ?_ | refine meet_ret ?_ | refine meet_exit ?_ | refine Af (h := ?_) | refine At (h := ?_) | (apply rh_no; iterate 4 exact rfl) | (apply rh_un; iterate 3 exact rfl) | (apply rh0; (case h => first | (apply st_call (hfn := hS2 ); exact rfl; exact fz) | (apply st_call (hfn := hI ); exact rfl; exact fz) | exact z0); (case hw => exact wt)) | (apply rh1; (case h => first | (apply st_call_h (hfn := hTb ); exact rfl; exact fz; iterate 2 exact rfl) | (apply st_call_s (hfn := slidesAll_fn x hlx ); exact rfl; exact fz; iterate 2 exact rfl) | (apply st_call_s (hfn := hC ); exact rfl; exact fz; iterate 2 exact rfl) | (apply st_call_s (hfn := hallCars_fn h hl ); exact rfl; exact fz; iterate 2 exact rfl) | exact z1); (case hw => exact wt)) | (apply rhs; (case h => exact zs); (case hw => exact wt)) | refine Kf (h := ?_) | refine Kt (h := ?_)
      refine ⟨.inl rfl, _, _, (by repeat first | exact .nil | apply ResL.cons | exact .tmp rfl | exact .agg rfl rfl rfl rfl rfl (Nat.le_of_ble_eq_true rfl) rfl | exact .cell rfl rfl rfl rfl rfl (Nat.le_of_ble_eq_true rfl) rfl), (by first | exact .one (by first | exact .one (.v rfl) | exact .one (.own rfl rfl rfl rfl rfl rfl rfl (by first | exact scal_ints _ | exact scal_slc _)) | exact .one (.nil (by decide) rfl) | exact .agg (.cons (.v rfl) (.cons (.v rfl) (.cons (.own rfl rfl rfl rfl rfl rfl rfl (scal_ints _)) .nil))) | exact .agg (.cons (.v rfl) (.cons (.v rfl) (.cons (.nil (by decide) rfl) .nil))) | exact .agg (.cons (.v rfl) (.cons (.v rfl) .nil))) | exact .two (by repeat first | exact .nil | apply ExpL.cons | exact (by first | exact .one (.v rfl) | exact .one (.own rfl rfl rfl rfl rfl rfl rfl (by first | exact scal_ints _ | exact scal_slc _)) | exact .one (.nil (by decide) rfl) | exact .agg (.cons (.v rfl) (.cons (.v rfl) (.cons (.own rfl rfl rfl rfl rfl rfl rfl (scal_ints _)) .nil))) | exact .agg (.cons (.v rfl) (.cons (.v rfl) (.cons (.nil (by decide) rfl) .nil))) | exact .agg (.cons (.v rfl) (.cons (.v rfl) .nil))))), (by decide)⟩

theorem fnHallTurn_walk (w : World) (v0 : Value) (b0 : List Int) (q0 : RawBytes w v0 b0) : Calls Tryd.prog 4 #[v0] w (Gives (.bool true) w) := by
  refine ((fnHallTurn_fn v0 b0 q0.choose_spec.choose_spec.2.2.2.2).2 w [v0] (by simp only [pureL, pureV]; exact ⟨pure_byts b0, trivial⟩) (by simp only [relL]; exact ⟨_, _, rfl, rel_of_rawBytes q0, rfl⟩)).mono fun e w' hh => gives_v_of hh

set_option maxRecDepth 100000 in
theorem fnHallTurn_lifted (os : Os) (started : os.Started) (H : Type) (enc : TypeId × Value → H) :
    ReturnsInHanded {} Tryd.checked os 4 .any (fun w args => (Rows.fnHallTurnSpec.pre enc Tryd.prog Tryd.f4 Rows.fnHallTurnRow.domain false w args ∧ laidMetH Tryd.prog laidL w) ∧ sizedMet enc Tryd.prog Tryd.f4 (OpenSpec.ofChange Rows.fnHallTurnSpec) false w args)
      (Rows.fnHallTurnSpec.post enc Tryd.prog Tryd.f4 false true false false) := by
  refine returnsInHanded_of_change_and (C := Tryd.checked) (X := fun w _ => laidMetH Tryd.prog laidL w) (fun _ _ _ hh h => h.of_heap hh) Tryd.own started (by kernel_rfl) Tryd.func4
    (ChangeSpec.witness_shaped (enc := enc) (C := Tryd.checked) (os := os) (X := fun w _ => laidMetH Tryd.prog laidL w) false (World.doorLaid Tryd.prog 400 os) #[.slice none 0 0] 8 rfl (World.shaped_of_RefB (by kernel_rfl) (by kernel_rfl)) (by kernel_rfl) (by kernel_rfl) (by kernel_rfl) (door_met os _)) ?_
  intro W base args ds gs before hval0 hW _ _ _ _
  have hval : ∀ (j : Nat) t v, Tryd.f4.params[j]? = some t → args[j]? = some v → Value.okWide Tryd.prog W .any base t v := hval0
  have hW' := hW
  obtain ⟨p, q, hA0, hV, rfl, hfz, hnd⟩ := hW
  have hA : DataW.TrodAll enc Tryd.prog W 0 (fun _ => true) true Tryd.f4.params.toList args.toList ds p := hA0
  rw [Tryd.params4] at hA hval
  obtain ⟨v0, vs0, d0, ds0, p0, q0, hargs, rfl, rfl, h0, r0⟩ := trodAll_cons hA
  obtain ⟨rfl, rfl, rfl⟩ := trodAll_nil r0
  obtain rfl : args = #[v0] := by cases args; simp_all
  obtain ⟨rfl, rfl⟩ := trodVars_none hV
  have lt0 := lt_of_trod h0
  obtain ⟨b0, w0⟩ := open_raw_bytes_arg (fun _ => rfl) (hval 0 22 v0 rfl rfl) h0
  clear hA0 hval0
  refine (fnHallTurn_walk W v0 b0 w0).mono fun e W' ⟨he, bel⟩ => ?_
  subst he
  exact ⟨_, rfl, _, _, _, [], _, [], hW', trodAll_mk1 (shut_bool Tryd.underlying4 _), (trodAll_cons_mk (Below.trod Tryd.laidOut (by kernel_rfl) (of_decide_eq_true (by kernel_rfl)) h0 bel lt0) trodAll_mk0), rfl, bel.frame _, fun h => by cases h⟩

theorem fnHallTurn_over : Rows.fnHallTurnRow.holds Tryd.pinned (OpenSpec.ofChange Rows.fnHallTurnSpec) :=
  OpenClaim.holds_of_wide 4 Tryd.f4 rfl rfl rfl rfl rfl rfl rfl ⟨rfl, rfl, rfl, rfl, rfl⟩ rfl rfl rfl rfl rfl (by kernel_rfl) Tryd.func4 (by kernel_rfl)
    (of_decide_eq_true (by kernel_rfl)) (by unfold Func.isWrapper; rw [if_neg (of_decide_eq_false (by kernel_rfl))]; exact ⟨rfl, rfl⟩)
    (fun os started H enc _ => fnHallTurn_lifted os started H enc)

theorem fnHallTurn_holds : Rows.FnHallTurnCardSaid :=
  Claim7.holds_tied_plain_at .later [] [.data, .data, .data] true mainIsB false
    fnHallTurn_over (fun _ h => by cases h) (by kernel_rfl) (fun _ h => by cases h) fnHallTurn_row_tie rfl ⟨rfl, rfl⟩ mainFact rfl
    (fun f fn hf hfn => by
      obtain rfl : f = 4 := Option.some.inj ((show Tryd.prog.funcNamed "loop.example/parkinghouse/laws.FnHallTurn" = some 4 by kernel_rfl).symm.trans hf) |>.symm
      obtain rfl : fn = Tryd.f4 := (Option.some.inj (Tryd.func4.symm.trans hfn)).symm
      exact ⟨noLooks, fun j t ht => by
        rw [Tryd.params4] at ht
        have hm : t ∈ [22] := by simpa using Array.mem_of_getElem? ht
        have hall : ([22].all fun u => !Tryd.prog.wantsStandIn u) = true := by kernel_rfl
        exact (show Tryd.prog.wantsStandIn t = false by simpa using List.all_eq_true.1 hall t hm)⟩)
    (by kernel_rfl)

#print axioms fnHallTurn_holds

end Go.Proofs.YtjdgbdakkdljmaaDoor
