/-
  Proved: FnExactHallValid returns true for every hall, and its argument reads afterwards as it read before. No condition.
-/
import Derived.Test.YtfngmhhnmodhgaaW
import Derived.Test.YtfngmhhnmodhgaaM
import Derived.Test.YtfngmhhnmodhgaaRow
import Derived.Deep.RegionHeld3
set_option linter.unusedVariables false
namespace Go.Proofs.Ytfngmhhnmodhgaa
open Go Go.RowKit Go.Park
open Go.ChangeShapes Go.WideShapes Go.ChangeAt

set_option maxHeartbeats 1000000 in
theorem fnExactHallValid_walk (w : World) (v : Value) (h : PHall) (hv : RawHall w v h) :
    Calls Try.prog 6 #[v] w (Gives (.bool true) w) := by
  have HR := Lib.hid hv
  obtain ⟨ao, c, rfl, hc1, hc2, hx⟩ := hv
  have hl : h.cells.length ≤ 9223372036854775807 := by unfold maxLen at hc2; omega
  clear hc1 hc2 hx
  obtain ⟨n, hn⟩ : ∃ n, n = h.cells.length := ⟨_, rfl⟩
  rw [← hn] at hl HR ⊢
  have HN := Lib.hid hn
  clear hn
  go_enter Try.func6, Try.ntmps6
  go_wp2_with fail
  refine (szHall_any _ _ _ _ _ _ _ (by omega) (by omega) (by omega)).mono ?_
  rintro e w1 ⟨rfl, hb⟩
  have b1 := (box3_new w _ _ _ _).keep hb
  have hw1 := Lib.hid (below_alloc hb)
  have h10 := b1.c0
  have h11 := b1.c1
  have h12 := b1.c2
  clear hb
  by_cases hsz : (1048576 : Int) - n < 0
  · rw [show szTo n 1048576 = -1 by simp [szTo, hsz]]
    go_wp2
    go_ret
    exact ⟨rfl, hw1.out⟩
  rw [show szTo n 1048576 = 1048576 - n by simp [szTo, hsz]]
  have HV := Lib.hid (rawHall_at HR.out (by rw [← HN.out]; unfold lim; omega))
  go_wp2_with fail
  refine (toHall_any _ _ h (HV.out.keep hw1.out)).mono ?_
  rintro e w2 ⟨g2, rfl, hlim, ho2, hb2⟩
  have b2 := b1.keep hb2
  have H2 := Lib.hid (show HallAt w2 (.agg #[.int .i64 h.wide, .int .i64 h.deep, .slice (some ⟨g2, 0, none⟩) h.cells.length h.cells.length]) h from OwnHall.hallAt ⟨_, rfl, hlim, ho2⟩)
  have hw2 := Lib.hid (below_then hw1.out hb2)
  clear h10 h11 h12 hb2 ho2 b1 hw1
  rw [← HN.out] at H2 ⊢
  go_wp2_with fail
  refine (specHallValid_any _ _ h H2.out).mono ?_
  rintro e w3 ⟨rfl, hb3⟩
  have b3 := b2.keep hb3
  have h30 := b3.c0
  have h31 := b3.c1
  have h32 := b3.c2
  have hw3 := Lib.hid (below_then hw2.out hb3)
  clear hb3 b2 hw2 H2
  go_wp2_with fail
  refine (toHall_any _ _ h (HV.out.keep hw3.out)).mono ?_
  rintro e w4 ⟨g4, rfl, _, ho4, hb4⟩
  have b4 := b3.keep hb4
  have H4 := Lib.hid (show HallAt w4 (.agg #[.int .i64 h.wide, .int .i64 h.deep, .slice (some ⟨g4, 0, none⟩) h.cells.length h.cells.length]) h from OwnHall.hallAt ⟨_, rfl, hlim, ho4⟩)
  have hw4 := Lib.hid (below_then hw3.out hb4)
  clear h30 h31 h32 hb4 ho4 b3 hw3
  rw [← HN.out] at H4 ⊢
  go_wp2_with fail
  refine (hallValid_any _ _ h (H4.out.keep (below_new _ _))).mono ?_
  rintro e w5 ⟨rfl, hb5⟩
  have b5 := (b4.keep (below_new _ _)).keep hb5
  have d5 := (box3_new w4 _ _ _ _).keep hb5
  have h50 := b5.c0
  have h51 := b5.c1
  have h52 := b5.c2
  have k50 := d5.c0
  have k51 := d5.c1
  have k52 := d5.c2
  have hw5 := Lib.hid (below_then hw4.out (below_alloc hb5))
  have H5 := Lib.hid ((H4.out.keep (below_new _ _)).keep hb5)
  clear hb5 b4 hw4 H4
  go_wp2_with fail
  go_region_held3 (fun w' => w'.cell? ⟨w.heap.size, 0, none⟩ = some (.int .i64 h.wide) ∧ w'.cell? ⟨w.heap.size, 1, none⟩ = some (.int .i64 h.deep) ∧ w'.cell? ⟨w.heap.size, 2, none⟩ = some (.slice ao n c) ∧
    w'.cell? ⟨w4.heap.size, 0, none⟩ = some (.int .i64 h.wide) ∧ w'.cell? ⟨w4.heap.size, 1, none⟩ = some (.int .i64 h.deep) ∧ w'.cell? ⟨w4.heap.size, 2, none⟩ = some (.slice (some ⟨g4, 0, none⟩) n n)) (go_keep)
    (first | (go_at_call 24; refine (toHall_any _ _ h (HV.out.keep (hw5.out.drew))).mono ?_; rintro e w6 ⟨g6, rfl, _, ho6, hb6⟩; have b6 := b5.keep (below_ofDrew hb6); have d6 := d5.keep (below_ofDrew hb6); have h60 := b6.c0; have h61 := b6.c1; have h62 := b6.c2; have k60 := d6.c0; have k61 := d6.c1; have k62 := d6.c2; have hw6 := Lib.hid (below_then hw5.out (below_ofDrew hb6)); have H6 := Lib.hid (show HallAt w6 (.agg #[.int .i64 h.wide, .int .i64 h.deep, .slice (some ⟨g6, 0, none⟩) h.cells.length h.cells.length]) h from OwnHall.hallAt ⟨_, rfl, hlim, ho6⟩); have H56 := Lib.hid (H5.out.keep (below_ofDrew hb6)); clear hb6 ho6 h50 h51 h52 k50 k51 k52; rw [← HN.out] at H6 ⊢) | (go_at_call 12; refine (eqHall_any _ _ _ h h H56.out H6.out).mono ?_; rintro e w7 ⟨rfl, hb7⟩; have b7 := b6.keep hb7; have d7 := d6.keep hb7; have h70 := b7.c0; have h71 := b7.c1; have h72 := b7.c2; have k70 := d7.c0; have k71 := d7.c1; have k72 := d7.c2; have hw7 := Lib.hid (below_then hw6.out hb7); rw [eqHalls_true.2 rfl]; clear hb7))
  go_wp2
  go_ret
  exact ⟨rfl, hw7.out⟩

set_option maxRecDepth 100000 in
theorem fnExactHallValid_lifted (os : Os) (started : os.Started) (H : Type) (enc : TypeId × Value → H) :
    ReturnsInHanded {} Try.checked os 6 .any (Rows.fnExactHallValidSpec.pre6 enc Try.prog Try.f6 Rows.fnExactHallValidRow.domain false) (Rows.fnExactHallValidSpec.post enc Try.prog Try.f6 false true false false) := by
  refine returnsInHanded_of_change (C := Try.checked) Try.own started (by kernel_rfl) Try.func6
    (ChangeSpec.witness6 (enc := enc) (C := Try.checked) false ⟨#[], #[.agg #[.int .i64 0, .int .i64 0, .slice none 0 0]], []⟩ 8 (by kernel_rfl) (by kernel_rfl) (by kernel_rfl) (by kernel_rfl)) ?_
  intro W base args ds gs before hval0 hW hcnd _
  have hval : ∀ (j : Nat) t v, Try.f6.params[j]? = some t → args[j]? = some v → Value.okWide Try.prog W .any base t v := hval0
  have hW' := hW
  obtain ⟨p, q, hA0, hV, rfl, hfz, hnd⟩ := hW
  have hA : DataW.TrodAll enc Try.prog W 0 (fun _ => true) true Try.f6.params.toList args.toList ds p := hA0
  rw [Try.params6] at hA hval
  obtain ⟨v0, vs0, d0, ds0, p0, q0, hargs, rfl, rfl, h0, r0⟩ := trodAll_cons hA
  obtain ⟨rfl, rfl, rfl⟩ := trodAll_nil r0
  obtain rfl : args = #[v0] := by cases args; simp_all
  obtain ⟨rfl, rfl⟩ := trodVars_none hV
  have lt0 := lt_of_trod h0
  obtain ⟨a0, w0⟩ := open_raw_hall (fun _ => rfl) (hval 0 38 v0 rfl rfl) h0
  clear hA0 hval0
  refine (fnExactHallValid_walk W v0 a0 w0).mono fun e W' ⟨he, bel⟩ => ?_
  subst he
  exact ⟨_, rfl, _, _, _, [], _, [], hW', trodAll_mk1 (shut_bool Try.underlying4 _), (trodAll_cons_mk (Below.trod Try.laidOut (by kernel_rfl) (of_decide_eq_true (by kernel_rfl)) h0 bel lt0) trodAll_mk0), rfl, bel.frame _, fun h => by cases h⟩

theorem fnExactHallValid_over : Rows.fnExactHallValidRow.holds Try.pinned (OpenSpec.ofChange Rows.fnExactHallValidSpec) :=
  OpenClaim.holds_of_wide 6 Try.f6 rfl rfl rfl rfl rfl rfl rfl ⟨rfl, rfl, rfl, rfl, rfl⟩ rfl rfl rfl rfl rfl (by kernel_rfl) Try.func6 (by kernel_rfl)
    (of_decide_eq_true (by kernel_rfl)) (by unfold Func.isWrapper; rw [if_neg (of_decide_eq_false (by kernel_rfl))]; exact ⟨rfl, rfl⟩)
    (fun os started H enc _ => fnExactHallValid_lifted os started H enc)

theorem fnExactHallValid_holds : Rows.FnExactHallValidSaid := fnExactHallValid_over
#print axioms fnExactHallValid_holds

end Go.Proofs.Ytfngmhhnmodhgaa
