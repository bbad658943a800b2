/-
  The reader that is opened; the drawn inputs.
-/
import Derived.Test.YtjdgbdakkdljmaaDoorW2
set_option linter.unusedVariables false
set_option linter.unusedSimpArgs false
set_option maxRecDepth 100000
namespace Go.Proofs.YtjdgbdakkdljmaaDoor
open Go Go.RowKit Go.Park Go.Sym

def cutN (n : Nat) : Nat := if 2000 < n then 2000 else n
set_option maxHeartbeats 1000000 in
theorem open_any (w : World) (ao : Option Addr) (n c : Nat) (hn : n ≤ c) (hc : c ≤ maxLen) :
    Calls Tryd.prog 66 #[.slice ao n c] w fun e w' => e = .returned (.pointer (some ⟨w.heap.size, 0, none⟩)) ∧ w' = w.alloc (.cells #[.slice ao (cutN n) c, .int .i64 0] 102) := by
  unfold maxLen at hc
  by_cases h : 2000 < n
  · have H := Lib.hid (show cutN n = 2000 by simp [cutN, h])
    go_enter Tryd.func66, Tryd.ntmps66
    go_wp2
    go_ret
    exact ⟨rfl, by rw [H.out]⟩
  · have H := Lib.hid (show cutN n = n by simp [cutN, h])
    go_enter Tryd.func66, Tryd.ntmps66
    go_wp2
    go_ret
    exact ⟨rfl, by rw [H.out]⟩
theorem relC_take {cx : Cx} {b : Nat} : ∀ (k : Nat) (cs : List AV) (off : Nat), relC cx b off cs → relC cx b off (cs.take k)
  | 0, cs, off, h => by simp [relC]
  | k+1, [], off, h => by simp [relC]
  | k+1, x :: cs, off, h => by
    simp only [List.take_succ_cons, relC] at h ⊢
    exact ⟨h.1, relC_take k cs (off + 1) h.2⟩
theorem rel_take {cx : Cx} {t0 : Nat} {cs : List AV} {ao : Option Addr} {n c k : Nat} (h : relV cx (.sl t0 1 cs) (.slice ao n c)) (hk : k ≤ n) : relV cx (.sl t0 1 (cs.take k)) (.slice ao k c) := by
  simp only [relV] at h ⊢
  obtain ⟨hp, ao', n', c', e, h1, h2, h3, h4, h5⟩ := h
  cases e
  refine ⟨pureL_of fun x hx => pureL_mem hp x (List.mem_of_mem_take hx), ao, k, c, rfl, by omega, h2, h3, by rw [List.length_take]; omega, ?_⟩
  rcases h5 with h5 | ⟨b, off, rfl, hb, hc⟩
  · exact .inl (by rw [h5]; simp)
  · exact .inr ⟨b, off, rfl, hb, relC_take k _ _ hc⟩
/-- the reader of a code -/
def rdV (v0 : Value) : Value := match v0 with
  | .slice ao n c => .slice ao (cutN n) c
  | v => v
section
variable {nt : Nat} {E : List (Nat × AV)} {dst : Option Nat} {ty : Nat} {pos : String} {aft : Array Edge} {gd : Option (Nat × Bool)} {at' : Array TypeId}
theorem st_open {n : Nat} {l : List (Nat × Option Row)} {x : Operand} {v0 : Value} {bs : List Int} (hd : dstOk nt dst = true) (hx : (mkS E ⟨n, l⟩).ev x = .both v0 (.sl 5 1 (byts bs))) (hr : (mkS E ⟨n, l⟩).row n = none) (h0 : Nat.beq n 0 = false) :
    Does Tryd.prog nt ⟨dst, .call ⟨.value (.func 66), #[x], at'⟩, ty, pos, aft, gd⟩ ⟨fo x, [n]⟩ (.ptr n 0 0) [(n, some (rdR (rdV v0) (bs.take (cutN bs.length)) 0))] (mkS E ⟨n, l⟩) := by
  refine ⟨?_⟩
  intro τ hag F hF a w hS Q K hK
  obtain ⟨φ, Z, hS⟩ := hS
  have h1 := hS.ev x
  rw [hag.ev (σ := mkS E ⟨n, l⟩) (fun t ht => ht), hx] at h1
  simp only [relV] at h1
  obtain ⟨e0, hp, ao, m, c, e1, hm, hc, h3, h4, h5⟩ := h1
  have hv : v0 = .slice ao m c := by rw [← e0, e1]
  subst hv
  have hbm : bs.length = m := by rw [byts_length] at h4; omega
  have hrel : relV (cxOf φ Z τ w) (.sl 5 1 (byts bs)) (.slice ao m c) := by simp only [relV]; exact ⟨hp, ao, m, c, rfl, hm, hc, h3, h4, h5⟩
  have hcut : cutN m ≤ m := by unfold cutN; split <;> omega
  have htk := rel_take hrel hcut
  rw [byts_take] at htk
  have hrow := hr
  rw [← hag.2 n (by simp)] at hrow
  obtain ⟨φ', k1, k2, k3⟩ := alloc_row hS hrow (fun e => by subst e; simp at h0) (t := 102) (sz := 2) (n := 1) (pure := true) (box := true) (two_rel (p := 0) htk) (fun u hu => by
    simp at hu
    rcases hu with rfl | rfl <;> rfl) (by omega) (by simp) (by simp [maxLen]) (fun _ => by
    simp only [pureL, pureV]
    exact ⟨pureL_scal (scal_byts _), trivial, trivial⟩)
  unfold Oper.wp
  have hen : Sym.Enters Tryd.prog 66 := ⟨_, Tryd.func66, by kernel_rfl, rfl⟩
  have hrun : (execOp a.eval ⟨dst, .call ⟨.value (.func 66), #[x], at'⟩, ty, pos, aft, gd⟩).run Tryd.prog w = .ok (.enter 66 #[.slice ao m c]) w := by
    have e3 : a.eval x = .slice ao m c := e1
    simp [execOp, resolve, Act.eval, Deferred.ofValue, invoke, run_callFunc hen] at e3 ⊢
    rw [e3]
  rw [hrun, Oper.upon_enter]
  refine (open_any w ao m c hm hc).mono ?_
  rintro e w' ⟨rfl, rfl⟩
  show K (a.put dst _) _
  refine hK _ _ ⟨φ', Z, ?_⟩
  have k1' : SimAt F φ' Z (τ.rowsUpd [(n, some (rdR (rdV (.slice ao m c)) (bs.take (cutN bs.length)) 0))]) a (w.alloc (.cells #[.slice ao (cutN m) c, .int .i64 0] 102)) := by rw [hbm]; exact k1
  cases dst with
  | none => exact k1'
  | some d =>
    simp [dstOk] at hd
    refine k1'.put (by omega) ?_
    simp only [relV]
    exact ⟨φ' n, 0, by simp [cxOf, St.rowsUpd, overR], Nat.le_refl _, fun _ => ⟨w.heap.size, 1, 1, k2, rfl⟩⟩
end
theorem cut_bytes {bs : List Int} (h : ∀ j, j < bs.length → 0 ≤ gi bs j ∧ gi bs j ≤ 255) : Bytes (bs.take (cutN bs.length)) := by
  have hc : cutN bs.length ≤ bs.length ∧ cutN bs.length ≤ 2000 := by unfold cutN; split <;> omega
  have hl : (bs.take (cutN bs.length)).length = cutN bs.length := by rw [List.length_take]; omega
  refine ⟨fun j hj => ?_, by omega⟩
  have := h j (by omega)
  simp only [gi, List.getD_eq_getElem?_getD] at this ⊢
  rw [List.getElem?_take, if_pos (by omega)]
  exact this
/-- a code: its value, its bytes -/
abbrev codeV (v0 : Value) (bs : List Int) : AV := .both v0 (.sl 5 1 (byts bs))
def OkB (bs : List Int) : Prop := ∀ j, j < bs.length → 0 ≤ gi bs j ∧ gi bs j ≤ 255
set_option maxHeartbeats 2000000 in
theorem drawHallCars_fn (v0 : Value) (bs : List Int) (hB : OkB bs) : ∃ h : PHall, h.cells.length ≤ 13 ∧ FnS Tryd.prog 15 [codeV v0 bs] (hallV h) := by
  obtain ⟨⟨h, q⟩, ⟨g1, g2, g3⟩, hH⟩ := l20Hall_fn (rdV v0) _ (cut_bytes hB) 0 (by omega) 6 (by omega)
  refine fnx_go1 (Good := fun h : PHall => h.cells.length ≤ 13) (res := fun h => hallV h) tabOk Tryd.func15 rfl (by kernel_rfl) Tryd.ntmps15 Tryd.results15 (by decide) ?_
  repeat first | refine ax_seq ?_ | refine ax_next ?_ | refine rg_text ?_ | refine rg_any mixed ?_ | refine ax_block ?_ | refine rh_nil ⟨(by kernel_rfl), ?_⟩ | refine rh_nil ?_ | refine ax_ret ?_ | refine ax_skip ?_ | refine ax_exit ?_ | refine ax_true rfl ?_ | refine ax_false rfl ?_ | refine then_ret ?_ | refine then_exit ?_ | refine out_here ?_ | refine out_away rfl ?_ | refine out_normal ?_ | refine out_ret ?_ | refine round_exit ?_ | refine round_ret ?_ | refine meet_ret ?_ | refine meet_exit ?_ | (apply rh_no; iterate 4 exact rfl) | (apply rh_un; iterate 3 exact rfl) | (apply rh0; (case h => exact z0); (case hw => exact wt)) | (apply rh1; (case h => first | (apply st_open; iterate 4 exact rfl) | exact z1); (case hw => exact wt)) | (apply rhs; (case h => exact zs); (case hw => exact wt)) | (apply rh2; (case h => first | (apply st_recv_h (hfn := hH ); (iterate 4 exact rfl); exact fz; iterate 3 exact rfl)); (case hw => exact wt))
  refine ⟨⟨h, g1, .inl rfl, _, _, (by repeat first | exact .nil | apply ResL.cons | exact .tmp rfl | exact .agg rfl rfl rfl rfl rfl (Nat.le_of_ble_eq_true rfl) rfl | exact .cell rfl rfl rfl rfl rfl (Nat.le_of_ble_eq_true rfl) rfl), (by first | exact .one (by first | exact .one (.v rfl) | exact .one (.own rfl rfl rfl rfl rfl rfl rfl (by first | exact scal_ints _ | exact scal_slc _)) | exact .one (.nil (by decide) rfl) | exact .agg (.cons (.v rfl) (.cons (.v rfl) (.cons (.own rfl rfl rfl rfl rfl rfl rfl (scal_ints _)) .nil))) | exact .agg (.cons (.v rfl) (.cons (.v rfl) (.cons (.nil (by decide) rfl) .nil))) | exact .agg (.cons (.v rfl) (.cons (.v rfl) .nil))) | exact .two (by repeat first | exact .nil | apply ExpL.cons | exact (by first | exact .one (.v rfl) | exact .one (.own rfl rfl rfl rfl rfl rfl rfl (by first | exact scal_ints _ | exact scal_slc _)) | exact .one (.nil (by decide) rfl) | exact .agg (.cons (.v rfl) (.cons (.v rfl) (.cons (.own rfl rfl rfl rfl rfl rfl rfl (scal_ints _)) .nil))) | exact .agg (.cons (.v rfl) (.cons (.v rfl) (.cons (.nil (by decide) rfl) .nil))) | exact .agg (.cons (.v rfl) (.cons (.v rfl) .nil))))), (by decide)⟩⟩
set_option maxHeartbeats 2000000 in
theorem drawHallText_fn (v0 : Value) (bs : List Int) (hB : OkB bs) : ∃ h : PHall, h.cells.length ≤ 13 ∧ FnS Tryd.prog 53 [codeV v0 bs] (hallV h) := by
  obtain ⟨⟨h, q⟩, ⟨g1, g2, g3⟩, hH⟩ := l20Hall_fn (rdV v0) _ (cut_bytes hB) 0 (by omega) 6 (by omega)
  refine fnx_go1 (Good := fun h : PHall => h.cells.length ≤ 13) (res := fun h => hallV h) tabOk Tryd.func53 rfl (by kernel_rfl) Tryd.ntmps53 Tryd.results53 (by decide) ?_
  repeat first | refine ax_seq ?_ | refine ax_next ?_ | refine rg_text ?_ | refine rg_any mixed ?_ | refine ax_block ?_ | refine rh_nil ⟨(by kernel_rfl), ?_⟩ | refine rh_nil ?_ | refine ax_ret ?_ | refine ax_skip ?_ | refine ax_exit ?_ | refine ax_true rfl ?_ | refine ax_false rfl ?_ | refine then_ret ?_ | refine then_exit ?_ | refine out_here ?_ | refine out_away rfl ?_ | refine out_normal ?_ | refine out_ret ?_ | refine round_exit ?_ | refine round_ret ?_ | refine meet_ret ?_ | refine meet_exit ?_ | (apply rh_no; iterate 4 exact rfl) | (apply rh_un; iterate 3 exact rfl) | (apply rh0; (case h => exact z0); (case hw => exact wt)) | (apply rh1; (case h => first | (apply st_open; iterate 4 exact rfl) | exact z1); (case hw => exact wt)) | (apply rhs; (case h => exact zs); (case hw => exact wt)) | (apply rh2; (case h => first | (apply st_recv_h (hfn := hH ); (iterate 4 exact rfl); exact fz; iterate 3 exact rfl)); (case hw => exact wt))
  refine ⟨⟨h, g1, .inl rfl, _, _, (by repeat first | exact .nil | apply ResL.cons | exact .tmp rfl | exact .agg rfl rfl rfl rfl rfl (Nat.le_of_ble_eq_true rfl) rfl | exact .cell rfl rfl rfl rfl rfl (Nat.le_of_ble_eq_true rfl) rfl), (by first | exact .one (by first | exact .one (.v rfl) | exact .one (.own rfl rfl rfl rfl rfl rfl rfl (by first | exact scal_ints _ | exact scal_slc _)) | exact .one (.nil (by decide) rfl) | exact .agg (.cons (.v rfl) (.cons (.v rfl) (.cons (.own rfl rfl rfl rfl rfl rfl rfl (scal_ints _)) .nil))) | exact .agg (.cons (.v rfl) (.cons (.v rfl) (.cons (.nil (by decide) rfl) .nil))) | exact .agg (.cons (.v rfl) (.cons (.v rfl) .nil))) | exact .two (by repeat first | exact .nil | apply ExpL.cons | exact (by first | exact .one (.v rfl) | exact .one (.own rfl rfl rfl rfl rfl rfl rfl (by first | exact scal_ints _ | exact scal_slc _)) | exact .one (.nil (by decide) rfl) | exact .agg (.cons (.v rfl) (.cons (.v rfl) (.cons (.own rfl rfl rfl rfl rfl rfl rfl (scal_ints _)) .nil))) | exact .agg (.cons (.v rfl) (.cons (.v rfl) (.cons (.nil (by decide) rfl) .nil))) | exact .agg (.cons (.v rfl) (.cons (.v rfl) .nil))))), (by decide)⟩⟩
set_option maxHeartbeats 2000000 in
theorem drawSlidesAll_fn (v0 : Value) (bs : List Int) (hB : OkB bs) : ∃ h : PHall, h.cells.length ≤ 13 ∧ FnS Tryd.prog 31 [codeV v0 bs] (hallV h) := by
  obtain ⟨⟨h, q⟩, ⟨g1, g2, g3⟩, hH⟩ := l20Hall_fn (rdV v0) _ (cut_bytes hB) 0 (by omega) 6 (by omega)
  refine fnx_go1 (Good := fun h : PHall => h.cells.length ≤ 13) (res := fun h => hallV h) tabOk Tryd.func31 rfl (by kernel_rfl) Tryd.ntmps31 Tryd.results31 (by decide) ?_
  repeat first | refine ax_seq ?_ | refine ax_next ?_ | refine rg_text ?_ | refine rg_any mixed ?_ | refine ax_block ?_ | refine rh_nil ⟨(by kernel_rfl), ?_⟩ | refine rh_nil ?_ | refine ax_ret ?_ | refine ax_skip ?_ | refine ax_exit ?_ | refine ax_true rfl ?_ | refine ax_false rfl ?_ | refine then_ret ?_ | refine then_exit ?_ | refine out_here ?_ | refine out_away rfl ?_ | refine out_normal ?_ | refine out_ret ?_ | refine round_exit ?_ | refine round_ret ?_ | refine meet_ret ?_ | refine meet_exit ?_ | (apply rh_no; iterate 4 exact rfl) | (apply rh_un; iterate 3 exact rfl) | (apply rh0; (case h => exact z0); (case hw => exact wt)) | (apply rh1; (case h => first | (apply st_open; iterate 4 exact rfl) | exact z1); (case hw => exact wt)) | (apply rhs; (case h => exact zs); (case hw => exact wt)) | (apply rh2; (case h => first | (apply st_recv_h (hfn := hH ); (iterate 4 exact rfl); exact fz; iterate 3 exact rfl)); (case hw => exact wt))
  refine ⟨⟨h, g1, .inl rfl, _, _, (by repeat first | exact .nil | apply ResL.cons | exact .tmp rfl | exact .agg rfl rfl rfl rfl rfl (Nat.le_of_ble_eq_true rfl) rfl | exact .cell rfl rfl rfl rfl rfl (Nat.le_of_ble_eq_true rfl) rfl), (by first | exact .one (by first | exact .one (.v rfl) | exact .one (.own rfl rfl rfl rfl rfl rfl rfl (by first | exact scal_ints _ | exact scal_slc _)) | exact .one (.nil (by decide) rfl) | exact .agg (.cons (.v rfl) (.cons (.v rfl) (.cons (.own rfl rfl rfl rfl rfl rfl rfl (scal_ints _)) .nil))) | exact .agg (.cons (.v rfl) (.cons (.v rfl) (.cons (.nil (by decide) rfl) .nil))) | exact .agg (.cons (.v rfl) (.cons (.v rfl) .nil))) | exact .two (by repeat first | exact .nil | apply ExpL.cons | exact (by first | exact .one (.v rfl) | exact .one (.own rfl rfl rfl rfl rfl rfl rfl (by first | exact scal_ints _ | exact scal_slc _)) | exact .one (.nil (by decide) rfl) | exact .agg (.cons (.v rfl) (.cons (.v rfl) (.cons (.own rfl rfl rfl rfl rfl rfl rfl (scal_ints _)) .nil))) | exact .agg (.cons (.v rfl) (.cons (.v rfl) (.cons (.nil (by decide) rfl) .nil))) | exact .agg (.cons (.v rfl) (.cons (.v rfl) .nil))))), (by decide)⟩⟩
set_option maxHeartbeats 2000000 in
theorem drawHallTurn_fn (v0 : Value) (bs : List Int) (hB : OkB bs) : ∃ h : PHall, h.cells.length ≤ 13 ∧ FnS Tryd.prog 24 [codeV v0 bs] (hallV h) := by
  obtain ⟨⟨h, q⟩, ⟨g1, g2, g3⟩, hH⟩ := l20Hall_fn (rdV v0) _ (cut_bytes hB) 0 (by omega) 6 (by omega)
  refine fnx_go1 (Good := fun h : PHall => h.cells.length ≤ 13) (res := fun h => hallV h) tabOk Tryd.func24 rfl (by kernel_rfl) Tryd.ntmps24 Tryd.results24 (by decide) ?_
  repeat first | refine ax_seq ?_ | refine ax_next ?_ | refine rg_text ?_ | refine rg_any mixed ?_ | refine ax_block ?_ | refine rh_nil ⟨(by kernel_rfl), ?_⟩ | refine rh_nil ?_ | refine ax_ret ?_ | refine ax_skip ?_ | refine ax_exit ?_ | refine ax_true rfl ?_ | refine ax_false rfl ?_ | refine then_ret ?_ | refine then_exit ?_ | refine out_here ?_ | refine out_away rfl ?_ | refine out_normal ?_ | refine out_ret ?_ | refine round_exit ?_ | refine round_ret ?_ | refine meet_ret ?_ | refine meet_exit ?_ | (apply rh_no; iterate 4 exact rfl) | (apply rh_un; iterate 3 exact rfl) | (apply rh0; (case h => exact z0); (case hw => exact wt)) | (apply rh1; (case h => first | (apply st_open; iterate 4 exact rfl) | exact z1); (case hw => exact wt)) | (apply rhs; (case h => exact zs); (case hw => exact wt)) | (apply rh2; (case h => first | (apply st_recv_h (hfn := hH ); (iterate 4 exact rfl); exact fz; iterate 3 exact rfl)); (case hw => exact wt))
  refine ⟨⟨h, g1, .inl rfl, _, _, (by repeat first | exact .nil | apply ResL.cons | exact .tmp rfl | exact .agg rfl rfl rfl rfl rfl (Nat.le_of_ble_eq_true rfl) rfl | exact .cell rfl rfl rfl rfl rfl (Nat.le_of_ble_eq_true rfl) rfl), (by first | exact .one (by first | exact .one (.v rfl) | exact .one (.own rfl rfl rfl rfl rfl rfl rfl (by first | exact scal_ints _ | exact scal_slc _)) | exact .one (.nil (by decide) rfl) | exact .agg (.cons (.v rfl) (.cons (.v rfl) (.cons (.own rfl rfl rfl rfl rfl rfl rfl (scal_ints _)) .nil))) | exact .agg (.cons (.v rfl) (.cons (.v rfl) (.cons (.nil (by decide) rfl) .nil))) | exact .agg (.cons (.v rfl) (.cons (.v rfl) .nil))) | exact .two (by repeat first | exact .nil | apply ExpL.cons | exact (by first | exact .one (.v rfl) | exact .one (.own rfl rfl rfl rfl rfl rfl rfl (by first | exact scal_ints _ | exact scal_slc _)) | exact .one (.nil (by decide) rfl) | exact .agg (.cons (.v rfl) (.cons (.v rfl) (.cons (.own rfl rfl rfl rfl rfl rfl rfl (scal_ints _)) .nil))) | exact .agg (.cons (.v rfl) (.cons (.v rfl) (.cons (.nil (by decide) rfl) .nil))) | exact .agg (.cons (.v rfl) (.cons (.v rfl) .nil))))), (by decide)⟩⟩
set_option maxHeartbeats 4000000 in
theorem drawSlideMay_fn (v0 : Value) (bs : List Int) (hB : OkB bs) : ∃ i : PHall × Int × Int, i.1.cells.length ≤ 13 ∧ FnS Tryd.prog 78 [codeV v0 bs] (.tup [hallV i.1, .agg [.int i.2.1, .int i.2.2]]) := by
  obtain ⟨⟨h, q⟩, ⟨g1, g2, g3⟩, hH⟩ := l20Hall_fn (rdV v0) _ (cut_bytes hB) 0 (by omega) 9 (by omega)
  have hC := cut_bytes hB
  dsimp only at g1 g2 g3 hH
  have hls : (slidesAllF h).length ≤ 200 := by have := may_small h h.cells.length 0 (Nat.le_refl _) (Nat.zero_le _); simp [mayRow, selTo] at this; exact this
  refine fnx_go1 (Good := fun i : PHall × Int × Int => i.1.cells.length ≤ 13) (res := fun i => .tup [hallV i.1, .agg [.int i.2.1, .int i.2.2]]) tabOk Tryd.func78 rfl (by kernel_rfl) Tryd.ntmps78 Tryd.results78 (by decide) ?_
  repeat first | refine ax_seq ?_ | refine ax_next ?_ | refine rg_text ?_ | refine rg_any mixed ?_ | refine ax_block ?_ | refine rh_nil ⟨(by kernel_rfl), ?_⟩ | refine rh_nil ?_ | refine ax_ret ?_ | refine ax_skip ?_ | refine ax_exit ?_ | refine ax_true rfl ?_ | refine ax_false rfl ?_ | refine then_ret ?_ | refine then_exit ?_ | refine out_here ?_ | refine out_away rfl ?_ | refine out_normal ?_ | refine out_ret ?_ | refine round_exit ?_ | refine round_ret ?_ | refine meet_ret ?_ | refine meet_exit ?_ | (apply rh_no; iterate 4 exact rfl) | (apply rh_un; iterate 3 exact rfl) | (apply rh0; (case h => exact z0); (case hw => exact wt)) | (apply rh1; (case h => first | (apply st_open; iterate 4 exact rfl) | (apply st_call_s (hfn := specSlidesAll_fn h (by have := lim_eq; omega) ); exact rfl; exact fz; iterate 2 exact rfl) | exact z1); (case hw => exact wt)) | (apply rhs; (case h => exact zs); (case hw => exact wt)) | (apply rh2; (case h => first | (apply st_recv_h (hfn := hH ); (iterate 4 exact rfl); exact fz; iterate 3 exact rfl)); (case hw => exact wt))
  refine rh_split rfl rfl (fun hb => ?_) (fun hb => ?_)
  · have hpos : 0 < (slidesAllF h).length := by simpa using hb
    have u0 := pick_range hC (p := q + 1) (n := ((slidesAllF h).length : Int)) (by omega)
    have u0' := u0.2 (by omega)
    repeat first | refine ax_seq ?_ | refine ax_next ?_ | refine rg_text ?_ | refine rg_any mixed ?_ | refine ax_block ?_ | refine rh_nil ⟨(by kernel_rfl), ?_⟩ | refine rh_nil ?_ | refine ax_ret ?_ | refine ax_skip ?_ | refine ax_exit ?_ | refine ax_true rfl ?_ | refine ax_false rfl ?_ | refine then_ret ?_ | refine then_exit ?_ | refine out_here ?_ | refine out_away rfl ?_ | refine out_normal ?_ | refine out_ret ?_ | refine round_exit ?_ | refine round_ret ?_ | refine meet_ret ?_ | refine meet_exit ?_ | (apply rh_no; iterate 4 exact rfl) | (apply rh_un; iterate 3 exact rfl) | (apply rh0; (case h => exact z0); (case hw => exact wt)) | (apply rh1; (case h => first | (apply st_recv_v (hfn := pick_fn (rdV v0) _ hC q (by omega) 2 ); (iterate 4 exact rfl); exact fz; iterate 2 exact rfl) | exact z1); (case hw => exact wt)) | (apply rhs; (case h => exact zs); (case hw => exact wt))
    refine ax_cond rfl (fun hb2 => ?_) (fun hb2 => ?_)
    · repeat first | refine ax_seq ?_ | refine ax_next ?_ | refine rg_text ?_ | refine rg_any mixed ?_ | refine ax_block ?_ | refine rh_nil ⟨(by kernel_rfl), ?_⟩ | refine rh_nil ?_ | refine ax_ret ?_ | refine ax_skip ?_ | refine ax_exit ?_ | refine ax_true rfl ?_ | refine ax_false rfl ?_ | refine then_ret ?_ | refine then_exit ?_ | refine out_here ?_ | refine out_away rfl ?_ | refine out_normal ?_ | refine out_ret ?_ | refine round_exit ?_ | refine round_ret ?_ | refine meet_ret ?_ | refine meet_exit ?_ | (apply rh_no; iterate 4 exact rfl) | (apply rh_un; iterate 3 exact rfl) | (apply rh0; (case h => exact z0); (case hw => exact wt)) | (apply rh1; (case h => first | (apply st_recv_v (hfn := pick_fn (rdV v0) _ hC (q + 1) (by omega) ((slidesAllF h).length : Int) ); (iterate 4 exact rfl); exact fz; iterate 2 exact rfl) | exact z1); (case hw => exact wt)) | (apply rhs; (case h => exact zs); (case hw => exact wt))
      refine ⟨⟨(h, _, _), g1, .inl rfl, _, _, (by repeat first | exact .nil | apply ResL.cons | exact .tmp rfl | exact .agg rfl rfl rfl rfl rfl (Nat.le_of_ble_eq_true rfl) rfl | exact .cell rfl rfl rfl rfl rfl (Nat.le_of_ble_eq_true rfl) rfl), (by first | exact .one (by first | exact .one (.v rfl) | exact .one (.own rfl rfl rfl rfl rfl rfl rfl (by first | exact scal_ints _ | exact scal_slc _)) | exact .one (.nil (by decide) rfl) | exact .agg (.cons (.v rfl) (.cons (.v rfl) (.cons (.own rfl rfl rfl rfl rfl rfl rfl (scal_ints _)) .nil))) | exact .agg (.cons (.v rfl) (.cons (.v rfl) (.cons (.nil (by decide) rfl) .nil))) | exact .agg (.cons (.v rfl) (.cons (.v rfl) .nil))) | exact .two (by repeat first | exact .nil | apply ExpL.cons | exact (by first | exact .one (.v rfl) | exact .one (.own rfl rfl rfl rfl rfl rfl rfl (by first | exact scal_ints _ | exact scal_slc _)) | exact .one (.nil (by decide) rfl) | exact .agg (.cons (.v rfl) (.cons (.v rfl) (.cons (.own rfl rfl rfl rfl rfl rfl rfl (scal_ints _)) .nil))) | exact .agg (.cons (.v rfl) (.cons (.v rfl) (.cons (.nil (by decide) rfl) .nil))) | exact .agg (.cons (.v rfl) (.cons (.v rfl) .nil))))), (by decide)⟩⟩
    · repeat first | refine ax_seq ?_ | refine ax_next ?_ | refine rg_text ?_ | refine rg_any mixed ?_ | refine ax_block ?_ | refine rh_nil ⟨(by kernel_rfl), ?_⟩ | refine rh_nil ?_ | refine ax_ret ?_ | refine ax_skip ?_ | refine ax_exit ?_ | refine ax_true rfl ?_ | refine ax_false rfl ?_ | refine then_ret ?_ | refine then_exit ?_ | refine out_here ?_ | refine out_away rfl ?_ | refine out_normal ?_ | refine out_ret ?_ | refine round_exit ?_ | refine round_ret ?_ | refine meet_ret ?_ | refine meet_exit ?_ | (apply rh_no; iterate 4 exact rfl) | (apply rh_un; iterate 3 exact rfl) | (apply rh0; (case h => exact z0); (case hw => exact wt)) | (apply rh1; (case h => first | (apply st_recv_v (hfn := l20Cell_fn (rdV v0) _ hC (q + 1) (by omega) h (by omega) ); (iterate 4 exact rfl); exact fz; iterate 2 exact rfl) | (apply st_recv_v (hfn := l20Cell_fn (rdV v0) _ hC (q + 1 + 1 + 1) (by omega) h (by omega) ); (iterate 4 exact rfl); exact fz; iterate 2 exact rfl) | exact z1); (case hw => exact wt)) | (apply rhs; (case h => exact zs); (case hw => exact wt))
      refine ⟨⟨(h, _, _), g1, .inl rfl, _, _, (by repeat first | exact .nil | apply ResL.cons | exact .tmp rfl | exact .agg rfl rfl rfl rfl rfl (Nat.le_of_ble_eq_true rfl) rfl | exact .cell rfl rfl rfl rfl rfl (Nat.le_of_ble_eq_true rfl) rfl), (by first | exact .one (by first | exact .one (.v rfl) | exact .one (.own rfl rfl rfl rfl rfl rfl rfl (by first | exact scal_ints _ | exact scal_slc _)) | exact .one (.nil (by decide) rfl) | exact .agg (.cons (.v rfl) (.cons (.v rfl) (.cons (.own rfl rfl rfl rfl rfl rfl rfl (scal_ints _)) .nil))) | exact .agg (.cons (.v rfl) (.cons (.v rfl) (.cons (.nil (by decide) rfl) .nil))) | exact .agg (.cons (.v rfl) (.cons (.v rfl) .nil))) | exact .two (by repeat first | exact .nil | apply ExpL.cons | exact (by first | exact .one (.v rfl) | exact .one (.own rfl rfl rfl rfl rfl rfl rfl (by first | exact scal_ints _ | exact scal_slc _)) | exact .one (.nil (by decide) rfl) | exact .agg (.cons (.v rfl) (.cons (.v rfl) (.cons (.own rfl rfl rfl rfl rfl rfl rfl (scal_ints _)) .nil))) | exact .agg (.cons (.v rfl) (.cons (.v rfl) (.cons (.nil (by decide) rfl) .nil))) | exact .agg (.cons (.v rfl) (.cons (.v rfl) .nil))))), (by decide)⟩⟩
  · repeat first | refine ax_seq ?_ | refine ax_next ?_ | refine rg_text ?_ | refine rg_any mixed ?_ | refine ax_block ?_ | refine rh_nil ⟨(by kernel_rfl), ?_⟩ | refine rh_nil ?_ | refine ax_ret ?_ | refine ax_skip ?_ | refine ax_exit ?_ | refine ax_true rfl ?_ | refine ax_false rfl ?_ | refine then_ret ?_ | refine then_exit ?_ | refine out_here ?_ | refine out_away rfl ?_ | refine out_normal ?_ | refine out_ret ?_ | refine round_exit ?_ | refine round_ret ?_ | refine meet_ret ?_ | refine meet_exit ?_ | (apply rh_no; iterate 4 exact rfl) | (apply rh_un; iterate 3 exact rfl) | (apply rh0; (case h => exact z0); (case hw => exact wt)) | (apply rh1; (case h => first | (apply st_recv_v (hfn := l20Cell_fn (rdV v0) _ hC q (by omega) h (by omega) ); (iterate 4 exact rfl); exact fz; iterate 2 exact rfl) | (apply st_recv_v (hfn := l20Cell_fn (rdV v0) _ hC (q + 1 + 1) (by omega) h (by omega) ); (iterate 4 exact rfl); exact fz; iterate 2 exact rfl) | exact z1); (case hw => exact wt)) | (apply rhs; (case h => exact zs); (case hw => exact wt))
    refine ⟨⟨(h, _, _), g1, .inl rfl, _, _, (by repeat first | exact .nil | apply ResL.cons | exact .tmp rfl | exact .agg rfl rfl rfl rfl rfl (Nat.le_of_ble_eq_true rfl) rfl | exact .cell rfl rfl rfl rfl rfl (Nat.le_of_ble_eq_true rfl) rfl), (by first | exact .one (by first | exact .one (.v rfl) | exact .one (.own rfl rfl rfl rfl rfl rfl rfl (by first | exact scal_ints _ | exact scal_slc _)) | exact .one (.nil (by decide) rfl) | exact .agg (.cons (.v rfl) (.cons (.v rfl) (.cons (.own rfl rfl rfl rfl rfl rfl rfl (scal_ints _)) .nil))) | exact .agg (.cons (.v rfl) (.cons (.v rfl) (.cons (.nil (by decide) rfl) .nil))) | exact .agg (.cons (.v rfl) (.cons (.v rfl) .nil))) | exact .two (by repeat first | exact .nil | apply ExpL.cons | exact (by first | exact .one (.v rfl) | exact .one (.own rfl rfl rfl rfl rfl rfl rfl (by first | exact scal_ints _ | exact scal_slc _)) | exact .one (.nil (by decide) rfl) | exact .agg (.cons (.v rfl) (.cons (.v rfl) (.cons (.own rfl rfl rfl rfl rfl rfl rfl (scal_ints _)) .nil))) | exact .agg (.cons (.v rfl) (.cons (.v rfl) (.cons (.nil (by decide) rfl) .nil))) | exact .agg (.cons (.v rfl) (.cons (.v rfl) .nil))))), (by decide)⟩⟩
theorem drawSlideDo_fn (v0 : Value) (bs : List Int) (hB : OkB bs) : ∃ i : PHall × Int × Int, i.1.cells.length ≤ 13 ∧ FnS Tryd.prog 34 [codeV v0 bs] (.tup [hallV i.1, .agg [.int i.2.1, .int i.2.2]]) := by
  obtain ⟨⟨h, a, b⟩, g1, hH⟩ := drawSlideMay_fn v0 bs hB
  refine fnx_go1 (Good := fun i : PHall × Int × Int => i.1.cells.length ≤ 13) (res := fun i => .tup [hallV i.1, .agg [.int i.2.1, .int i.2.2]]) tabOk Tryd.func34 rfl (by kernel_rfl) Tryd.ntmps34 Tryd.results34 (by decide) ?_
  repeat first | refine ax_seq ?_ | refine ax_next ?_ | refine rg_text ?_ | refine rg_any mixed ?_ | refine ax_block ?_ | refine rh_nil ⟨(by kernel_rfl), ?_⟩ | refine rh_nil ?_ | refine ax_ret ?_ | refine ax_skip ?_ | refine ax_exit ?_ | refine ax_true rfl ?_ | refine ax_false rfl ?_ | refine then_ret ?_ | refine then_exit ?_ | refine out_here ?_ | refine out_away rfl ?_ | refine out_normal ?_ | refine out_ret ?_ | refine round_exit ?_ | refine round_ret ?_ | refine meet_ret ?_ | refine meet_exit ?_ | (apply rh_no; iterate 4 exact rfl) | (apply rh_un; iterate 3 exact rfl) | (apply rh0; (case h => exact z0); (case hw => exact wt)) | (apply rh1; (case h => first | (apply st_call_ha (hfn := hH ); exact rfl; exact fz; iterate 2 exact rfl) | exact z1); (case hw => exact wt)) | (apply rhs; (case h => exact zs); (case hw => exact wt))
  refine ⟨⟨(h, a, b), g1, .inl rfl, _, _, (by repeat first | exact .nil | apply ResL.cons | exact .tmp rfl | exact .agg rfl rfl rfl rfl rfl (Nat.le_of_ble_eq_true rfl) rfl | exact .cell rfl rfl rfl rfl rfl (Nat.le_of_ble_eq_true rfl) rfl), (by first | exact .one (by first | exact .one (.v rfl) | exact .one (.own rfl rfl rfl rfl rfl rfl rfl (by first | exact scal_ints _ | exact scal_slc _)) | exact .one (.nil (by decide) rfl) | exact .agg (.cons (.v rfl) (.cons (.v rfl) (.cons (.own rfl rfl rfl rfl rfl rfl rfl (scal_ints _)) .nil))) | exact .agg (.cons (.v rfl) (.cons (.v rfl) (.cons (.nil (by decide) rfl) .nil))) | exact .agg (.cons (.v rfl) (.cons (.v rfl) .nil))) | exact .two (by repeat first | exact .nil | apply ExpL.cons | exact (by first | exact .one (.v rfl) | exact .one (.own rfl rfl rfl rfl rfl rfl rfl (by first | exact scal_ints _ | exact scal_slc _)) | exact .one (.nil (by decide) rfl) | exact .agg (.cons (.v rfl) (.cons (.v rfl) (.cons (.own rfl rfl rfl rfl rfl rfl rfl (scal_ints _)) .nil))) | exact .agg (.cons (.v rfl) (.cons (.v rfl) (.cons (.nil (by decide) rfl) .nil))) | exact .agg (.cons (.v rfl) (.cons (.v rfl) .nil))))), (by decide)⟩⟩
end Go.Proofs.YtjdgbdakkdljmaaDoor
