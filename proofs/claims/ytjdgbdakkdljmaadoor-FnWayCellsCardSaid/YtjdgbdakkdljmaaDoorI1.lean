/-
  HallText: the text of a hall, and the program's function.
-/
import Derived.Test.YtjdgbdakkdljmaaDoorShB
import Derived.Test.YtjdgbdakkdljmaaDoorH
import Derived.Lib.Builder
import Derived.Lib.AppendStr
import Derived.Laws.Externs
set_option linter.unusedVariables false
namespace Go.Proofs.YtjdgbdakkdljmaaDoor
open Go Go.RowKit Go.Park

/-- what stands ahead of cell k -/
def sepB (w : Int) (k : Nat) : List UInt8 := if k = 0 then [] else if (k : Int) % w = 0 then [47] else [44]
def cellB (z : Int) : List UInt8 := if z = 0 then [46] else Lib.decDigits z.toNat
def textTo (h : PHall) : Nat → List UInt8
  | 0 => []
  | k+1 => textTo h k ++ (sepB h.wide k ++ cellB (gi h.cells k))
def textF (h : PHall) : ByteArray := if validB h = true then ⟨(textTo h h.cells.length).toArray⟩ else ⟨#[]⟩
theorem decDigits_len (n : Nat) : (Lib.decDigits n).length ≤ n + 1 := by
  induction n using Nat.strongRecOn with
  | ind n ih =>
    rw [Lib.decDigits]
    split
    · simp
    · have := ih (n / 10) (by omega)
      simp; omega
theorem cellB_len {z : Int} (h0 : 0 ≤ z) (h1 : z ≤ 99) : (cellB z).length ≤ 100 := by
  unfold cellB
  split
  · simp
  · have := decDigits_len z.toNat; omega
theorem sepB_len (w : Int) (k : Nat) : (sepB w k).length ≤ 1 := by unfold sepB; split <;> (try split) <;> simp
theorem textTo_len {h : PHall} (hv : validB h = true) : ∀ k, k ≤ h.cells.length → (textTo h k).length ≤ 101 * k
  | 0, _ => by simp [textTo]
  | k+1, hk => by
    have h1 := textTo_len hv k (by omega)
    have h2 := sepB_len h.wide k
    have h3 := valid_cell hv (show k < h.cells.length by omega)
    have h4 := cellB_len h3.1 h3.2
    simp only [textTo, List.length_append]
    omega

/-! the builder -/
theorem sizeBuilder : ((Tryd.prog).info? 87).map (·.size) = some 2 := by kernel_rfl
theorem liesBuilder : liesAt Tryd.prog (Tryd.prog).depth 87 (2 / (Tryd.prog).cellsOf 87) 0 87 1 = true := by kernel_rfl
set_option maxHeartbeats 1000000 in
set_option maxRecDepth 100000 in
theorem copyCheck_used (b : Nat) (w : World) (h0 : w.cell? ⟨b, 0, none⟩ = some (.pointer (some ⟨b, 0, none⟩))) :
    Calls Tryd.prog 109 #[.pointer (some ⟨b, 0, none⟩)] w fun e w' => e = .returned (.tuple #[]) ∧ w' = w := by
  obtain ⟨j, hj, _⟩ := Option.map_eq_some_iff.1 sizeBuilder
  go_enter Tryd.func109, Tryd.ntmps109
  go_wp2
  rw [Lib.run_neq_ptr_same w _ Tryd.underlying85 hj]
  go_wp2
  go_end0
  exact ⟨rfl, rfl⟩
set_option maxHeartbeats 1000000 in
set_option maxRecDepth 100000 in
theorem copyCheck_fresh (b : Nat) (w : World) (h0 : w.cell? ⟨b, 0, none⟩ = some (.pointer none)) (hsh : w.shape? b = some (87, 2)) (hfz : w.frozen? ⟨b, 0, none⟩ = false) :
    Calls Tryd.prog 109 #[.pointer (some ⟨b, 0, none⟩)] w fun e w' => e = .returned (.tuple #[]) ∧ w' = w.setCell ⟨b, 0, none⟩ (.pointer (some ⟨b, 0, none⟩)) := by
  obtain ⟨j, hj, hjs⟩ := Option.map_eq_some_iff.1 sizeBuilder
  go_enter Tryd.func109, Tryd.ntmps109
  go_wp2
  rw [Lib.run_to_unsafe w ⟨b, 0, none⟩ Tryd.underlying85 Tryd.underlying122 hj (by rw [hjs]; decide) hsh (Nat.zero_lt_succ 1)]
  simp only [Result.andThen]
  rw [Oper.upon_value]
  go_wp2
  rw [run_callFunc_extern Tryd.func124 (by kernel_rfl) (by kernel_rfl) (by kernel_rfl) (e := Extern.AbiNoEscape.same) (by kernel_rfl)]
  rw [Lib.run_noEscape]
  simp only [Result.andThen]
  rw [Oper.upon_value]
  go_wp2
  rw [Lib.run_from_unsafe w ⟨b, 0, none⟩ Tryd.underlying122 Tryd.underlying85 hj hsh liesBuilder]
  simp only [Result.andThen]
  rw [Oper.upon_value]
  go_wp2
  go_end0
  exact ⟨rfl, rfl⟩
theorem copyCheck_any (B b : Nat) (bs : List Value) (w : World) (h : Lib.IsBuilder 87 5 B b bs w) :
    Calls Tryd.prog 109 #[.pointer (some ⟨b, 0, none⟩)] w fun e w' => e = .returned (.tuple #[]) ∧ (Lib.BuilderAt 87 5 B b (.pointer (some ⟨b, 0, none⟩)) bs w' ∧ Below B w w') := by
  rcases h with h | h
  · refine (copyCheck_fresh b w h.cell0 h.shape h.frozen0).mono ?_
    rintro e w' ⟨rfl, rfl⟩
    exact ⟨rfl, h.used _, (Below.refl B w).setCell (p := ⟨b, 0, none⟩) h.1 _⟩
  · refine (copyCheck_used b w h.cell0).mono ?_
    rintro e w' ⟨rfl, rfl⟩
    exact ⟨rfl, h, Below.refl B _⟩
theorem info_byte : ((Tryd.prog).info? 5).map (fun i => (i.zero, i.size, i.bytes)) = some (some (.int .u8 0), 1, 1) := by kernel_rfl
set_option maxHeartbeats 2000000 in
set_option maxRecDepth 100000 in
theorem writeByte_any (B b : Nat) (bs : List Value) (c : Int) (w : World) (h : Lib.IsBuilder 87 5 B b bs w) (hlen : bs.length + 1 ≤ 140737488355328) (hBw : B ≤ w.heap.size) :
    Calls Tryd.prog 91 #[.pointer (some ⟨b, 0, none⟩), .int .u8 c] w fun e w' => e = .returned .nilIface ∧ (Lib.BuilderAt 87 5 B b (.pointer (some ⟨b, 0, none⟩)) (bs ++ [.int .u8 c]) w' ∧ Below B w w') := by
  obtain ⟨i0, hi, hz0, hz1, hz2⟩ := info_parts info_byte
  go_enter Tryd.func91, Tryd.ntmps91
  go_wp2_with (go_at_call 109; refine (copyCheck_any B b bs _ h).mono ?_)
  rintro e w1 ⟨rfl, h1, hb1⟩
  obtain ⟨hB, v, hbk, hown, hne⟩ := h1
  have c0 : w1.cell? ⟨b, 0, none⟩ = some (.pointer (some ⟨b, 0, none⟩)) := by rw [Lib.cell_of_heap hbk]; rfl
  have c1 : w1.cell? ⟨b, 1, none⟩ = some v := by rw [Lib.cell_of_heap hbk]; rfl
  go_wp2_with (at_builtin; refine wpList_append_own _ rfl _ _ 22 rfl B 5 i0 (.int .u8 0) 1 1 Tryd.underlying22 hi hz0 hz1 hz2 rfl (by decide) _ _ _ rfl (hown.alloc _) ⟨w1.heap.size, 0, none⟩ 1 1 [.int .u8 c] rfl rfl ?c1 ?c2 ?c3 ?c4 ?c5 ?_)
  case c1 =>
    intro j u hj
    match j, hj with
    | 0, hj => simp at hj; subst hj; simp [Addr.add]
  case c2 => intro u hu; simp at hu; subst hu; rfl
  case c3 => unfold maxLen; omega
  case c4 => omega
  case c5 => have := hb1.size; simp; omega
  intro v' w2 hown' hgrow _
  have hlt : b < w1.heap.size := by
    rcases Nat.lt_or_ge b w1.heap.size with h' | h'
    · exact h'
    · simp [Array.getElem?_eq_none h'] at hbk
  have hb2 : w2.heap[b]? = some (.cells #[.pointer (some ⟨b, 0, none⟩), v] 87 (0, 0)) := by
    rw [hgrow.block b (by simp; omega) (fun e => hne e.symm), Lib.alloc_old w1 _ b hlt]
    exact hbk
  have d0 : w2.cell? ⟨b, 0, none⟩ = some (.pointer (some ⟨b, 0, none⟩)) := by rw [Lib.cell_of_heap hb2]; rfl
  have d1 : w2.cell? ⟨b, 1, none⟩ = some v := by rw [Lib.cell_of_heap hb2]; rfl
  have f1 : w2.frozen? ⟨b, 1, none⟩ = false := Lib.frozen_of_heap hb2 1
  obtain ⟨g, cap, rfl⟩ : ∃ g cap, v' = .slice (some ⟨g, 0, none⟩) (bs.length + 1) cap := by
    rcases hown'.2 with ⟨_, h0⟩ | ⟨g, cap, cur, hv, _⟩
    · omega
    · exact ⟨g, cap, hv⟩
  go_wp2
  go_ret
  refine ⟨rfl, ?_, ?_⟩
  · exact Lib.BuilderAt.put (T := 87) (e := 5) hB hb2 (bs' := bs ++ [.int .u8 c]) (by simpa using hown') (by decide)
  · exact ((hb1.alloc (by have := hb1.size; omega) _).grown hgrow (by have := hb1.size; simp; omega) (fun k hk => (hown.lt k hk).1)).setCell (p := ⟨b, 1, none⟩) hB _
set_option maxHeartbeats 2000000 in
set_option maxRecDepth 100000 in
theorem writeString_any (B b : Nat) (bs : List Value) (s : ByteArray) (w : World) (h : Lib.IsBuilder 87 5 B b bs w) (hlen : bs.length + s.size ≤ 140737488355328) (hBw : B ≤ w.heap.size) :
    Calls Tryd.prog 92 #[.pointer (some ⟨b, 0, none⟩), .string s] w fun e w' => e = .returned (.tuple #[.int .i64 s.size, .nilIface]) ∧ (Lib.BuilderAt 87 5 B b (.pointer (some ⟨b, 0, none⟩)) (bs ++ Lib.strCells s) w' ∧ Below B w w') := by
  obtain ⟨i0, hi, hz0, hz1, hz2⟩ := info_parts info_byte
  go_enter Tryd.func92, Tryd.ntmps92
  go_wp2_with (go_at_call 109; refine (copyCheck_any B b bs _ h).mono ?_)
  rintro e w1 ⟨rfl, h1, hb1⟩
  obtain ⟨hB, v, hbk, hown, hne⟩ := h1
  have c0 : w1.cell? ⟨b, 0, none⟩ = some (.pointer (some ⟨b, 0, none⟩)) := by rw [Lib.cell_of_heap hbk]; rfl
  have c1 : w1.cell? ⟨b, 1, none⟩ = some v := by rw [Lib.cell_of_heap hbk]; rfl
  go_wp2_with (at_builtin; refine Lib.wpList_append_own_string _ rfl _ _ 22 9 rfl B 5 i0 Tryd.underlying22 Tryd.underlying9 hi hz0 hz1 hz2 _ _ _ rfl hown s rfl ?c3 ?c4 ?c5 ?_)
  case c3 => unfold maxLen; omega
  case c4 => omega
  case c5 => have := hb1.size; omega
  intro v' w2 hown' hgrow _
  have hlt : b < w1.heap.size := by
    rcases Nat.lt_or_ge b w1.heap.size with h' | h'
    · exact h'
    · simp [Array.getElem?_eq_none h'] at hbk
  have hb2 : w2.heap[b]? = some (.cells #[.pointer (some ⟨b, 0, none⟩), v] 87 (0, 0)) := by
    rw [hgrow.block b hlt (fun e => hne e.symm)]
    exact hbk
  have d0 : w2.cell? ⟨b, 0, none⟩ = some (.pointer (some ⟨b, 0, none⟩)) := by rw [Lib.cell_of_heap hb2]; rfl
  have d1 : w2.cell? ⟨b, 1, none⟩ = some v := by rw [Lib.cell_of_heap hb2]; rfl
  have f1 : w2.frozen? ⟨b, 1, none⟩ = false := Lib.frozen_of_heap hb2 1
  obtain ⟨ao, n', cap, rfl⟩ : ∃ ao n' cap, v' = .slice ao n' cap := by
    rcases hown'.2 with ⟨hv, _⟩ | ⟨g, cap, cur, hv, _⟩
    · exact ⟨_, _, _, hv⟩
    · exact ⟨_, _, _, hv⟩
  go_wp2
  go_ret2
  refine ⟨rfl, ?_, ?_⟩
  · exact Lib.BuilderAt.put (T := 87) (e := 5) hB hb2 (bs' := bs ++ Lib.strCells s) (by simpa [Lib.strCells_length] using hown') (by decide)
  · exact (hb1.grown hgrow (by have := hb1.size; omega) (fun k hk => (hown.lt k hk).1)).setCell (p := ⟨b, 1, none⟩) hB _
set_option maxHeartbeats 4000000 in
set_option maxRecDepth 100000 in
theorem hallText_any (w : World) (v : Value) (h : PHall) (hv : HallAt w v h) :
    Calls Tryd.prog 54 #[v] w (Gives (.string (textF h)) w) := by
  have HV := Lib.hid hv
  obtain ⟨cv, rfl, ao, c, rfl, hn, hcm, hx⟩ := hv
  have HX := Lib.hid hx
  clear hx
  cases hval : validB h
  · have H := Lib.hid (show textF h = ⟨#[]⟩ by simp [textF, hval])
    have HW := Lib.hid (valid_calls hval)
    clear hval
    go_enter Tryd.func54, Tryd.ntmps54
    go_wp2_with fail
    refine (HW.out _ _ (HV.out.keep (below_new _ _))).mono ?_
    rintro e w1 ⟨rfl, hb⟩
    have b1 := (box3_new w _ _ _ _).keep hb
    have b1_0 := b1.c0
    have b1_1 := b1.c1
    have b1_2 := b1.c2
    have b1_l := b1.lt
    have HB := Lib.hid (below_alloc hb)
    clear hb
    go_wp2
    go_ret
    exact gives_mk (by rw [H.out]; rfl) HB.out
  have HW := Lib.hid (valid_calls hval)
  have H := Lib.hid (show textF h = ⟨(textTo h h.cells.length).toArray⟩ by simp [textF, hval])
  have hlen := (valid_len hval).2
  have hsz := (valid_size hval).1
  have HLT := Lib.hid (fun k (hk : k ≤ h.cells.length) => textTo_len hval k hk)
  have HC := Lib.hid (fun k (hk : k < h.cells.length) => valid_cell hval hk)
  obtain ⟨n, hnn⟩ : ∃ n, n = h.cells.length := ⟨_, rfl⟩
  rw [← hnn] at hlen H HV HX HLT HC ⊢
  clear hval hn hcm hnn
  go_enter Tryd.func54, Tryd.ntmps54
  go_wp2_with fail
  refine (HW.out _ _ (HV.out.keep (below_new _ _))).mono ?_
  rintro e w1 ⟨rfl, hb⟩
  have b1 := (box3_new w _ _ _ _).keep hb
  have b1_0 := b1.c0
  have b1_1 := b1.c1
  have b1_2 := b1.c2
  have b1_l := b1.lt
  have HB := Lib.hid (below_alloc hb)
  have hx1 := HX.out.keep HB.out
  clear hb
  go_wp2
  go_loopw [12] (fun i wr => ∃ k : Nat, k ≤ n ∧ i = .int .i64 k ∧ Hid (Lib.IsBuilder 87 5 w1.heap.size w1.heap.size (Lib.byteCells (textTo h k)) wr) ∧ Below w1.heap.size w1 wr) (fun i _ => n - (intOf i).toNat)
  case atStart => exact ⟨0, Nat.zero_le _, rfl, Lib.hid (Lib.fresh_isBuilder _ _ _), below_new _ _⟩
  case round =>
    obtain ⟨k, hk, rfl, ho, hbr⟩ := hrel
    have HR := Lib.hid hbr
    have hsz1 := hbr.size
    have b2 := b1.keep hbr
    have b2_0 := b2.c0
    have b2_1 := b2.c1
    have b2_2 := b2.c2
    clear hbr
    by_cases hlt : k < n
    · obtain ⟨bb, oo, rfl, h1⟩ := (hx1.keep HR.out) k hlt
      have hc := HC.out k hlt
      have hL := HLT.out k hk
      have hsl := sepB_len h.wide k
      clear hx1
      by_cases hk0 : k = 0
      · have hbk : ((k : Int) == 0) = true := by simpa using hk0
        have HO := Lib.hid (show Lib.IsBuilder 87 5 w1.heap.size w1.heap.size (Lib.byteCells (textTo h k ++ sepB h.wide k)) wr from by rw [show sepB h.wide k = [] by simp [sepB, hk0], List.append_nil]; exact ho.out)
        have hLL : (textTo h k ++ sepB h.wide k).length ≤ 2000 := by rw [List.length_append]; omega
        clear hk0
        by_cases he : gi h.cells k = 0
        · have hbq : (gi h.cells k == 0) = true := by simpa using he
          have HT := Lib.hid (show textTo h k ++ (sepB h.wide k ++ [46]) = textTo h (k+1) by simp [textTo, cellB, he])
          clear he
          go_wp2_with (go_at_call 91; refine (writeByte_any _ _ _ 46 _ HO.out (by rw [Lib.byteCells_length]; omega) (by omega)).mono ?_)
          rintro e W2 ⟨rfl, h3, hb3⟩
          have HO2 := Lib.hid (show Lib.IsBuilder 87 5 w1.heap.size w1.heap.size (Lib.byteCells (textTo h (k+1))) W2 from by rw [← HT.out, ← List.append_assoc, Lib.byteCells_append]; exact .inr h3)
          have HB3 := Lib.hid (HR.out.trans hb3)
          clear h3 hb3
          go_wp2
          go_roundw
          case rel => exact ⟨k+1, by omega, by go_num, HO2, HB3.out⟩
          case measure => simp [intOf]; omega
        · have hbq : (gi h.cells k == 0) = false := by simpa using he
          obtain ⟨z, hz⟩ : ∃ z : Nat, gi h.cells k = z := ⟨(gi h.cells k).toNat, by omega⟩
          have hz0 : z ≠ 0 := fun e => he (by rw [hz, e]; rfl)
          have HT := Lib.hid (show textTo h k ++ (sepB h.wide k ++ Lib.decDigits z) = textTo h (k+1) by simp [textTo, cellB, hz, hz0])
          have hdl := decDigits_len z; have hz99 : z ≤ 99 := by omega
          have HI := Lib.hid (show ∀ W', Calls Tryd.prog 93 #[.int .i64 (gi h.cells k)] W' (fun e w' => e = .returned (.string ⟨(Lib.decDigits z).toArray⟩) ∧ w' = W') by rw [hz]; exact fun W' => Tryd.strconv_Itoa_small z (by omega) W')
          clear he hz
          go_wp2_with (go_at_call 93; refine (HI.out _).mono ?_)
          rintro e W1 ⟨rfl, rfl⟩
          go_wp2_with (go_at_call 92; refine (writeString_any _ _ _ _ _ HO.out (by rw [Lib.byteCells_length]; show _ + (Lib.decDigits z).toArray.size ≤ _; simp; omega) (by omega)).mono ?_)
          rintro e W2 ⟨rfl, h3, hb3⟩
          have HO2 := Lib.hid (show Lib.IsBuilder 87 5 w1.heap.size w1.heap.size (Lib.byteCells (textTo h (k+1))) W2 from by rw [← HT.out, ← List.append_assoc, Lib.byteCells_append]; exact .inr h3)
          have HB3 := Lib.hid (HR.out.trans hb3)
          clear h3 hb3
          go_wp2
          go_roundw
          case rel => exact ⟨k+1, by omega, by go_num, HO2, HB3.out⟩
          case measure => simp [intOf]; omega
      · have hbk : ((k : Int) == 0) = false := by simpa using hk0
        have hLL : (textTo h k ++ sepB h.wide k).length ≤ 2000 := by rw [List.length_append]; omega
        by_cases hr : (k : Int) % h.wide = 0
        · have hbr2 : ((k : Int) % h.wide == 0) = true := by simpa using hr
          have HS := Lib.hid (show sepB h.wide k = [47] by simp [sepB, hk0, hr])
          clear hr hk0
          go_wp2_with (go_at_call 91; refine (writeByte_any _ _ _ 47 _ ho.out (by rw [Lib.byteCells_length]; omega) (by omega)).mono ?_)
          rintro e W1 ⟨rfl, h2, hb2⟩
          have HOX := Lib.hid (show Lib.IsBuilder 87 5 w1.heap.size w1.heap.size (Lib.byteCells (textTo h k ++ sepB h.wide k)) W1 from by rw [HS.out, Lib.byteCells_append]; exact .inr h2)
          have HBX := Lib.hid (HR.out.trans hb2)
          have hsz2 := HBX.out.size
          clear h2 hb2
          by_cases he : gi h.cells k = 0
          · have hbq : (gi h.cells k == 0) = true := by simpa using he
            have HT := Lib.hid (show textTo h k ++ (sepB h.wide k ++ [46]) = textTo h (k+1) by simp [textTo, cellB, he])
            clear he
            go_wp2_with (go_at_call 91; refine (writeByte_any _ _ _ 46 _ HOX.out (by rw [Lib.byteCells_length]; omega) (by omega)).mono ?_)
            rintro e W2 ⟨rfl, h3, hb3⟩
            have HO2 := Lib.hid (show Lib.IsBuilder 87 5 w1.heap.size w1.heap.size (Lib.byteCells (textTo h (k+1))) W2 from by rw [← HT.out, ← List.append_assoc, Lib.byteCells_append]; exact .inr h3)
            have HB3 := Lib.hid (HBX.out.trans hb3)
            clear h3 hb3
            go_wp2
            go_roundw
            case rel => exact ⟨k+1, by omega, by go_num, HO2, HB3.out⟩
            case measure => simp [intOf]; omega
          · have hbq : (gi h.cells k == 0) = false := by simpa using he
            obtain ⟨z, hz⟩ : ∃ z : Nat, gi h.cells k = z := ⟨(gi h.cells k).toNat, by omega⟩
            have hz0 : z ≠ 0 := fun e => he (by rw [hz, e]; rfl)
            have HT := Lib.hid (show textTo h k ++ (sepB h.wide k ++ Lib.decDigits z) = textTo h (k+1) by simp [textTo, cellB, hz, hz0])
            have hdl := decDigits_len z; have hz99 : z ≤ 99 := by omega
            have HI := Lib.hid (show ∀ W', Calls Tryd.prog 93 #[.int .i64 (gi h.cells k)] W' (fun e w' => e = .returned (.string ⟨(Lib.decDigits z).toArray⟩) ∧ w' = W') by rw [hz]; exact fun W' => Tryd.strconv_Itoa_small z (by omega) W')
            clear he hz
            go_wp2_with (go_at_call 93; refine (HI.out _).mono ?_)
            rintro e W1 ⟨rfl, rfl⟩
            go_wp2_with (go_at_call 92; refine (writeString_any _ _ _ _ _ HOX.out (by rw [Lib.byteCells_length]; show _ + (Lib.decDigits z).toArray.size ≤ _; simp; omega) (by omega)).mono ?_)
            rintro e W2 ⟨rfl, h3, hb3⟩
            have HO2 := Lib.hid (show Lib.IsBuilder 87 5 w1.heap.size w1.heap.size (Lib.byteCells (textTo h (k+1))) W2 from by rw [← HT.out, ← List.append_assoc, Lib.byteCells_append]; exact .inr h3)
            have HB3 := Lib.hid (HBX.out.trans hb3)
            clear h3 hb3
            go_wp2
            go_roundw
            case rel => exact ⟨k+1, by omega, by go_num, HO2, HB3.out⟩
            case measure => simp [intOf]; omega
        · have hbr2 : ((k : Int) % h.wide == 0) = false := by simpa using hr
          have HS := Lib.hid (show sepB h.wide k = [44] by simp [sepB, hk0, hr])
          clear hr hk0
          go_wp2_with (go_at_call 91; refine (writeByte_any _ _ _ 44 _ ho.out (by rw [Lib.byteCells_length]; omega) (by omega)).mono ?_)
          rintro e W1 ⟨rfl, h2, hb2⟩
          have HOX := Lib.hid (show Lib.IsBuilder 87 5 w1.heap.size w1.heap.size (Lib.byteCells (textTo h k ++ sepB h.wide k)) W1 from by rw [HS.out, Lib.byteCells_append]; exact .inr h2)
          have HBX := Lib.hid (HR.out.trans hb2)
          have hsz2 := HBX.out.size
          clear h2 hb2
          by_cases he : gi h.cells k = 0
          · have hbq : (gi h.cells k == 0) = true := by simpa using he
            have HT := Lib.hid (show textTo h k ++ (sepB h.wide k ++ [46]) = textTo h (k+1) by simp [textTo, cellB, he])
            clear he
            go_wp2_with (go_at_call 91; refine (writeByte_any _ _ _ 46 _ HOX.out (by rw [Lib.byteCells_length]; omega) (by omega)).mono ?_)
            rintro e W2 ⟨rfl, h3, hb3⟩
            have HO2 := Lib.hid (show Lib.IsBuilder 87 5 w1.heap.size w1.heap.size (Lib.byteCells (textTo h (k+1))) W2 from by rw [← HT.out, ← List.append_assoc, Lib.byteCells_append]; exact .inr h3)
            have HB3 := Lib.hid (HBX.out.trans hb3)
            clear h3 hb3
            go_wp2
            go_roundw
            case rel => exact ⟨k+1, by omega, by go_num, HO2, HB3.out⟩
            case measure => simp [intOf]; omega
          · have hbq : (gi h.cells k == 0) = false := by simpa using he
            obtain ⟨z, hz⟩ : ∃ z : Nat, gi h.cells k = z := ⟨(gi h.cells k).toNat, by omega⟩
            have hz0 : z ≠ 0 := fun e => he (by rw [hz, e]; rfl)
            have HT := Lib.hid (show textTo h k ++ (sepB h.wide k ++ Lib.decDigits z) = textTo h (k+1) by simp [textTo, cellB, hz, hz0])
            have hdl := decDigits_len z; have hz99 : z ≤ 99 := by omega
            have HI := Lib.hid (show ∀ W', Calls Tryd.prog 93 #[.int .i64 (gi h.cells k)] W' (fun e w' => e = .returned (.string ⟨(Lib.decDigits z).toArray⟩) ∧ w' = W') by rw [hz]; exact fun W' => Tryd.strconv_Itoa_small z (by omega) W')
            clear he hz
            go_wp2_with (go_at_call 93; refine (HI.out _).mono ?_)
            rintro e W1 ⟨rfl, rfl⟩
            go_wp2_with (go_at_call 92; refine (writeString_any _ _ _ _ _ HOX.out (by rw [Lib.byteCells_length]; show _ + (Lib.decDigits z).toArray.size ≤ _; simp; omega) (by omega)).mono ?_)
            rintro e W2 ⟨rfl, h3, hb3⟩
            have HO2 := Lib.hid (show Lib.IsBuilder 87 5 w1.heap.size w1.heap.size (Lib.byteCells (textTo h (k+1))) W2 from by rw [← HT.out, ← List.append_assoc, Lib.byteCells_append]; exact .inr h3)
            have HB3 := Lib.hid (HBX.out.trans hb3)
            clear h3 hb3
            go_wp2
            go_roundw
            case rel => exact ⟨k+1, by omega, by go_num, HO2, HB3.out⟩
            case measure => simp [intOf]; omega
    · obtain rfl : k = n := by omega
      clear hx1
      go_wp2_with (go_at_call 94; refine (Tryd.Builder_String_any _ _ _ _ ho.out (by omega)).mono ?_)
      rintro e W1 ⟨rfl, hb2⟩
      have HB3 := Lib.hid (HR.out.trans hb2)
      have HBZ := Lib.hid (below_then HB.out HB3.out)
      go_wp2
      go_ret
      exact gives_mk (by rw [H.out]; rfl) HBZ.out
end Go.Proofs.YtjdgbdakkdljmaaDoor
