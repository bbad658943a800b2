/-
  The texts ShB I1 P QI in one.
-/
import Derived.Shelf.Strings.Builder1
import Derived.Shelf.Strings.BuilderF
import Derived.Shelf.Strings.BuilderK
import Derived.Shelf.Strconv.Itoa0
import Derived.Shelf.Strconv.Itoa1
import Derived.Shelf.LaysM
import Derived.Shelf.Strconv.Itoa2
import Derived.Shelf.Strconv.Itoa3
import Derived.Test.YtnfjmcenjpoloaaDoorProg
import Derived.Test.YtnfjmcenjpoloaaDoorP4
import Derived.Lib.Builder
import Derived.Lib.AppendStr
import Derived.Laws.Externs
import Derived.Deep.RegionHeld3
import Derived.BigQuiet
import Derived.Test.YtnfjmcenjpoloaaDoorP6
section
/-
  The library's contracts that the walks lean on, laid at this program (the kit's shelf, in plain words).
-/
namespace Go.Proofs
open Go.Shelf
open Go.Shelf
def Tryd.lays169_ren : Go.Shelf.Ren := ⟨fun | 169 => 85 | n => n, fun | 70 => 85 | 9 => 9 | 0 => 0 | 72 => 87 | 37 => 22 | 127 => 113 | 3 => 3 | 5 => 5 | n => n, fun | n => n⟩
theorem Tryd.lays169 : Go.Proofs.Lays.n169 Tryd.prog Tryd.lays169_ren := {
  mixed := by kernel_rfl
  f169 := Tryd.func85.trans (congrArg some (by kernel_rfl))
  t0 := Tryd.underlying0
  a0 := Tryd.isAgg0
  z0 := Tryd.sizeOf0
  v0 := Tryd.zeroValue0
  t3 := Tryd.underlying3
  a3 := Tryd.isAgg3
  z3 := Tryd.sizeOf3
  v3 := Tryd.zeroValue3
  t9 := Tryd.underlying9
  a9 := Tryd.isAgg9
  z9 := Tryd.sizeOf9
  v9 := Tryd.zeroValue9
  t37 := Tryd.underlying22
  a37 := Tryd.isAgg22
  z37 := Tryd.sizeOf22
  v37 := Tryd.zeroValue22
  t70 := Tryd.underlying85
  a70 := Tryd.isAgg85
  z70 := Tryd.sizeOf85
  v70 := Tryd.zeroValue85
  t72 := Tryd.underlying87
  a72 := Tryd.isAgg87
  z72 := Tryd.sizeOf87
  v72 := Tryd.zeroValue87
  t127 := Tryd.underlying113
  a127 := Tryd.isAgg113
  z127 := Tryd.sizeOf113
  v127 := Tryd.zeroValue113 }
theorem Tryd.Builder_Extra_169 : Builder.Extra Tryd.prog Tryd.lays169_ren := {
  sizeBuilder := by kernel_rfl
  liesBuilder := by kernel_rfl
  t5 := Tryd.underlying5
  a5 := Tryd.isAgg5
  z5 := Tryd.sizeOf5
  v5 := Tryd.zeroValue5
  infoByte := by kernel_rfl
  cellsByte := by kernel_rfl
  sizeByte := by kernel_rfl
  neB5 := by decide }
open Go.RowKit in
theorem Tryd.Builder_String_any (B b : Nat) (l : List UInt8) (w : World) (h : Lib.IsBuilder 87 5 B b (Lib.byteCells l) w) (hBw : B ≤ w.heap.size) :
    Calls Tryd.prog 85 #[.pointer (some ⟨b, 0, none⟩)] w fun e w' => e = .returned (.string ⟨l.toArray⟩) ∧ Below B w w' := Any.Builder_String_any Tryd.lays169 Tryd.Builder_Extra_169 B b l w h hBw
def Tryd.lays171_ren : Go.Shelf.Ren := ⟨fun | 171 => 84 | 243 => 111 | 246 => 128 | 283 => 141 | 284 => 142 | 285 => 143 | 286 => 144 | 129 => 125 | 317 => 152 | 318 => 153 | 319 => 154 | 320 => 133 | 337 => 149 | 338 => 150 | n => n, fun | 3 => 3 | 9 => 9 | 2 => 2 | 4 => 4 | 171 => 142 | 0 => 0 | 53 => 128 | 37 => 22 | 5 => 5 | 173 => 144 | 212 => 153 | 51 => 126 | 20 => 20 | 213 => 154 | 46 => 109 | 232 => 155 | 233 => 156 | n => n, fun | 17 => 0 | 18 => 2 | 19 => 3 | n => n⟩
theorem Tryd.lays171 : Go.Proofs.Lays.n171 Tryd.prog Tryd.lays171_ren := {
  mixed := by kernel_rfl
  f129 := Tryd.func125.trans (congrArg some (by kernel_rfl))
  f171 := Tryd.func84.trans (congrArg some (by kernel_rfl))
  f243 := Tryd.func111.trans (congrArg some (by kernel_rfl))
  f246 := Tryd.func128.trans (congrArg some (by kernel_rfl))
  f283 := Tryd.func141.trans (congrArg some (by kernel_rfl))
  f284 := Tryd.func142.trans (congrArg some (by kernel_rfl))
  f285 := Tryd.func143.trans (congrArg some (by kernel_rfl))
  f286 := Tryd.func144.trans (congrArg some (by kernel_rfl))
  f317 := Tryd.func152.trans (congrArg some (by kernel_rfl))
  f318 := Tryd.func153.trans (congrArg some (by kernel_rfl))
  f319 := Tryd.func154.trans (congrArg some (by kernel_rfl))
  f320 := Tryd.func133.trans (congrArg some (by kernel_rfl))
  f337 := Tryd.func149.trans (congrArg some (by kernel_rfl))
  f338 := Tryd.func150.trans (congrArg some (by kernel_rfl))
  t0 := Tryd.underlying0
  a0 := Tryd.isAgg0
  z0 := Tryd.sizeOf0
  v0 := Tryd.zeroValue0
  t2 := Tryd.underlying2
  a2 := Tryd.isAgg2
  z2 := Tryd.sizeOf2
  v2 := Tryd.zeroValue2
  t3 := Tryd.underlying3
  a3 := Tryd.isAgg3
  z3 := Tryd.sizeOf3
  v3 := Tryd.zeroValue3
  t4 := Tryd.underlying4
  a4 := Tryd.isAgg4
  z4 := Tryd.sizeOf4
  v4 := Tryd.zeroValue4
  t5 := Tryd.underlying5
  a5 := Tryd.isAgg5
  z5 := Tryd.sizeOf5
  v5 := Tryd.zeroValue5
  t9 := Tryd.underlying9
  a9 := Tryd.isAgg9
  z9 := Tryd.sizeOf9
  v9 := Tryd.zeroValue9
  t20 := Tryd.underlying20
  a20 := Tryd.isAgg20
  z20 := Tryd.sizeOf20
  v20 := Tryd.zeroValue20
  t37 := Tryd.underlying22
  a37 := Tryd.isAgg22
  z37 := Tryd.sizeOf22
  v37 := Tryd.zeroValue22
  t46 := Tryd.underlying109
  a46 := Tryd.isAgg109
  z46 := Tryd.sizeOf109
  v46 := Tryd.zeroValue109
  t51 := Tryd.underlying126
  a51 := Tryd.isAgg126
  z51 := Tryd.sizeOf126
  v51 := Tryd.zeroValue126
  t53 := Tryd.underlying128
  a53 := Tryd.isAgg128
  z53 := Tryd.sizeOf128
  v53 := Tryd.zeroValue128
  t171 := Tryd.underlying142
  a171 := Tryd.isAgg142
  z171 := Tryd.sizeOf142
  v171 := Tryd.zeroValue142
  t173 := Tryd.underlying144
  a173 := Tryd.isAgg144
  z173 := Tryd.sizeOf144
  v173 := Tryd.zeroValue144
  t212 := Tryd.underlying153
  a212 := Tryd.isAgg153
  z212 := Tryd.sizeOf153
  v212 := Tryd.zeroValue153
  t213 := Tryd.underlying154
  a213 := Tryd.isAgg154
  z213 := Tryd.sizeOf154
  t232 := Tryd.underlying155
  a232 := Tryd.isAgg155
  z232 := Tryd.sizeOf155
  v232 := Tryd.zeroValue155
  t233 := Tryd.underlying156
  a233 := Tryd.isAgg156
  z233 := Tryd.sizeOf156
  v233 := Tryd.zeroValue156
  g17 := by kernel_rfl
  g18 := by kernel_rfl
  g19 := by kernel_rfl }
open Go.RowKit Go.Sort Go.Lib in
theorem Tryd.strconv_Itoa_small (i : Nat) (hi : i < 100) (w : World) :
    Calls Tryd.prog 84 #[.int .i64 i] w fun e w' => e = .returned (.string ⟨(Lib.decDigits i).toArray⟩) ∧ w' = w := Any.strconv_Itoa_small Tryd.lays171 i hi w
end Go.Proofs
end

section
/-
  HallText: the text of a hall, and the program's function.
-/
set_option linter.unusedVariables false
namespace Go.Proofs.YtnfjmcenjpoloaaDoor
open Go Go.RowKit Go.Park

/-- what stands ahead of cell k -/
def sepB (w : Int) (k : Nat) : List UInt8 := if k = 0 then [] else if (k : Int) % w = 0 then [47] else [44]
def cellB (z : Int) : List UInt8 := if z = 0 then [46] else Lib.decDigits z.toNat
def textTo (h : PHall) : Nat → List UInt8
  | 0 => []
  | k+1 => textTo h k ++ (sepB h.wide k ++ cellB (gi h.cells k))
def textF (h : PHall) : ByteArray := if validB h = true then ⟨(textTo h h.cells.length).toArray⟩ else ⟨#[]⟩
theorem decDigits_len (n : Nat) : (Lib.decDigits n).length ≤ n + 1 := by
  induction n using Nat.strongRecOn with
  | ind n ih =>
    rw [Lib.decDigits]
    split
    · simp
    · have := ih (n / 10) (by omega)
      simp; omega
theorem cellB_len {z : Int} (h0 : 0 ≤ z) (h1 : z ≤ 99) : (cellB z).length ≤ 100 := by
  unfold cellB
  split
  · simp
  · have := decDigits_len z.toNat; omega
theorem sepB_len (w : Int) (k : Nat) : (sepB w k).length ≤ 1 := by unfold sepB; split <;> (try split) <;> simp
theorem textTo_len {h : PHall} (hv : validB h = true) : ∀ k, k ≤ h.cells.length → (textTo h k).length ≤ 101 * k
  | 0, _ => by simp [textTo]
  | k+1, hk => by
    have h1 := textTo_len hv k (by omega)
    have h2 := sepB_len h.wide k
    have h3 := valid_cell hv (show k < h.cells.length by omega)
    have h4 := cellB_len h3.1 h3.2
    simp only [textTo, List.length_append]
    omega

/-! the builder -/
theorem sizeBuilder : ((Tryd.prog).info? 87).map (·.size) = some 2 := by kernel_rfl
theorem liesBuilder : liesAt Tryd.prog (Tryd.prog).depth 87 (2 / (Tryd.prog).cellsOf 87) 0 87 1 = true := by kernel_rfl
set_option maxHeartbeats 1000000 in
set_option maxRecDepth 100000 in
theorem copyCheck_used (b : Nat) (w : World) (h0 : w.cell? ⟨b, 0, none⟩ = some (.pointer (some ⟨b, 0, none⟩))) :
    Calls Tryd.prog 110 #[.pointer (some ⟨b, 0, none⟩)] w fun e w' => e = .returned (.tuple #[]) ∧ w' = w := by
  obtain ⟨j, hj, _⟩ := Option.map_eq_some_iff.1 sizeBuilder
  go_enter Tryd.func110, Tryd.ntmps110
  go_wp2
  rw [Lib.run_neq_ptr_same w _ Tryd.underlying85 hj]
  go_wp2
  go_end0
  exact ⟨rfl, rfl⟩
set_option maxHeartbeats 1000000 in
set_option maxRecDepth 100000 in
theorem copyCheck_fresh (b : Nat) (w : World) (h0 : w.cell? ⟨b, 0, none⟩ = some (.pointer none)) (hsh : w.shape? b = some (87, 2)) (hfz : w.frozen? ⟨b, 0, none⟩ = false) :
    Calls Tryd.prog 110 #[.pointer (some ⟨b, 0, none⟩)] w fun e w' => e = .returned (.tuple #[]) ∧ w' = w.setCell ⟨b, 0, none⟩ (.pointer (some ⟨b, 0, none⟩)) := by
  obtain ⟨j, hj, hjs⟩ := Option.map_eq_some_iff.1 sizeBuilder
  go_enter Tryd.func110, Tryd.ntmps110
  go_wp2
  rw [Lib.run_to_unsafe w ⟨b, 0, none⟩ Tryd.underlying85 Tryd.underlying129 hj (by rw [hjs]; decide) hsh (Nat.zero_lt_succ 1)]
  simp only [Result.andThen]
  rw [Oper.upon_value]
  go_wp2
  rw [run_callFunc_extern Tryd.func127 (by kernel_rfl) (by kernel_rfl) (by kernel_rfl) (e := Extern.AbiNoEscape.same) (by kernel_rfl)]
  rw [Lib.run_noEscape]
  simp only [Result.andThen]
  rw [Oper.upon_value]
  go_wp2
  rw [Lib.run_from_unsafe w ⟨b, 0, none⟩ Tryd.underlying129 Tryd.underlying85 hj hsh liesBuilder]
  simp only [Result.andThen]
  rw [Oper.upon_value]
  go_wp2
  go_end0
  exact ⟨rfl, rfl⟩
theorem copyCheck_any (B b : Nat) (bs : List Value) (w : World) (h : Lib.IsBuilder 87 5 B b bs w) :
    Calls Tryd.prog 110 #[.pointer (some ⟨b, 0, none⟩)] w fun e w' => e = .returned (.tuple #[]) ∧ (Lib.BuilderAt 87 5 B b (.pointer (some ⟨b, 0, none⟩)) bs w' ∧ Below B w w') := by
  rcases h with h | h
  · refine (copyCheck_fresh b w h.cell0 h.shape h.frozen0).mono ?_
    rintro e w' ⟨rfl, rfl⟩
    exact ⟨rfl, h.used _, (Below.refl B w).setCell (p := ⟨b, 0, none⟩) h.1 _⟩
  · refine (copyCheck_used b w h.cell0).mono ?_
    rintro e w' ⟨rfl, rfl⟩
    exact ⟨rfl, h, Below.refl B _⟩
theorem info_byte : ((Tryd.prog).info? 5).map (fun i => (i.zero, i.size, i.bytes)) = some (some (.int .u8 0), 1, 1) := by kernel_rfl
set_option maxHeartbeats 2000000 in
set_option maxRecDepth 100000 in
theorem writeByte_any (B b : Nat) (bs : List Value) (c : Int) (w : World) (h : Lib.IsBuilder 87 5 B b bs w) (hlen : bs.length + 1 ≤ 140737488355328) (hBw : B ≤ w.heap.size) :
    Calls Tryd.prog 82 #[.pointer (some ⟨b, 0, none⟩), .int .u8 c] w fun e w' => e = .returned .nilIface ∧ (Lib.BuilderAt 87 5 B b (.pointer (some ⟨b, 0, none⟩)) (bs ++ [.int .u8 c]) w' ∧ Below B w w') := by
  obtain ⟨i0, hi, hz0, hz1, hz2⟩ := info_parts info_byte
  go_enter Tryd.func82, Tryd.ntmps82
  go_wp2_with (go_at_call 110; refine (copyCheck_any B b bs _ h).mono ?_)
  rintro e w1 ⟨rfl, h1, hb1⟩
  obtain ⟨hB, v, hbk, hown, hne⟩ := h1
  have c0 : w1.cell? ⟨b, 0, none⟩ = some (.pointer (some ⟨b, 0, none⟩)) := by rw [Lib.cell_of_heap hbk]; rfl
  have c1 : w1.cell? ⟨b, 1, none⟩ = some v := by rw [Lib.cell_of_heap hbk]; rfl
  go_wp2_with (at_builtin; refine wpList_append_own _ rfl _ _ 22 rfl B 5 i0 (.int .u8 0) 1 1 Tryd.underlying22 hi hz0 hz1 hz2 rfl (by decide) _ _ _ rfl (hown.alloc _) ⟨w1.heap.size, 0, none⟩ 1 1 [.int .u8 c] rfl rfl ?c1 ?c2 ?c3 ?c4 ?c5 ?_)
  case c1 =>
    intro j u hj
    match j, hj with
    | 0, hj => simp at hj; subst hj; simp [Addr.add]
  case c2 => intro u hu; simp at hu; subst hu; rfl
  case c3 => unfold maxLen; omega
  case c4 => omega
  case c5 => have := hb1.size; simp; omega
  intro v' w2 hown' hgrow _
  have hlt : b < w1.heap.size := by
    rcases Nat.lt_or_ge b w1.heap.size with h' | h'
    · exact h'
    · simp [Array.getElem?_eq_none h'] at hbk
  have hb2 : w2.heap[b]? = some (.cells #[.pointer (some ⟨b, 0, none⟩), v] 87 (0, 0)) := by
    rw [hgrow.block b (by simp; omega) (fun e => hne e.symm), Lib.alloc_old w1 _ b hlt]
    exact hbk
  have d0 : w2.cell? ⟨b, 0, none⟩ = some (.pointer (some ⟨b, 0, none⟩)) := by rw [Lib.cell_of_heap hb2]; rfl
  have d1 : w2.cell? ⟨b, 1, none⟩ = some v := by rw [Lib.cell_of_heap hb2]; rfl
  have f1 : w2.frozen? ⟨b, 1, none⟩ = false := Lib.frozen_of_heap hb2 1
  obtain ⟨g, cap, rfl⟩ : ∃ g cap, v' = .slice (some ⟨g, 0, none⟩) (bs.length + 1) cap := by
    rcases hown'.2 with ⟨_, h0⟩ | ⟨g, cap, cur, hv, _⟩
    · omega
    · exact ⟨g, cap, hv⟩
  go_wp2
  go_ret
  refine ⟨rfl, ?_, ?_⟩
  · exact Lib.BuilderAt.put (T := 87) (e := 5) hB hb2 (bs' := bs ++ [.int .u8 c]) (by simpa using hown') (by decide)
  · exact ((hb1.alloc (by have := hb1.size; omega) _).grown hgrow (by have := hb1.size; simp; omega) (fun k hk => (hown.lt k hk).1)).setCell (p := ⟨b, 1, none⟩) hB _
set_option maxHeartbeats 2000000 in
set_option maxRecDepth 100000 in
theorem writeString_any (B b : Nat) (bs : List Value) (s : ByteArray) (w : World) (h : Lib.IsBuilder 87 5 B b bs w) (hlen : bs.length + s.size ≤ 140737488355328) (hBw : B ≤ w.heap.size) :
    Calls Tryd.prog 83 #[.pointer (some ⟨b, 0, none⟩), .string s] w fun e w' => e = .returned (.tuple #[.int .i64 s.size, .nilIface]) ∧ (Lib.BuilderAt 87 5 B b (.pointer (some ⟨b, 0, none⟩)) (bs ++ Lib.strCells s) w' ∧ Below B w w') := by
  obtain ⟨i0, hi, hz0, hz1, hz2⟩ := info_parts info_byte
  go_enter Tryd.func83, Tryd.ntmps83
  go_wp2_with (go_at_call 110; refine (copyCheck_any B b bs _ h).mono ?_)
  rintro e w1 ⟨rfl, h1, hb1⟩
  obtain ⟨hB, v, hbk, hown, hne⟩ := h1
  have c0 : w1.cell? ⟨b, 0, none⟩ = some (.pointer (some ⟨b, 0, none⟩)) := by rw [Lib.cell_of_heap hbk]; rfl
  have c1 : w1.cell? ⟨b, 1, none⟩ = some v := by rw [Lib.cell_of_heap hbk]; rfl
  go_wp2_with (at_builtin; refine Lib.wpList_append_own_string _ rfl _ _ 22 9 rfl B 5 i0 Tryd.underlying22 Tryd.underlying9 hi hz0 hz1 hz2 _ _ _ rfl hown s rfl ?c3 ?c4 ?c5 ?_)
  case c3 => unfold maxLen; omega
  case c4 => omega
  case c5 => have := hb1.size; omega
  intro v' w2 hown' hgrow _
  have hlt : b < w1.heap.size := by
    rcases Nat.lt_or_ge b w1.heap.size with h' | h'
    · exact h'
    · simp [Array.getElem?_eq_none h'] at hbk
  have hb2 : w2.heap[b]? = some (.cells #[.pointer (some ⟨b, 0, none⟩), v] 87 (0, 0)) := by
    rw [hgrow.block b hlt (fun e => hne e.symm)]
    exact hbk
  have d0 : w2.cell? ⟨b, 0, none⟩ = some (.pointer (some ⟨b, 0, none⟩)) := by rw [Lib.cell_of_heap hb2]; rfl
  have d1 : w2.cell? ⟨b, 1, none⟩ = some v := by rw [Lib.cell_of_heap hb2]; rfl
  have f1 : w2.frozen? ⟨b, 1, none⟩ = false := Lib.frozen_of_heap hb2 1
  obtain ⟨ao, n', cap, rfl⟩ : ∃ ao n' cap, v' = .slice ao n' cap := by
    rcases hown'.2 with ⟨hv, _⟩ | ⟨g, cap, cur, hv, _⟩
    · exact ⟨_, _, _, hv⟩
    · exact ⟨_, _, _, hv⟩
  go_wp2
  go_ret2
  refine ⟨rfl, ?_, ?_⟩
  · exact Lib.BuilderAt.put (T := 87) (e := 5) hB hb2 (bs' := bs ++ Lib.strCells s) (by simpa [Lib.strCells_length] using hown') (by decide)
  · exact (hb1.grown hgrow (by have := hb1.size; omega) (fun k hk => (hown.lt k hk).1)).setCell (p := ⟨b, 1, none⟩) hB _
set_option maxHeartbeats 4000000 in
set_option maxRecDepth 100000 in
theorem hallText_any (w : World) (v : Value) (h : PHall) (hv : HallAt w v h) :
    Calls Tryd.prog 38 #[v] w (Gives (.string (textF h)) w) := by
  have HV := Lib.hid hv
  obtain ⟨cv, rfl, ao, c, rfl, hn, hcm, hx⟩ := hv
  have HX := Lib.hid hx
  clear hx
  cases hval : validB h
  · have H := Lib.hid (show textF h = ⟨#[]⟩ by simp [textF, hval])
    have HW := Lib.hid (valid_calls hval)
    clear hval
    go_enter Tryd.func38, Tryd.ntmps38
    go_wp2_with fail
    refine (HW.out _ _ (HV.out.keep (below_new _ _))).mono ?_
    rintro e w1 ⟨rfl, hb⟩
    have b1 := (box3_new w _ _ _ _).keep hb
    have b1_0 := b1.c0
    have b1_1 := b1.c1
    have b1_2 := b1.c2
    have b1_l := b1.lt
    have HB := Lib.hid (below_alloc hb)
    clear hb
    go_wp2
    go_ret
    exact gives_mk (by rw [H.out]; rfl) HB.out
  have HW := Lib.hid (valid_calls hval)
  have H := Lib.hid (show textF h = ⟨(textTo h h.cells.length).toArray⟩ by simp [textF, hval])
  have hlen := (valid_len hval).2
  have hsz := (valid_size hval).1
  have HLT := Lib.hid (fun k (hk : k ≤ h.cells.length) => textTo_len hval k hk)
  have HC := Lib.hid (fun k (hk : k < h.cells.length) => valid_cell hval hk)
  obtain ⟨n, hnn⟩ : ∃ n, n = h.cells.length := ⟨_, rfl⟩
  rw [← hnn] at hlen H HV HX HLT HC ⊢
  clear hval hn hcm hnn
  go_enter Tryd.func38, Tryd.ntmps38
  go_wp2_with fail
  refine (HW.out _ _ (HV.out.keep (below_new _ _))).mono ?_
  rintro e w1 ⟨rfl, hb⟩
  have b1 := (box3_new w _ _ _ _).keep hb
  have b1_0 := b1.c0
  have b1_1 := b1.c1
  have b1_2 := b1.c2
  have b1_l := b1.lt
  have HB := Lib.hid (below_alloc hb)
  have hx1 := HX.out.keep HB.out
  clear hb
  go_wp2
  go_loopw [12] (fun i wr => ∃ k : Nat, k ≤ n ∧ i = .int .i64 k ∧ Hid (Lib.IsBuilder 87 5 w1.heap.size w1.heap.size (Lib.byteCells (textTo h k)) wr) ∧ Below w1.heap.size w1 wr) (fun i _ => n - (intOf i).toNat)
  case atStart => exact ⟨0, Nat.zero_le _, rfl, Lib.hid (Lib.fresh_isBuilder _ _ _), below_new _ _⟩
  case round =>
    obtain ⟨k, hk, rfl, ho, hbr⟩ := hrel
    have HR := Lib.hid hbr
    have hsz1 := hbr.size
    have b2 := b1.keep hbr
    have b2_0 := b2.c0
    have b2_1 := b2.c1
    have b2_2 := b2.c2
    clear hbr
    by_cases hlt : k < n
    · obtain ⟨bb, oo, rfl, h1⟩ := (hx1.keep HR.out) k hlt
      have hc := HC.out k hlt
      have hL := HLT.out k hk
      have hsl := sepB_len h.wide k
      clear hx1
      by_cases hk0 : k = 0
      · have hbk : ((k : Int) == 0) = true := by simpa using hk0
        have HO := Lib.hid (show Lib.IsBuilder 87 5 w1.heap.size w1.heap.size (Lib.byteCells (textTo h k ++ sepB h.wide k)) wr from by rw [show sepB h.wide k = [] by simp [sepB, hk0], List.append_nil]; exact ho.out)
        have hLL : (textTo h k ++ sepB h.wide k).length ≤ 2000 := by rw [List.length_append]; omega
        clear hk0
        by_cases he : gi h.cells k = 0
        · have hbq : (gi h.cells k == 0) = true := by simpa using he
          have HT := Lib.hid (show textTo h k ++ (sepB h.wide k ++ [46]) = textTo h (k+1) by simp [textTo, cellB, he])
          clear he
          go_wp2_with (go_at_call 82; refine (writeByte_any _ _ _ 46 _ HO.out (by rw [Lib.byteCells_length]; omega) (by omega)).mono ?_)
          rintro e W2 ⟨rfl, h3, hb3⟩
          have HO2 := Lib.hid (show Lib.IsBuilder 87 5 w1.heap.size w1.heap.size (Lib.byteCells (textTo h (k+1))) W2 from by rw [← HT.out, ← List.append_assoc, Lib.byteCells_append]; exact .inr h3)
          have HB3 := Lib.hid (HR.out.trans hb3)
          clear h3 hb3
          go_wp2
          go_roundw
          case rel => exact ⟨k+1, by omega, by go_num, HO2, HB3.out⟩
          case measure => simp [intOf]; omega
        · have hbq : (gi h.cells k == 0) = false := by simpa using he
          obtain ⟨z, hz⟩ : ∃ z : Nat, gi h.cells k = z := ⟨(gi h.cells k).toNat, by omega⟩
          have hz0 : z ≠ 0 := fun e => he (by rw [hz, e]; rfl)
          have HT := Lib.hid (show textTo h k ++ (sepB h.wide k ++ Lib.decDigits z) = textTo h (k+1) by simp [textTo, cellB, hz, hz0])
          have hdl := decDigits_len z; have hz99 : z ≤ 99 := by omega
          have HI := Lib.hid (show ∀ W', Calls Tryd.prog 84 #[.int .i64 (gi h.cells k)] W' (fun e w' => e = .returned (.string ⟨(Lib.decDigits z).toArray⟩) ∧ w' = W') by rw [hz]; exact fun W' => Tryd.strconv_Itoa_small z (by omega) W')
          clear he hz
          go_wp2_with (go_at_call 84; refine (HI.out _).mono ?_)
          rintro e W1 ⟨rfl, rfl⟩
          go_wp2_with (go_at_call 83; refine (writeString_any _ _ _ _ _ HO.out (by rw [Lib.byteCells_length]; show _ + (Lib.decDigits z).toArray.size ≤ _; simp; omega) (by omega)).mono ?_)
          rintro e W2 ⟨rfl, h3, hb3⟩
          have HO2 := Lib.hid (show Lib.IsBuilder 87 5 w1.heap.size w1.heap.size (Lib.byteCells (textTo h (k+1))) W2 from by rw [← HT.out, ← List.append_assoc, Lib.byteCells_append]; exact .inr h3)
          have HB3 := Lib.hid (HR.out.trans hb3)
          clear h3 hb3
          go_wp2
          go_roundw
          case rel => exact ⟨k+1, by omega, by go_num, HO2, HB3.out⟩
          case measure => simp [intOf]; omega
      · have hbk : ((k : Int) == 0) = false := by simpa using hk0
        have hLL : (textTo h k ++ sepB h.wide k).length ≤ 2000 := by rw [List.length_append]; omega
        by_cases hr : (k : Int) % h.wide = 0
        · have hbr2 : ((k : Int) % h.wide == 0) = true := by simpa using hr
          have HS := Lib.hid (show sepB h.wide k = [47] by simp [sepB, hk0, hr])
          clear hr hk0
          go_wp2_with (go_at_call 82; refine (writeByte_any _ _ _ 47 _ ho.out (by rw [Lib.byteCells_length]; omega) (by omega)).mono ?_)
          rintro e W1 ⟨rfl, h2, hb2⟩
          have HOX := Lib.hid (show Lib.IsBuilder 87 5 w1.heap.size w1.heap.size (Lib.byteCells (textTo h k ++ sepB h.wide k)) W1 from by rw [HS.out, Lib.byteCells_append]; exact .inr h2)
          have HBX := Lib.hid (HR.out.trans hb2)
          have hsz2 := HBX.out.size
          clear h2 hb2
          by_cases he : gi h.cells k = 0
          · have hbq : (gi h.cells k == 0) = true := by simpa using he
            have HT := Lib.hid (show textTo h k ++ (sepB h.wide k ++ [46]) = textTo h (k+1) by simp [textTo, cellB, he])
            clear he
            go_wp2_with (go_at_call 82; refine (writeByte_any _ _ _ 46 _ HOX.out (by rw [Lib.byteCells_length]; omega) (by omega)).mono ?_)
            rintro e W2 ⟨rfl, h3, hb3⟩
            have HO2 := Lib.hid (show Lib.IsBuilder 87 5 w1.heap.size w1.heap.size (Lib.byteCells (textTo h (k+1))) W2 from by rw [← HT.out, ← List.append_assoc, Lib.byteCells_append]; exact .inr h3)
            have HB3 := Lib.hid (HBX.out.trans hb3)
            clear h3 hb3
            go_wp2
            go_roundw
            case rel => exact ⟨k+1, by omega, by go_num, HO2, HB3.out⟩
            case measure => simp [intOf]; omega
          · have hbq : (gi h.cells k == 0) = false := by simpa using he
            obtain ⟨z, hz⟩ : ∃ z : Nat, gi h.cells k = z := ⟨(gi h.cells k).toNat, by omega⟩
            have hz0 : z ≠ 0 := fun e => he (by rw [hz, e]; rfl)
            have HT := Lib.hid (show textTo h k ++ (sepB h.wide k ++ Lib.decDigits z) = textTo h (k+1) by simp [textTo, cellB, hz, hz0])
            have hdl := decDigits_len z; have hz99 : z ≤ 99 := by omega
            have HI := Lib.hid (show ∀ W', Calls Tryd.prog 84 #[.int .i64 (gi h.cells k)] W' (fun e w' => e = .returned (.string ⟨(Lib.decDigits z).toArray⟩) ∧ w' = W') by rw [hz]; exact fun W' => Tryd.strconv_Itoa_small z (by omega) W')
            clear he hz
            go_wp2_with (go_at_call 84; refine (HI.out _).mono ?_)
            rintro e W1 ⟨rfl, rfl⟩
            go_wp2_with (go_at_call 83; refine (writeString_any _ _ _ _ _ HOX.out (by rw [Lib.byteCells_length]; show _ + (Lib.decDigits z).toArray.size ≤ _; simp; omega) (by omega)).mono ?_)
            rintro e W2 ⟨rfl, h3, hb3⟩
            have HO2 := Lib.hid (show Lib.IsBuilder 87 5 w1.heap.size w1.heap.size (Lib.byteCells (textTo h (k+1))) W2 from by rw [← HT.out, ← List.append_assoc, Lib.byteCells_append]; exact .inr h3)
            have HB3 := Lib.hid (HBX.out.trans hb3)
            clear h3 hb3
            go_wp2
            go_roundw
            case rel => exact ⟨k+1, by omega, by go_num, HO2, HB3.out⟩
            case measure => simp [intOf]; omega
        · have hbr2 : ((k : Int) % h.wide == 0) = false := by simpa using hr
          have HS := Lib.hid (show sepB h.wide k = [44] by simp [sepB, hk0, hr])
          clear hr hk0
          go_wp2_with (go_at_call 82; refine (writeByte_any _ _ _ 44 _ ho.out (by rw [Lib.byteCells_length]; omega) (by omega)).mono ?_)
          rintro e W1 ⟨rfl, h2, hb2⟩
          have HOX := Lib.hid (show Lib.IsBuilder 87 5 w1.heap.size w1.heap.size (Lib.byteCells (textTo h k ++ sepB h.wide k)) W1 from by rw [HS.out, Lib.byteCells_append]; exact .inr h2)
          have HBX := Lib.hid (HR.out.trans hb2)
          have hsz2 := HBX.out.size
          clear h2 hb2
          by_cases he : gi h.cells k = 0
          · have hbq : (gi h.cells k == 0) = true := by simpa using he
            have HT := Lib.hid (show textTo h k ++ (sepB h.wide k ++ [46]) = textTo h (k+1) by simp [textTo, cellB, he])
            clear he
            go_wp2_with (go_at_call 82; refine (writeByte_any _ _ _ 46 _ HOX.out (by rw [Lib.byteCells_length]; omega) (by omega)).mono ?_)
            rintro e W2 ⟨rfl, h3, hb3⟩
            have HO2 := Lib.hid (show Lib.IsBuilder 87 5 w1.heap.size w1.heap.size (Lib.byteCells (textTo h (k+1))) W2 from by rw [← HT.out, ← List.append_assoc, Lib.byteCells_append]; exact .inr h3)
            have HB3 := Lib.hid (HBX.out.trans hb3)
            clear h3 hb3
            go_wp2
            go_roundw
            case rel => exact ⟨k+1, by omega, by go_num, HO2, HB3.out⟩
            case measure => simp [intOf]; omega
          · have hbq : (gi h.cells k == 0) = false := by simpa using he
            obtain ⟨z, hz⟩ : ∃ z : Nat, gi h.cells k = z := ⟨(gi h.cells k).toNat, by omega⟩
            have hz0 : z ≠ 0 := fun e => he (by rw [hz, e]; rfl)
            have HT := Lib.hid (show textTo h k ++ (sepB h.wide k ++ Lib.decDigits z) = textTo h (k+1) by simp [textTo, cellB, hz, hz0])
            have hdl := decDigits_len z; have hz99 : z ≤ 99 := by omega
            have HI := Lib.hid (show ∀ W', Calls Tryd.prog 84 #[.int .i64 (gi h.cells k)] W' (fun e w' => e = .returned (.string ⟨(Lib.decDigits z).toArray⟩) ∧ w' = W') by rw [hz]; exact fun W' => Tryd.strconv_Itoa_small z (by omega) W')
            clear he hz
            go_wp2_with (go_at_call 84; refine (HI.out _).mono ?_)
            rintro e W1 ⟨rfl, rfl⟩
            go_wp2_with (go_at_call 83; refine (writeString_any _ _ _ _ _ HOX.out (by rw [Lib.byteCells_length]; show _ + (Lib.decDigits z).toArray.size ≤ _; simp; omega) (by omega)).mono ?_)
            rintro e W2 ⟨rfl, h3, hb3⟩
            have HO2 := Lib.hid (show Lib.IsBuilder 87 5 w1.heap.size w1.heap.size (Lib.byteCells (textTo h (k+1))) W2 from by rw [← HT.out, ← List.append_assoc, Lib.byteCells_append]; exact .inr h3)
            have HB3 := Lib.hid (HBX.out.trans hb3)
            clear h3 hb3
            go_wp2
            go_roundw
            case rel => exact ⟨k+1, by omega, by go_num, HO2, HB3.out⟩
            case measure => simp [intOf]; omega
    · obtain rfl : k = n := by omega
      clear hx1
      go_wp2_with (go_at_call 85; refine (Tryd.Builder_String_any _ _ _ _ ho.out (by omega)).mono ?_)
      rintro e W1 ⟨rfl, hb2⟩
      have HB3 := Lib.hid (HR.out.trans hb2)
      have HBZ := Lib.hid (below_then HB.out HB3.out)
      go_wp2
      go_ret
      exact gives_mk (by rw [H.out]; rfl) HBZ.out
end Go.Proofs.YtnfjmcenjpoloaaDoor
end

section
/-
  ParityOf.
-/
set_option linter.unusedVariables false
namespace Go.Proofs.YtnfjmcenjpoloaaDoor
open Go Go.RowKit Go.Park

def cntTo (p : Nat → Bool) : Nat → Nat
  | 0 => 0
  | k+1 => cntTo p k + (if p k = true then 1 else 0)
theorem cntTo_le (p : Nat → Bool) (k : Nat) : cntTo p k ≤ k := by
  induction k with
  | zero => simp [cntTo]
  | succ k ih => simp only [cntTo]; split <;> omega
def sumTo (f : Nat → Nat) : Nat → Nat
  | 0 => 0
  | k+1 => sumTo f k + f k
theorem sumTo_le {f : Nat → Nat} {c k : Nat} (h : ∀ j, j < k → f j ≤ c) : sumTo f k ≤ c * k := by
  induction k with
  | zero => simp [sumTo]
  | succ k ih =>
    have h1 := ih (fun j hj => h j (by omega))
    have h2 := h k (by omega)
    simp only [sumTo, Nat.mul_add, Nat.mul_one]
    omega
/-- how many of the first m stand before the k-th and are greater -/
def invCol (l : List Int) (k m : Nat) : Nat := cntTo (fun j => decide (gi l k < gi l j)) m
def invRow (l : List Int) (i m : Nat) : Nat := cntTo (fun t => decide (gi l (i + 1 + t) < gi l i)) m
def invS (l : List Int) (n : Nat) : Nat := sumTo (fun k => invCol l k k) n
def invI (l : List Int) (n m : Nat) : Nat := sumTo (fun i => invRow l i (n - (i + 1))) m
theorem invI_step (l : List Int) (n m : Nat) (h : m ≤ n) : invI l (n + 1) m = invI l n m + invCol l n m := by
  induction m with
  | zero => rfl
  | succ m ih =>
    have ih := ih (by omega)
    simp only [invI, invCol, sumTo, cntTo] at ih ⊢
    rw [ih]
    obtain ⟨d, hd⟩ : ∃ d, n = m + 1 + d := ⟨n - (m + 1), by omega⟩
    have e1 : n + 1 - (m + 1) = d + 1 := by omega
    have e2 : n - (m + 1) = d := by omega
    have e3 : invRow l m (d + 1) = invRow l m d + (if decide (gi l n < gi l m) = true then 1 else 0) := by
      simp only [invRow, cntTo, ← hd]
    rw [e1, e2, e3]
    omega
theorem invI_all (l : List Int) (n : Nat) : invI l n n = invS l n := by
  induction n with
  | zero => rfl
  | succ n ih =>
    have h := invI_step l n n (Nat.le_refl _)
    have e : invI l (n + 1) (n + 1) = invI l (n + 1) n + invRow l n 0 := by simp [invI, sumTo]
    have e0 : invRow l n 0 = 0 := rfl
    have e2 : invS l (n + 1) = invS l n + invCol l n n := rfl
    omega
theorem invS_le (l : List Int) {n : Nat} (h : n ≤ 12) : invS l n ≤ 144 := by
  have := sumTo_le (f := fun k => invCol l k k) (c := 12) (k := n) (fun j hj => by have := cntTo_le (fun i => decide (gi l j < gi l i)) j; simp only [invCol]; omega)
  simp only [invS]
  omega
theorem invI_le (l : List Int) {n m : Nat} (h : n ≤ 12) (hm : m ≤ 12) : invI l n m ≤ 144 := by
  have := sumTo_le (f := fun i => invRow l i (n - (i + 1))) (c := 12) (k := m) (fun j hj => by have := cntTo_le (fun t => decide (gi l (j + 1 + t) < gi l j)) (n - (j + 1)); simp only [invRow]; omega)
  simp only [invI]
  omega
theorem invCol_le (l : List Int) (k m : Nat) : invCol l k m ≤ m := cntTo_le _ _
theorem invRow_le (l : List Int) (k m : Nat) : invRow l k m ≤ m := cntTo_le _ _
theorem invCol_yes {l : List Int} {k j : Nat} (h : gi l k < gi l j) : invCol l k (j + 1) = invCol l k j + 1 := by simp [invCol, cntTo, h]
theorem invCol_no {l : List Int} {k j : Nat} (h : ¬ gi l k < gi l j) : invCol l k (j + 1) = invCol l k j := by
  simp only [invCol, cntTo]; rw [if_neg (by simpa using h)]; rfl
theorem invRow_yes {l : List Int} {k j : Nat} (h : gi l (k + 1 + j) < gi l k) : invRow l k (j + 1) = invRow l k j + 1 := by simp [invRow, cntTo, h]
theorem invRow_no {l : List Int} {k j : Nat} (h : ¬ gi l (k + 1 + j) < gi l k) : invRow l k (j + 1) = invRow l k j := by
  simp only [invRow, cntTo]; rw [if_neg (by simpa using h)]; rfl

def parityF (h : PHall) : Int :=
  if (hallFreeF h).length = 1 then (apartAt h (gi (hallFreeF h) 0) 0 + invS h.cells h.cells.length) % 2 else -1

theorem free_one {h : PHall} (h1 : (hallFreeF h).length = 1) : ∃ x : Int, hallFreeF h = [x] ∧ h.cells.length ≤ 12 ∧ 0 ≤ apartAt h x 0 ∧ apartAt h x 0 ≤ 100 := by
  obtain ⟨x, hx⟩ := List.length_eq_one_iff.1 h1
  refine ⟨x, hx, ?_⟩
  by_cases hv : validB h = true
  · have hx2 : x ∈ selTo (fun j => decide (gi h.cells j = 0)) h.cells.length := by
      have : x ∈ hallFreeF h := by rw [hx]; simp
      simpa [hallFreeF, hv] using this
    obtain ⟨j, hj, _, rfl⟩ := selTo_mem.1 hx2
    have hl := (valid_len hv).2
    have hs := (valid_size hv).1
    have c1 : hasCellB h (j : Int) = true := hasCell_iff.2 (by omega)
    have c0 : hasCellB h 0 = true := hasCell_iff.2 (by omega)
    refine ⟨hl, ?_⟩
    have e : apartAt h j 0 = apartF h.wide j 0 := by simp [apartAt, hv, c1, c0]
    rw [e]
    unfold apartF farF
    have hw : h.wide = 2 ∨ h.wide = 3 ∨ h.wide = 4 := by omega
    rcases hw with e | e | e <;> rw [e] <;> omega
  · simp [hallFreeF, hv] at h1

set_option maxHeartbeats 2000000 in
theorem specParityOf_any (w : World) (v : Value) (h : PHall) (hv : HallAt w v h) :
    Calls Tryd.prog 60 #[v] w (Gives (.int .i64 (parityF h)) w) := by
  have HV := Lib.hid hv
  obtain ⟨cv, rfl, ao, cp, rfl, hn, hcm, hx⟩ := hv
  have HX := Lib.hid hx
  rw [lim_eq] at hn
  clear hx
  by_cases h1 : (hallFreeF h).length = 1
  rotate_left
  · have H := Lib.hid (show parityF h = -1 by simp [parityF, h1])
    have HF := Lib.hid (fun w' v' hv' => specHallFree_any w' v' h hv')
    have hbq : (((hallFreeF h).length : Int) == 1) = false := by simp; omega
    clear h1
    go_enter Tryd.func60, Tryd.ntmps60
    go_wp2_with fail
    refine (HF.out _ _ (HV.out.keep (below_new _ _))).mono ?_
    rintro e w1 ⟨cv2, rfl, ho, hb⟩
    obtain ⟨ao2, cp2, rfl⟩ := ho.slice
    have b1 := (box3_new w _ _ _ _).keep hb
    have b1_0 := b1.c0
    have b1_1 := b1.c1
    have b1_2 := b1.c2
    have b1_l := b1.lt
    have HB := Lib.hid (below_alloc hb)
    clear hb ho
    go_wp2
    go_ret
    exact gives_mk (by rw [H.out]; rfl) HB.out
  obtain ⟨x, hx, hlen, ha0, ha1⟩ := free_one h1
  have H := Lib.hid (show parityF h = (apartAt h x 0 + invS h.cells h.cells.length) % 2 by simp [parityF, hx, gi])
  have HF := Lib.hid (show ∀ w' v', HallAt w' v' h → Calls Tryd.prog 96 #[v'] w' (GivesInts [x] w') from fun w' v' hv' => by rw [← hx]; exact specHallFree_any w' v' h hv')
  obtain ⟨A, hA⟩ : ∃ A, A = apartAt h x 0 := ⟨_, rfl⟩
  have HC := Lib.hid (show ∀ w' v', HallAt w' v' h → Calls Tryd.prog 100 #[v', .int .i64 x, .int .i64 0] w' (Gives (.int .i64 A) w') from fun w' v' hv' => by rw [hA]; exact specCellsApart_any w' v' h x 0 hv')
  rw [← hA] at H ha0 ha1
  obtain ⟨n, hnn⟩ : ∃ n, n = h.cells.length := ⟨_, rfl⟩
  have HVn := Lib.hid (show HallAt w (.agg #[.int .i64 h.wide, .int .i64 h.deep, .slice ao n cp]) h by rw [hnn]; exact HV.out)
  rw [← hnn] at hlen H HX ⊢
  clear hn hcm hnn h1 hx hA HV
  go_enter Tryd.func60, Tryd.ntmps60
  go_wp2_with fail
  refine (HF.out _ _ (HVn.out.keep (below_new _ _))).mono ?_
  rintro e w1 ⟨cv2, rfl, ho, hb⟩
  obtain ⟨g, cp2, rfl, hg1, hg2⟩ := ho.head (by simp)
  have b1 := (box3_new w _ _ _ _).keep hb
  have b1_0 := b1.c0
  have b1_1 := b1.c1
  have b1_2 := b1.c2
  have b1_l := b1.lt
  have HB := Lib.hid (below_alloc hb)
  have cg : w1.cell? ⟨g, 0, none⟩ = some (.int .i64 x) := own_cell ho (j := 0) (by simp)
  clear hb ho
  go_wp2
  go_region_held3 (fun w' => w'.cell? ⟨w.heap.size, 0, none⟩ = some (.int .i64 h.wide) ∧ w'.cell? ⟨w.heap.size, 1, none⟩ = some (.int .i64 h.deep) ∧ w'.cell? ⟨w.heap.size, 2, none⟩ = some (.slice ao n cp) ∧ w'.cell? ⟨g, 0, none⟩ = some (.int .i64 x)) (((try dsimp only); (repeat' apply And.intro); all_goals first | (with_reducible assumption) | go_keep)) (first
    | (go_at_call 100; refine (HC.out _ _ (HVn.out.keep (below_then HB.out (below_drew1 _)))).mono ?_; rintro e w2 ⟨rfl, hb2⟩; have b2 := (b1.keep (below_drew1 _)).keep hb2; have b2_0 := b2.c0; have b2_1 := b2.c1; have b2_2 := b2.c2; have b2_l := b2.lt; have cg2 : w2.cell? ⟨g, 0, none⟩ = some (.int .i64 x) := (hb2.cell (p := ⟨g, 0, none⟩) hg2).trans cg; have HB2 := Lib.hid (below_then (below_then HB.out (below_drew1 _)) hb2); clear hb2 b1 b1_0 b1_1 b1_2 b1_l HB))
  have hx2 := HX.out.keep HB2.out
  clear cg cg2
  go_wp2
  go_loopw [4, 5] (fun s i wr => ∃ k : Nat, k ≤ n ∧ i = .int .i64 k ∧ s = .int .i64 (A + invS h.cells k) ∧ ∃ q, wr = w2.drewN q) (fun _ i _ => n - (intOf i).toNat)
  case atStart => exact ⟨0, Nat.zero_le _, rfl, by simp [invS, sumTo], 0, rfl⟩
  case round =>
    obtain ⟨k, hk, rfl, rfl, q, rfl⟩ := hrel
    obtain ⟨S, hS⟩ : ∃ S, S = invS h.cells k := ⟨_, rfl⟩
    have hSl := invS_le h.cells (n := k) (by omega)
    rw [← hS] at hSl ⊢
    by_cases hlt : k < n
    · have HS := Lib.hid (show invS h.cells (k + 1) = S + invCol h.cells k k by rw [hS]; rfl)
      obtain ⟨b, o, rfl, g1⟩ := hx2 k hlt
      have HX2 := Lib.hid hx2
      clear hS hx2
      go_wp2
      go_loopw [4, 6] (fun s i wr => ∃ j : Nat, j ≤ k ∧ i = .int .i64 j ∧ s = .int .i64 (A + S + invCol h.cells k j) ∧ ∃ q, wr = w2.drewN q) (fun _ i _ => n - (intOf i).toNat)
      case atStart => exact ⟨0, Nat.zero_le _, rfl, by simp [invCol, cntTo], q, rfl⟩
      case round =>
        obtain ⟨j, hj, rfl, rfl, q, rfl⟩ := hrel
        have hCl := invCol_le h.cells k j
        by_cases hjk : j < k
        · obtain ⟨b', o', e, g2⟩ := HX2.out j (by omega)
          cases e
          by_cases he : gi h.cells k < gi h.cells j
          · have HC2 := Lib.hid (invCol_yes he)
            clear HS
            go_wp2
            go_quiet (fail)
            go_wp2
            go_roundw
            case rel => exact ⟨j+1, by omega, by go_num, by rw [HC2.out]; go_num, _, rfl⟩
            case measure => simp [intOf]; omega
          · have HC2 := Lib.hid (invCol_no he)
            clear HS
            go_wp2
            go_quiet (fail)
            go_wp2
            go_roundw
            case rel => exact ⟨j+1, by omega, by go_num, by rw [HC2.out], _, rfl⟩
            case measure => simp [intOf]; omega
        · obtain rfl : j = k := by omega
          go_wp2
          go_roundw
          case rel => exact ⟨j+1, by omega, by go_num, by rw [HS.out]; go_num, _, rfl⟩
          case measure => simp [intOf]; omega
    · obtain rfl : k = n := by omega
      have H2 := Lib.hid (show parityF h = (A + S) % 2 by rw [H.out, hS])
      have hp : 0 ≤ A + S := by omega
      clear hx2 hS
      go_wp2
      go_ret
      exact gives_mk (by rw [H2.out]; congr 1) (below_drewN HB2.out _)

set_option maxHeartbeats 2000000 in
theorem parityOf_any (w : World) (v : Value) (h : PHall) (hv : HallAt w v h) :
    Calls Tryd.prog 59 #[v] w (Gives (.int .i64 (parityF h)) w) := by
  have HV := Lib.hid hv
  obtain ⟨cv, rfl, ao, cp, rfl, hn, hcm, hx⟩ := hv
  have HX := Lib.hid hx
  rw [lim_eq] at hn
  clear hx
  by_cases h1 : (hallFreeF h).length = 1
  rotate_left
  · have H := Lib.hid (show parityF h = -1 by simp [parityF, h1])
    have HF := Lib.hid (fun w' v' hv' => hallFree_any w' v' h hv')
    have hbq : (((hallFreeF h).length : Int) == 1) = false := by simp; omega
    clear h1
    go_enter Tryd.func59, Tryd.ntmps59
    go_wp2_with fail
    refine (HF.out _ _ (HV.out.keep (below_new _ _))).mono ?_
    rintro e w1 ⟨cv2, rfl, ho, hb⟩
    obtain ⟨ao2, cp2, rfl⟩ := ho.slice
    have b1 := (box3_new w _ _ _ _).keep hb
    have b1_0 := b1.c0
    have b1_1 := b1.c1
    have b1_2 := b1.c2
    have b1_l := b1.lt
    have HB := Lib.hid (below_alloc hb)
    clear hb ho
    go_wp2
    go_ret
    exact gives_mk (by rw [H.out]; rfl) HB.out
  obtain ⟨x, hx, hlen, ha0, ha1⟩ := free_one h1
  have H := Lib.hid (show parityF h = (apartAt h x 0 + invS h.cells h.cells.length) % 2 by simp [parityF, hx, gi])
  have HF := Lib.hid (show ∀ w' v', HallAt w' v' h → Calls Tryd.prog 25 #[v'] w' (GivesInts [x] w') from fun w' v' hv' => by rw [← hx]; exact hallFree_any w' v' h hv')
  obtain ⟨A, hA⟩ : ∃ A, A = apartAt h x 0 := ⟨_, rfl⟩
  have HC := Lib.hid (show ∀ w' v', HallAt w' v' h → Calls Tryd.prog 36 #[v', .int .i64 x, .int .i64 0] w' (Gives (.int .i64 A) w') from fun w' v' hv' => by rw [hA]; exact cellsApart_any w' v' h x 0 hv')
  rw [← hA] at H ha0 ha1
  obtain ⟨n, hnn⟩ : ∃ n, n = h.cells.length := ⟨_, rfl⟩
  have HVn := Lib.hid (show HallAt w (.agg #[.int .i64 h.wide, .int .i64 h.deep, .slice ao n cp]) h by rw [hnn]; exact HV.out)
  rw [← hnn] at hlen H HX hn hcm ⊢
  clear hnn h1 hx hA HV
  go_enter Tryd.func59, Tryd.ntmps59
  go_wp2_with fail
  refine (HF.out _ _ (HVn.out.keep (below_new _ _))).mono ?_
  rintro e w1 ⟨cv2, rfl, ho, hb⟩
  obtain ⟨g, cp2, rfl, hg1, hg2⟩ := ho.head (by simp)
  have b1 := (box3_new w _ _ _ _).keep hb
  have b1_0 := b1.c0
  have b1_1 := b1.c1
  have b1_2 := b1.c2
  have b1_l := b1.lt
  have HB := Lib.hid (below_alloc hb)
  have cg : w1.cell? ⟨g, 0, none⟩ = some (.int .i64 x) := own_cell ho (j := 0) (by simp)
  clear hb ho
  go_wp2
  go_region_held3 (fun w' => w'.cell? ⟨w.heap.size, 0, none⟩ = some (.int .i64 h.wide) ∧ w'.cell? ⟨w.heap.size, 1, none⟩ = some (.int .i64 h.deep) ∧ w'.cell? ⟨w.heap.size, 2, none⟩ = some (.slice ao n cp) ∧ w'.cell? ⟨g, 0, none⟩ = some (.int .i64 x)) (((try dsimp only); (repeat' apply And.intro); all_goals first | (with_reducible assumption) | go_keep)) (first
    | (go_at_call 36; refine (HC.out _ _ (HVn.out.keep (below_then HB.out (below_drew1 _)))).mono ?_; rintro e w2 ⟨rfl, hb2⟩; have b2 := (b1.keep (below_drew1 _)).keep hb2; have b2_0 := b2.c0; have b2_1 := b2.c1; have b2_2 := b2.c2; have b2_l := b2.lt; have cg2 : w2.cell? ⟨g, 0, none⟩ = some (.int .i64 x) := (hb2.cell (p := ⟨g, 0, none⟩) hg2).trans cg; have HB2 := Lib.hid (below_then (below_then HB.out (below_drew1 _)) hb2); clear hb2 b1 b1_0 b1_1 b1_2 b1_l HB))
  have hx2 := HX.out.keep HB2.out
  clear cg cg2
  go_wp2
  go_loopw [4, 22] (fun s i wr => ∃ k : Nat, k ≤ n ∧ i = .int .i64 k ∧ s = .int .i64 (A + invI h.cells n k) ∧ ∃ q, wr = w2.drewN q) (fun _ i _ => n - (intOf i).toNat)
  case atStart => exact ⟨0, Nat.zero_le _, rfl, by simp [invI, sumTo], 0, rfl⟩
  case round =>
    obtain ⟨k, hk, rfl, rfl, q, rfl⟩ := hrel
    obtain ⟨S, hS⟩ : ∃ S, S = invI h.cells n k := ⟨_, rfl⟩
    have hSl := invI_le h.cells (n := n) (m := k) hlen (by omega)
    rw [← hS] at hSl ⊢
    by_cases hlt : k < n
    · have HS := Lib.hid (show invI h.cells n (k + 1) = S + invRow h.cells k (n - (k + 1)) by rw [hS]; rfl)
      obtain ⟨b, o, rfl, g1⟩ := hx2 k hlt
      have HX2 := Lib.hid hx2
      clear hS hx2
      by_cases hcp : cp = k + 1
      · obtain rfl : n = k + 1 := by omega
        have hz : k + 1 - (k + 1) = 0 := by omega
        have HZ : invRow h.cells k (k + 1 - (k + 1)) = 0 := by rw [hz]; rfl
        go_wp2
        go_loopw [4, 33] (fun s i wr => i = .int .i64 0 ∧ s = .int .i64 (A + S) ∧ ∃ q, wr = w2.drewN q) (fun _ i _ => 0)
        case atStart => exact ⟨rfl, rfl, q, rfl⟩
        case round =>
          obtain ⟨rfl, rfl, q, rfl⟩ := hrel
          go_wp2
          go_roundw
          case rel => exact ⟨k+1, by omega, by go_num, by rw [HS.out, HZ]; go_num, _, rfl⟩
          case measure => simp [intOf]
      go_wp2
      go_loopw [4, 33] (fun s i wr => ∃ j : Nat, j ≤ n - (k + 1) ∧ i = .int .i64 j ∧ s = .int .i64 (A + S + invRow h.cells k j) ∧ ∃ q, wr = w2.drewN q) (fun _ i _ => n - (intOf i).toNat)
      case atStart => exact ⟨0, Nat.zero_le _, rfl, by simp [invRow, cntTo], q, rfl⟩
      case round =>
        obtain ⟨j, hj, rfl, rfl, q, rfl⟩ := hrel
        have hCl := invRow_le h.cells k j
        by_cases hjk : j < n - (k + 1)
        · obtain ⟨b', o', e, g2⟩ := HX2.out (k + 1 + j) (by omega)
          cases e
          have g3 : w2.cell? ⟨b, o + (k + 1) + j, none⟩ = some (.int .i64 (gi h.cells (k + 1 + j))) := by rw [Nat.add_assoc]; exact g2
          obtain ⟨Y, hY⟩ : ∃ Y, Y = gi h.cells (k + 1 + j) := ⟨_, rfl⟩
          rw [← hY] at g3
          clear g2
          by_cases he : Y < gi h.cells k
          · have HC2 := Lib.hid (invRow_yes (by rw [← hY]; exact he))
            clear HS hY
            go_wp2
            go_roundw
            case rel => exact ⟨j+1, by omega, by go_num, by rw [HC2.out]; go_num, _, rfl⟩
            case measure => simp [intOf]; omega
          · have HC2 := Lib.hid (invRow_no (by rw [← hY]; exact he))
            clear HS hY
            go_wp2
            go_roundw
            case rel => exact ⟨j+1, by omega, by go_num, by rw [HC2.out], _, rfl⟩
            case measure => simp [intOf]; omega
        · obtain rfl : j = n - (k + 1) := by omega
          go_wp2
          go_roundw
          case rel => exact ⟨k+1, by omega, by go_num, by rw [HS.out]; go_num, _, rfl⟩
          case measure => simp [intOf]; omega
    · obtain rfl : k = n := by omega
      have H2 := Lib.hid (show parityF h = (A + S) % 2 by rw [H.out, hS, invI_all])
      have hp : 0 ≤ A + S := by omega
      clear hx2 hS
      go_wp2
      go_ret
      exact gives_mk (by rw [H2.out]; congr 1) (below_drewN HB2.out _)

end Go.Proofs.YtnfjmcenjpoloaaDoor
end

section
/-
  The contracts of further functions, as facts on abstract values.
-/
set_option linter.unusedVariables false
set_option linter.unusedSimpArgs false
namespace Go.Proofs.YtnfjmcenjpoloaaDoor
open Go Go.RowKit Go.Park Go.Sym

theorem specHallEmpty_fn (x y : Int) : FnS Tryd.prog 99 [.int x, .int y] (hallV (hallEmptyF x y)) := by
  refine ⟨⟨_, Tryd.func99, by kernel_rfl, rfl⟩, fun w vs hp hx => ?_⟩
  simp only [relL, relV] at hx
  obtain ⟨v, _, rfl, rfl, u, _, rfl, rfl, rfl⟩ := hx
  exact (specHallEmpty_any w x y).mono fun e w' hg => post_hall hg
theorem specHallTake_fn (h : PHall) (hl : h.cells.length ≤ lim) (c : Int) : FnS Tryd.prog 70 [hallV h, .int c] (.tup [hallV (hallTakeF h c).1, .int (hallTakeF h c).2]) := by
  refine ⟨⟨_, Tryd.func70, by kernel_rfl, rfl⟩, fun w vs hp hx => ?_⟩
  simp only [relL, relV] at hx
  obtain ⟨v, _, rfl, h1, u, _, rfl, rfl, rfl⟩ := hx
  exact (specHallTake_any w v h c (hall_of_rel (by simp only [relV, relL]; exact h1) hl)).mono fun e w' hg => post_hv hg
theorem slidesAll_fn (h : PHall) (hl : h.cells.length ≤ lim) : FnS Tryd.prog 34 [hallV h] (slcV (slidesAllF h)) := by
  refine ⟨⟨_, Tryd.func34, by kernel_rfl, rfl⟩, fun w vs hp hx => ?_⟩
  simp only [relL] at hx
  obtain ⟨v, _, rfl, h1, rfl⟩ := hx
  exact (slidesAll_any w v h (hall_of_rel h1 hl)).mono fun e w' hg => post_slc hg
theorem specSlidesAll_fn (h : PHall) (hl : h.cells.length ≤ lim) : FnS Tryd.prog 52 [hallV h] (slcV (slidesAllF h)) := by
  refine ⟨⟨_, Tryd.func52, by kernel_rfl, rfl⟩, fun w vs hp hx => ?_⟩
  simp only [relL] at hx
  obtain ⟨v, _, rfl, h1, rfl⟩ := hx
  exact (specSlidesAll_any w v h (hall_of_rel h1 hl)).mono fun e w' hg => post_slc hg
theorem parityOf_fn (h : PHall) (hl : h.cells.length ≤ lim) : FnS Tryd.prog 59 [hallV h] (.int (parityF h)) := by
  refine ⟨⟨_, Tryd.func59, by kernel_rfl, rfl⟩, fun w vs hp hx => ?_⟩
  simp only [relL] at hx
  obtain ⟨v, _, rfl, h1, rfl⟩ := hx
  exact (parityOf_any w v h (hall_of_rel h1 hl)).mono fun e w' hg => post_v hg
theorem specParityOf_fn (h : PHall) (hl : h.cells.length ≤ lim) : FnS Tryd.prog 60 [hallV h] (.int (parityF h)) := by
  refine ⟨⟨_, Tryd.func60, by kernel_rfl, rfl⟩, fun w vs hp hx => ?_⟩
  simp only [relL] at hx
  obtain ⟨v, _, rfl, h1, rfl⟩ := hx
  exact (specParityOf_any w v h (hall_of_rel h1 hl)).mono fun e w' hg => post_v hg
theorem hallText_fn (h : PHall) (hl : h.cells.length ≤ lim) : FnS Tryd.prog 38 [hallV h] (.str (textF h)) := by
  refine ⟨⟨_, Tryd.func38, by kernel_rfl, rfl⟩, fun w vs hp hx => ?_⟩
  simp only [relL] at hx
  obtain ⟨v, _, rfl, h1, rfl⟩ := hx
  exact (hallText_any w v h (hall_of_rel h1 hl)).mono fun e w' hg => post_v hg
end Go.Proofs.YtnfjmcenjpoloaaDoor
end
