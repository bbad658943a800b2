/-
  Shortest ways, plainly: nothing of the program's text stands here.
-/
import Derived.Test.YtjdgbdakkdljmaaDoorG
set_option linter.unusedVariables false
namespace Go.Proofs.YtjdgbdakkdljmaaDoor
open Go Go.RowKit Go.Park

def visitF (but d : Int) : List Int → List Int × List Int → List Int × List Int
  | [], s => s
  | x :: xs, s => visitF but d xs (if x ≠ but ∧ gi s.1 x.toNat < 0 then (s.1.set x.toNat (d+1), s.2 ++ [x]) else s)
def bfsF (h : PHall) (but : Int) : Nat → Nat → List Int × List Int → List Int
  | 0, _, s => s.1
  | F+1, k, s => if k < s.2.length then bfsF h but F (k+1) (visitF but (gi s.1 (gi s.2 k).toNat) (besideF h (gi s.2 k)) s) else s.1
def startF (n : Nat) (tgt : Int) : List Int := (List.replicate n (-1)).set tgt.toNat 0
def stepsF (h : PHall) (tgt but : Int) : List Int := bfsF h but (h.cells.length + 1) 0 (startF h.cells.length tgt, [tgt])

def negs (l : List Int) : Nat := l.countP (fun x => decide (x < 0))

theorem gi_upd {l : List Int} {i j : Nat} {x : Int} (hi : i < l.length) : gi (l.set i x) j = if i = j then x else gi l j := by
  unfold gi
  rw [List.getD_eq_getElem?_getD, List.getD_eq_getElem?_getD, List.getElem?_set]
  by_cases e : i = j
  · subst e; simp [hi]
  · simp [e]
theorem gi_append_left {l m : List Int} {j : Nat} (h : j < l.length) : gi (l ++ m) j = gi l j := by
  unfold gi; rw [List.getD_eq_getElem?_getD, List.getD_eq_getElem?_getD, List.getElem?_append_left h]
theorem gi_append_one {l : List Int} {x : Int} : gi (l ++ [x]) l.length = x := by
  unfold gi; simp [List.getD_eq_getElem?_getD]
theorem gi_replicate {n j : Nat} {x : Int} (h : j < n) : gi (List.replicate n x) j = x := by
  unfold gi; simp [List.getD_eq_getElem?_getD, h]
theorem negs_set {l : List Int} {i : Nat} {x : Int} (hi : i < l.length) (h : gi l i < 0) (hx : 0 ≤ x) : negs (l.set i x) + 1 = negs l := by
  induction l generalizing i with
  | nil => simp at hi
  | cons a l ih =>
    cases i with
    | zero =>
      have ha : a < 0 := h
      simp only [List.set_cons_zero, negs, List.countP_cons]
      simp [ha, Int.not_lt.2 hx]
    | succ i =>
      have := ih (i := i) (by simpa using hi) h
      simp only [List.set_cons_succ, negs, List.countP_cons] at this ⊢
      omega
theorem negs_le (l : List Int) : negs l ≤ l.length := List.countP_le_length
theorem negs_replicate (n : Nat) : negs (List.replicate n (-1)) = n := by
  induction n with
  | zero => rfl
  | succ n ih => rw [List.replicate_succ]; unfold negs at *; rw [List.countP_cons, ih]; rfl

theorem farF_comm (x y : Int) : farF x y = farF y x := by unfold farF; omega
theorem apartF_comm (w a b : Int) : apartF w a b = apartF w b a := by unfold apartF; rw [farF_comm (a % w), farF_comm (a / w)]
theorem beside_mem {h : PHall} {c x : Int} : x ∈ besideF h c ↔ validB h = true ∧ hasCellB h c = true ∧ hasCellB h x = true ∧ apartF h.wide c x = 1 := by
  unfold besideF
  by_cases hv : validB h = true ∧ hasCellB h c = true
  · rw [if_pos hv, selTo_mem]
    constructor
    · rintro ⟨j, hj, hp, rfl⟩
      exact ⟨hv.1, hv.2, hasCell_iff.2 ⟨by omega, by omega⟩, by simpa using hp⟩
    · rintro ⟨_, _, hx, hp⟩
      have := hasCell_iff.1 hx
      obtain ⟨j, rfl⟩ := Int.eq_ofNat_of_zero_le this.1
      exact ⟨j, by omega, by simpa using hp, rfl⟩
  · rw [if_neg hv]
    constructor
    · intro h; cases h
    · rintro ⟨a, b, _⟩; exact absurd ⟨a, b⟩ hv
theorem beside_symm {h : PHall} {c x : Int} (hx : x ∈ besideF h c) : c ∈ besideF h x := by
  rw [beside_mem] at hx ⊢
  exact ⟨hx.1, hx.2.2.1, hx.2.1, by rw [apartF_comm]; exact hx.2.2.2⟩
theorem beside_lt {h : PHall} {c x : Int} (hx : x ∈ besideF h c) : 0 ≤ x ∧ x < h.cells.length := hasCell_iff.1 (beside_mem.1 hx).2.2.1
theorem beside_len (h : PHall) (c : Int) : (besideF h c).length ≤ h.cells.length := by
  unfold besideF; split
  · exact selTo_length _ _
  · simp
theorem beside_small {h : PHall} (c : Int) : (besideF h c).length ≤ 12 := by
  cases hv : validB h
  · unfold besideF; simp [hv]
  · have := beside_len h c
    have := valid_len hv
    omega

/-- what holds of the steps and of the queue -/
structure Bfs (h : PHall) (tgt but : Int) (m : Int) (st q : List Int) : Prop where
  len : st.length = h.cells.length
  cnt : q.length + negs st = h.cells.length
  mem : ∀ j, j < q.length → (0 ≤ gi q j ∧ gi q j < h.cells.length) ∧ 0 ≤ gi st (gi q j).toNat
  le : ∀ j, -1 ≤ gi st j ∧ gi st j ≤ m
  zero : ∀ j, j < h.cells.length → gi st j = 0 → (j : Int) = tgt
  home : 0 ≤ tgt ∧ tgt < h.cells.length ∧ gi st tgt.toNat = 0
  avoid : 0 ≤ but → but < h.cells.length → gi st but.toNat = -1
  pre : ∀ j : Nat, j < h.cells.length → 0 < gi st j → ∃ y, y ∈ besideF h j ∧ gi st y.toNat = gi st j - 1

theorem Bfs.mono {h : PHall} {tgt but m m' : Int} {st q : List Int} (b : Bfs h tgt but m st q) (hm : m ≤ m') : Bfs h tgt but m' st q :=
  { b with le := fun j => ⟨(b.le j).1, Int.le_trans (b.le j).2 hm⟩ }
theorem Bfs.qlen {h : PHall} {tgt but m : Int} {st q : List Int} (b : Bfs h tgt but m st q) : q.length ≤ h.cells.length := by have := b.cnt; omega
theorem bfs_start {h : PHall} {tgt but : Int} (h0 : 0 ≤ tgt) (h1 : tgt < h.cells.length) (hb : but ≠ tgt) : Bfs h tgt but 0 (startF h.cells.length tgt) [tgt] := by
  have hl : (startF h.cells.length tgt).length = h.cells.length := by simp [startF]
  have hg : ∀ j, j < h.cells.length → gi (startF h.cells.length tgt) j = if tgt.toNat = j then 0 else -1 := by
    intro j hj
    unfold startF
    rw [gi_upd (by simp; omega), gi_replicate hj]
  refine ⟨hl, ?_, ?_, ?_, ?_, ⟨h0, h1, ?_⟩, ?_, ?_⟩
  · have := negs_set (l := List.replicate h.cells.length (-1)) (i := tgt.toNat) (x := 0) (by simp; omega) (by rw [gi_replicate (by omega)]; omega) (Int.le_refl _)
    rw [negs_replicate] at this
    unfold startF
    simp only [List.length_cons, List.length_nil]
    omega
  · intro j hj
    have : j = 0 := by simpa using hj
    subst this
    refine ⟨⟨h0, h1⟩, ?_⟩
    show 0 ≤ gi _ tgt.toNat
    rw [hg _ (by omega)]; simp
  · intro j
    by_cases hj : j < h.cells.length
    · rw [hg j hj]; split <;> omega
    · rw [gi_out (by omega)]; omega
  · intro j hj
    rw [hg j hj]
    split
    · intro _; omega
    · intro e; omega
  · rw [hg _ (by omega)]; simp
  · intro a b
    rw [hg _ (by omega), if_neg (by omega)]
  · intro j hj
    rw [hg j hj]
    split <;> (intro e; omega)
theorem bfs_visit {h : PHall} {tgt but m : Int} {st q : List Int} (b : Bfs h tgt but m st q) {k : Nat} {d x : Int} (hk : k < q.length)
    (hd : gi st (gi q k).toNat = d) (hm : d + 1 ≤ m) (hx : x ∈ besideF h (gi q k)) (hb : x ≠ but) (hn : gi st x.toNat < 0) :
    Bfs h tgt but m (st.set x.toNat (d + 1)) (q ++ [x]) ∧ gi (st.set x.toNat (d + 1)) (gi q k).toNat = d := by
  have hx1 := beside_lt hx
  have hmk := b.mem k hk
  have hxl : x.toNat < st.length := by rw [b.len]; omega
  have hd0 : 0 ≤ d := by rw [← hd]; exact hmk.2
  have hne : ∀ y : Int, 0 ≤ y → 0 ≤ gi st y.toNat → x.toNat ≠ y.toNat := by
    intro y h0 h1 e; rw [← e] at h1; omega
  refine ⟨⟨by simpa using b.len, ?_, ?_, ?_, ?_, ?_, ?_, ?_⟩, ?_⟩
  · have := negs_set hxl hn (x := d + 1) (by omega)
    have := b.cnt
    rw [List.length_append]
    simp only [List.length_cons, List.length_nil]
    omega
  · intro j hj
    by_cases hjl : j < q.length
    · rw [gi_append_left hjl]
      refine ⟨(b.mem j hjl).1, ?_⟩
      rw [gi_upd hxl, if_neg (hne _ (b.mem j hjl).1.1 (b.mem j hjl).2)]
      exact (b.mem j hjl).2
    · have : j = q.length := by simp at hj; omega
      subst this
      rw [gi_append_one, gi_upd hxl]
      simp; omega
  · intro j
    rw [gi_upd hxl]
    split
    · omega
    · exact b.le j
  · intro j hj
    rw [gi_upd hxl]
    split
    · intro e; omega
    · exact b.zero j hj
  · refine ⟨b.home.1, b.home.2.1, ?_⟩
    rw [gi_upd hxl, if_neg (hne _ b.home.1 (by rw [b.home.2.2]; exact Int.le_refl _))]
    exact b.home.2.2
  · intro h0 h1
    rw [gi_upd hxl, if_neg (by omega)]
    exact b.avoid h0 h1
  · intro j hj
    rw [gi_upd hxl]
    split
    · rename_i e
      intro _
      refine ⟨gi q k, ?_, ?_⟩
      · have : (j : Int) = x := by omega
        rw [this]; exact beside_symm hx
      · rw [gi_upd hxl, if_neg (hne _ hmk.1.1 hmk.2), hd]; omega
    · intro hp
      obtain ⟨y, hy, e⟩ := b.pre j hj hp
      refine ⟨y, hy, ?_⟩
      have hy1 := beside_lt hy
      rw [gi_upd hxl, if_neg (hne _ hy1.1 (by omega))]
      exact e
  · rw [gi_upd hxl, if_neg (hne _ hmk.1.1 hmk.2)]; exact hd

theorem visit_cons {but d : Int} {B : List Int} {j : Nat} (hj : j < B.length) (s : List Int × List Int) :
    visitF but d (B.drop j) s = visitF but d (B.drop (j + 1)) (if gi B j ≠ but ∧ gi s.1 (gi B j).toNat < 0 then (s.1.set (gi B j).toNat (d+1), s.2 ++ [gi B j]) else s) := by
  rw [List.drop_eq_getElem_cons hj, ← gi_get hj]; rfl
theorem visit_all {but d : Int} {B : List Int} (s : List Int × List Int) : visitF but d (B.drop B.length) s = s := by simp [visitF]
theorem bfs_next {h : PHall} {but : Int} {F k : Nat} {s : List Int × List Int} (hk : k < s.2.length) :
    bfsF h but (F + 1) k s = bfsF h but F (k + 1) (visitF but (gi s.1 (gi s.2 k).toNat) (besideF h (gi s.2 k)) s) := by simp [bfsF, hk]
theorem bfs_done {h : PHall} {but : Int} {F k : Nat} {s : List Int × List Int} (hk : ¬ k < s.2.length) : bfsF h but F k s = s.1 := by
  cases F with
  | zero => rfl
  | succ F => simp [bfsF, hk]

/-- one cell's neighbours visited -/
theorem visit_inv {h : PHall} {tgt but m : Int} {k : Nat} {d : Int} : ∀ (xs : List Int) (st q : List Int), Bfs h tgt but m st q → k < q.length → gi st (gi q k).toNat = d → d + 1 ≤ m → (∀ x ∈ xs, x ∈ besideF h (gi q k)) →
    Bfs h tgt but m (visitF but d xs (st, q)).1 (visitF but d xs (st, q)).2 ∧ k < (visitF but d xs (st, q)).2.length := by
  intro xs
  induction xs with
  | nil => intro st q b hk _ _ _; exact ⟨b, hk⟩
  | cons x xs ih =>
    intro st q b hk hd hm hx
    simp only [visitF]
    by_cases hc : x ≠ but ∧ gi st x.toNat < 0
    · rw [if_pos hc]
      obtain ⟨b2, hd2⟩ := bfs_visit b hk hd hm (hx x (by simp)) hc.1 hc.2
      have hkk : gi (q ++ [x]) k = gi q k := gi_append_left hk
      exact ih _ _ b2 (by rw [List.length_append]; omega) (by rw [hkk]; exact hd2) hm (fun y hy => by rw [hkk]; exact hx y (by simp [hy]))
    · rw [if_neg hc]
      exact ih _ _ b hk hd hm (fun y hy => hx y (by simp [hy]))
theorem bfs_inv {h : PHall} {tgt but : Int} : ∀ (F k : Nat) (st q : List Int), Bfs h tgt but k st q → k ≤ q.length → h.cells.length ≤ k + F → ∃ q', Bfs h tgt but h.cells.length (bfsF h but F k (st, q)) q' := by
  intro F
  induction F with
  | zero => intro k st q b hk _; exact ⟨_, b.mono (by have := b.qlen; omega)⟩
  | succ F ih =>
    intro k st q b hk hF
    by_cases hlt : k < q.length
    · rw [bfs_next (s := (st, q)) hlt]
      obtain ⟨b2, hk2⟩ := visit_inv (d := gi st (gi q k).toNat) (besideF h (gi q k)) st q (b.mono (m' := ((k + 1 : Nat) : Int)) (by omega)) hlt rfl (by have := (b.le (gi q k).toNat).2; omega) (fun _ hx => hx)
      exact ih (k + 1) _ _ b2 hk2 (by omega)
    · rw [bfs_done (s := (st, q)) hlt]; exact ⟨_, b.mono (by have := b.qlen; omega)⟩
theorem steps_inv {h : PHall} {tgt but : Int} (h0 : 0 ≤ tgt) (h1 : tgt < h.cells.length) (hb : but ≠ tgt) : ∃ q', Bfs h tgt but h.cells.length (stepsF h tgt but) q' :=
  bfs_inv _ 0 _ _ (bfs_start h0 h1 hb) (by simp) (by omega)
theorem steps_len {h : PHall} {tgt but : Int} (h0 : 0 ≤ tgt) (h1 : tgt < h.cells.length) (hb : but ≠ tgt) : (stepsF h tgt but).length = h.cells.length := by
  obtain ⟨_, b⟩ := steps_inv h0 h1 hb
  exact b.len

/-! the way -/
def downF (h : PHall) (st : List Int) (c : Int) : Option Int := (besideF h c).find? (fun y => decide (gi st y.toNat = gi st c.toNat - 1))
def wayGo (h : PHall) (st : List Int) : Nat → Int → List Int
  | 0, _ => []
  | F+1, c => match downF h st c with
    | none => []
    | some y => y :: wayGo h st F y
def wayOk (h : PHall) (a b but : Int) : Bool := validB h && (hasCellB h a && (hasCellB h b && (inR but (-1) ((h.cells.length : Int) - 1) && (!decide (but = a) && !decide (but = b)))))
def wayF (h : PHall) (a b but : Int) : List Int :=
  if wayOk h a b but = true ∧ 0 ≤ gi (stepsF h b but) a.toNat then a :: wayGo h (stepsF h b but) (gi (stepsF h b but) a.toNat).toNat a else []
theorem wayOk_iff {h : PHall} {a b but : Int} : wayOk h a b but = true ↔ validB h = true ∧ (0 ≤ a ∧ a < h.cells.length) ∧ (0 ≤ b ∧ b < h.cells.length) ∧ (-1 ≤ but ∧ but < h.cells.length) ∧ but ≠ a ∧ but ≠ b := by
  simp only [wayOk, Bool.and_eq_true, hasCell_iff, inR_true, Bool.not_eq_true', decide_eq_false_iff_not]
  constructor
  · rintro ⟨a1, a2, a3, a4, a5, a6⟩; exact ⟨a1, a2, a3, ⟨a4.1, by omega⟩, a5, a6⟩
  · rintro ⟨a1, a2, a3, a4, a5, a6⟩; exact ⟨a1, a2, a3, ⟨a4.1, by omega⟩, a5, a6⟩
/-- a cell on the way, not at its end -/
theorem down_some {h : PHall} {tgt but m : Int} {st q : List Int} (b : Bfs h tgt but m st q) {c : Int} (hc : 0 ≤ c ∧ c < h.cells.length) (hp : 0 < gi st c.toNat) :
    ∃ y, downF h st c = some y ∧ y ∈ besideF h c ∧ gi st y.toNat = gi st c.toNat - 1 ∧ (0 ≤ y ∧ y < h.cells.length) ∧ y ≠ but := by
  obtain ⟨z, hz, hze⟩ := b.pre c.toNat (by omega) hp
  have ec : ((c.toNat : Nat) : Int) = c := by omega
  rw [ec] at hz
  cases e : downF h st c with
  | none =>
    have := List.find?_eq_none.1 e z hz
    simp [hze] at this
  | some y =>
    have h1 := List.mem_of_find?_eq_some e
    have h2 := List.find?_some e
    have h3 : gi st y.toNat = gi st c.toNat - 1 := by simpa using h2
    refine ⟨y, rfl, h1, h3, beside_lt h1, ?_⟩
    rintro rfl
    have := b.avoid (beside_lt h1).1 (beside_lt h1).2
    omega
/-- which of the cells beside is the first one that is a step nearer -/
theorem down_at {h : PHall} {st : List Int} {c y : Int} (hd : downF h st c = some y) : ∃ j, j < (besideF h c).length ∧ gi (besideF h c) j = y ∧ (∀ i, i < j → ¬ gi st (gi (besideF h c) i).toNat = gi st c.toNat - 1) ∧ gi st y.toNat = gi st c.toNat - 1 := by
  unfold downF at hd
  obtain ⟨hp, l1, l2, e, hn⟩ := List.find?_eq_some_iff_append.1 hd
  refine ⟨l1.length, by rw [e]; simp, by rw [e]; simp [gi], ?_, by simpa using hp⟩
  intro i hi
  have hm : gi (besideF h c) i ∈ l1 := by
    rw [e, gi_append_left hi]
    exact gi_mem hi
  have := hn _ hm
  simpa using this

end Go.Proofs.YtjdgbdakkdljmaaDoor
