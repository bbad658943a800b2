/-
  Words and small lemmas for slices of ints and halls in memory; nothing of the program stands here.
-/
import Derived.WalkKit
import Derived.BigQuiet
import Derived.Deep.QuietTactic
import Derived.WalkSpells
import Derived.WalkSmall
import Derived.Outline
import Derived.Lib.Hide
namespace Go.Park
open Go Go.RowKit

/-- the length that a slice of ints that came in may have -/
def lim : Nat := 1073741824
theorem lim_eq : lim = 1073741824 := rfl

def gi (l : List Int) (j : Nat) : Int := l.getD j 0
theorem gi_of_lt {l : List Int} {j : Nat} (h : j < l.length) : l[j]? = some (gi l j) := by simp [gi, List.getD, h]
theorem gi_mem {l : List Int} {j : Nat} (h : j < l.length) : gi l j ∈ l := by simp [gi, List.getD, h]
theorem gi_get {l : List Int} {j : Nat} (h : j < l.length) : gi l j = l[j] := by simp [gi, List.getD, h]
theorem gi_out {l : List Int} {j : Nat} (h : l.length ≤ j) : gi l j = 0 := by simp [gi, List.getD, List.getElem?_eq_none h]
theorem ext_gi {l m : List Int} (hl : l.length = m.length) (h : ∀ j, j < l.length → gi l j = gi m j) : l = m := by
  apply List.ext_getElem hl
  intro i h1 h2
  rw [← gi_get h1, ← gi_get h2]; exact h i h1

/-- from an address (or nil) on lie these numbers -/
def CellsAt (w : World) (ao : Option Addr) (n : Nat) (f : Nat → Int) : Prop :=
  ∀ j, j < n → ∃ b off, ao = some ⟨b, off, none⟩ ∧ w.cell? ⟨b, off + j, none⟩ = some (.int .i64 (f j))
/-- a slice value reads as a list of ints -/
def IntsAt (w : World) (v : Value) (zs : List Int) : Prop :=
  ∃ ao c, v = .slice ao zs.length c ∧ zs.length ≤ lim ∧ (zs.length ≤ c ∧ c ≤ maxLen) ∧ CellsAt w ao zs.length (gi zs)

theorem cell_lt {w : World} {a : Addr} {v : Value} (h : w.cell? a = some v) : a.block < w.heap.size := World.block_lt_of_cell? w a h

theorem CellsAt.keep {w w' : World} {ao : Option Addr} {n : Nat} {f : Nat → Int} (h : CellsAt w ao n f) (hb : Below w.heap.size w w') : CellsAt w' ao n f := by
  intro j hj
  obtain ⟨b, off, e, hc⟩ := h j hj
  exact ⟨b, off, e, by rw [hb.cell (by exact cell_lt hc)]; exact hc⟩
theorem cells_drewN {w : World} {ao : Option Addr} {n : Nat} {f : Nat → Int} (h : CellsAt w ao n f) (q : Nat) : CellsAt (w.drewN q) ao n f := h
theorem IntsAt.keep {w w' : World} {v : Value} {zs : List Int} (h : IntsAt w v zs) (hb : Below w.heap.size w w') : IntsAt w' v zs := by
  obtain ⟨ao, c, e, hn, hm, hc⟩ := h
  exact ⟨ao, c, e, hn, hm, hc.keep hb⟩

/-- the ints of an owned row -/
theorem intsAt_of_own {w : World} {base : Nat} {e : TypeId} {v : Value} {n : Nat} {zs : List Int} (hl : zs.length ≤ lim)
    (h : w.ownsRow base e 1 v n (zs.map (Value.int .i64))) : IntsAt w v zs := by
  have hn : zs.length = n := by have := h.1; simpa using this
  subst hn
  rcases h.2 with ⟨rfl, h0⟩ | ⟨g, cap, cur, rfl, hb, hg, hnc, hcm, hcs, htake⟩
  · rw [show (zs : List Int) = [] from List.eq_nil_of_length_eq_zero h0]
    exact ⟨none, 0, rfl, by simp, by simp, fun j hj => by simp at hj⟩
  · refine ⟨_, cap, rfl, hl, ⟨hnc, hcm⟩, fun j hj => ⟨g, 0, rfl, ?_⟩⟩
    rw [Nat.zero_add, h.cellAt j (by omega)]
    simp [gi_of_lt hj]

theorem quiet_add {P : Program} {f : FuncId} {args : Array Value} {w : World} {a n : Nat} {v : Value}
    (h : Calls P f args (w.drewN (a + n)) fun e w' => e = .returned v ∧ ∃ m, w' = (w.drewN (a + n)).drewN m) :
    Calls P f args (w.drewN (a + n)) fun e w'' => e = .returned v ∧ ∃ m, w'' = w.drewN (a + m) :=
  h.mono fun _ _ ⟨he, m, hm⟩ => ⟨he, n + m, by rw [hm, World.drewN_drewN, Nat.add_assoc]⟩
theorem draws_below {w w' : World} (h : ∃ k, w' = w.drewN k) : Below w.heap.size w w' := by
  obtain ⟨k, rfl⟩ := h
  exact below_drewN (Below.refl _ _) k

/-- returns a value, and only draws -/
def Tells (v : Value) (w : World) (e : Ending) (w' : World) : Prop := e = .returned v ∧ ∃ k, w' = w.drewN k
/-- returns a value, and makes at most new blocks -/
def Gives (v : Value) (w : World) (e : Ending) (w' : World) : Prop := e = .returned v ∧ Below w.heap.size w w'
theorem tells_gives {P : Program} {f : FuncId} {args : Array Value} {w : World} {v : Value} (h : Calls P f args w (Tells v w)) : Calls P f args w (Gives v w) :=
  h.mono fun _ _ ⟨he, hw⟩ => ⟨he, draws_below hw⟩

theorem tells_mk {v u : Value} {w w' : World} (h : u = v) (hw : ∃ k, w' = w.drewN k) : Tells v w (.returned u) w' := ⟨by rw [h], hw⟩
theorem gives_mk {v u : Value} {w w' : World} (h : u = v) (hw : Below w.heap.size w w') : Gives v w (.returned u) w' := ⟨by rw [h], hw⟩
theorem drew0 (w : World) : ∃ k, w = w.drewN k := ⟨0, rfl⟩
theorem drewNN (w : World) (a b : Nat) : ∃ k, (w.drewN a).drewN b = w.drewN k := ⟨a + b, by simp⟩
theorem drewN1 (w : World) (a : Nat) : ∃ k, w.drewN a = w.drewN k := ⟨a, rfl⟩

structure PHall where
  wide : Int
  deep : Int
  cells : List Int

theorem PHall.ext' {a b : PHall} (h1 : a.wide = b.wide) (h2 : a.deep = b.deep) (h3 : a.cells = b.cells) : a = b := by
  cases a; cases b; simp_all

def eqInts (a b : List Int) : Bool := decide (a = b)
theorem eqInts_true {a b : List Int} : eqInts a b = true ↔ a = b := by simp [eqInts]
theorem eqInts_false {a b : List Int} : eqInts a b = false ↔ a ≠ b := by simp [eqInts]
def eqHalls (a b : PHall) : Bool := decide (a.wide = b.wide) && (decide (a.deep = b.deep) && eqInts a.cells b.cells)
/-- a value reads as a hall -/
def HallAt (w : World) (v : Value) (h : PHall) : Prop := ∃ cv, v = .agg #[.int .i64 h.wide, .int .i64 h.deep, cv] ∧ IntsAt w cv h.cells
theorem HallAt.keep {w w' : World} {v : Value} {h : PHall} (hh : HallAt w v h) (hb : Below w.heap.size w w') : HallAt w' v h := by
  obtain ⟨cv, e, hc⟩ := hh
  exact ⟨cv, e, hc.keep hb⟩

/-- where a value's own block lies -/
def Blk (v : Value) (lo hi : Nat) : Prop := ∀ g, v.ownBlock = some g → lo ≤ g ∧ g < hi
theorem blk_of_own {w : World} {lo : Nat} {e : TypeId} {size : Nat} {v : Value} {n : Nat} {xs : List Value} (h : w.ownsRow lo e size v n xs) : Blk v lo w.heap.size := fun g hg => h.lt g hg

theorem own_base {w : World} {b b' : Nat} {e : TypeId} {size : Nat} {v : Value} {n : Nat} {xs : List Value} (h : w.ownsRow b e size v n xs) (hb : b' ≤ b) : w.ownsRow b' e size v n xs := by
  refine ⟨h.1, ?_⟩
  rcases h.2 with h2 | ⟨g, cap, cur, hv, hg, r⟩
  · exact .inl h2
  · exact .inr ⟨g, cap, cur, hv, by omega, r⟩
/-- an owned row stays owned where its blocks have not turned -/
theorem own_keep {w w' : World} {b : Nat} {e : TypeId} {size : Nat} {v : Value} {n : Nat} {xs : List Value} (h : w.ownsRow b e size v n xs) (hb : Below w.heap.size w w') : w'.ownsRow b e size v n xs := by
  refine ⟨h.1, ?_⟩
  rcases h.2 with h2 | ⟨g, cap, cur, hv, hg, hh, r⟩
  · exact .inl h2
  · exact .inr ⟨g, cap, cur, hv, hg, by rw [hb.block g (Array.getElem?_eq_some_iff.1 hh).1]; exact hh, r⟩
theorem grown_refl (w : World) (r : Option Nat) : w.grownBy w r := ⟨rfl, rfl, rfl, Nat.le_refl _, fun _ _ _ => rfl⟩
theorem grown_set {w wr : World} {g : Nat} (h : w.grownBy wr (some g)) (j : Nat) (u : Value) : w.grownBy (wr.setCell ⟨g, j, none⟩ u) (some g) :=
  ⟨h.os, h.tape, h.output, by have := h.size; simp [World.setCell]; omega, fun k hk hne => by
    rw [Below.heap_setCell _ _ _ _ (by intro e; exact hne (by rw [e]))]; exact h.block k hk hne⟩
theorem grown_alloc {w w' : World} {r : Option Nat} {o : Obj} (h : (w.alloc o).grownBy w' r) : w.grownBy w' r :=
  ⟨h.os, h.tape, h.output, by have := h.size; simp at this; omega, fun k hk hne => by
    rw [h.block k (by simp; omega) hne]; exact Below.heap_alloc _ _ _ hk⟩

theorem own_keepG {w w' : World} {b : Nat} {e : TypeId} {size : Nat} {u v : Value} {n : Nat} {xs : List Value} {lo hi lo' hi' : Nat} (h : w.ownsRow b e size v n xs) (hg : w.grownBy w' u.ownBlock)
    (hu : Blk u lo hi) (hv : Blk v lo' hi') (hd : hi ≤ lo' ∨ hi' ≤ lo) : w'.ownsRow b e size v n xs := by
  refine h.kept hg ?_
  cases hb : v.ownBlock with
  | none => exact .inl rfl
  | some g =>
    right
    intro e'
    have h1 := hv g hb
    have h2 := hu g e'.symm
    omega
theorem below_grownG {w w0 w' : World} {u : Value} {lo hi : Nat} (h : Below w.heap.size w w0) (hg : w0.grownBy w' u.ownBlock) (hu : Blk u lo hi) (hl : w.heap.size ≤ lo) : Below w.heap.size w w' :=
  h.grown hg h.size (fun k hk => by have := hu k hk; omega)
theorem below_drew1 (w : World) : Below w.heap.size w w.drew := (Below.refl _ _).drew
theorem below_of_grown {w w' : World} (hg : w.grownBy w' none) : Below w.heap.size w w' := (Below.refl _ _).grown hg (Nat.le_refl _) (fun k h => by cases h)
/-- three cells of a block -/
structure Box3 (w : World) (g : Nat) (a b c : Value) : Prop where
  c0 : w.cell? ⟨g, 0, none⟩ = some a
  c1 : w.cell? ⟨g, 1, none⟩ = some b
  c2 : w.cell? ⟨g, 2, none⟩ = some c
theorem Box3.lt {w : World} {g : Nat} {a b c : Value} (h : Box3 w g a b c) : g < w.heap.size := cell_lt h.c0
theorem Box3.keep {w w' : World} {g : Nat} {a b c : Value} (h : Box3 w g a b c) (hb : Below w.heap.size w w') : Box3 w' g a b c :=
  ⟨by rw [hb.cell (by exact h.lt)]; exact h.c0, by rw [hb.cell (by exact h.lt)]; exact h.c1, by rw [hb.cell (by exact h.lt)]; exact h.c2⟩
theorem Box3.keepG {w w' : World} {g : Nat} {a b c : Value} {u : Value} {lo hi : Nat} (h : Box3 w g a b c) (hg : w.grownBy w' u.ownBlock) (hu : Blk u lo hi) (hd : g < lo ∨ hi ≤ g) : Box3 w' g a b c := by
  have hne : some g ≠ u.ownBlock := by
    intro e
    have := hu g e.symm
    omega
  exact ⟨hg.cell h.c0 hne, hg.cell h.c1 hne, hg.cell h.c2 hne⟩
/-- a whole block of three cells, none of them frozen -/
structure Blk3 (w : World) (g : Nat) (a b c : Value) : Prop where
  box : Box3 w g a b c
  f0 : w.frozen? ⟨g, 0, none⟩ = false
  f1 : w.frozen? ⟨g, 1, none⟩ = false
  f2 : w.frozen? ⟨g, 2, none⟩ = false
theorem blk3_of {w : World} {g : Nat} {a b c : Value} {t : TypeId} (h : w.heap[g]? = some (.cells #[a, b, c] t (0, 0))) : Blk3 w g a b c :=
  ⟨⟨by rw [cell_of_row w g _ _ _ _ h]; rfl, by rw [cell_of_row w g _ _ _ _ h]; rfl, by rw [cell_of_row w g _ _ _ _ h]; rfl⟩, by simp [World.frozen?, h], by simp [World.frozen?, h], by simp [World.frozen?, h]⟩
/-- two cells of a block -/
structure Box2 (w : World) (g : Nat) (a b : Value) : Prop where
  c0 : w.cell? ⟨g, 0, none⟩ = some a
  c1 : w.cell? ⟨g, 1, none⟩ = some b
theorem Box2.lt {w : World} {g : Nat} {a b : Value} (h : Box2 w g a b) : g < w.heap.size := cell_lt h.c0
theorem Box2.keep {w w' : World} {g : Nat} {a b : Value} (h : Box2 w g a b) (hb : Below w.heap.size w w') : Box2 w' g a b :=
  ⟨by rw [hb.cell (by exact h.lt)]; exact h.c0, by rw [hb.cell (by exact h.lt)]; exact h.c1⟩
theorem Box2.keepG {w w' : World} {g : Nat} {a b : Value} {u : Value} {lo hi : Nat} (h : Box2 w g a b) (hg : w.grownBy w' u.ownBlock) (hu : Blk u lo hi) (hd : g < lo ∨ hi ≤ g) : Box2 w' g a b := by
  have hne : some g ≠ u.ownBlock := by
    intro e
    have := hu g e.symm
    omega
  exact ⟨hg.cell h.c0 hne, hg.cell h.c1 hne⟩
theorem box2_new (w : World) (a b : Value) (t : TypeId) : Box2 (w.alloc (.cells #[a, b] t)) w.heap.size a b := ⟨by simp, by simp⟩
theorem box2_second (w : World) (o : Obj) (a b : Value) (t : TypeId) : Box2 ((w.alloc o).alloc (.cells #[a, b] t)) (w.heap.size + 1) a b := by
  have := box2_new (w.alloc o) a b t
  rwa [World.size_alloc] at this
theorem box3_new (w : World) (a b c : Value) (t : TypeId) : Box3 (w.alloc (.cells #[a, b, c] t)) w.heap.size a b c := ⟨by simp, by simp, by simp⟩
theorem below_alloc {w w' : World} {o : Obj} (h : Below (w.alloc o).heap.size (w.alloc o) w') : Below w.heap.size w w' :=
  ((Below.refl _ _).alloc (Nat.le_refl _) _).trans (h.mono (by simp))
theorem below_new (w : World) (o : Obj) : Below w.heap.size w (w.alloc o) := (Below.refl _ _).alloc (Nat.le_refl _) _
theorem below_then {w w1 w2 : World} (h : Below w.heap.size w w1) (k : Below w1.heap.size w1 w2) : Below w.heap.size w w2 := h.trans (k.mono h.size)
theorem Blk3.keep {w w' : World} {g : Nat} {a b c : Value} (h : Blk3 w g a b c) (hb : Below w.heap.size w w') : Blk3 w' g a b c :=
  ⟨h.box.keep hb, by rw [hb.frozen (by exact h.box.lt)]; exact h.f0, by rw [hb.frozen (by exact h.box.lt)]; exact h.f1, by rw [hb.frozen (by exact h.box.lt)]; exact h.f2⟩
theorem Blk3.keepG {w w' : World} {g : Nat} {a b c : Value} {u : Value} {lo hi : Nat} (h : Blk3 w g a b c) (hg : w.grownBy w' u.ownBlock) (hu : Blk u lo hi) (hd : g < lo ∨ hi ≤ g) : Blk3 w' g a b c := by
  have hne : some g ≠ u.ownBlock := by
    intro e
    have := hu g e.symm
    omega
  have e := hg.block g h.box.lt hne
  exact ⟨h.box.keepG hg hu hd, by rw [World.frozen?_of_block (a := ⟨g, 0, none⟩) e]; exact h.f0, by rw [World.frozen?_of_block (a := ⟨g, 1, none⟩) e]; exact h.f1, by rw [World.frozen?_of_block (a := ⟨g, 2, none⟩) e]; exact h.f2⟩
theorem blk_some (g n c : Nat) : Blk (.slice (some ⟨g, 0, none⟩) n c) g (g + 1) := fun k hk => by
  have : g = k := Option.some.inj (show some g = some k from hk)
  omega
theorem blk3_new (w : World) (a b c : Value) (t : TypeId) : Blk3 (w.alloc (.cells #[a, b, c] t)) w.heap.size a b c := blk3_of (heap_alloc_new w _)
theorem blk3_second (w : World) (o : Obj) (a b c : Value) (t : TypeId) : Blk3 ((w.alloc o).alloc (.cells #[a, b, c] t)) (w.heap.size + 1) a b c := by
  have := blk3_new (w.alloc o) a b c t
  rwa [World.size_alloc] at this
theorem below_new2 (w : World) (o o' : Obj) : Below w.heap.size w ((w.alloc o).alloc o') := below_then (below_new _ _) (below_new _ _)
/-- a new world in which one block has been laid and what was there stands -/
theorem bcell {B : Nat} {W w1 : World} (hb : Below B W w1) : (∀ b o, b < B → w1.cell? ⟨b, o, none⟩ = W.cell? ⟨b, o, none⟩) ∧ (∀ b o, b < B → w1.frozen? ⟨b, o, none⟩ = W.frozen? ⟨b, o, none⟩) :=
  ⟨fun b o h => hb.cell (p := ⟨b, o, none⟩) h, fun b o h => hb.frozen (p := ⟨b, o, none⟩) h⟩

/-! halls that are valid -/
def inR (a b c : Int) : Bool := decide (b ≤ a) && decide (a ≤ c)
theorem inR_true {a b c : Int} : inR a b c = true ↔ b ≤ a ∧ a ≤ c := by simp [inR]
theorem inR_false {a b c : Int} : inR a b c = false ↔ a < b ∨ c < a := by simp [inR]; omega
def hasTo (l : List Int) (x : Int) : Nat → Bool
  | 0 => false
  | k+1 => hasTo l x k || decide (gi l k = x)
theorem hasTo_iff {l : List Int} {x : Int} {n : Nat} : hasTo l x n = true ↔ ∃ j, j < n ∧ gi l j = x := by
  induction n with
  | zero => simp [hasTo]
  | succ n ih =>
    simp only [hasTo, Bool.or_eq_true, ih, decide_eq_true_eq]
    constructor
    · rintro (⟨j, hj, e⟩ | e)
      · exact ⟨j, by omega, e⟩
      · exact ⟨n, by omega, e⟩
    · rintro ⟨j, hj, e⟩
      by_cases h : j = n
      · subst h; exact .inr e
      · exact .inl ⟨j, by omega, e⟩
theorem hasTo_yes {l : List Int} {x : Int} {n k : Nat} (h : k < n) (e : gi l k = x) : hasTo l x n = true := hasTo_iff.2 ⟨k, h, e⟩
theorem hasTo_no {l : List Int} {x : Int} {k : Nat} (h : hasTo l x k = false) (e : ¬ gi l k = x) : hasTo l x (k+1) = false := by simp [hasTo, h, e]
def okAt (l : List Int) (k : Nat) : Bool := inR (gi l k) 0 99 && !(decide (0 < gi l k) && hasTo l (gi l k) k)
def okTo (l : List Int) : Nat → Bool
  | 0 => true
  | k+1 => okTo l k && okAt l k
theorem okTo_iff {l : List Int} {n : Nat} : okTo l n = true ↔ ∀ k, k < n → okAt l k = true := by
  induction n with
  | zero => simp [okTo]
  | succ n ih =>
    simp only [okTo, Bool.and_eq_true, ih]
    constructor
    · rintro ⟨h, e⟩ k hk
      by_cases h' : k = n
      · subst h'; exact e
      · exact h k (by omega)
    · intro h; exact ⟨fun k hk => h k (by omega), h n (by omega)⟩
theorem okTo_yes {l : List Int} {k : Nat} (h : okTo l k = true) (e : okAt l k = true) : okTo l (k+1) = true := by simp [okTo, h, e]
theorem okTo_no {l : List Int} {n k : Nat} (hk : k < n) (e : okAt l k = false) : okTo l n = false := by
  cases h : okTo l n with
  | false => rfl
  | true => rw [okTo_iff.1 h k hk] at e; cases e
def sizeB (h : PHall) : Bool := inR h.wide 2 4 && inR h.deep 2 3 && decide ((h.cells.length : Int) = h.wide * h.deep)
def validB (h : PHall) : Bool := sizeB h && okTo h.cells h.cells.length
theorem sizeB_true {h : PHall} : sizeB h = true ↔ (2 ≤ h.wide ∧ h.wide ≤ 4) ∧ (2 ≤ h.deep ∧ h.deep ≤ 3) ∧ (h.cells.length : Int) = h.wide * h.deep := by
  simp [sizeB, inR_true]; omega
end Go.Park
