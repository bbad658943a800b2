/-
  Shortest ways: the walks over the steps.
-/
import Derived.Test.YtmkdafgcggpahaaDoorN
import Derived.Test.YtmkdafgcggpahaaDoorK
import Derived.Maps.AppendAt
import Derived.BigRegion
import Derived.Deep.CutRange
set_option linter.unusedVariables false
namespace Go.Proofs.YtmkdafgcggpahaaDoor
open Go Go.RowKit Go.Park

/-- two values that share no block -/
def Sep (u v : Value) : Prop := ∀ g, u.ownBlock = some g → v.ownBlock = some g → False
theorem Sep.symm {u v : Value} (h : Sep u v) : Sep v u := fun g a b => h g b a
theorem sep_ne {u v : Value} (h : Sep u v) : u.ownBlock = none ∨ u.ownBlock ≠ v.ownBlock := by
  cases hu : u.ownBlock with
  | none => exact .inl rfl
  | some g => right; intro e; exact h g hu e.symm
theorem OwnInts.keepS {lo : Nat} {w w' : World} {u v : Value} {l : List Int} (h : OwnInts lo w u l) (hg : w.grownBy w' v.ownBlock) (hs : Sep u v) : OwnInts lo w' u l := ⟨h.1, h.2.kept hg (sep_ne hs)⟩
theorem OwnInts.setS {lo : Nat} {w : World} {u : Value} {l : List Int} {g n c : Nat} (h : OwnInts lo w u l) (hs : Sep u (.slice (some ⟨g, 0, none⟩) n c)) (j : Nat) (x : Value) : OwnInts lo (w.setCell ⟨g, j, none⟩ x) u l :=
  h.keepS (v := .slice (some ⟨g, 0, none⟩) n c) (grown_set (g := g) (grown_refl w (some g)) j x) hs
theorem sep_new {w w' : World} {lo : Nat} {u v : Value} {l m : List Int} (hu : OwnInts lo w u l) (hv : OwnInts w.heap.size w' v m) : Sep u v := fun g a b => by
  have h1 := (hu.blk g a).2
  have h2 := (hv.blk g b).1
  omega
theorem sep_app {w : World} {lo : Nat} {u v v' : Value} {l : List Int} {o : Obj} (hu : OwnInts lo w u l) (hs : Sep u v) (hv : v'.ownBlock = v.ownBlock ∨ v'.ownBlock = some (w.alloc o).heap.size) : Sep u v' := fun g a b => by
  rcases hv with hv | hv
  · exact hs g a (by rw [← hv]; exact b)
  · have h1 := (hu.blk g a).2
    rw [b] at hv
    simp at hv
    omega
theorem ownInts_one (w : World) (x : Int) : OwnInts w.heap.size (w.alloc (.cells #[.int .i64 x] 3)) (.slice (some ⟨w.heap.size, 0, none⟩) 1 1) [x] :=
  ⟨by simp [lim], World.ownsRow_lit w #[.int .i64 x] 1 (Nat.le_refl _) (by unfold maxLen; omega) rfl⟩
theorem below_setS {B : Nat} {W w : World} {g : Nat} (h : Below B W w) (hg : B ≤ g) (j : Nat) (x : Value) : Below B W (w.setCell ⟨g, j, none⟩ x) := h.setCell (by exact hg) _

def Fill (L : List Int) (n k : Nat) : Prop := L.length = n ∧ ∀ j, j < k → gi L j = -1
theorem fill_set {L : List Int} {n k : Nat} (h : Fill L n k) (hk : k < n) : Fill (L.set k (-1)) n (k + 1) := by
  refine ⟨by simpa using h.1, fun j hj => ?_⟩
  rw [gi_upd (by rw [h.1]; exact hk)]
  split
  · rfl
  · exact h.2 j (by omega)
theorem fill_all {L : List Int} {n : Nat} (h : Fill L n n) : L = List.replicate n (-1) := by
  refine ext_gi (by rw [h.1]; simp) fun j hj => ?_
  rw [h.1] at hj
  rw [h.2 j hj, gi_replicate hj]

/-- what the inner rounds keep -/
structure Vis (h : PHall) (tgt but : Int) (k : Nat) (y d : Int) (st q : List Int) : Prop where
  bfs : Bfs h tgt but ((k : Int) + 1) st q
  lt : k < q.length
  at_ : gi q k = y
  dist : gi st y.toNat = d
theorem Vis.next {h : PHall} {tgt but : Int} {k : Nat} {y d x : Int} {st q : List Int} (v : Vis h tgt but k y d st q) (hd : d ≤ k) (hx : x ∈ besideF h y) (hb : x ≠ but) (hn : gi st x.toNat < 0) :
    Vis h tgt but k y d (st.set x.toNat (d + 1)) (q ++ [x]) := by
  have e := v.at_
  subst e
  obtain ⟨b2, e2⟩ := bfs_visit v.bfs v.lt v.dist (by omega) hx hb hn
  exact ⟨b2, by rw [List.length_append]; have := v.lt; omega, gi_append_left v.lt, e2⟩



end Go.Proofs.YtmkdafgcggpahaaDoor
