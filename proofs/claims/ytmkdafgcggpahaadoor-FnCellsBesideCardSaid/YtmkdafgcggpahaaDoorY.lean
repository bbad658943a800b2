/-
  WayCells.
-/
import Derived.Test.YtmkdafgcggpahaaDoorN2
import Derived.Deep.LoopGhost
set_option linter.unusedVariables false
namespace Go.Proofs.YtmkdafgcggpahaaDoor
open Go Go.RowKit Go.Park

theorem wayGo_step {h : PHall} {st : List Int} {c y : Int} {m : Nat} (hd : downF h st c = some y) : wayGo h st (m + 1) c = y :: wayGo h st m y := by simp [wayGo, hd]
theorem way_bad {h : PHall} {a b but : Int} (hb : wayOk h a b but = false) : wayF h a b but = [] := by simp [wayF, hb]
theorem way_none {h : PHall} {a b but : Int} (hb : gi (stepsF h b but) a.toNat < 0) : wayF h a b but = [] := by
  unfold wayF; rw [if_neg]; intro e; have := e.2; omega
theorem way_some {h : PHall} {a b but : Int} (hok : wayOk h a b but = true) (hb : ¬ gi (stepsF h b but) a.toNat < 0) : wayF h a b but = a :: wayGo h (stepsF h b but) (gi (stepsF h b but) a.toNat).toNat a := by
  unfold wayF; rw [if_pos ⟨hok, by omega⟩]
/-- the way that has been gone and the way that is left -/
structure OnWay (h : PHall) (a b but : Int) (st : List Int) (m : Nat) (c : Int) (P : List Int) : Prop where
  cell : 0 ≤ c ∧ c < h.cells.length
  left : gi st c.toNat = m
  all : P ++ wayGo h st m c = wayF h a b but
  small : P.length + m ≤ 14
theorem onway_start {h : PHall} {a b but : Int} (hok : wayOk h a b but = true) (hb : ¬ gi (stepsF h b but) a.toNat < 0) (hs : gi (stepsF h b but) a.toNat ≤ 12) :
    OnWay h a b but (stepsF h b but) (gi (stepsF h b but) a.toNat).toNat a [a] :=
  ⟨(wayOk_iff.1 hok).2.1, by omega, by rw [way_some hok hb]; rfl, by simp; omega⟩
theorem onway_next {h : PHall} {a b but c y : Int} {st : List Int} {m : Nat} {P : List Int} (o : OnWay h a b but st (m + 1) c P) (hd : downF h st c = some y) (hy : 0 ≤ y ∧ y < h.cells.length) (hl : gi st y.toNat = gi st c.toNat - 1) :
    OnWay h a b but st m y (P ++ [y]) := by
  refine ⟨hy, by rw [hl, o.left]; omega, ?_, by rw [List.length_append]; have := o.small; simp; omega⟩
  rw [← o.all, wayGo_step hd, List.append_assoc]; rfl
theorem onway_end {h : PHall} {a b but c : Int} {st : List Int} {P : List Int} (o : OnWay h a b but st 0 c P) : P = wayF h a b but := by rw [← o.all]; simp [wayGo]





end Go.Proofs.YtmkdafgcggpahaaDoor
