/-
  HoleSlides.
-/
import Derived.Test.YtmkdafgcggpahaaDoorO
import Derived.Test.YtmkdafgcggpahaaDoorJ
import Derived.Test.YtmkdafgcggpahaaDoorY
import Derived.Deep.DrawnRows
set_option linter.unusedVariables false
set_option linter.unusedSimpArgs false
namespace Go.Proofs.YtmkdafgcggpahaaDoor
open Go Go.RowKit Go.Park
attribute [local go_sem ↓] Go.wp_at_zero Go.wp_at_succ

theorem takeD {P : Program} {md : Region.Mode} {ops : Array Oper} {Q : Exit → Act → World → Prop} {S : World → Prop} {fuel : Nat} {listed : Array Bool} {a : Act} {w : World} (i : Nat) {oi : Oper} (d : Option Tmp) (v : Value) (hi : ops[i]? = some oi) (hd : oi.dst = d)
    (hs : Region.noSelect ops = true) (hf : Region.free md ops listed i = true) (hr : (Region.ready md ops listed).contains i = true)
    (hQ : ∀ c a w, Q (.panic c) (a.put d v) w → Q (.panic c) a w) (hy : YieldsIf P ops S oi v a) (hS : S w)
    (h : wpAnyH P md ops Q S fuel (listed.setIfInBounds i true) (a.put d v) w) : wpAnyH P md ops Q S (fuel + 1) listed a w := by
  subst hd
  exact wpAnyH_take hi hs hf hr hQ hy hS h

theorem hole_bad {h : PHall} {way : List Int} (hb : holeOk h way = false) : holeF h way = [] := by simp [holeF, hb]
theorem hole_good {h : PHall} {way : List Int} (hb : holeOk h way = true) : holeF h way = (holeS h.cells way (way.length - 1)).1 := by simp [holeF, hb]
theorem holeOk_no {h : PHall} {way : List Int} (hb : validB h = false ∨ way = [] ∨ hasCellB h (gi way 0) = false ∨ gi h.cells (gi way 0).toNat ≠ 0 ∨ wayTo h way (way.length - 1) = false) : holeOk h way = false := by
  unfold holeOk
  rcases hb with h1 | h1 | h1 | h1 | h1 <;> simp [h1]
theorem gives_slides_mk {l : List (Int × Int)} {v u : Value} {w w' : World} (hv : u = v) (ho : OwnSlides w.heap.size w' v l) (hb : Below w.heap.size w w') : GivesSlides l w (.returned u) w' := ⟨v, by rw [hv], ho, hb⟩






end Go.Proofs.YtmkdafgcggpahaaDoor
