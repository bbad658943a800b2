/-
  No cell of these rows narrows 'for every input' (looked for: loops, veiled, ifaces, maps, wideKeys, modest, calm, conditions, laid).
  DERIVED. THE GIVEN ROWS OF THIS SEAT. 7 by the template 'for every input the law returns true; each argument reads behind the call as it read before'; 0 by the template 'total and deterministic' (their statements: YtjkogihfdnjdhaaTotals.lean).
  GIVEN WITH THE SEED: the statements are not yours to turn. If you find one false, say at which input.
  Laid BY PROGRAM, IN A SANDBOX (cutbox-rows.mjs): the forced cells as the released guide's own fill.sh prints them over the translation 611a4cb33e8e9667… (all of the seat's roots in one cut). By AI agents, Wed Nov 11 2026. No macro, syntax, notation, axiom, sorry.
-/
import Derived.Test.YtjkogihfdnjdhaaChecked
import GoSem.Claim
import GoSem.ClaimJoined
import GoSem.ClaimMapViews
import Derived.JoinedTies
import Derived.KernelRfl
namespace Go.Proofs.Ytjkogihfdnjdhaa
/- THE CELL 'sum', in the pinned program and in every row, IS THE sha256 OF THE DUMP (.gsa) THAT YtjkogihfdnjdhaaProg.lean LOADS. Nothing in Lean hashes anything: it is a label: what it is worth is what the hold of that sum in a sandbox is worth. -/
noncomputable def Try.pinned : Pinned := { name := "ytjkogihfdnjdhaa", sum := "611a4cb33e8e9667068192c0d98af3831f1e57f8b763331c678eee4e402ed2ac", checked := Try.checked }
namespace Rows
def none {H : Type} : Left H := { results := [], args := [] }

/-- 'laws.FnExactHoleSlides': WHATEVER THE INPUT: true; the input reads as it did. -/
def fnExactHoleSlidesSpec : ChangeSpec := { name := "fnExactHoleSlides", fn := fun _ => fun
  | [d1, d2] => { results := [.lit (.bool true)], args := [d1, d2] }
  | _ => none }
def fnExactHoleSlidesRow : OpenClaim := { program := "ytjkogihfdnjdhaa", sum := "611a4cb33e8e9667068192c0d98af3831f1e57f8b763331c678eee4e402ed2ac", func := "loop.example/parkinghouse/laws.FnExactHoleSlides", spec := "fnExactHoleSlides", apart := false }
def FnExactHoleSlidesSaid : Prop := fnExactHoleSlidesRow.holds Try.pinned (OpenSpec.ofChange fnExactHoleSlidesSpec)

/-- ITS FALSE NEIGHBOUR: 'it returns false'. Refute it at one input. -/
def fnExactHoleSlidesWrong : ChangeSpec := { name := "fnExactHoleSlides", fn := fun _ => fun
  | [d1, d2] => { results := [.lit (.bool false)], args := [d1, d2] }
  | _ => none }
def FnExactHoleSlidesWrongFalsely : Prop := fnExactHoleSlidesRow.holds Try.pinned (OpenSpec.ofChange fnExactHoleSlidesWrong)

/-- 'laws.FnExactSlideRun': WHATEVER THE INPUT: true; the input reads as it did. -/
def fnExactSlideRunSpec : ChangeSpec := { name := "fnExactSlideRun", fn := fun _ => fun
  | [d1, d2] => { results := [.lit (.bool true)], args := [d1, d2] }
  | _ => none }
def fnExactSlideRunRow : OpenClaim := { program := "ytjkogihfdnjdhaa", sum := "611a4cb33e8e9667068192c0d98af3831f1e57f8b763331c678eee4e402ed2ac", func := "loop.example/parkinghouse/laws.FnExactSlideRun", spec := "fnExactSlideRun", apart := false }
def FnExactSlideRunSaid : Prop := fnExactSlideRunRow.holds Try.pinned (OpenSpec.ofChange fnExactSlideRunSpec)

/-- ITS FALSE NEIGHBOUR: 'it returns false'. Refute it at one input. -/
def fnExactSlideRunWrong : ChangeSpec := { name := "fnExactSlideRun", fn := fun _ => fun
  | [d1, d2] => { results := [.lit (.bool false)], args := [d1, d2] }
  | _ => none }
def FnExactSlideRunWrongFalsely : Prop := fnExactSlideRunRow.holds Try.pinned (OpenSpec.ofChange fnExactSlideRunWrong)

/-- 'laws.FnExactHallCars': WHATEVER THE INPUT: true; the input reads as it did. -/
def fnExactHallCarsSpec : ChangeSpec := { name := "fnExactHallCars", fn := fun _ => fun
  | [d] => { results := [.lit (.bool true)], args := [d] }
  | _ => none }
def fnExactHallCarsRow : OpenClaim := { program := "ytjkogihfdnjdhaa", sum := "611a4cb33e8e9667068192c0d98af3831f1e57f8b763331c678eee4e402ed2ac", func := "loop.example/parkinghouse/laws.FnExactHallCars", spec := "fnExactHallCars", recurses := true, apart := false }
def FnExactHallCarsSaid : Prop := fnExactHallCarsRow.holds Try.pinned (OpenSpec.ofChange fnExactHallCarsSpec)

/-- ITS FALSE NEIGHBOUR: 'it returns false'. Refute it at one input. -/
def fnExactHallCarsWrong : ChangeSpec := { name := "fnExactHallCars", fn := fun _ => fun
  | [d] => { results := [.lit (.bool false)], args := [d] }
  | _ => none }
def FnExactHallCarsWrongFalsely : Prop := fnExactHallCarsRow.holds Try.pinned (OpenSpec.ofChange fnExactHallCarsWrong)

/-- 'laws.FnExactClearGate': WHATEVER THE INPUT: true; the input reads as it did. -/
def fnExactClearGateSpec : ChangeSpec := { name := "fnExactClearGate", fn := fun _ => fun
  | [d] => { results := [.lit (.bool true)], args := [d] }
  | _ => none }
def fnExactClearGateRow : OpenClaim := { program := "ytjkogihfdnjdhaa", sum := "611a4cb33e8e9667068192c0d98af3831f1e57f8b763331c678eee4e402ed2ac", func := "loop.example/parkinghouse/laws.FnExactClearGate", spec := "fnExactClearGate", apart := false }
def FnExactClearGateSaid : Prop := fnExactClearGateRow.holds Try.pinned (OpenSpec.ofChange fnExactClearGateSpec)

/-- ITS FALSE NEIGHBOUR: 'it returns false'. Refute it at one input. -/
def fnExactClearGateWrong : ChangeSpec := { name := "fnExactClearGate", fn := fun _ => fun
  | [d] => { results := [.lit (.bool false)], args := [d] }
  | _ => none }
def FnExactClearGateWrongFalsely : Prop := fnExactClearGateRow.holds Try.pinned (OpenSpec.ofChange fnExactClearGateWrong)

/-- 'laws.FnExactBringPlan': WHATEVER THE INPUT: true; the input reads as it did. -/
def fnExactBringPlanSpec : ChangeSpec := { name := "fnExactBringPlan", fn := fun _ => fun
  | [d1, d2] => { results := [.lit (.bool true)], args := [d1, d2] }
  | _ => none }
def fnExactBringPlanRow : OpenClaim := { program := "ytjkogihfdnjdhaa", sum := "611a4cb33e8e9667068192c0d98af3831f1e57f8b763331c678eee4e402ed2ac", func := "loop.example/parkinghouse/laws.FnExactBringPlan", spec := "fnExactBringPlan", apart := false }
def FnExactBringPlanSaid : Prop := fnExactBringPlanRow.holds Try.pinned (OpenSpec.ofChange fnExactBringPlanSpec)

/-- ITS FALSE NEIGHBOUR: 'it returns false'. Refute it at one input. -/
def fnExactBringPlanWrong : ChangeSpec := { name := "fnExactBringPlan", fn := fun _ => fun
  | [d1, d2] => { results := [.lit (.bool false)], args := [d1, d2] }
  | _ => none }
def FnExactBringPlanWrongFalsely : Prop := fnExactBringPlanRow.holds Try.pinned (OpenSpec.ofChange fnExactBringPlanWrong)

/-- 'laws.FnExactStoreDo': WHATEVER THE INPUT: true; the input reads as it did. -/
def fnExactStoreDoSpec : ChangeSpec := { name := "fnExactStoreDo", fn := fun _ => fun
  | [d1, d2] => { results := [.lit (.bool true)], args := [d1, d2] }
  | _ => none }
def fnExactStoreDoRow : OpenClaim := { program := "ytjkogihfdnjdhaa", sum := "611a4cb33e8e9667068192c0d98af3831f1e57f8b763331c678eee4e402ed2ac", func := "loop.example/parkinghouse/laws.FnExactStoreDo", spec := "fnExactStoreDo", apart := false }
def FnExactStoreDoSaid : Prop := fnExactStoreDoRow.holds Try.pinned (OpenSpec.ofChange fnExactStoreDoSpec)

/-- ITS FALSE NEIGHBOUR: 'it returns false'. Refute it at one input. -/
def fnExactStoreDoWrong : ChangeSpec := { name := "fnExactStoreDo", fn := fun _ => fun
  | [d1, d2] => { results := [.lit (.bool false)], args := [d1, d2] }
  | _ => none }
def FnExactStoreDoWrongFalsely : Prop := fnExactStoreDoRow.holds Try.pinned (OpenSpec.ofChange fnExactStoreDoWrong)

/-- 'laws.FnExactStoreRun': WHATEVER THE INPUT: true; the input reads as it did. -/
def fnExactStoreRunSpec : ChangeSpec := { name := "fnExactStoreRun", fn := fun _ => fun
  | [d1, d2] => { results := [.lit (.bool true)], args := [d1, d2] }
  | _ => none }
def fnExactStoreRunRow : OpenClaim := { program := "ytjkogihfdnjdhaa", sum := "611a4cb33e8e9667068192c0d98af3831f1e57f8b763331c678eee4e402ed2ac", func := "loop.example/parkinghouse/laws.FnExactStoreRun", spec := "fnExactStoreRun", apart := false }
def FnExactStoreRunSaid : Prop := fnExactStoreRunRow.holds Try.pinned (OpenSpec.ofChange fnExactStoreRunSpec)

/-- ITS FALSE NEIGHBOUR: 'it returns false'. Refute it at one input. -/
def fnExactStoreRunWrong : ChangeSpec := { name := "fnExactStoreRun", fn := fun _ => fun
  | [d1, d2] => { results := [.lit (.bool false)], args := [d1, d2] }
  | _ => none }
def FnExactStoreRunWrongFalsely : Prop := fnExactStoreRunRow.holds Try.pinned (OpenSpec.ofChange fnExactStoreRunWrong)

/- THE SECOND FORM. 'bulk': how many values and letters a reading holds, each counted each time it is reached (what is shared counts as often as it is met; a slice's spare places count too). A statement '..UptoSaid' is the law's where the arguments, and the package variables that the reading takes, are together of bulk at most 1048576: NARROWER than '..Said'. Prove '..Said' where nothing that the law and all that it calls make is longer than what came in: it says more and counts as full. Else prove '..UptoSaid'. A law counts once. -/
mutual
def uptoBulk {H : Type} : DataW H → Nat
  | .lit (.string bytes) => bytes.length + 1
  | .lit _ => 1
  | .nil => 1
  | .ptr d => uptoBulk d + 1
  | .slice elems spare => uptoBulkAll elems + uptoBulkAll spare + 1
  | .agg parts => uptoBulkAll parts + 1
  | .iface _ d => uptoBulk d + 1
  | .map entries => uptoBulkEntries entries + 1
  | .held _ => 1
def uptoBulkAll {H : Type} : List (DataW H) → Nat
  | [] => 0
  | d :: r => uptoBulk d + uptoBulkAll r
def uptoBulkEntries {H : Type} : List (Lit × DataW H) → Nat
  | [] => 0
  | x :: r => uptoBulkEntry x + uptoBulkEntries r
def uptoBulkEntry {H : Type} : Lit × DataW H → Nat
  | (.string bytes, d) => bytes.length + uptoBulk d + 1
  | (_, d) => uptoBulk d + 1
 end
def uptoSmall : (H : Type) → List (DataW H) → Bool := fun _ ds => decide (uptoBulkAll ds ≤ 1048576)
def OpenSpec.upto (s : _root_.Go.ChangeSpec) : _root_.Go.OpenSpec := { _root_.Go.OpenSpec.ofChange s with cond := some uptoSmall }

/-- 'laws.FnExactHoleSlides', WHERE WHAT IT READS IS OF BULK AT MOST 1048576: true; the input reads as it did. -/
def fnExactHoleSlidesUptoRow : OpenClaim := { program := "ytjkogihfdnjdhaa", sum := "611a4cb33e8e9667068192c0d98af3831f1e57f8b763331c678eee4e402ed2ac", func := "loop.example/parkinghouse/laws.FnExactHoleSlides", spec := "fnExactHoleSlides", apart := false, narrowed := true }
def FnExactHoleSlidesUptoSaid : Prop := fnExactHoleSlidesUptoRow.holds Try.pinned (OpenSpec.upto fnExactHoleSlidesSpec)

/-- 'laws.FnExactSlideRun', WHERE WHAT IT READS IS OF BULK AT MOST 1048576: true; the input reads as it did. -/
def fnExactSlideRunUptoRow : OpenClaim := { program := "ytjkogihfdnjdhaa", sum := "611a4cb33e8e9667068192c0d98af3831f1e57f8b763331c678eee4e402ed2ac", func := "loop.example/parkinghouse/laws.FnExactSlideRun", spec := "fnExactSlideRun", apart := false, narrowed := true }
def FnExactSlideRunUptoSaid : Prop := fnExactSlideRunUptoRow.holds Try.pinned (OpenSpec.upto fnExactSlideRunSpec)

/-- 'laws.FnExactHallCars', WHERE WHAT IT READS IS OF BULK AT MOST 1048576: true; the input reads as it did. -/
def fnExactHallCarsUptoRow : OpenClaim := { program := "ytjkogihfdnjdhaa", sum := "611a4cb33e8e9667068192c0d98af3831f1e57f8b763331c678eee4e402ed2ac", func := "loop.example/parkinghouse/laws.FnExactHallCars", spec := "fnExactHallCars", recurses := true, apart := false, narrowed := true }
def FnExactHallCarsUptoSaid : Prop := fnExactHallCarsUptoRow.holds Try.pinned (OpenSpec.upto fnExactHallCarsSpec)

/-- 'laws.FnExactClearGate', WHERE WHAT IT READS IS OF BULK AT MOST 1048576: true; the input reads as it did. -/
def fnExactClearGateUptoRow : OpenClaim := { program := "ytjkogihfdnjdhaa", sum := "611a4cb33e8e9667068192c0d98af3831f1e57f8b763331c678eee4e402ed2ac", func := "loop.example/parkinghouse/laws.FnExactClearGate", spec := "fnExactClearGate", apart := false, narrowed := true }
def FnExactClearGateUptoSaid : Prop := fnExactClearGateUptoRow.holds Try.pinned (OpenSpec.upto fnExactClearGateSpec)

/-- 'laws.FnExactBringPlan', WHERE WHAT IT READS IS OF BULK AT MOST 1048576: true; the input reads as it did. -/
def fnExactBringPlanUptoRow : OpenClaim := { program := "ytjkogihfdnjdhaa", sum := "611a4cb33e8e9667068192c0d98af3831f1e57f8b763331c678eee4e402ed2ac", func := "loop.example/parkinghouse/laws.FnExactBringPlan", spec := "fnExactBringPlan", apart := false, narrowed := true }
def FnExactBringPlanUptoSaid : Prop := fnExactBringPlanUptoRow.holds Try.pinned (OpenSpec.upto fnExactBringPlanSpec)

/-- 'laws.FnExactStoreDo', WHERE WHAT IT READS IS OF BULK AT MOST 1048576: true; the input reads as it did. -/
def fnExactStoreDoUptoRow : OpenClaim := { program := "ytjkogihfdnjdhaa", sum := "611a4cb33e8e9667068192c0d98af3831f1e57f8b763331c678eee4e402ed2ac", func := "loop.example/parkinghouse/laws.FnExactStoreDo", spec := "fnExactStoreDo", apart := false, narrowed := true }
def FnExactStoreDoUptoSaid : Prop := fnExactStoreDoUptoRow.holds Try.pinned (OpenSpec.upto fnExactStoreDoSpec)

/-- 'laws.FnExactStoreRun', WHERE WHAT IT READS IS OF BULK AT MOST 1048576: true; the input reads as it did. -/
def fnExactStoreRunUptoRow : OpenClaim := { program := "ytjkogihfdnjdhaa", sum := "611a4cb33e8e9667068192c0d98af3831f1e57f8b763331c678eee4e402ed2ac", func := "loop.example/parkinghouse/laws.FnExactStoreRun", spec := "fnExactStoreRun", apart := false, narrowed := true }
def FnExactStoreRunUptoSaid : Prop := fnExactStoreRunUptoRow.holds Try.pinned (OpenSpec.upto fnExactStoreRunSpec)

end Rows
end Go.Proofs.Ytjkogihfdnjdhaa
