/-
  No cell of these rows narrows 'for every input' (looked for: loops, veiled, ifaces, maps, wideKeys, modest, calm, conditions, laid).
  DERIVED. THE GIVEN ROWS OF THIS SEAT. 7 by the template 'for every input the law returns true; each argument reads behind the call as it read before'; 0 by the template 'total and deterministic' (their statements: YtfngmhhnmodhgaaTotals.lean).
  GIVEN WITH THE SEED: the statements are not yours to turn. If you find one false, say at which input.
  Laid BY PROGRAM, IN A SANDBOX (cutbox-rows.mjs): the forced cells as the released guide's own fill.sh prints them over the translation d27da98174b5dd2b… (all of the seat's roots in one cut). By AI agents, Wed Nov 11 2026. No macro, syntax, notation, axiom, sorry.
-/
import Derived.Test.YtfngmhhnmodhgaaChecked
import GoSem.Claim
import GoSem.ClaimJoined
import GoSem.ClaimMapViews
import Derived.JoinedTies
import Derived.KernelRfl
namespace Go.Proofs.Ytfngmhhnmodhgaa
/- THE CELL 'sum', in the pinned program and in every row, IS THE sha256 OF THE DUMP (.gsa) THAT YtfngmhhnmodhgaaProg.lean LOADS. Nothing in Lean hashes anything: it is a label: what it is worth is what the hold of that sum in a sandbox is worth. -/
noncomputable def Try.pinned : Pinned := { name := "ytfngmhhnmodhgaa", sum := "d27da98174b5dd2b90fe0fdda2ab3297796c9830cc5bcdb352615963069f215d", checked := Try.checked }
namespace Rows
def none {H : Type} : Left H := { results := [], args := [] }

/-- 'laws.FnExactConstants': WHATEVER THE INPUT: true; the input reads as it did. -/
def fnExactConstantsSpec : ChangeSpec := { name := "fnExactConstants", fn := fun _ => fun
  | [] => { results := [.lit (.bool true)], args := [] }
  | _ => none }
def fnExactConstantsRow : OpenClaim := { program := "ytfngmhhnmodhgaa", sum := "d27da98174b5dd2b90fe0fdda2ab3297796c9830cc5bcdb352615963069f215d", func := "loop.example/parkinghouse/laws.FnExactConstants", spec := "fnExactConstants", apart := false }
def FnExactConstantsSaid : Prop := fnExactConstantsRow.holds Try.pinned (OpenSpec.ofChange fnExactConstantsSpec)

/-- ITS FALSE NEIGHBOUR: 'it returns false'. Refute it at one input. -/
def fnExactConstantsWrong : ChangeSpec := { name := "fnExactConstants", fn := fun _ => fun
  | [] => { results := [.lit (.bool false)], args := [] }
  | _ => none }
def FnExactConstantsWrongFalsely : Prop := fnExactConstantsRow.holds Try.pinned (OpenSpec.ofChange fnExactConstantsWrong)

/-- 'laws.FnExactHallEmpty': WHATEVER THE INPUT: true; the input reads as it did. -/
def fnExactHallEmptySpec : ChangeSpec := { name := "fnExactHallEmpty", fn := fun _ => fun
  | [d1, d2] => { results := [.lit (.bool true)], args := [d1, d2] }
  | _ => none }
def fnExactHallEmptyRow : OpenClaim := { program := "ytfngmhhnmodhgaa", sum := "d27da98174b5dd2b90fe0fdda2ab3297796c9830cc5bcdb352615963069f215d", func := "loop.example/parkinghouse/laws.FnExactHallEmpty", spec := "fnExactHallEmpty", apart := false }
def FnExactHallEmptySaid : Prop := fnExactHallEmptyRow.holds Try.pinned (OpenSpec.ofChange fnExactHallEmptySpec)

/-- ITS FALSE NEIGHBOUR: 'it returns false'. Refute it at one input. -/
def fnExactHallEmptyWrong : ChangeSpec := { name := "fnExactHallEmpty", fn := fun _ => fun
  | [d1, d2] => { results := [.lit (.bool false)], args := [d1, d2] }
  | _ => none }
def FnExactHallEmptyWrongFalsely : Prop := fnExactHallEmptyRow.holds Try.pinned (OpenSpec.ofChange fnExactHallEmptyWrong)

/-- 'laws.FnExactSlidesBack': WHATEVER THE INPUT: true; the input reads as it did. -/
def fnExactSlidesBackSpec : ChangeSpec := { name := "fnExactSlidesBack", fn := fun _ => fun
  | [d] => { results := [.lit (.bool true)], args := [d] }
  | _ => none }
def fnExactSlidesBackRow : OpenClaim := { program := "ytfngmhhnmodhgaa", sum := "d27da98174b5dd2b90fe0fdda2ab3297796c9830cc5bcdb352615963069f215d", func := "loop.example/parkinghouse/laws.FnExactSlidesBack", spec := "fnExactSlidesBack", apart := false }
def FnExactSlidesBackSaid : Prop := fnExactSlidesBackRow.holds Try.pinned (OpenSpec.ofChange fnExactSlidesBackSpec)

/-- ITS FALSE NEIGHBOUR: 'it returns false'. Refute it at one input. -/
def fnExactSlidesBackWrong : ChangeSpec := { name := "fnExactSlidesBack", fn := fun _ => fun
  | [d] => { results := [.lit (.bool false)], args := [d] }
  | _ => none }
def FnExactSlidesBackWrongFalsely : Prop := fnExactSlidesBackRow.holds Try.pinned (OpenSpec.ofChange fnExactSlidesBackWrong)

/-- 'laws.FnExactHallValid': WHATEVER THE INPUT: true; the input reads as it did. -/
def fnExactHallValidSpec : ChangeSpec := { name := "fnExactHallValid", fn := fun _ => fun
  | [d] => { results := [.lit (.bool true)], args := [d] }
  | _ => none }
def fnExactHallValidRow : OpenClaim := { program := "ytfngmhhnmodhgaa", sum := "d27da98174b5dd2b90fe0fdda2ab3297796c9830cc5bcdb352615963069f215d", func := "loop.example/parkinghouse/laws.FnExactHallValid", spec := "fnExactHallValid", apart := false }
def FnExactHallValidSaid : Prop := fnExactHallValidRow.holds Try.pinned (OpenSpec.ofChange fnExactHallValidSpec)

/-- ITS FALSE NEIGHBOUR: 'it returns false'. Refute it at one input. -/
def fnExactHallValidWrong : ChangeSpec := { name := "fnExactHallValid", fn := fun _ => fun
  | [d] => { results := [.lit (.bool false)], args := [d] }
  | _ => none }
def FnExactHallValidWrongFalsely : Prop := fnExactHallValidRow.holds Try.pinned (OpenSpec.ofChange fnExactHallValidWrong)

/-- 'laws.FnExactCellAt': WHATEVER THE INPUT: true; the input reads as it did. -/
def fnExactCellAtSpec : ChangeSpec := { name := "fnExactCellAt", fn := fun _ => fun
  | [d1, d2, d3] => { results := [.lit (.bool true)], args := [d1, d2, d3] }
  | _ => none }
def fnExactCellAtRow : OpenClaim := { program := "ytfngmhhnmodhgaa", sum := "d27da98174b5dd2b90fe0fdda2ab3297796c9830cc5bcdb352615963069f215d", func := "loop.example/parkinghouse/laws.FnExactCellAt", spec := "fnExactCellAt", apart := false }
def FnExactCellAtSaid : Prop := fnExactCellAtRow.holds Try.pinned (OpenSpec.ofChange fnExactCellAtSpec)

/-- ITS FALSE NEIGHBOUR: 'it returns false'. Refute it at one input. -/
def fnExactCellAtWrong : ChangeSpec := { name := "fnExactCellAt", fn := fun _ => fun
  | [d1, d2, d3] => { results := [.lit (.bool false)], args := [d1, d2, d3] }
  | _ => none }
def FnExactCellAtWrongFalsely : Prop := fnExactCellAtRow.holds Try.pinned (OpenSpec.ofChange fnExactCellAtWrong)

/-- 'laws.FnExactCellPlace': WHATEVER THE INPUT: true; the input reads as it did. -/
def fnExactCellPlaceSpec : ChangeSpec := { name := "fnExactCellPlace", fn := fun _ => fun
  | [d1, d2] => { results := [.lit (.bool true)], args := [d1, d2] }
  | _ => none }
def fnExactCellPlaceRow : OpenClaim := { program := "ytfngmhhnmodhgaa", sum := "d27da98174b5dd2b90fe0fdda2ab3297796c9830cc5bcdb352615963069f215d", func := "loop.example/parkinghouse/laws.FnExactCellPlace", spec := "fnExactCellPlace", apart := false }
def FnExactCellPlaceSaid : Prop := fnExactCellPlaceRow.holds Try.pinned (OpenSpec.ofChange fnExactCellPlaceSpec)

/-- ITS FALSE NEIGHBOUR: 'it returns false'. Refute it at one input. -/
def fnExactCellPlaceWrong : ChangeSpec := { name := "fnExactCellPlace", fn := fun _ => fun
  | [d1, d2] => { results := [.lit (.bool false)], args := [d1, d2] }
  | _ => none }
def FnExactCellPlaceWrongFalsely : Prop := fnExactCellPlaceRow.holds Try.pinned (OpenSpec.ofChange fnExactCellPlaceWrong)

/-- 'laws.FnExactHallFind': WHATEVER THE INPUT: true; the input reads as it did. -/
def fnExactHallFindSpec : ChangeSpec := { name := "fnExactHallFind", fn := fun _ => fun
  | [d1, d2] => { results := [.lit (.bool true)], args := [d1, d2] }
  | _ => none }
def fnExactHallFindRow : OpenClaim := { program := "ytfngmhhnmodhgaa", sum := "d27da98174b5dd2b90fe0fdda2ab3297796c9830cc5bcdb352615963069f215d", func := "loop.example/parkinghouse/laws.FnExactHallFind", spec := "fnExactHallFind", apart := false }
def FnExactHallFindSaid : Prop := fnExactHallFindRow.holds Try.pinned (OpenSpec.ofChange fnExactHallFindSpec)

/-- ITS FALSE NEIGHBOUR: 'it returns false'. Refute it at one input. -/
def fnExactHallFindWrong : ChangeSpec := { name := "fnExactHallFind", fn := fun _ => fun
  | [d1, d2] => { results := [.lit (.bool false)], args := [d1, d2] }
  | _ => none }
def FnExactHallFindWrongFalsely : Prop := fnExactHallFindRow.holds Try.pinned (OpenSpec.ofChange fnExactHallFindWrong)

/- THE SECOND FORM. 'bulk': how many values and letters a reading holds, each counted each time it is reached (what is shared counts as often as it is met; a slice's spare places count too). A statement '..UptoSaid' is the law's where the arguments, and the package variables that the reading takes, are together of bulk at most 1048576: NARROWER than '..Said'. Prove '..Said' where nothing that the law and all that it calls make is longer than what came in: it says more and counts as full. Else prove '..UptoSaid'. A law counts once. -/
mutual
def uptoBulk {H : Type} : DataW H → Nat
  | .lit (.string bytes) => bytes.length + 1
  | .lit _ => 1
  | .nil => 1
  | .ptr d => uptoBulk d + 1
  | .slice elems spare => uptoBulkAll elems + uptoBulkAll spare + 1
  | .agg parts => uptoBulkAll parts + 1
  | .iface _ d => uptoBulk d + 1
  | .map entries => uptoBulkEntries entries + 1
  | .held _ => 1
def uptoBulkAll {H : Type} : List (DataW H) → Nat
  | [] => 0
  | d :: r => uptoBulk d + uptoBulkAll r
def uptoBulkEntries {H : Type} : List (Lit × DataW H) → Nat
  | [] => 0
  | x :: r => uptoBulkEntry x + uptoBulkEntries r
def uptoBulkEntry {H : Type} : Lit × DataW H → Nat
  | (.string bytes, d) => bytes.length + uptoBulk d + 1
  | (_, d) => uptoBulk d + 1
 end
def uptoSmall : (H : Type) → List (DataW H) → Bool := fun _ ds => decide (uptoBulkAll ds ≤ 1048576)
def OpenSpec.upto (s : _root_.Go.ChangeSpec) : _root_.Go.OpenSpec := { _root_.Go.OpenSpec.ofChange s with cond := some uptoSmall }

/-- 'laws.FnExactConstants', WHERE WHAT IT READS IS OF BULK AT MOST 1048576: true; the input reads as it did. -/
def fnExactConstantsUptoRow : OpenClaim := { program := "ytfngmhhnmodhgaa", sum := "d27da98174b5dd2b90fe0fdda2ab3297796c9830cc5bcdb352615963069f215d", func := "loop.example/parkinghouse/laws.FnExactConstants", spec := "fnExactConstants", apart := false, narrowed := true }
def FnExactConstantsUptoSaid : Prop := fnExactConstantsUptoRow.holds Try.pinned (OpenSpec.upto fnExactConstantsSpec)

/-- 'laws.FnExactHallEmpty', WHERE WHAT IT READS IS OF BULK AT MOST 1048576: true; the input reads as it did. -/
def fnExactHallEmptyUptoRow : OpenClaim := { program := "ytfngmhhnmodhgaa", sum := "d27da98174b5dd2b90fe0fdda2ab3297796c9830cc5bcdb352615963069f215d", func := "loop.example/parkinghouse/laws.FnExactHallEmpty", spec := "fnExactHallEmpty", apart := false, narrowed := true }
def FnExactHallEmptyUptoSaid : Prop := fnExactHallEmptyUptoRow.holds Try.pinned (OpenSpec.upto fnExactHallEmptySpec)

/-- 'laws.FnExactSlidesBack', WHERE WHAT IT READS IS OF BULK AT MOST 1048576: true; the input reads as it did. -/
def fnExactSlidesBackUptoRow : OpenClaim := { program := "ytfngmhhnmodhgaa", sum := "d27da98174b5dd2b90fe0fdda2ab3297796c9830cc5bcdb352615963069f215d", func := "loop.example/parkinghouse/laws.FnExactSlidesBack", spec := "fnExactSlidesBack", apart := false, narrowed := true }
def FnExactSlidesBackUptoSaid : Prop := fnExactSlidesBackUptoRow.holds Try.pinned (OpenSpec.upto fnExactSlidesBackSpec)

/-- 'laws.FnExactHallValid', WHERE WHAT IT READS IS OF BULK AT MOST 1048576: true; the input reads as it did. -/
def fnExactHallValidUptoRow : OpenClaim := { program := "ytfngmhhnmodhgaa", sum := "d27da98174b5dd2b90fe0fdda2ab3297796c9830cc5bcdb352615963069f215d", func := "loop.example/parkinghouse/laws.FnExactHallValid", spec := "fnExactHallValid", apart := false, narrowed := true }
def FnExactHallValidUptoSaid : Prop := fnExactHallValidUptoRow.holds Try.pinned (OpenSpec.upto fnExactHallValidSpec)

/-- 'laws.FnExactCellAt', WHERE WHAT IT READS IS OF BULK AT MOST 1048576: true; the input reads as it did. -/
def fnExactCellAtUptoRow : OpenClaim := { program := "ytfngmhhnmodhgaa", sum := "d27da98174b5dd2b90fe0fdda2ab3297796c9830cc5bcdb352615963069f215d", func := "loop.example/parkinghouse/laws.FnExactCellAt", spec := "fnExactCellAt", apart := false, narrowed := true }
def FnExactCellAtUptoSaid : Prop := fnExactCellAtUptoRow.holds Try.pinned (OpenSpec.upto fnExactCellAtSpec)

/-- 'laws.FnExactCellPlace', WHERE WHAT IT READS IS OF BULK AT MOST 1048576: true; the input reads as it did. -/
def fnExactCellPlaceUptoRow : OpenClaim := { program := "ytfngmhhnmodhgaa", sum := "d27da98174b5dd2b90fe0fdda2ab3297796c9830cc5bcdb352615963069f215d", func := "loop.example/parkinghouse/laws.FnExactCellPlace", spec := "fnExactCellPlace", apart := false, narrowed := true }
def FnExactCellPlaceUptoSaid : Prop := fnExactCellPlaceUptoRow.holds Try.pinned (OpenSpec.upto fnExactCellPlaceSpec)

/-- 'laws.FnExactHallFind', WHERE WHAT IT READS IS OF BULK AT MOST 1048576: true; the input reads as it did. -/
def fnExactHallFindUptoRow : OpenClaim := { program := "ytfngmhhnmodhgaa", sum := "d27da98174b5dd2b90fe0fdda2ab3297796c9830cc5bcdb352615963069f215d", func := "loop.example/parkinghouse/laws.FnExactHallFind", spec := "fnExactHallFind", apart := false, narrowed := true }
def FnExactHallFindUptoSaid : Prop := fnExactHallFindUptoRow.holds Try.pinned (OpenSpec.upto fnExactHallFindSpec)

end Rows
end Go.Proofs.Ytfngmhhnmodhgaa
