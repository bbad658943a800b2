/-
  No cell of these rows narrows 'for every input' (looked for: loops, veiled, ifaces, maps, wideKeys, modest, calm, conditions, laid).
  DERIVED. THE GIVEN ROWS OF THIS SEAT. 12 by the template 'for every input the law returns true; each argument reads behind the call as it read before'; 0 by the template 'total and deterministic' (their statements: YtenblaghbolabaaTotals.lean).
  GIVEN WITH THE SEED: the statements are not yours to turn. If you find one false, say at which input.
  Laid BY PROGRAM, IN A SANDBOX (cutbox-rows.mjs): the forced cells as the released guide's own fill.sh prints them over the translation 5e8dbfdf20e5fade… (all of the seat's roots in one cut). By AI agents, Wed Nov 11 2026. No macro, syntax, notation, axiom, sorry.
-/
import Derived.Test.YtenblaghbolabaaChecked
import GoSem.Claim
import GoSem.ClaimJoined
import GoSem.ClaimMapViews
import Derived.JoinedTies
import Derived.KernelRfl
namespace Go.Proofs.Ytenblaghbolabaa
/- THE CELL 'sum', in the pinned program and in every row, IS THE sha256 OF THE DUMP (.gsa) THAT YtenblaghbolabaaProg.lean LOADS. Nothing in Lean hashes anything: it is a label: what it is worth is what the hold of that sum in a sandbox is worth. -/
noncomputable def Try.pinned : Pinned := { name := "ytenblaghbolabaa", sum := "5e8dbfdf20e5fade9b45b0470922f037156fefeed2405b5e6132bb61752d0c85", checked := Try.checked }
namespace Rows
def none {H : Type} : Left H := { results := [], args := [] }

/-- 'laws.FnExactCellsApart': WHATEVER THE INPUT: true; the input reads as it did. -/
def fnExactCellsApartSpec : ChangeSpec := { name := "fnExactCellsApart", fn := fun _ => fun
  | [d1, d2, d3] => { results := [.lit (.bool true)], args := [d1, d2, d3] }
  | _ => none }
def fnExactCellsApartRow : OpenClaim := { program := "ytenblaghbolabaa", sum := "5e8dbfdf20e5fade9b45b0470922f037156fefeed2405b5e6132bb61752d0c85", func := "loop.example/parkinghouse/laws.FnExactCellsApart", spec := "fnExactCellsApart", apart := false }
def FnExactCellsApartSaid : Prop := fnExactCellsApartRow.holds Try.pinned (OpenSpec.ofChange fnExactCellsApartSpec)

/-- ITS FALSE NEIGHBOUR: 'it returns false'. Refute it at one input. -/
def fnExactCellsApartWrong : ChangeSpec := { name := "fnExactCellsApart", fn := fun _ => fun
  | [d1, d2, d3] => { results := [.lit (.bool false)], args := [d1, d2, d3] }
  | _ => none }
def FnExactCellsApartWrongFalsely : Prop := fnExactCellsApartRow.holds Try.pinned (OpenSpec.ofChange fnExactCellsApartWrong)

/-- 'laws.FnExactSlideMay': WHATEVER THE INPUT: true; the input reads as it did. -/
def fnExactSlideMaySpec : ChangeSpec := { name := "fnExactSlideMay", fn := fun _ => fun
  | [d1, d2] => { results := [.lit (.bool true)], args := [d1, d2] }
  | _ => none }
def fnExactSlideMayRow : OpenClaim := { program := "ytenblaghbolabaa", sum := "5e8dbfdf20e5fade9b45b0470922f037156fefeed2405b5e6132bb61752d0c85", func := "loop.example/parkinghouse/laws.FnExactSlideMay", spec := "fnExactSlideMay", apart := false }
def FnExactSlideMaySaid : Prop := fnExactSlideMayRow.holds Try.pinned (OpenSpec.ofChange fnExactSlideMaySpec)

/-- ITS FALSE NEIGHBOUR: 'it returns false'. Refute it at one input. -/
def fnExactSlideMayWrong : ChangeSpec := { name := "fnExactSlideMay", fn := fun _ => fun
  | [d1, d2] => { results := [.lit (.bool false)], args := [d1, d2] }
  | _ => none }
def FnExactSlideMayWrongFalsely : Prop := fnExactSlideMayRow.holds Try.pinned (OpenSpec.ofChange fnExactSlideMayWrong)

/-- 'laws.FnExactHallFree': WHATEVER THE INPUT: true; the input reads as it did. -/
def fnExactHallFreeSpec : ChangeSpec := { name := "fnExactHallFree", fn := fun _ => fun
  | [d] => { results := [.lit (.bool true)], args := [d] }
  | _ => none }
def fnExactHallFreeRow : OpenClaim := { program := "ytenblaghbolabaa", sum := "5e8dbfdf20e5fade9b45b0470922f037156fefeed2405b5e6132bb61752d0c85", func := "loop.example/parkinghouse/laws.FnExactHallFree", spec := "fnExactHallFree", apart := false }
def FnExactHallFreeSaid : Prop := fnExactHallFreeRow.holds Try.pinned (OpenSpec.ofChange fnExactHallFreeSpec)

/-- ITS FALSE NEIGHBOUR: 'it returns false'. Refute it at one input. -/
def fnExactHallFreeWrong : ChangeSpec := { name := "fnExactHallFree", fn := fun _ => fun
  | [d] => { results := [.lit (.bool false)], args := [d] }
  | _ => none }
def FnExactHallFreeWrongFalsely : Prop := fnExactHallFreeRow.holds Try.pinned (OpenSpec.ofChange fnExactHallFreeWrong)

/-- 'laws.FnExactCellsBeside': WHATEVER THE INPUT: true; the input reads as it did. -/
def fnExactCellsBesideSpec : ChangeSpec := { name := "fnExactCellsBeside", fn := fun _ => fun
  | [d1, d2] => { results := [.lit (.bool true)], args := [d1, d2] }
  | _ => none }
def fnExactCellsBesideRow : OpenClaim := { program := "ytenblaghbolabaa", sum := "5e8dbfdf20e5fade9b45b0470922f037156fefeed2405b5e6132bb61752d0c85", func := "loop.example/parkinghouse/laws.FnExactCellsBeside", spec := "fnExactCellsBeside", apart := false }
def FnExactCellsBesideSaid : Prop := fnExactCellsBesideRow.holds Try.pinned (OpenSpec.ofChange fnExactCellsBesideSpec)

/-- ITS FALSE NEIGHBOUR: 'it returns false'. Refute it at one input. -/
def fnExactCellsBesideWrong : ChangeSpec := { name := "fnExactCellsBeside", fn := fun _ => fun
  | [d1, d2] => { results := [.lit (.bool false)], args := [d1, d2] }
  | _ => none }
def FnExactCellsBesideWrongFalsely : Prop := fnExactCellsBesideRow.holds Try.pinned (OpenSpec.ofChange fnExactCellsBesideWrong)

/-- 'laws.FnExactHallTake': WHATEVER THE INPUT: true; the input reads as it did. -/
def fnExactHallTakeSpec : ChangeSpec := { name := "fnExactHallTake", fn := fun _ => fun
  | [d1, d2] => { results := [.lit (.bool true)], args := [d1, d2] }
  | _ => none }
def fnExactHallTakeRow : OpenClaim := { program := "ytenblaghbolabaa", sum := "5e8dbfdf20e5fade9b45b0470922f037156fefeed2405b5e6132bb61752d0c85", func := "loop.example/parkinghouse/laws.FnExactHallTake", spec := "fnExactHallTake", apart := false }
def FnExactHallTakeSaid : Prop := fnExactHallTakeRow.holds Try.pinned (OpenSpec.ofChange fnExactHallTakeSpec)

/-- ITS FALSE NEIGHBOUR: 'it returns false'. Refute it at one input. -/
def fnExactHallTakeWrong : ChangeSpec := { name := "fnExactHallTake", fn := fun _ => fun
  | [d1, d2] => { results := [.lit (.bool false)], args := [d1, d2] }
  | _ => none }
def FnExactHallTakeWrongFalsely : Prop := fnExactHallTakeRow.holds Try.pinned (OpenSpec.ofChange fnExactHallTakeWrong)

/-- 'laws.FnExactHallTurn': WHATEVER THE INPUT: true; the input reads as it did. -/
def fnExactHallTurnSpec : ChangeSpec := { name := "fnExactHallTurn", fn := fun _ => fun
  | [d] => { results := [.lit (.bool true)], args := [d] }
  | _ => none }
def fnExactHallTurnRow : OpenClaim := { program := "ytenblaghbolabaa", sum := "5e8dbfdf20e5fade9b45b0470922f037156fefeed2405b5e6132bb61752d0c85", func := "loop.example/parkinghouse/laws.FnExactHallTurn", spec := "fnExactHallTurn", apart := false }
def FnExactHallTurnSaid : Prop := fnExactHallTurnRow.holds Try.pinned (OpenSpec.ofChange fnExactHallTurnSpec)

/-- ITS FALSE NEIGHBOUR: 'it returns false'. Refute it at one input. -/
def fnExactHallTurnWrong : ChangeSpec := { name := "fnExactHallTurn", fn := fun _ => fun
  | [d] => { results := [.lit (.bool false)], args := [d] }
  | _ => none }
def FnExactHallTurnWrongFalsely : Prop := fnExactHallTurnRow.holds Try.pinned (OpenSpec.ofChange fnExactHallTurnWrong)

/-- 'laws.FnExactHallPut': WHATEVER THE INPUT: true; the input reads as it did. -/
def fnExactHallPutSpec : ChangeSpec := { name := "fnExactHallPut", fn := fun _ => fun
  | [d1, d2, d3] => { results := [.lit (.bool true)], args := [d1, d2, d3] }
  | _ => none }
def fnExactHallPutRow : OpenClaim := { program := "ytenblaghbolabaa", sum := "5e8dbfdf20e5fade9b45b0470922f037156fefeed2405b5e6132bb61752d0c85", func := "loop.example/parkinghouse/laws.FnExactHallPut", spec := "fnExactHallPut", apart := false }
def FnExactHallPutSaid : Prop := fnExactHallPutRow.holds Try.pinned (OpenSpec.ofChange fnExactHallPutSpec)

/-- ITS FALSE NEIGHBOUR: 'it returns false'. Refute it at one input. -/
def fnExactHallPutWrong : ChangeSpec := { name := "fnExactHallPut", fn := fun _ => fun
  | [d1, d2, d3] => { results := [.lit (.bool false)], args := [d1, d2, d3] }
  | _ => none }
def FnExactHallPutWrongFalsely : Prop := fnExactHallPutRow.holds Try.pinned (OpenSpec.ofChange fnExactHallPutWrong)

/-- 'laws.FnExactParityOf': WHATEVER THE INPUT: true; the input reads as it did. -/
def fnExactParityOfSpec : ChangeSpec := { name := "fnExactParityOf", fn := fun _ => fun
  | [d] => { results := [.lit (.bool true)], args := [d] }
  | _ => none }
def fnExactParityOfRow : OpenClaim := { program := "ytenblaghbolabaa", sum := "5e8dbfdf20e5fade9b45b0470922f037156fefeed2405b5e6132bb61752d0c85", func := "loop.example/parkinghouse/laws.FnExactParityOf", spec := "fnExactParityOf", apart := false }
def FnExactParityOfSaid : Prop := fnExactParityOfRow.holds Try.pinned (OpenSpec.ofChange fnExactParityOfSpec)

/-- ITS FALSE NEIGHBOUR: 'it returns false'. Refute it at one input. -/
def fnExactParityOfWrong : ChangeSpec := { name := "fnExactParityOf", fn := fun _ => fun
  | [d] => { results := [.lit (.bool false)], args := [d] }
  | _ => none }
def FnExactParityOfWrongFalsely : Prop := fnExactParityOfRow.holds Try.pinned (OpenSpec.ofChange fnExactParityOfWrong)

/-- 'laws.FnExactSlideDo': WHATEVER THE INPUT: true; the input reads as it did. -/
def fnExactSlideDoSpec : ChangeSpec := { name := "fnExactSlideDo", fn := fun _ => fun
  | [d1, d2] => { results := [.lit (.bool true)], args := [d1, d2] }
  | _ => none }
def fnExactSlideDoRow : OpenClaim := { program := "ytenblaghbolabaa", sum := "5e8dbfdf20e5fade9b45b0470922f037156fefeed2405b5e6132bb61752d0c85", func := "loop.example/parkinghouse/laws.FnExactSlideDo", spec := "fnExactSlideDo", apart := false }
def FnExactSlideDoSaid : Prop := fnExactSlideDoRow.holds Try.pinned (OpenSpec.ofChange fnExactSlideDoSpec)

/-- ITS FALSE NEIGHBOUR: 'it returns false'. Refute it at one input. -/
def fnExactSlideDoWrong : ChangeSpec := { name := "fnExactSlideDo", fn := fun _ => fun
  | [d1, d2] => { results := [.lit (.bool false)], args := [d1, d2] }
  | _ => none }
def FnExactSlideDoWrongFalsely : Prop := fnExactSlideDoRow.holds Try.pinned (OpenSpec.ofChange fnExactSlideDoWrong)

/-- 'laws.FnExactSlidesAll': WHATEVER THE INPUT: true; the input reads as it did. -/
def fnExactSlidesAllSpec : ChangeSpec := { name := "fnExactSlidesAll", fn := fun _ => fun
  | [d] => { results := [.lit (.bool true)], args := [d] }
  | _ => none }
def fnExactSlidesAllRow : OpenClaim := { program := "ytenblaghbolabaa", sum := "5e8dbfdf20e5fade9b45b0470922f037156fefeed2405b5e6132bb61752d0c85", func := "loop.example/parkinghouse/laws.FnExactSlidesAll", spec := "fnExactSlidesAll", apart := false }
def FnExactSlidesAllSaid : Prop := fnExactSlidesAllRow.holds Try.pinned (OpenSpec.ofChange fnExactSlidesAllSpec)

/-- ITS FALSE NEIGHBOUR: 'it returns false'. Refute it at one input. -/
def fnExactSlidesAllWrong : ChangeSpec := { name := "fnExactSlidesAll", fn := fun _ => fun
  | [d] => { results := [.lit (.bool false)], args := [d] }
  | _ => none }
def FnExactSlidesAllWrongFalsely : Prop := fnExactSlidesAllRow.holds Try.pinned (OpenSpec.ofChange fnExactSlidesAllWrong)

/-- 'laws.FnExactWayCells': WHATEVER THE INPUT: true; the input reads as it did. -/
def fnExactWayCellsSpec : ChangeSpec := { name := "fnExactWayCells", fn := fun _ => fun
  | [d1, d2, d3, d4] => { results := [.lit (.bool true)], args := [d1, d2, d3, d4] }
  | _ => none }
def fnExactWayCellsRow : OpenClaim := { program := "ytenblaghbolabaa", sum := "5e8dbfdf20e5fade9b45b0470922f037156fefeed2405b5e6132bb61752d0c85", func := "loop.example/parkinghouse/laws.FnExactWayCells", spec := "fnExactWayCells", apart := false }
def FnExactWayCellsSaid : Prop := fnExactWayCellsRow.holds Try.pinned (OpenSpec.ofChange fnExactWayCellsSpec)

/-- ITS FALSE NEIGHBOUR: 'it returns false'. Refute it at one input. -/
def fnExactWayCellsWrong : ChangeSpec := { name := "fnExactWayCells", fn := fun _ => fun
  | [d1, d2, d3, d4] => { results := [.lit (.bool false)], args := [d1, d2, d3, d4] }
  | _ => none }
def FnExactWayCellsWrongFalsely : Prop := fnExactWayCellsRow.holds Try.pinned (OpenSpec.ofChange fnExactWayCellsWrong)

/-- 'laws.FnExactHoleSlides': WHATEVER THE INPUT: true; the input reads as it did. -/
def fnExactHoleSlidesSpec : ChangeSpec := { name := "fnExactHoleSlides", fn := fun _ => fun
  | [d1, d2] => { results := [.lit (.bool true)], args := [d1, d2] }
  | _ => none }
def fnExactHoleSlidesRow : OpenClaim := { program := "ytenblaghbolabaa", sum := "5e8dbfdf20e5fade9b45b0470922f037156fefeed2405b5e6132bb61752d0c85", func := "loop.example/parkinghouse/laws.FnExactHoleSlides", spec := "fnExactHoleSlides", apart := false }
def FnExactHoleSlidesSaid : Prop := fnExactHoleSlidesRow.holds Try.pinned (OpenSpec.ofChange fnExactHoleSlidesSpec)

/-- ITS FALSE NEIGHBOUR: 'it returns false'. Refute it at one input. -/
def fnExactHoleSlidesWrong : ChangeSpec := { name := "fnExactHoleSlides", fn := fun _ => fun
  | [d1, d2] => { results := [.lit (.bool false)], args := [d1, d2] }
  | _ => none }
def FnExactHoleSlidesWrongFalsely : Prop := fnExactHoleSlidesRow.holds Try.pinned (OpenSpec.ofChange fnExactHoleSlidesWrong)

/- THE SECOND FORM. 'bulk': how many values and letters a reading holds, each counted each time it is reached (what is shared counts as often as it is met; a slice's spare places count too). A statement '..UptoSaid' is the law's where the arguments, and the package variables that the reading takes, are together of bulk at most 1048576: NARROWER than '..Said'. Prove '..Said' where nothing that the law and all that it calls make is longer than what came in: it says more and counts as full. Else prove '..UptoSaid'. A law counts once. -/
mutual
def uptoBulk {H : Type} : DataW H → Nat
  | .lit (.string bytes) => bytes.length + 1
  | .lit _ => 1
  | .nil => 1
  | .ptr d => uptoBulk d + 1
  | .slice elems spare => uptoBulkAll elems + uptoBulkAll spare + 1
  | .agg parts => uptoBulkAll parts + 1
  | .iface _ d => uptoBulk d + 1
  | .map entries => uptoBulkEntries entries + 1
  | .held _ => 1
def uptoBulkAll {H : Type} : List (DataW H) → Nat
  | [] => 0
  | d :: r => uptoBulk d + uptoBulkAll r
def uptoBulkEntries {H : Type} : List (Lit × DataW H) → Nat
  | [] => 0
  | x :: r => uptoBulkEntry x + uptoBulkEntries r
def uptoBulkEntry {H : Type} : Lit × DataW H → Nat
  | (.string bytes, d) => bytes.length + uptoBulk d + 1
  | (_, d) => uptoBulk d + 1
 end
def uptoSmall : (H : Type) → List (DataW H) → Bool := fun _ ds => decide (uptoBulkAll ds ≤ 1048576)
def OpenSpec.upto (s : _root_.Go.ChangeSpec) : _root_.Go.OpenSpec := { _root_.Go.OpenSpec.ofChange s with cond := some uptoSmall }

/-- 'laws.FnExactCellsApart', WHERE WHAT IT READS IS OF BULK AT MOST 1048576: true; the input reads as it did. -/
def fnExactCellsApartUptoRow : OpenClaim := { program := "ytenblaghbolabaa", sum := "5e8dbfdf20e5fade9b45b0470922f037156fefeed2405b5e6132bb61752d0c85", func := "loop.example/parkinghouse/laws.FnExactCellsApart", spec := "fnExactCellsApart", apart := false, narrowed := true }
def FnExactCellsApartUptoSaid : Prop := fnExactCellsApartUptoRow.holds Try.pinned (OpenSpec.upto fnExactCellsApartSpec)

/-- 'laws.FnExactSlideMay', WHERE WHAT IT READS IS OF BULK AT MOST 1048576: true; the input reads as it did. -/
def fnExactSlideMayUptoRow : OpenClaim := { program := "ytenblaghbolabaa", sum := "5e8dbfdf20e5fade9b45b0470922f037156fefeed2405b5e6132bb61752d0c85", func := "loop.example/parkinghouse/laws.FnExactSlideMay", spec := "fnExactSlideMay", apart := false, narrowed := true }
def FnExactSlideMayUptoSaid : Prop := fnExactSlideMayUptoRow.holds Try.pinned (OpenSpec.upto fnExactSlideMaySpec)

/-- 'laws.FnExactHallFree', WHERE WHAT IT READS IS OF BULK AT MOST 1048576: true; the input reads as it did. -/
def fnExactHallFreeUptoRow : OpenClaim := { program := "ytenblaghbolabaa", sum := "5e8dbfdf20e5fade9b45b0470922f037156fefeed2405b5e6132bb61752d0c85", func := "loop.example/parkinghouse/laws.FnExactHallFree", spec := "fnExactHallFree", apart := false, narrowed := true }
def FnExactHallFreeUptoSaid : Prop := fnExactHallFreeUptoRow.holds Try.pinned (OpenSpec.upto fnExactHallFreeSpec)

/-- 'laws.FnExactCellsBeside', WHERE WHAT IT READS IS OF BULK AT MOST 1048576: true; the input reads as it did. -/
def fnExactCellsBesideUptoRow : OpenClaim := { program := "ytenblaghbolabaa", sum := "5e8dbfdf20e5fade9b45b0470922f037156fefeed2405b5e6132bb61752d0c85", func := "loop.example/parkinghouse/laws.FnExactCellsBeside", spec := "fnExactCellsBeside", apart := false, narrowed := true }
def FnExactCellsBesideUptoSaid : Prop := fnExactCellsBesideUptoRow.holds Try.pinned (OpenSpec.upto fnExactCellsBesideSpec)

/-- 'laws.FnExactHallTake', WHERE WHAT IT READS IS OF BULK AT MOST 1048576: true; the input reads as it did. -/
def fnExactHallTakeUptoRow : OpenClaim := { program := "ytenblaghbolabaa", sum := "5e8dbfdf20e5fade9b45b0470922f037156fefeed2405b5e6132bb61752d0c85", func := "loop.example/parkinghouse/laws.FnExactHallTake", spec := "fnExactHallTake", apart := false, narrowed := true }
def FnExactHallTakeUptoSaid : Prop := fnExactHallTakeUptoRow.holds Try.pinned (OpenSpec.upto fnExactHallTakeSpec)

/-- 'laws.FnExactHallTurn', WHERE WHAT IT READS IS OF BULK AT MOST 1048576: true; the input reads as it did. -/
def fnExactHallTurnUptoRow : OpenClaim := { program := "ytenblaghbolabaa", sum := "5e8dbfdf20e5fade9b45b0470922f037156fefeed2405b5e6132bb61752d0c85", func := "loop.example/parkinghouse/laws.FnExactHallTurn", spec := "fnExactHallTurn", apart := false, narrowed := true }
def FnExactHallTurnUptoSaid : Prop := fnExactHallTurnUptoRow.holds Try.pinned (OpenSpec.upto fnExactHallTurnSpec)

/-- 'laws.FnExactHallPut', WHERE WHAT IT READS IS OF BULK AT MOST 1048576: true; the input reads as it did. -/
def fnExactHallPutUptoRow : OpenClaim := { program := "ytenblaghbolabaa", sum := "5e8dbfdf20e5fade9b45b0470922f037156fefeed2405b5e6132bb61752d0c85", func := "loop.example/parkinghouse/laws.FnExactHallPut", spec := "fnExactHallPut", apart := false, narrowed := true }
def FnExactHallPutUptoSaid : Prop := fnExactHallPutUptoRow.holds Try.pinned (OpenSpec.upto fnExactHallPutSpec)

/-- 'laws.FnExactParityOf', WHERE WHAT IT READS IS OF BULK AT MOST 1048576: true; the input reads as it did. -/
def fnExactParityOfUptoRow : OpenClaim := { program := "ytenblaghbolabaa", sum := "5e8dbfdf20e5fade9b45b0470922f037156fefeed2405b5e6132bb61752d0c85", func := "loop.example/parkinghouse/laws.FnExactParityOf", spec := "fnExactParityOf", apart := false, narrowed := true }
def FnExactParityOfUptoSaid : Prop := fnExactParityOfUptoRow.holds Try.pinned (OpenSpec.upto fnExactParityOfSpec)

/-- 'laws.FnExactSlideDo', WHERE WHAT IT READS IS OF BULK AT MOST 1048576: true; the input reads as it did. -/
def fnExactSlideDoUptoRow : OpenClaim := { program := "ytenblaghbolabaa", sum := "5e8dbfdf20e5fade9b45b0470922f037156fefeed2405b5e6132bb61752d0c85", func := "loop.example/parkinghouse/laws.FnExactSlideDo", spec := "fnExactSlideDo", apart := false, narrowed := true }
def FnExactSlideDoUptoSaid : Prop := fnExactSlideDoUptoRow.holds Try.pinned (OpenSpec.upto fnExactSlideDoSpec)

/-- 'laws.FnExactSlidesAll', WHERE WHAT IT READS IS OF BULK AT MOST 1048576: true; the input reads as it did. -/
def fnExactSlidesAllUptoRow : OpenClaim := { program := "ytenblaghbolabaa", sum := "5e8dbfdf20e5fade9b45b0470922f037156fefeed2405b5e6132bb61752d0c85", func := "loop.example/parkinghouse/laws.FnExactSlidesAll", spec := "fnExactSlidesAll", apart := false, narrowed := true }
def FnExactSlidesAllUptoSaid : Prop := fnExactSlidesAllUptoRow.holds Try.pinned (OpenSpec.upto fnExactSlidesAllSpec)

/-- 'laws.FnExactWayCells', WHERE WHAT IT READS IS OF BULK AT MOST 1048576: true; the input reads as it did. -/
def fnExactWayCellsUptoRow : OpenClaim := { program := "ytenblaghbolabaa", sum := "5e8dbfdf20e5fade9b45b0470922f037156fefeed2405b5e6132bb61752d0c85", func := "loop.example/parkinghouse/laws.FnExactWayCells", spec := "fnExactWayCells", apart := false, narrowed := true }
def FnExactWayCellsUptoSaid : Prop := fnExactWayCellsUptoRow.holds Try.pinned (OpenSpec.upto fnExactWayCellsSpec)

/-- 'laws.FnExactHoleSlides', WHERE WHAT IT READS IS OF BULK AT MOST 1048576: true; the input reads as it did. -/
def fnExactHoleSlidesUptoRow : OpenClaim := { program := "ytenblaghbolabaa", sum := "5e8dbfdf20e5fade9b45b0470922f037156fefeed2405b5e6132bb61752d0c85", func := "loop.example/parkinghouse/laws.FnExactHoleSlides", spec := "fnExactHoleSlides", apart := false, narrowed := true }
def FnExactHoleSlidesUptoSaid : Prop := fnExactHoleSlidesUptoRow.holds Try.pinned (OpenSpec.upto fnExactHoleSlidesSpec)

end Rows
end Go.Proofs.Ytenblaghbolabaa
