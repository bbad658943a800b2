/-
  NARROWER THAN 'FOR EVERY INPUT', by the rows' own cells (each row's printed sentence says how): FnHallValid: laid · FnCellAt: laid · FnCellPlace: laid · FnCellsApart: laid · FnSlideMay: laid · FnSlidesBack: laid · FnCellsBeside: laid · FnHallTake: laid · FnHallPut: laid · FnHallFree: laid · FnHallEmpty: laid · FnHallFind: laid.
  DERIVED. THE GIVEN ROWS OF THIS SEAT. 12 by the template 'for every input the law returns true; each argument reads behind the call as it read before'; 0 by the template 'total and deterministic' (their statements: YtmkdafgcggpahaaDoorTotals.lean).
  GIVEN WITH THE SEED: the statements are not yours to turn. If you find one false, say at which input.
  Laid BY PROGRAM, IN A SANDBOX (cutbox-rows.mjs): the forced cells as the released guide's own fill.sh prints them over the translation be44cccd74b177e4… (all of the seat's roots in one cut). By AI agents, Wed Nov 11 2026. No macro, syntax, notation, axiom, sorry.
-/
import Derived.Test.YtmkdafgcggpahaaDoorChecked
import GoSem.Claim
import GoSem.ClaimJoined
import GoSem.ClaimMapViews
import Derived.JoinedTies
import Derived.KernelRfl
namespace Go.Proofs.YtmkdafgcggpahaaDoor
/- THE CELL 'sum', in the pinned program and in every row, IS THE sha256 OF THE DUMP (.gsa) THAT YtmkdafgcggpahaaDoorProg.lean LOADS. Nothing in Lean hashes anything: it is a label: what it is worth is what the hold of that sum in a sandbox is worth. -/
noncomputable def Tryd.pinned : Pinned := { name := "ytmkdafgcggpahaadoor", sum := "be44cccd74b177e431487db0ee6be3a7ea1af80eb8bf27defabb668f6cc973cf", checked := Tryd.checked }
namespace Rows
def none {H : Type} : Left H := { results := [], args := [] }

/- WHAT THE LISTED PACKAGE-LEVEL VARIABLES READ AS WHEN THE CALL BEGINS. Each datum BY PROGRAM (the guide's laid-datum.mjs) off the statement by which the dump's own 'gosem.cut.vars' lays the variable. In a bare row this is a premise. The card (YtmkdafgcggpahaaDoorCards.lean) ties it to the program's text. -/
def laid_math_bits_deBruijn32tab {H : Type} : DataW H := .agg [.lit (.int .u8 0), .lit (.int .u8 1), .lit (.int .u8 28), .lit (.int .u8 2), .lit (.int .u8 29), .lit (.int .u8 14), .lit (.int .u8 24), .lit (.int .u8 3), .lit (.int .u8 30), .lit (.int .u8 22), .lit (.int .u8 20), .lit (.int .u8 15), .lit (.int .u8 25), .lit (.int .u8 17), .lit (.int .u8 4), .lit (.int .u8 8), .lit (.int .u8 31), .lit (.int .u8 27), .lit (.int .u8 13), .lit (.int .u8 23), .lit (.int .u8 21), .lit (.int .u8 19), .lit (.int .u8 16), .lit (.int .u8 7), .lit (.int .u8 26), .lit (.int .u8 12), .lit (.int .u8 18), .lit (.int .u8 6), .lit (.int .u8 11), .lit (.int .u8 5), .lit (.int .u8 10), .lit (.int .u8 9)]
def laid_math_bits_deBruijn64tab {H : Type} : DataW H := .agg [.lit (.int .u8 0), .lit (.int .u8 1), .lit (.int .u8 56), .lit (.int .u8 2), .lit (.int .u8 57), .lit (.int .u8 49), .lit (.int .u8 28), .lit (.int .u8 3), .lit (.int .u8 61), .lit (.int .u8 58), .lit (.int .u8 42), .lit (.int .u8 50), .lit (.int .u8 38), .lit (.int .u8 29), .lit (.int .u8 17), .lit (.int .u8 4), .lit (.int .u8 62), .lit (.int .u8 47), .lit (.int .u8 59), .lit (.int .u8 36), .lit (.int .u8 45), .lit (.int .u8 43), .lit (.int .u8 51), .lit (.int .u8 22), .lit (.int .u8 53), .lit (.int .u8 39), .lit (.int .u8 33), .lit (.int .u8 30), .lit (.int .u8 24), .lit (.int .u8 18), .lit (.int .u8 12), .lit (.int .u8 5), .lit (.int .u8 63), .lit (.int .u8 55), .lit (.int .u8 48), .lit (.int .u8 27), .lit (.int .u8 60), .lit (.int .u8 41), .lit (.int .u8 37), .lit (.int .u8 16), .lit (.int .u8 46), .lit (.int .u8 35), .lit (.int .u8 44), .lit (.int .u8 21), .lit (.int .u8 52), .lit (.int .u8 32), .lit (.int .u8 23), .lit (.int .u8 11), .lit (.int .u8 54), .lit (.int .u8 26), .lit (.int .u8 40), .lit (.int .u8 15), .lit (.int .u8 34), .lit (.int .u8 20), .lit (.int .u8 31), .lit (.int .u8 10), .lit (.int .u8 25), .lit (.int .u8 14), .lit (.int .u8 19), .lit (.int .u8 9), .lit (.int .u8 13), .lit (.int .u8 8), .lit (.int .u8 7), .lit (.int .u8 6)]
def laid_internal_strconv_uint64pow10 {H : Type} : DataW H := .agg [.lit (.int .u64 1), .lit (.int .u64 10), .lit (.int .u64 100), .lit (.int .u64 1000), .lit (.int .u64 10000), .lit (.int .u64 100000), .lit (.int .u64 1000000), .lit (.int .u64 10000000), .lit (.int .u64 100000000), .lit (.int .u64 1000000000), .lit (.int .u64 10000000000), .lit (.int .u64 100000000000), .lit (.int .u64 1000000000000), .lit (.int .u64 10000000000000), .lit (.int .u64 100000000000000), .lit (.int .u64 1000000000000000), .lit (.int .u64 10000000000000000), .lit (.int .u64 100000000000000000), .lit (.int .u64 1000000000000000000), .lit (.int .u64 10000000000000000000)]

/-- 'laws.FnHallValid': WHATEVER THE INPUT: true; the input reads as it did. -/
def fnHallValidSpec : ChangeSpec := { name := "fnHallValid", fn := fun _ => fun
  | [d] => { results := [.lit (.bool true)], args := [d] }
  | _ => none }
def fnHallValidRow : OpenClaim := { program := "ytmkdafgcggpahaadoor", sum := "be44cccd74b177e431487db0ee6be3a7ea1af80eb8bf27defabb668f6cc973cf", func := "loop.example/parkinghouse/laws.FnHallValid", spec := "fnHallValid", inPlace := ["internal/abi.NoEscape"], named := ["internal/strconv.uint64pow10", "math/bits.deBruijn32tab", "math/bits.deBruijn64tab"], apart := false, laid := [("math/bits.deBruijn32tab", laid_math_bits_deBruijn32tab), ("math/bits.deBruijn64tab", laid_math_bits_deBruijn64tab), ("internal/strconv.uint64pow10", laid_internal_strconv_uint64pow10)] }
def FnHallValidSaid : Prop := fnHallValidRow.holds Tryd.pinned (OpenSpec.ofChange fnHallValidSpec)

/-- ITS FALSE NEIGHBOUR: 'it returns false'. Refute it at one input. -/
def fnHallValidWrong : ChangeSpec := { name := "fnHallValid", fn := fun _ => fun
  | [d] => { results := [.lit (.bool false)], args := [d] }
  | _ => none }
def FnHallValidWrongFalsely : Prop := fnHallValidRow.holds Tryd.pinned (OpenSpec.ofChange fnHallValidWrong)

/-- 'laws.FnCellAt': WHATEVER THE INPUT: true; the input reads as it did. -/
def fnCellAtSpec : ChangeSpec := { name := "fnCellAt", fn := fun _ => fun
  | [d] => { results := [.lit (.bool true)], args := [d] }
  | _ => none }
def fnCellAtRow : OpenClaim := { program := "ytmkdafgcggpahaadoor", sum := "be44cccd74b177e431487db0ee6be3a7ea1af80eb8bf27defabb668f6cc973cf", func := "loop.example/parkinghouse/laws.FnCellAt", spec := "fnCellAt", inPlace := ["internal/abi.NoEscape"], named := ["internal/strconv.uint64pow10", "math/bits.deBruijn32tab", "math/bits.deBruijn64tab"], apart := false, laid := [("math/bits.deBruijn32tab", laid_math_bits_deBruijn32tab), ("math/bits.deBruijn64tab", laid_math_bits_deBruijn64tab), ("internal/strconv.uint64pow10", laid_internal_strconv_uint64pow10)] }
def FnCellAtSaid : Prop := fnCellAtRow.holds Tryd.pinned (OpenSpec.ofChange fnCellAtSpec)

/-- ITS FALSE NEIGHBOUR: 'it returns false'. Refute it at one input. -/
def fnCellAtWrong : ChangeSpec := { name := "fnCellAt", fn := fun _ => fun
  | [d] => { results := [.lit (.bool false)], args := [d] }
  | _ => none }
def FnCellAtWrongFalsely : Prop := fnCellAtRow.holds Tryd.pinned (OpenSpec.ofChange fnCellAtWrong)

/-- 'laws.FnCellPlace': WHATEVER THE INPUT: true; the input reads as it did. -/
def fnCellPlaceSpec : ChangeSpec := { name := "fnCellPlace", fn := fun _ => fun
  | [d] => { results := [.lit (.bool true)], args := [d] }
  | _ => none }
def fnCellPlaceRow : OpenClaim := { program := "ytmkdafgcggpahaadoor", sum := "be44cccd74b177e431487db0ee6be3a7ea1af80eb8bf27defabb668f6cc973cf", func := "loop.example/parkinghouse/laws.FnCellPlace", spec := "fnCellPlace", inPlace := ["internal/abi.NoEscape"], named := ["internal/strconv.uint64pow10", "math/bits.deBruijn32tab", "math/bits.deBruijn64tab"], apart := false, laid := [("math/bits.deBruijn32tab", laid_math_bits_deBruijn32tab), ("math/bits.deBruijn64tab", laid_math_bits_deBruijn64tab), ("internal/strconv.uint64pow10", laid_internal_strconv_uint64pow10)] }
def FnCellPlaceSaid : Prop := fnCellPlaceRow.holds Tryd.pinned (OpenSpec.ofChange fnCellPlaceSpec)

/-- ITS FALSE NEIGHBOUR: 'it returns false'. Refute it at one input. -/
def fnCellPlaceWrong : ChangeSpec := { name := "fnCellPlace", fn := fun _ => fun
  | [d] => { results := [.lit (.bool false)], args := [d] }
  | _ => none }
def FnCellPlaceWrongFalsely : Prop := fnCellPlaceRow.holds Tryd.pinned (OpenSpec.ofChange fnCellPlaceWrong)

/-- 'laws.FnCellsApart': WHATEVER THE INPUT: true; the input reads as it did. -/
def fnCellsApartSpec : ChangeSpec := { name := "fnCellsApart", fn := fun _ => fun
  | [d] => { results := [.lit (.bool true)], args := [d] }
  | _ => none }
def fnCellsApartRow : OpenClaim := { program := "ytmkdafgcggpahaadoor", sum := "be44cccd74b177e431487db0ee6be3a7ea1af80eb8bf27defabb668f6cc973cf", func := "loop.example/parkinghouse/laws.FnCellsApart", spec := "fnCellsApart", inPlace := ["internal/abi.NoEscape"], named := ["internal/strconv.uint64pow10", "math/bits.deBruijn32tab", "math/bits.deBruijn64tab"], apart := false, laid := [("math/bits.deBruijn32tab", laid_math_bits_deBruijn32tab), ("math/bits.deBruijn64tab", laid_math_bits_deBruijn64tab), ("internal/strconv.uint64pow10", laid_internal_strconv_uint64pow10)] }
def FnCellsApartSaid : Prop := fnCellsApartRow.holds Tryd.pinned (OpenSpec.ofChange fnCellsApartSpec)

/-- ITS FALSE NEIGHBOUR: 'it returns false'. Refute it at one input. -/
def fnCellsApartWrong : ChangeSpec := { name := "fnCellsApart", fn := fun _ => fun
  | [d] => { results := [.lit (.bool false)], args := [d] }
  | _ => none }
def FnCellsApartWrongFalsely : Prop := fnCellsApartRow.holds Tryd.pinned (OpenSpec.ofChange fnCellsApartWrong)

/-- 'laws.FnSlideMay': WHATEVER THE INPUT: true; the input reads as it did. -/
def fnSlideMaySpec : ChangeSpec := { name := "fnSlideMay", fn := fun _ => fun
  | [d] => { results := [.lit (.bool true)], args := [d] }
  | _ => none }
def fnSlideMayRow : OpenClaim := { program := "ytmkdafgcggpahaadoor", sum := "be44cccd74b177e431487db0ee6be3a7ea1af80eb8bf27defabb668f6cc973cf", func := "loop.example/parkinghouse/laws.FnSlideMay", spec := "fnSlideMay", inPlace := ["internal/abi.NoEscape"], named := ["internal/strconv.uint64pow10", "math/bits.deBruijn32tab", "math/bits.deBruijn64tab"], apart := false, laid := [("math/bits.deBruijn32tab", laid_math_bits_deBruijn32tab), ("math/bits.deBruijn64tab", laid_math_bits_deBruijn64tab), ("internal/strconv.uint64pow10", laid_internal_strconv_uint64pow10)] }
def FnSlideMaySaid : Prop := fnSlideMayRow.holds Tryd.pinned (OpenSpec.ofChange fnSlideMaySpec)

/-- ITS FALSE NEIGHBOUR: 'it returns false'. Refute it at one input. -/
def fnSlideMayWrong : ChangeSpec := { name := "fnSlideMay", fn := fun _ => fun
  | [d] => { results := [.lit (.bool false)], args := [d] }
  | _ => none }
def FnSlideMayWrongFalsely : Prop := fnSlideMayRow.holds Tryd.pinned (OpenSpec.ofChange fnSlideMayWrong)

/-- 'laws.FnSlidesBack': WHATEVER THE INPUT: true; the input reads as it did. -/
def fnSlidesBackSpec : ChangeSpec := { name := "fnSlidesBack", fn := fun _ => fun
  | [d] => { results := [.lit (.bool true)], args := [d] }
  | _ => none }
def fnSlidesBackRow : OpenClaim := { program := "ytmkdafgcggpahaadoor", sum := "be44cccd74b177e431487db0ee6be3a7ea1af80eb8bf27defabb668f6cc973cf", func := "loop.example/parkinghouse/laws.FnSlidesBack", spec := "fnSlidesBack", inPlace := ["internal/abi.NoEscape"], named := ["internal/strconv.uint64pow10", "math/bits.deBruijn32tab", "math/bits.deBruijn64tab"], apart := false, laid := [("math/bits.deBruijn32tab", laid_math_bits_deBruijn32tab), ("math/bits.deBruijn64tab", laid_math_bits_deBruijn64tab), ("internal/strconv.uint64pow10", laid_internal_strconv_uint64pow10)] }
def FnSlidesBackSaid : Prop := fnSlidesBackRow.holds Tryd.pinned (OpenSpec.ofChange fnSlidesBackSpec)

/-- ITS FALSE NEIGHBOUR: 'it returns false'. Refute it at one input. -/
def fnSlidesBackWrong : ChangeSpec := { name := "fnSlidesBack", fn := fun _ => fun
  | [d] => { results := [.lit (.bool false)], args := [d] }
  | _ => none }
def FnSlidesBackWrongFalsely : Prop := fnSlidesBackRow.holds Tryd.pinned (OpenSpec.ofChange fnSlidesBackWrong)

/-- 'laws.FnCellsBeside': WHATEVER THE INPUT: true; the input reads as it did. -/
def fnCellsBesideSpec : ChangeSpec := { name := "fnCellsBeside", fn := fun _ => fun
  | [d] => { results := [.lit (.bool true)], args := [d] }
  | _ => none }
def fnCellsBesideRow : OpenClaim := { program := "ytmkdafgcggpahaadoor", sum := "be44cccd74b177e431487db0ee6be3a7ea1af80eb8bf27defabb668f6cc973cf", func := "loop.example/parkinghouse/laws.FnCellsBeside", spec := "fnCellsBeside", inPlace := ["internal/abi.NoEscape"], named := ["internal/strconv.uint64pow10", "math/bits.deBruijn32tab", "math/bits.deBruijn64tab"], apart := false, laid := [("math/bits.deBruijn32tab", laid_math_bits_deBruijn32tab), ("math/bits.deBruijn64tab", laid_math_bits_deBruijn64tab), ("internal/strconv.uint64pow10", laid_internal_strconv_uint64pow10)] }
def FnCellsBesideSaid : Prop := fnCellsBesideRow.holds Tryd.pinned (OpenSpec.ofChange fnCellsBesideSpec)

/-- ITS FALSE NEIGHBOUR: 'it returns false'. Refute it at one input. -/
def fnCellsBesideWrong : ChangeSpec := { name := "fnCellsBeside", fn := fun _ => fun
  | [d] => { results := [.lit (.bool false)], args := [d] }
  | _ => none }
def FnCellsBesideWrongFalsely : Prop := fnCellsBesideRow.holds Tryd.pinned (OpenSpec.ofChange fnCellsBesideWrong)

/-- 'laws.FnHallTake': WHATEVER THE INPUT: true; the input reads as it did. -/
def fnHallTakeSpec : ChangeSpec := { name := "fnHallTake", fn := fun _ => fun
  | [d] => { results := [.lit (.bool true)], args := [d] }
  | _ => none }
def fnHallTakeRow : OpenClaim := { program := "ytmkdafgcggpahaadoor", sum := "be44cccd74b177e431487db0ee6be3a7ea1af80eb8bf27defabb668f6cc973cf", func := "loop.example/parkinghouse/laws.FnHallTake", spec := "fnHallTake", inPlace := ["internal/abi.NoEscape"], named := ["internal/strconv.uint64pow10", "math/bits.deBruijn32tab", "math/bits.deBruijn64tab"], apart := false, laid := [("math/bits.deBruijn32tab", laid_math_bits_deBruijn32tab), ("math/bits.deBruijn64tab", laid_math_bits_deBruijn64tab), ("internal/strconv.uint64pow10", laid_internal_strconv_uint64pow10)] }
def FnHallTakeSaid : Prop := fnHallTakeRow.holds Tryd.pinned (OpenSpec.ofChange fnHallTakeSpec)

/-- ITS FALSE NEIGHBOUR: 'it returns false'. Refute it at one input. -/
def fnHallTakeWrong : ChangeSpec := { name := "fnHallTake", fn := fun _ => fun
  | [d] => { results := [.lit (.bool false)], args := [d] }
  | _ => none }
def FnHallTakeWrongFalsely : Prop := fnHallTakeRow.holds Tryd.pinned (OpenSpec.ofChange fnHallTakeWrong)

/-- 'laws.FnHallPut': WHATEVER THE INPUT: true; the input reads as it did. -/
def fnHallPutSpec : ChangeSpec := { name := "fnHallPut", fn := fun _ => fun
  | [d] => { results := [.lit (.bool true)], args := [d] }
  | _ => none }
def fnHallPutRow : OpenClaim := { program := "ytmkdafgcggpahaadoor", sum := "be44cccd74b177e431487db0ee6be3a7ea1af80eb8bf27defabb668f6cc973cf", func := "loop.example/parkinghouse/laws.FnHallPut", spec := "fnHallPut", inPlace := ["internal/abi.NoEscape"], named := ["internal/strconv.uint64pow10", "math/bits.deBruijn32tab", "math/bits.deBruijn64tab"], apart := false, laid := [("math/bits.deBruijn32tab", laid_math_bits_deBruijn32tab), ("math/bits.deBruijn64tab", laid_math_bits_deBruijn64tab), ("internal/strconv.uint64pow10", laid_internal_strconv_uint64pow10)] }
def FnHallPutSaid : Prop := fnHallPutRow.holds Tryd.pinned (OpenSpec.ofChange fnHallPutSpec)

/-- ITS FALSE NEIGHBOUR: 'it returns false'. Refute it at one input. -/
def fnHallPutWrong : ChangeSpec := { name := "fnHallPut", fn := fun _ => fun
  | [d] => { results := [.lit (.bool false)], args := [d] }
  | _ => none }
def FnHallPutWrongFalsely : Prop := fnHallPutRow.holds Tryd.pinned (OpenSpec.ofChange fnHallPutWrong)

/-- 'laws.FnHallFree': WHATEVER THE INPUT: true; the input reads as it did. -/
def fnHallFreeSpec : ChangeSpec := { name := "fnHallFree", fn := fun _ => fun
  | [d] => { results := [.lit (.bool true)], args := [d] }
  | _ => none }
def fnHallFreeRow : OpenClaim := { program := "ytmkdafgcggpahaadoor", sum := "be44cccd74b177e431487db0ee6be3a7ea1af80eb8bf27defabb668f6cc973cf", func := "loop.example/parkinghouse/laws.FnHallFree", spec := "fnHallFree", inPlace := ["internal/abi.NoEscape"], recurses := true, named := ["internal/strconv.uint64pow10", "math/bits.deBruijn32tab", "math/bits.deBruijn64tab"], apart := false, laid := [("math/bits.deBruijn32tab", laid_math_bits_deBruijn32tab), ("math/bits.deBruijn64tab", laid_math_bits_deBruijn64tab), ("internal/strconv.uint64pow10", laid_internal_strconv_uint64pow10)] }
def FnHallFreeSaid : Prop := fnHallFreeRow.holds Tryd.pinned (OpenSpec.ofChange fnHallFreeSpec)

/-- ITS FALSE NEIGHBOUR: 'it returns false'. Refute it at one input. -/
def fnHallFreeWrong : ChangeSpec := { name := "fnHallFree", fn := fun _ => fun
  | [d] => { results := [.lit (.bool false)], args := [d] }
  | _ => none }
def FnHallFreeWrongFalsely : Prop := fnHallFreeRow.holds Tryd.pinned (OpenSpec.ofChange fnHallFreeWrong)

/-- 'laws.FnHallEmpty': WHATEVER THE INPUT: true; the input reads as it did. -/
def fnHallEmptySpec : ChangeSpec := { name := "fnHallEmpty", fn := fun _ => fun
  | [d] => { results := [.lit (.bool true)], args := [d] }
  | _ => none }
def fnHallEmptyRow : OpenClaim := { program := "ytmkdafgcggpahaadoor", sum := "be44cccd74b177e431487db0ee6be3a7ea1af80eb8bf27defabb668f6cc973cf", func := "loop.example/parkinghouse/laws.FnHallEmpty", spec := "fnHallEmpty", inPlace := ["internal/abi.NoEscape"], recurses := true, named := ["internal/strconv.uint64pow10", "math/bits.deBruijn32tab", "math/bits.deBruijn64tab"], apart := false, laid := [("math/bits.deBruijn32tab", laid_math_bits_deBruijn32tab), ("math/bits.deBruijn64tab", laid_math_bits_deBruijn64tab), ("internal/strconv.uint64pow10", laid_internal_strconv_uint64pow10)] }
def FnHallEmptySaid : Prop := fnHallEmptyRow.holds Tryd.pinned (OpenSpec.ofChange fnHallEmptySpec)

/-- ITS FALSE NEIGHBOUR: 'it returns false'. Refute it at one input. -/
def fnHallEmptyWrong : ChangeSpec := { name := "fnHallEmpty", fn := fun _ => fun
  | [d] => { results := [.lit (.bool false)], args := [d] }
  | _ => none }
def FnHallEmptyWrongFalsely : Prop := fnHallEmptyRow.holds Tryd.pinned (OpenSpec.ofChange fnHallEmptyWrong)

/-- 'laws.FnHallFind': WHATEVER THE INPUT: true; the input reads as it did. -/
def fnHallFindSpec : ChangeSpec := { name := "fnHallFind", fn := fun _ => fun
  | [d] => { results := [.lit (.bool true)], args := [d] }
  | _ => none }
def fnHallFindRow : OpenClaim := { program := "ytmkdafgcggpahaadoor", sum := "be44cccd74b177e431487db0ee6be3a7ea1af80eb8bf27defabb668f6cc973cf", func := "loop.example/parkinghouse/laws.FnHallFind", spec := "fnHallFind", inPlace := ["internal/abi.NoEscape"], recurses := true, named := ["internal/strconv.uint64pow10", "math/bits.deBruijn32tab", "math/bits.deBruijn64tab"], apart := false, laid := [("math/bits.deBruijn32tab", laid_math_bits_deBruijn32tab), ("math/bits.deBruijn64tab", laid_math_bits_deBruijn64tab), ("internal/strconv.uint64pow10", laid_internal_strconv_uint64pow10)] }
def FnHallFindSaid : Prop := fnHallFindRow.holds Tryd.pinned (OpenSpec.ofChange fnHallFindSpec)

/-- ITS FALSE NEIGHBOUR: 'it returns false'. Refute it at one input. -/
def fnHallFindWrong : ChangeSpec := { name := "fnHallFind", fn := fun _ => fun
  | [d] => { results := [.lit (.bool false)], args := [d] }
  | _ => none }
def FnHallFindWrongFalsely : Prop := fnHallFindRow.holds Tryd.pinned (OpenSpec.ofChange fnHallFindWrong)

/- THE SECOND FORM. 'bulk': how many values and letters a reading holds, each counted each time it is reached (what is shared counts as often as it is met; a slice's spare places count too). A statement '..UptoSaid' is the law's where the arguments, and the package variables that the reading takes, are together of bulk at most 1048576: NARROWER than '..Said'. Prove '..Said' where nothing that the law and all that it calls make is longer than what came in: it says more and counts as full. Else prove '..UptoSaid'. A law counts once. -/
mutual
def uptoBulk {H : Type} : DataW H → Nat
  | .lit (.string bytes) => bytes.length + 1
  | .lit _ => 1
  | .nil => 1
  | .ptr d => uptoBulk d + 1
  | .slice elems spare => uptoBulkAll elems + uptoBulkAll spare + 1
  | .agg parts => uptoBulkAll parts + 1
  | .iface _ d => uptoBulk d + 1
  | .map entries => uptoBulkEntries entries + 1
  | .held _ => 1
def uptoBulkAll {H : Type} : List (DataW H) → Nat
  | [] => 0
  | d :: r => uptoBulk d + uptoBulkAll r
def uptoBulkEntries {H : Type} : List (Lit × DataW H) → Nat
  | [] => 0
  | x :: r => uptoBulkEntry x + uptoBulkEntries r
def uptoBulkEntry {H : Type} : Lit × DataW H → Nat
  | (.string bytes, d) => bytes.length + uptoBulk d + 1
  | (_, d) => uptoBulk d + 1
 end
def uptoSmall : (H : Type) → List (DataW H) → Bool := fun _ ds => decide (uptoBulkAll ds ≤ 1048576)
def OpenSpec.upto (s : _root_.Go.ChangeSpec) : _root_.Go.OpenSpec := { _root_.Go.OpenSpec.ofChange s with cond := some uptoSmall }

/-- 'laws.FnHallValid', WHERE WHAT IT READS IS OF BULK AT MOST 1048576: true; the input reads as it did. -/
def fnHallValidUptoRow : OpenClaim := { program := "ytmkdafgcggpahaadoor", sum := "be44cccd74b177e431487db0ee6be3a7ea1af80eb8bf27defabb668f6cc973cf", func := "loop.example/parkinghouse/laws.FnHallValid", spec := "fnHallValid", inPlace := ["internal/abi.NoEscape"], named := ["internal/strconv.uint64pow10", "math/bits.deBruijn32tab", "math/bits.deBruijn64tab"], apart := false, laid := [("math/bits.deBruijn32tab", laid_math_bits_deBruijn32tab), ("math/bits.deBruijn64tab", laid_math_bits_deBruijn64tab), ("internal/strconv.uint64pow10", laid_internal_strconv_uint64pow10)], narrowed := true }
def FnHallValidUptoSaid : Prop := fnHallValidUptoRow.holds Tryd.pinned (OpenSpec.upto fnHallValidSpec)

/-- 'laws.FnCellAt', WHERE WHAT IT READS IS OF BULK AT MOST 1048576: true; the input reads as it did. -/
def fnCellAtUptoRow : OpenClaim := { program := "ytmkdafgcggpahaadoor", sum := "be44cccd74b177e431487db0ee6be3a7ea1af80eb8bf27defabb668f6cc973cf", func := "loop.example/parkinghouse/laws.FnCellAt", spec := "fnCellAt", inPlace := ["internal/abi.NoEscape"], named := ["internal/strconv.uint64pow10", "math/bits.deBruijn32tab", "math/bits.deBruijn64tab"], apart := false, laid := [("math/bits.deBruijn32tab", laid_math_bits_deBruijn32tab), ("math/bits.deBruijn64tab", laid_math_bits_deBruijn64tab), ("internal/strconv.uint64pow10", laid_internal_strconv_uint64pow10)], narrowed := true }
def FnCellAtUptoSaid : Prop := fnCellAtUptoRow.holds Tryd.pinned (OpenSpec.upto fnCellAtSpec)

/-- 'laws.FnCellPlace', WHERE WHAT IT READS IS OF BULK AT MOST 1048576: true; the input reads as it did. -/
def fnCellPlaceUptoRow : OpenClaim := { program := "ytmkdafgcggpahaadoor", sum := "be44cccd74b177e431487db0ee6be3a7ea1af80eb8bf27defabb668f6cc973cf", func := "loop.example/parkinghouse/laws.FnCellPlace", spec := "fnCellPlace", inPlace := ["internal/abi.NoEscape"], named := ["internal/strconv.uint64pow10", "math/bits.deBruijn32tab", "math/bits.deBruijn64tab"], apart := false, laid := [("math/bits.deBruijn32tab", laid_math_bits_deBruijn32tab), ("math/bits.deBruijn64tab", laid_math_bits_deBruijn64tab), ("internal/strconv.uint64pow10", laid_internal_strconv_uint64pow10)], narrowed := true }
def FnCellPlaceUptoSaid : Prop := fnCellPlaceUptoRow.holds Tryd.pinned (OpenSpec.upto fnCellPlaceSpec)

/-- 'laws.FnCellsApart', WHERE WHAT IT READS IS OF BULK AT MOST 1048576: true; the input reads as it did. -/
def fnCellsApartUptoRow : OpenClaim := { program := "ytmkdafgcggpahaadoor", sum := "be44cccd74b177e431487db0ee6be3a7ea1af80eb8bf27defabb668f6cc973cf", func := "loop.example/parkinghouse/laws.FnCellsApart", spec := "fnCellsApart", inPlace := ["internal/abi.NoEscape"], named := ["internal/strconv.uint64pow10", "math/bits.deBruijn32tab", "math/bits.deBruijn64tab"], apart := false, laid := [("math/bits.deBruijn32tab", laid_math_bits_deBruijn32tab), ("math/bits.deBruijn64tab", laid_math_bits_deBruijn64tab), ("internal/strconv.uint64pow10", laid_internal_strconv_uint64pow10)], narrowed := true }
def FnCellsApartUptoSaid : Prop := fnCellsApartUptoRow.holds Tryd.pinned (OpenSpec.upto fnCellsApartSpec)

/-- 'laws.FnSlideMay', WHERE WHAT IT READS IS OF BULK AT MOST 1048576: true; the input reads as it did. -/
def fnSlideMayUptoRow : OpenClaim := { program := "ytmkdafgcggpahaadoor", sum := "be44cccd74b177e431487db0ee6be3a7ea1af80eb8bf27defabb668f6cc973cf", func := "loop.example/parkinghouse/laws.FnSlideMay", spec := "fnSlideMay", inPlace := ["internal/abi.NoEscape"], named := ["internal/strconv.uint64pow10", "math/bits.deBruijn32tab", "math/bits.deBruijn64tab"], apart := false, laid := [("math/bits.deBruijn32tab", laid_math_bits_deBruijn32tab), ("math/bits.deBruijn64tab", laid_math_bits_deBruijn64tab), ("internal/strconv.uint64pow10", laid_internal_strconv_uint64pow10)], narrowed := true }
def FnSlideMayUptoSaid : Prop := fnSlideMayUptoRow.holds Tryd.pinned (OpenSpec.upto fnSlideMaySpec)

/-- 'laws.FnSlidesBack', WHERE WHAT IT READS IS OF BULK AT MOST 1048576: true; the input reads as it did. -/
def fnSlidesBackUptoRow : OpenClaim := { program := "ytmkdafgcggpahaadoor", sum := "be44cccd74b177e431487db0ee6be3a7ea1af80eb8bf27defabb668f6cc973cf", func := "loop.example/parkinghouse/laws.FnSlidesBack", spec := "fnSlidesBack", inPlace := ["internal/abi.NoEscape"], named := ["internal/strconv.uint64pow10", "math/bits.deBruijn32tab", "math/bits.deBruijn64tab"], apart := false, laid := [("math/bits.deBruijn32tab", laid_math_bits_deBruijn32tab), ("math/bits.deBruijn64tab", laid_math_bits_deBruijn64tab), ("internal/strconv.uint64pow10", laid_internal_strconv_uint64pow10)], narrowed := true }
def FnSlidesBackUptoSaid : Prop := fnSlidesBackUptoRow.holds Tryd.pinned (OpenSpec.upto fnSlidesBackSpec)

/-- 'laws.FnCellsBeside', WHERE WHAT IT READS IS OF BULK AT MOST 1048576: true; the input reads as it did. -/
def fnCellsBesideUptoRow : OpenClaim := { program := "ytmkdafgcggpahaadoor", sum := "be44cccd74b177e431487db0ee6be3a7ea1af80eb8bf27defabb668f6cc973cf", func := "loop.example/parkinghouse/laws.FnCellsBeside", spec := "fnCellsBeside", inPlace := ["internal/abi.NoEscape"], named := ["internal/strconv.uint64pow10", "math/bits.deBruijn32tab", "math/bits.deBruijn64tab"], apart := false, laid := [("math/bits.deBruijn32tab", laid_math_bits_deBruijn32tab), ("math/bits.deBruijn64tab", laid_math_bits_deBruijn64tab), ("internal/strconv.uint64pow10", laid_internal_strconv_uint64pow10)], narrowed := true }
def FnCellsBesideUptoSaid : Prop := fnCellsBesideUptoRow.holds Tryd.pinned (OpenSpec.upto fnCellsBesideSpec)

/-- 'laws.FnHallTake', WHERE WHAT IT READS IS OF BULK AT MOST 1048576: true; the input reads as it did. -/
def fnHallTakeUptoRow : OpenClaim := { program := "ytmkdafgcggpahaadoor", sum := "be44cccd74b177e431487db0ee6be3a7ea1af80eb8bf27defabb668f6cc973cf", func := "loop.example/parkinghouse/laws.FnHallTake", spec := "fnHallTake", inPlace := ["internal/abi.NoEscape"], named := ["internal/strconv.uint64pow10", "math/bits.deBruijn32tab", "math/bits.deBruijn64tab"], apart := false, laid := [("math/bits.deBruijn32tab", laid_math_bits_deBruijn32tab), ("math/bits.deBruijn64tab", laid_math_bits_deBruijn64tab), ("internal/strconv.uint64pow10", laid_internal_strconv_uint64pow10)], narrowed := true }
def FnHallTakeUptoSaid : Prop := fnHallTakeUptoRow.holds Tryd.pinned (OpenSpec.upto fnHallTakeSpec)

/-- 'laws.FnHallPut', WHERE WHAT IT READS IS OF BULK AT MOST 1048576: true; the input reads as it did. -/
def fnHallPutUptoRow : OpenClaim := { program := "ytmkdafgcggpahaadoor", sum := "be44cccd74b177e431487db0ee6be3a7ea1af80eb8bf27defabb668f6cc973cf", func := "loop.example/parkinghouse/laws.FnHallPut", spec := "fnHallPut", inPlace := ["internal/abi.NoEscape"], named := ["internal/strconv.uint64pow10", "math/bits.deBruijn32tab", "math/bits.deBruijn64tab"], apart := false, laid := [("math/bits.deBruijn32tab", laid_math_bits_deBruijn32tab), ("math/bits.deBruijn64tab", laid_math_bits_deBruijn64tab), ("internal/strconv.uint64pow10", laid_internal_strconv_uint64pow10)], narrowed := true }
def FnHallPutUptoSaid : Prop := fnHallPutUptoRow.holds Tryd.pinned (OpenSpec.upto fnHallPutSpec)

/-- 'laws.FnHallFree', WHERE WHAT IT READS IS OF BULK AT MOST 1048576: true; the input reads as it did. -/
def fnHallFreeUptoRow : OpenClaim := { program := "ytmkdafgcggpahaadoor", sum := "be44cccd74b177e431487db0ee6be3a7ea1af80eb8bf27defabb668f6cc973cf", func := "loop.example/parkinghouse/laws.FnHallFree", spec := "fnHallFree", inPlace := ["internal/abi.NoEscape"], recurses := true, named := ["internal/strconv.uint64pow10", "math/bits.deBruijn32tab", "math/bits.deBruijn64tab"], apart := false, laid := [("math/bits.deBruijn32tab", laid_math_bits_deBruijn32tab), ("math/bits.deBruijn64tab", laid_math_bits_deBruijn64tab), ("internal/strconv.uint64pow10", laid_internal_strconv_uint64pow10)], narrowed := true }
def FnHallFreeUptoSaid : Prop := fnHallFreeUptoRow.holds Tryd.pinned (OpenSpec.upto fnHallFreeSpec)

/-- 'laws.FnHallEmpty', WHERE WHAT IT READS IS OF BULK AT MOST 1048576: true; the input reads as it did. -/
def fnHallEmptyUptoRow : OpenClaim := { program := "ytmkdafgcggpahaadoor", sum := "be44cccd74b177e431487db0ee6be3a7ea1af80eb8bf27defabb668f6cc973cf", func := "loop.example/parkinghouse/laws.FnHallEmpty", spec := "fnHallEmpty", inPlace := ["internal/abi.NoEscape"], recurses := true, named := ["internal/strconv.uint64pow10", "math/bits.deBruijn32tab", "math/bits.deBruijn64tab"], apart := false, laid := [("math/bits.deBruijn32tab", laid_math_bits_deBruijn32tab), ("math/bits.deBruijn64tab", laid_math_bits_deBruijn64tab), ("internal/strconv.uint64pow10", laid_internal_strconv_uint64pow10)], narrowed := true }
def FnHallEmptyUptoSaid : Prop := fnHallEmptyUptoRow.holds Tryd.pinned (OpenSpec.upto fnHallEmptySpec)

/-- 'laws.FnHallFind', WHERE WHAT IT READS IS OF BULK AT MOST 1048576: true; the input reads as it did. -/
def fnHallFindUptoRow : OpenClaim := { program := "ytmkdafgcggpahaadoor", sum := "be44cccd74b177e431487db0ee6be3a7ea1af80eb8bf27defabb668f6cc973cf", func := "loop.example/parkinghouse/laws.FnHallFind", spec := "fnHallFind", inPlace := ["internal/abi.NoEscape"], recurses := true, named := ["internal/strconv.uint64pow10", "math/bits.deBruijn32tab", "math/bits.deBruijn64tab"], apart := false, laid := [("math/bits.deBruijn32tab", laid_math_bits_deBruijn32tab), ("math/bits.deBruijn64tab", laid_math_bits_deBruijn64tab), ("internal/strconv.uint64pow10", laid_internal_strconv_uint64pow10)], narrowed := true }
def FnHallFindUptoSaid : Prop := fnHallFindUptoRow.holds Tryd.pinned (OpenSpec.upto fnHallFindSpec)

end Rows
end Go.Proofs.YtmkdafgcggpahaaDoor
