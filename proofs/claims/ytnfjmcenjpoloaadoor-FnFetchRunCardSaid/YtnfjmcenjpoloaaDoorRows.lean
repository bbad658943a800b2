/-
  NARROWER THAN 'FOR EVERY INPUT', by the rows' own cells (each row's printed sentence says how): FnAlike: laid · FnFetchDo: laid · FnFetchRun: laid · FnBringLeast: laid · FnHallText: laid · FnReadHall: laid · FnExactHallText: laid · FnExactReadHall: laid.
  DERIVED. THE GIVEN ROWS OF THIS SEAT. 8 by the template 'for every input the law returns true; each argument reads behind the call as it read before'; 0 by the template 'total and deterministic' (their statements: YtnfjmcenjpoloaaDoorTotals.lean).
  GIVEN WITH THE SEED: the statements are not yours to turn. If you find one false, say at which input.
  Laid BY PROGRAM, IN A SANDBOX (cutbox-rows.mjs): the forced cells as the released guide's own fill.sh prints them over the translation a5968f51f6bac795… (all of the seat's roots in one cut). By AI agents, Wed Nov 11 2026. No macro, syntax, notation, axiom, sorry.
-/
import Derived.Test.YtnfjmcenjpoloaaDoorChecked
import GoSem.PinnedTables
import GoSem.Claim
import GoSem.ClaimJoined
import GoSem.ClaimMapViews
import Derived.JoinedTies
import Derived.KernelRfl
namespace Go.Proofs.YtnfjmcenjpoloaaDoor
/- THE CELL 'sum', in the pinned program and in every row, IS THE sha256 OF THE DUMP (.gsa) THAT YtnfjmcenjpoloaaDoorProg.lean LOADS. Nothing in Lean hashes anything: it is a label: what it is worth is what the hold of that sum in a sandbox is worth. -/
noncomputable def Tryd.pinned : Pinned := { name := "ytnfjmcenjpoloaadoor", sum := "a5968f51f6bac7951b84f6bb011354b156fa0c7d07d0b086ab8bba495f3b6016", checked := Tryd.checked }
namespace Rows
def none {H : Type} : Left H := { results := [], args := [] }

/- WHAT THE LISTED PACKAGE-LEVEL VARIABLES READ AS WHEN THE CALL BEGINS. Each datum BY PROGRAM (the guide's laid-datum.mjs) off the statement by which the dump's own 'gosem.cut.vars' lays the variable. In a bare row this is a premise. The card (YtnfjmcenjpoloaaDoorCards.lean) ties it to the program's text. -/
def laid_math_bits_deBruijn32tab {H : Type} : DataW H := .agg [.lit (.int .u8 0), .lit (.int .u8 1), .lit (.int .u8 28), .lit (.int .u8 2), .lit (.int .u8 29), .lit (.int .u8 14), .lit (.int .u8 24), .lit (.int .u8 3), .lit (.int .u8 30), .lit (.int .u8 22), .lit (.int .u8 20), .lit (.int .u8 15), .lit (.int .u8 25), .lit (.int .u8 17), .lit (.int .u8 4), .lit (.int .u8 8), .lit (.int .u8 31), .lit (.int .u8 27), .lit (.int .u8 13), .lit (.int .u8 23), .lit (.int .u8 21), .lit (.int .u8 19), .lit (.int .u8 16), .lit (.int .u8 7), .lit (.int .u8 26), .lit (.int .u8 12), .lit (.int .u8 18), .lit (.int .u8 6), .lit (.int .u8 11), .lit (.int .u8 5), .lit (.int .u8 10), .lit (.int .u8 9)]
def laid_math_bits_deBruijn64tab {H : Type} : DataW H := .agg [.lit (.int .u8 0), .lit (.int .u8 1), .lit (.int .u8 56), .lit (.int .u8 2), .lit (.int .u8 57), .lit (.int .u8 49), .lit (.int .u8 28), .lit (.int .u8 3), .lit (.int .u8 61), .lit (.int .u8 58), .lit (.int .u8 42), .lit (.int .u8 50), .lit (.int .u8 38), .lit (.int .u8 29), .lit (.int .u8 17), .lit (.int .u8 4), .lit (.int .u8 62), .lit (.int .u8 47), .lit (.int .u8 59), .lit (.int .u8 36), .lit (.int .u8 45), .lit (.int .u8 43), .lit (.int .u8 51), .lit (.int .u8 22), .lit (.int .u8 53), .lit (.int .u8 39), .lit (.int .u8 33), .lit (.int .u8 30), .lit (.int .u8 24), .lit (.int .u8 18), .lit (.int .u8 12), .lit (.int .u8 5), .lit (.int .u8 63), .lit (.int .u8 55), .lit (.int .u8 48), .lit (.int .u8 27), .lit (.int .u8 60), .lit (.int .u8 41), .lit (.int .u8 37), .lit (.int .u8 16), .lit (.int .u8 46), .lit (.int .u8 35), .lit (.int .u8 44), .lit (.int .u8 21), .lit (.int .u8 52), .lit (.int .u8 32), .lit (.int .u8 23), .lit (.int .u8 11), .lit (.int .u8 54), .lit (.int .u8 26), .lit (.int .u8 40), .lit (.int .u8 15), .lit (.int .u8 34), .lit (.int .u8 20), .lit (.int .u8 31), .lit (.int .u8 10), .lit (.int .u8 25), .lit (.int .u8 14), .lit (.int .u8 19), .lit (.int .u8 9), .lit (.int .u8 13), .lit (.int .u8 8), .lit (.int .u8 7), .lit (.int .u8 6)]
def laid_internal_strconv_uint64pow10 {H : Type} : DataW H := .agg [.lit (.int .u64 1), .lit (.int .u64 10), .lit (.int .u64 100), .lit (.int .u64 1000), .lit (.int .u64 10000), .lit (.int .u64 100000), .lit (.int .u64 1000000), .lit (.int .u64 10000000), .lit (.int .u64 100000000), .lit (.int .u64 1000000000), .lit (.int .u64 10000000000), .lit (.int .u64 100000000000), .lit (.int .u64 1000000000000), .lit (.int .u64 10000000000000), .lit (.int .u64 100000000000000), .lit (.int .u64 1000000000000000), .lit (.int .u64 10000000000000000), .lit (.int .u64 100000000000000000), .lit (.int .u64 1000000000000000000), .lit (.int .u64 10000000000000000000)]
def laid_unicode_utf8_acceptRanges {H : Type} : DataW H := .agg [.agg [.lit (.int .u8 128), .lit (.int .u8 191)], .agg [.lit (.int .u8 160), .lit (.int .u8 191)], .agg [.lit (.int .u8 128), .lit (.int .u8 159)], .agg [.lit (.int .u8 144), .lit (.int .u8 191)], .agg [.lit (.int .u8 128), .lit (.int .u8 143)], .agg [.lit (.int .u8 0), .lit (.int .u8 0)], .agg [.lit (.int .u8 0), .lit (.int .u8 0)], .agg [.lit (.int .u8 0), .lit (.int .u8 0)], .agg [.lit (.int .u8 0), .lit (.int .u8 0)], .agg [.lit (.int .u8 0), .lit (.int .u8 0)], .agg [.lit (.int .u8 0), .lit (.int .u8 0)], .agg [.lit (.int .u8 0), .lit (.int .u8 0)], .agg [.lit (.int .u8 0), .lit (.int .u8 0)], .agg [.lit (.int .u8 0), .lit (.int .u8 0)], .agg [.lit (.int .u8 0), .lit (.int .u8 0)], .agg [.lit (.int .u8 0), .lit (.int .u8 0)]]
/-- One of Go's own tables, pinned by name: the form's constant. -/
def laid_unicode_utf8_first : DataW Unit := Go.Pinned.utf8First

/-- 'laws.FnAlike': WHATEVER THE INPUT: true; the input reads as it did. -/
def fnAlikeSpec : ChangeSpec := { name := "fnAlike", fn := fun _ => fun
  | [d1, d2] => { results := [.lit (.bool true)], args := [d1, d2] }
  | _ => none }
def fnAlikeRow : OpenClaim := { program := "ytnfjmcenjpoloaadoor", sum := "a5968f51f6bac7951b84f6bb011354b156fa0c7d07d0b086ab8bba495f3b6016", func := "loop.example/parkinghouse/laws.FnAlike", spec := "fnAlike", inPlace := ["internal/abi.NoEscape"], recurses := true, named := ["internal/strconv.uint64pow10", "math/bits.deBruijn32tab", "math/bits.deBruijn64tab"], apart := false, laid := [("math/bits.deBruijn32tab", laid_math_bits_deBruijn32tab), ("math/bits.deBruijn64tab", laid_math_bits_deBruijn64tab), ("internal/strconv.uint64pow10", laid_internal_strconv_uint64pow10)] }
def FnAlikeSaid : Prop := fnAlikeRow.holds Tryd.pinned (OpenSpec.ofChange fnAlikeSpec)

/-- ITS FALSE NEIGHBOUR: 'it returns false'. Refute it at one input. -/
def fnAlikeWrong : ChangeSpec := { name := "fnAlike", fn := fun _ => fun
  | [d1, d2] => { results := [.lit (.bool false)], args := [d1, d2] }
  | _ => none }
def FnAlikeWrongFalsely : Prop := fnAlikeRow.holds Tryd.pinned (OpenSpec.ofChange fnAlikeWrong)

/-- 'laws.FnFetchDo': WHATEVER THE INPUT: true; the input reads as it did. -/
def fnFetchDoSpec : ChangeSpec := { name := "fnFetchDo", fn := fun _ => fun
  | [d] => { results := [.lit (.bool true)], args := [d] }
  | _ => none }
def fnFetchDoRow : OpenClaim := { program := "ytnfjmcenjpoloaadoor", sum := "a5968f51f6bac7951b84f6bb011354b156fa0c7d07d0b086ab8bba495f3b6016", func := "loop.example/parkinghouse/laws.FnFetchDo", spec := "fnFetchDo", inPlace := ["internal/abi.NoEscape"], recurses := true, named := ["math/bits.deBruijn32tab", "math/bits.deBruijn64tab", "internal/strconv.uint64pow10"], apart := false, laid := [("math/bits.deBruijn32tab", laid_math_bits_deBruijn32tab), ("math/bits.deBruijn64tab", laid_math_bits_deBruijn64tab), ("internal/strconv.uint64pow10", laid_internal_strconv_uint64pow10)] }
def FnFetchDoSaid : Prop := fnFetchDoRow.holds Tryd.pinned (OpenSpec.ofChange fnFetchDoSpec)

/-- ITS FALSE NEIGHBOUR: 'it returns false'. Refute it at one input. -/
def fnFetchDoWrong : ChangeSpec := { name := "fnFetchDo", fn := fun _ => fun
  | [d] => { results := [.lit (.bool false)], args := [d] }
  | _ => none }
def FnFetchDoWrongFalsely : Prop := fnFetchDoRow.holds Tryd.pinned (OpenSpec.ofChange fnFetchDoWrong)

/-- 'laws.FnFetchRun': WHATEVER THE INPUT: true; the input reads as it did. -/
def fnFetchRunSpec : ChangeSpec := { name := "fnFetchRun", fn := fun _ => fun
  | [d] => { results := [.lit (.bool true)], args := [d] }
  | _ => none }
def fnFetchRunRow : OpenClaim := { program := "ytnfjmcenjpoloaadoor", sum := "a5968f51f6bac7951b84f6bb011354b156fa0c7d07d0b086ab8bba495f3b6016", func := "loop.example/parkinghouse/laws.FnFetchRun", spec := "fnFetchRun", inPlace := ["internal/abi.NoEscape"], recurses := true, named := ["math/bits.deBruijn32tab", "math/bits.deBruijn64tab", "internal/strconv.uint64pow10"], apart := false, laid := [("math/bits.deBruijn32tab", laid_math_bits_deBruijn32tab), ("math/bits.deBruijn64tab", laid_math_bits_deBruijn64tab), ("internal/strconv.uint64pow10", laid_internal_strconv_uint64pow10)] }
def FnFetchRunSaid : Prop := fnFetchRunRow.holds Tryd.pinned (OpenSpec.ofChange fnFetchRunSpec)

/-- ITS FALSE NEIGHBOUR: 'it returns false'. Refute it at one input. -/
def fnFetchRunWrong : ChangeSpec := { name := "fnFetchRun", fn := fun _ => fun
  | [d] => { results := [.lit (.bool false)], args := [d] }
  | _ => none }
def FnFetchRunWrongFalsely : Prop := fnFetchRunRow.holds Tryd.pinned (OpenSpec.ofChange fnFetchRunWrong)

/-- 'laws.FnBringLeast': WHATEVER THE INPUT: true; the input reads as it did. -/
def fnBringLeastSpec : ChangeSpec := { name := "fnBringLeast", fn := fun _ => fun
  | [d1, d2] => { results := [.lit (.bool true)], args := [d1, d2] }
  | _ => none }
def fnBringLeastRow : OpenClaim := { program := "ytnfjmcenjpoloaadoor", sum := "a5968f51f6bac7951b84f6bb011354b156fa0c7d07d0b086ab8bba495f3b6016", func := "loop.example/parkinghouse/laws.FnBringLeast", spec := "fnBringLeast", inPlace := ["internal/abi.NoEscape"], named := ["math/bits.deBruijn32tab", "math/bits.deBruijn64tab", "internal/strconv.uint64pow10"], apart := false, laid := [("math/bits.deBruijn32tab", laid_math_bits_deBruijn32tab), ("math/bits.deBruijn64tab", laid_math_bits_deBruijn64tab), ("internal/strconv.uint64pow10", laid_internal_strconv_uint64pow10)] }
def FnBringLeastSaid : Prop := fnBringLeastRow.holds Tryd.pinned (OpenSpec.ofChange fnBringLeastSpec)

/-- ITS FALSE NEIGHBOUR: 'it returns false'. Refute it at one input. -/
def fnBringLeastWrong : ChangeSpec := { name := "fnBringLeast", fn := fun _ => fun
  | [d1, d2] => { results := [.lit (.bool false)], args := [d1, d2] }
  | _ => none }
def FnBringLeastWrongFalsely : Prop := fnBringLeastRow.holds Tryd.pinned (OpenSpec.ofChange fnBringLeastWrong)

/-- 'laws.FnHallText': WHATEVER THE INPUT: true; the input reads as it did. -/
def fnHallTextSpec : ChangeSpec := { name := "fnHallText", fn := fun _ => fun
  | [d] => { results := [.lit (.bool true)], args := [d] }
  | _ => none }
def fnHallTextRow : OpenClaim := { program := "ytnfjmcenjpoloaadoor", sum := "a5968f51f6bac7951b84f6bb011354b156fa0c7d07d0b086ab8bba495f3b6016", func := "loop.example/parkinghouse/laws.FnHallText", spec := "fnHallText", inPlace := ["internal/abi.NoEscape", "internal/bytealg.CountString", "internal/bytealg.IndexByteString", "internal/bytealg.IndexString"], recurses := true, named := ["internal/strconv.uint64pow10", "math/bits.deBruijn32tab", "math/bits.deBruijn64tab", "unicode/utf8.first", "unicode/utf8.acceptRanges", "internal/bytealg.MaxLen"], apart := false, laid := [("math/bits.deBruijn32tab", laid_math_bits_deBruijn32tab), ("math/bits.deBruijn64tab", laid_math_bits_deBruijn64tab), ("internal/strconv.uint64pow10", laid_internal_strconv_uint64pow10), ("unicode/utf8.acceptRanges", laid_unicode_utf8_acceptRanges), ("unicode/utf8.first", laid_unicode_utf8_first)] }
def FnHallTextSaid : Prop := fnHallTextRow.holds Tryd.pinned (OpenSpec.ofChange fnHallTextSpec)

/-- ITS FALSE NEIGHBOUR: 'it returns false'. Refute it at one input. -/
def fnHallTextWrong : ChangeSpec := { name := "fnHallText", fn := fun _ => fun
  | [d] => { results := [.lit (.bool false)], args := [d] }
  | _ => none }
def FnHallTextWrongFalsely : Prop := fnHallTextRow.holds Tryd.pinned (OpenSpec.ofChange fnHallTextWrong)

/-- 'laws.FnReadHall': WHATEVER THE INPUT: true; the input reads as it did. -/
def fnReadHallSpec : ChangeSpec := { name := "fnReadHall", fn := fun _ => fun
  | [d] => { results := [.lit (.bool true)], args := [d] }
  | _ => none }
def fnReadHallRow : OpenClaim := { program := "ytnfjmcenjpoloaadoor", sum := "a5968f51f6bac7951b84f6bb011354b156fa0c7d07d0b086ab8bba495f3b6016", func := "loop.example/parkinghouse/laws.FnReadHall", spec := "fnReadHall", inPlace := ["internal/bytealg.CountString", "internal/bytealg.IndexByteString", "internal/bytealg.IndexString", "internal/abi.NoEscape"], recurses := true, named := ["unicode/utf8.first", "unicode/utf8.acceptRanges", "internal/bytealg.MaxLen", "internal/strconv.uint64pow10", "math/bits.deBruijn32tab", "math/bits.deBruijn64tab"], apart := false, laid := [("math/bits.deBruijn32tab", laid_math_bits_deBruijn32tab), ("math/bits.deBruijn64tab", laid_math_bits_deBruijn64tab), ("internal/strconv.uint64pow10", laid_internal_strconv_uint64pow10), ("unicode/utf8.acceptRanges", laid_unicode_utf8_acceptRanges), ("unicode/utf8.first", laid_unicode_utf8_first)] }
def FnReadHallSaid : Prop := fnReadHallRow.holds Tryd.pinned (OpenSpec.ofChange fnReadHallSpec)

/-- ITS FALSE NEIGHBOUR: 'it returns false'. Refute it at one input. -/
def fnReadHallWrong : ChangeSpec := { name := "fnReadHall", fn := fun _ => fun
  | [d] => { results := [.lit (.bool false)], args := [d] }
  | _ => none }
def FnReadHallWrongFalsely : Prop := fnReadHallRow.holds Tryd.pinned (OpenSpec.ofChange fnReadHallWrong)

/-- 'laws.FnExactHallText': WHATEVER THE INPUT: true; the input reads as it did. -/
def fnExactHallTextSpec : ChangeSpec := { name := "fnExactHallText", fn := fun _ => fun
  | [d] => { results := [.lit (.bool true)], args := [d] }
  | _ => none }
def fnExactHallTextRow : OpenClaim := { program := "ytnfjmcenjpoloaadoor", sum := "a5968f51f6bac7951b84f6bb011354b156fa0c7d07d0b086ab8bba495f3b6016", func := "loop.example/parkinghouse/laws.FnExactHallText", spec := "fnExactHallText", inPlace := ["internal/abi.NoEscape"], recurses := true, named := ["internal/strconv.uint64pow10", "math/bits.deBruijn32tab", "math/bits.deBruijn64tab"], apart := false, laid := [("math/bits.deBruijn32tab", laid_math_bits_deBruijn32tab), ("math/bits.deBruijn64tab", laid_math_bits_deBruijn64tab), ("internal/strconv.uint64pow10", laid_internal_strconv_uint64pow10)] }
def FnExactHallTextSaid : Prop := fnExactHallTextRow.holds Tryd.pinned (OpenSpec.ofChange fnExactHallTextSpec)

/-- ITS FALSE NEIGHBOUR: 'it returns false'. Refute it at one input. -/
def fnExactHallTextWrong : ChangeSpec := { name := "fnExactHallText", fn := fun _ => fun
  | [d] => { results := [.lit (.bool false)], args := [d] }
  | _ => none }
def FnExactHallTextWrongFalsely : Prop := fnExactHallTextRow.holds Tryd.pinned (OpenSpec.ofChange fnExactHallTextWrong)

/-- 'laws.FnExactReadHall': WHATEVER THE INPUT: true; the input reads as it did. -/
def fnExactReadHallSpec : ChangeSpec := { name := "fnExactReadHall", fn := fun _ => fun
  | [d] => { results := [.lit (.bool true)], args := [d] }
  | _ => none }
def fnExactReadHallRow : OpenClaim := { program := "ytnfjmcenjpoloaadoor", sum := "a5968f51f6bac7951b84f6bb011354b156fa0c7d07d0b086ab8bba495f3b6016", func := "loop.example/parkinghouse/laws.FnExactReadHall", spec := "fnExactReadHall", inPlace := ["internal/bytealg.CountString", "internal/bytealg.IndexByteString", "internal/bytealg.IndexString", "internal/abi.NoEscape"], recurses := true, named := ["unicode/utf8.first", "unicode/utf8.acceptRanges", "internal/bytealg.MaxLen", "internal/strconv.uint64pow10", "math/bits.deBruijn32tab", "math/bits.deBruijn64tab"], apart := false, laid := [("math/bits.deBruijn32tab", laid_math_bits_deBruijn32tab), ("math/bits.deBruijn64tab", laid_math_bits_deBruijn64tab), ("internal/strconv.uint64pow10", laid_internal_strconv_uint64pow10), ("unicode/utf8.acceptRanges", laid_unicode_utf8_acceptRanges), ("unicode/utf8.first", laid_unicode_utf8_first)] }
def FnExactReadHallSaid : Prop := fnExactReadHallRow.holds Tryd.pinned (OpenSpec.ofChange fnExactReadHallSpec)

/-- ITS FALSE NEIGHBOUR: 'it returns false'. Refute it at one input. -/
def fnExactReadHallWrong : ChangeSpec := { name := "fnExactReadHall", fn := fun _ => fun
  | [d] => { results := [.lit (.bool false)], args := [d] }
  | _ => none }
def FnExactReadHallWrongFalsely : Prop := fnExactReadHallRow.holds Tryd.pinned (OpenSpec.ofChange fnExactReadHallWrong)

/- THE SECOND FORM. 'bulk': how many values and letters a reading holds, each counted each time it is reached (what is shared counts as often as it is met; a slice's spare places count too). A statement '..UptoSaid' is the law's where the arguments, and the package variables that the reading takes, are together of bulk at most 1048576: NARROWER than '..Said'. Prove '..Said' where nothing that the law and all that it calls make is longer than what came in: it says more and counts as full. Else prove '..UptoSaid'. A law counts once. -/
mutual
def uptoBulk {H : Type} : DataW H → Nat
  | .lit (.string bytes) => bytes.length + 1
  | .lit _ => 1
  | .nil => 1
  | .ptr d => uptoBulk d + 1
  | .slice elems spare => uptoBulkAll elems + uptoBulkAll spare + 1
  | .agg parts => uptoBulkAll parts + 1
  | .iface _ d => uptoBulk d + 1
  | .map entries => uptoBulkEntries entries + 1
  | .held _ => 1
def uptoBulkAll {H : Type} : List (DataW H) → Nat
  | [] => 0
  | d :: r => uptoBulk d + uptoBulkAll r
def uptoBulkEntries {H : Type} : List (Lit × DataW H) → Nat
  | [] => 0
  | x :: r => uptoBulkEntry x + uptoBulkEntries r
def uptoBulkEntry {H : Type} : Lit × DataW H → Nat
  | (.string bytes, d) => bytes.length + uptoBulk d + 1
  | (_, d) => uptoBulk d + 1
 end
def uptoSmall : (H : Type) → List (DataW H) → Bool := fun _ ds => decide (uptoBulkAll ds ≤ 1048576)
def OpenSpec.upto (s : _root_.Go.ChangeSpec) : _root_.Go.OpenSpec := { _root_.Go.OpenSpec.ofChange s with cond := some uptoSmall }

/-- 'laws.FnAlike', WHERE WHAT IT READS IS OF BULK AT MOST 1048576: true; the input reads as it did. -/
def fnAlikeUptoRow : OpenClaim := { program := "ytnfjmcenjpoloaadoor", sum := "a5968f51f6bac7951b84f6bb011354b156fa0c7d07d0b086ab8bba495f3b6016", func := "loop.example/parkinghouse/laws.FnAlike", spec := "fnAlike", inPlace := ["internal/abi.NoEscape"], recurses := true, named := ["internal/strconv.uint64pow10", "math/bits.deBruijn32tab", "math/bits.deBruijn64tab"], apart := false, laid := [("math/bits.deBruijn32tab", laid_math_bits_deBruijn32tab), ("math/bits.deBruijn64tab", laid_math_bits_deBruijn64tab), ("internal/strconv.uint64pow10", laid_internal_strconv_uint64pow10)], narrowed := true }
def FnAlikeUptoSaid : Prop := fnAlikeUptoRow.holds Tryd.pinned (OpenSpec.upto fnAlikeSpec)

/-- 'laws.FnFetchDo', WHERE WHAT IT READS IS OF BULK AT MOST 1048576: true; the input reads as it did. -/
def fnFetchDoUptoRow : OpenClaim := { program := "ytnfjmcenjpoloaadoor", sum := "a5968f51f6bac7951b84f6bb011354b156fa0c7d07d0b086ab8bba495f3b6016", func := "loop.example/parkinghouse/laws.FnFetchDo", spec := "fnFetchDo", inPlace := ["internal/abi.NoEscape"], recurses := true, named := ["math/bits.deBruijn32tab", "math/bits.deBruijn64tab", "internal/strconv.uint64pow10"], apart := false, laid := [("math/bits.deBruijn32tab", laid_math_bits_deBruijn32tab), ("math/bits.deBruijn64tab", laid_math_bits_deBruijn64tab), ("internal/strconv.uint64pow10", laid_internal_strconv_uint64pow10)], narrowed := true }
def FnFetchDoUptoSaid : Prop := fnFetchDoUptoRow.holds Tryd.pinned (OpenSpec.upto fnFetchDoSpec)

/-- 'laws.FnFetchRun', WHERE WHAT IT READS IS OF BULK AT MOST 1048576: true; the input reads as it did. -/
def fnFetchRunUptoRow : OpenClaim := { program := "ytnfjmcenjpoloaadoor", sum := "a5968f51f6bac7951b84f6bb011354b156fa0c7d07d0b086ab8bba495f3b6016", func := "loop.example/parkinghouse/laws.FnFetchRun", spec := "fnFetchRun", inPlace := ["internal/abi.NoEscape"], recurses := true, named := ["math/bits.deBruijn32tab", "math/bits.deBruijn64tab", "internal/strconv.uint64pow10"], apart := false, laid := [("math/bits.deBruijn32tab", laid_math_bits_deBruijn32tab), ("math/bits.deBruijn64tab", laid_math_bits_deBruijn64tab), ("internal/strconv.uint64pow10", laid_internal_strconv_uint64pow10)], narrowed := true }
def FnFetchRunUptoSaid : Prop := fnFetchRunUptoRow.holds Tryd.pinned (OpenSpec.upto fnFetchRunSpec)

/-- 'laws.FnBringLeast', WHERE WHAT IT READS IS OF BULK AT MOST 1048576: true; the input reads as it did. -/
def fnBringLeastUptoRow : OpenClaim := { program := "ytnfjmcenjpoloaadoor", sum := "a5968f51f6bac7951b84f6bb011354b156fa0c7d07d0b086ab8bba495f3b6016", func := "loop.example/parkinghouse/laws.FnBringLeast", spec := "fnBringLeast", inPlace := ["internal/abi.NoEscape"], named := ["math/bits.deBruijn32tab", "math/bits.deBruijn64tab", "internal/strconv.uint64pow10"], apart := false, laid := [("math/bits.deBruijn32tab", laid_math_bits_deBruijn32tab), ("math/bits.deBruijn64tab", laid_math_bits_deBruijn64tab), ("internal/strconv.uint64pow10", laid_internal_strconv_uint64pow10)], narrowed := true }
def FnBringLeastUptoSaid : Prop := fnBringLeastUptoRow.holds Tryd.pinned (OpenSpec.upto fnBringLeastSpec)

/-- 'laws.FnHallText', WHERE WHAT IT READS IS OF BULK AT MOST 1048576: true; the input reads as it did. -/
def fnHallTextUptoRow : OpenClaim := { program := "ytnfjmcenjpoloaadoor", sum := "a5968f51f6bac7951b84f6bb011354b156fa0c7d07d0b086ab8bba495f3b6016", func := "loop.example/parkinghouse/laws.FnHallText", spec := "fnHallText", inPlace := ["internal/abi.NoEscape", "internal/bytealg.CountString", "internal/bytealg.IndexByteString", "internal/bytealg.IndexString"], recurses := true, named := ["internal/strconv.uint64pow10", "math/bits.deBruijn32tab", "math/bits.deBruijn64tab", "unicode/utf8.first", "unicode/utf8.acceptRanges", "internal/bytealg.MaxLen"], apart := false, laid := [("math/bits.deBruijn32tab", laid_math_bits_deBruijn32tab), ("math/bits.deBruijn64tab", laid_math_bits_deBruijn64tab), ("internal/strconv.uint64pow10", laid_internal_strconv_uint64pow10), ("unicode/utf8.acceptRanges", laid_unicode_utf8_acceptRanges), ("unicode/utf8.first", laid_unicode_utf8_first)], narrowed := true }
def FnHallTextUptoSaid : Prop := fnHallTextUptoRow.holds Tryd.pinned (OpenSpec.upto fnHallTextSpec)

/-- 'laws.FnReadHall', WHERE WHAT IT READS IS OF BULK AT MOST 1048576: true; the input reads as it did. -/
def fnReadHallUptoRow : OpenClaim := { program := "ytnfjmcenjpoloaadoor", sum := "a5968f51f6bac7951b84f6bb011354b156fa0c7d07d0b086ab8bba495f3b6016", func := "loop.example/parkinghouse/laws.FnReadHall", spec := "fnReadHall", inPlace := ["internal/bytealg.CountString", "internal/bytealg.IndexByteString", "internal/bytealg.IndexString", "internal/abi.NoEscape"], recurses := true, named := ["unicode/utf8.first", "unicode/utf8.acceptRanges", "internal/bytealg.MaxLen", "internal/strconv.uint64pow10", "math/bits.deBruijn32tab", "math/bits.deBruijn64tab"], apart := false, laid := [("math/bits.deBruijn32tab", laid_math_bits_deBruijn32tab), ("math/bits.deBruijn64tab", laid_math_bits_deBruijn64tab), ("internal/strconv.uint64pow10", laid_internal_strconv_uint64pow10), ("unicode/utf8.acceptRanges", laid_unicode_utf8_acceptRanges), ("unicode/utf8.first", laid_unicode_utf8_first)], narrowed := true }
def FnReadHallUptoSaid : Prop := fnReadHallUptoRow.holds Tryd.pinned (OpenSpec.upto fnReadHallSpec)

/-- 'laws.FnExactHallText', WHERE WHAT IT READS IS OF BULK AT MOST 1048576: true; the input reads as it did. -/
def fnExactHallTextUptoRow : OpenClaim := { program := "ytnfjmcenjpoloaadoor", sum := "a5968f51f6bac7951b84f6bb011354b156fa0c7d07d0b086ab8bba495f3b6016", func := "loop.example/parkinghouse/laws.FnExactHallText", spec := "fnExactHallText", inPlace := ["internal/abi.NoEscape"], recurses := true, named := ["internal/strconv.uint64pow10", "math/bits.deBruijn32tab", "math/bits.deBruijn64tab"], apart := false, laid := [("math/bits.deBruijn32tab", laid_math_bits_deBruijn32tab), ("math/bits.deBruijn64tab", laid_math_bits_deBruijn64tab), ("internal/strconv.uint64pow10", laid_internal_strconv_uint64pow10)], narrowed := true }
def FnExactHallTextUptoSaid : Prop := fnExactHallTextUptoRow.holds Tryd.pinned (OpenSpec.upto fnExactHallTextSpec)

/-- 'laws.FnExactReadHall', WHERE WHAT IT READS IS OF BULK AT MOST 1048576: true; the input reads as it did. -/
def fnExactReadHallUptoRow : OpenClaim := { program := "ytnfjmcenjpoloaadoor", sum := "a5968f51f6bac7951b84f6bb011354b156fa0c7d07d0b086ab8bba495f3b6016", func := "loop.example/parkinghouse/laws.FnExactReadHall", spec := "fnExactReadHall", inPlace := ["internal/bytealg.CountString", "internal/bytealg.IndexByteString", "internal/bytealg.IndexString", "internal/abi.NoEscape"], recurses := true, named := ["unicode/utf8.first", "unicode/utf8.acceptRanges", "internal/bytealg.MaxLen", "internal/strconv.uint64pow10", "math/bits.deBruijn32tab", "math/bits.deBruijn64tab"], apart := false, laid := [("math/bits.deBruijn32tab", laid_math_bits_deBruijn32tab), ("math/bits.deBruijn64tab", laid_math_bits_deBruijn64tab), ("internal/strconv.uint64pow10", laid_internal_strconv_uint64pow10), ("unicode/utf8.acceptRanges", laid_unicode_utf8_acceptRanges), ("unicode/utf8.first", laid_unicode_utf8_first)], narrowed := true }
def FnExactReadHallUptoSaid : Prop := fnExactReadHallUptoRow.holds Tryd.pinned (OpenSpec.upto fnExactReadHallSpec)

end Rows
end Go.Proofs.YtnfjmcenjpoloaaDoor
