/-
  DERIVED. GIVEN WITH THE SEED: THE CARDS: each row of YtnfjmcenjpoloaaDoorRows.lean that lists a variable, with what it lists TIED to the program's text (the seventh form; the later family's looks); each row that meets fmt, with fmt's text TOLD by the authors' own Lean function (tested against real Go, not proved from fmt's source: count such statements apart). THE CARD IS WHAT COUNTS. Prove the row's statement (the work); the ties are given (YtnfjmcenjpoloaaDoorTie.lean); close each card by the builder's one call (the guide's Derived/Test/ToyasCard.lean, 'card_holds'). Laid BY PROGRAM, IN A SANDBOX (cutbox-door.mjs). By AI agents, Wed Nov 11 2026. No macro, syntax, notation, axiom, sorry.
-/
import Derived.Test.YtnfjmcenjpoloaaDoorRows
import GoSem.ClaimSeven
namespace Go.Proofs.YtnfjmcenjpoloaaDoor
namespace Rows

/-- THE TIED CARD OF 'laws.FnAlike'. -/
def fnAlikeCard : Claim7 := { stood := { row := fnAlikeRow, standIns := [], harness := (true, "3432a7440a8016e197d95d06dfac8f9bd625ae5cb5e069beaab4a105a3843320"), looks := false }, kinds := [], alts := [], laidByText := true, laidKinds := [.data, .data, .data], laidTests := true, laidLooks := .later }
def FnAlikeCardSaid : Prop := Claim7.holds Tryd.pinned (.plain (OpenSpec.ofChange fnAlikeSpec)) fnAlikeCard

/-- THE TIED CARD OF 'laws.FnFetchDo'. -/
def fnFetchDoCard : Claim7 := { stood := { row := fnFetchDoRow, standIns := [], harness := (true, "3432a7440a8016e197d95d06dfac8f9bd625ae5cb5e069beaab4a105a3843320"), looks := false }, kinds := [], alts := [], laidByText := true, laidKinds := [.data, .data, .data], laidTests := true, laidLooks := .later }
def FnFetchDoCardSaid : Prop := Claim7.holds Tryd.pinned (.plain (OpenSpec.ofChange fnFetchDoSpec)) fnFetchDoCard

/-- THE TIED CARD OF 'laws.FnFetchRun'. -/
def fnFetchRunCard : Claim7 := { stood := { row := fnFetchRunRow, standIns := [], harness := (true, "3432a7440a8016e197d95d06dfac8f9bd625ae5cb5e069beaab4a105a3843320"), looks := false }, kinds := [], alts := [], laidByText := true, laidKinds := [.data, .data, .data], laidTests := true, laidLooks := .later }
def FnFetchRunCardSaid : Prop := Claim7.holds Tryd.pinned (.plain (OpenSpec.ofChange fnFetchRunSpec)) fnFetchRunCard

/-- THE TIED CARD OF 'laws.FnBringLeast'. -/
def fnBringLeastCard : Claim7 := { stood := { row := fnBringLeastRow, standIns := [], harness := (true, "3432a7440a8016e197d95d06dfac8f9bd625ae5cb5e069beaab4a105a3843320"), looks := false }, kinds := [], alts := [], laidByText := true, laidKinds := [.data, .data, .data], laidTests := true, laidLooks := .later }
def FnBringLeastCardSaid : Prop := Claim7.holds Tryd.pinned (.plain (OpenSpec.ofChange fnBringLeastSpec)) fnBringLeastCard

/-- THE TIED CARD OF 'laws.FnHallText'. -/
def fnHallTextCard : Claim7 := { stood := { row := fnHallTextRow, standIns := [], harness := (true, "3432a7440a8016e197d95d06dfac8f9bd625ae5cb5e069beaab4a105a3843320"), looks := false }, kinds := [], alts := [], laidByText := true, laidKinds := [.data, .data, .data, .data, .pinned], laidTests := true, laidLooks := .later }
def FnHallTextCardSaid : Prop := Claim7.holds Tryd.pinned (.plain (OpenSpec.ofChange fnHallTextSpec)) fnHallTextCard

/-- THE TIED CARD OF 'laws.FnReadHall'. -/
def fnReadHallCard : Claim7 := { stood := { row := fnReadHallRow, standIns := [], harness := (true, "3432a7440a8016e197d95d06dfac8f9bd625ae5cb5e069beaab4a105a3843320"), looks := false }, kinds := [], alts := [], laidByText := true, laidKinds := [.data, .data, .data, .data, .pinned], laidTests := true, laidLooks := .later }
def FnReadHallCardSaid : Prop := Claim7.holds Tryd.pinned (.plain (OpenSpec.ofChange fnReadHallSpec)) fnReadHallCard

/-- THE TIED CARD OF 'laws.FnExactHallText'. -/
def fnExactHallTextCard : Claim7 := { stood := { row := fnExactHallTextRow, standIns := [], harness := (true, "3432a7440a8016e197d95d06dfac8f9bd625ae5cb5e069beaab4a105a3843320"), looks := false }, kinds := [], alts := [], laidByText := true, laidKinds := [.data, .data, .data], laidTests := true, laidLooks := .later }
def FnExactHallTextCardSaid : Prop := Claim7.holds Tryd.pinned (.plain (OpenSpec.ofChange fnExactHallTextSpec)) fnExactHallTextCard

/-- THE TIED CARD OF 'laws.FnExactReadHall'. -/
def fnExactReadHallCard : Claim7 := { stood := { row := fnExactReadHallRow, standIns := [], harness := (true, "3432a7440a8016e197d95d06dfac8f9bd625ae5cb5e069beaab4a105a3843320"), looks := false }, kinds := [], alts := [], laidByText := true, laidKinds := [.data, .data, .data, .data, .pinned], laidTests := true, laidLooks := .later }
def FnExactReadHallCardSaid : Prop := Claim7.holds Tryd.pinned (.plain (OpenSpec.ofChange fnExactReadHallSpec)) fnExactReadHallCard

/-- THE SECOND FORM's CARD OF 'laws.FnAlike'. -/
def fnAlikeUptoCard : Claim7 := { stood := { row := fnAlikeUptoRow, standIns := [], harness := (true, "3432a7440a8016e197d95d06dfac8f9bd625ae5cb5e069beaab4a105a3843320"), looks := false }, kinds := [], alts := [], laidByText := true, laidKinds := [.data, .data, .data], laidTests := true, laidLooks := .later }
def FnAlikeUptoCardSaid : Prop := Claim7.holds Tryd.pinned (.plain (OpenSpec.upto fnAlikeSpec)) fnAlikeUptoCard

/-- THE SECOND FORM's CARD OF 'laws.FnFetchDo'. -/
def fnFetchDoUptoCard : Claim7 := { stood := { row := fnFetchDoUptoRow, standIns := [], harness := (true, "3432a7440a8016e197d95d06dfac8f9bd625ae5cb5e069beaab4a105a3843320"), looks := false }, kinds := [], alts := [], laidByText := true, laidKinds := [.data, .data, .data], laidTests := true, laidLooks := .later }
def FnFetchDoUptoCardSaid : Prop := Claim7.holds Tryd.pinned (.plain (OpenSpec.upto fnFetchDoSpec)) fnFetchDoUptoCard

/-- THE SECOND FORM's CARD OF 'laws.FnFetchRun'. -/
def fnFetchRunUptoCard : Claim7 := { stood := { row := fnFetchRunUptoRow, standIns := [], harness := (true, "3432a7440a8016e197d95d06dfac8f9bd625ae5cb5e069beaab4a105a3843320"), looks := false }, kinds := [], alts := [], laidByText := true, laidKinds := [.data, .data, .data], laidTests := true, laidLooks := .later }
def FnFetchRunUptoCardSaid : Prop := Claim7.holds Tryd.pinned (.plain (OpenSpec.upto fnFetchRunSpec)) fnFetchRunUptoCard

/-- THE SECOND FORM's CARD OF 'laws.FnBringLeast'. -/
def fnBringLeastUptoCard : Claim7 := { stood := { row := fnBringLeastUptoRow, standIns := [], harness := (true, "3432a7440a8016e197d95d06dfac8f9bd625ae5cb5e069beaab4a105a3843320"), looks := false }, kinds := [], alts := [], laidByText := true, laidKinds := [.data, .data, .data], laidTests := true, laidLooks := .later }
def FnBringLeastUptoCardSaid : Prop := Claim7.holds Tryd.pinned (.plain (OpenSpec.upto fnBringLeastSpec)) fnBringLeastUptoCard

/-- THE SECOND FORM's CARD OF 'laws.FnHallText'. -/
def fnHallTextUptoCard : Claim7 := { stood := { row := fnHallTextUptoRow, standIns := [], harness := (true, "3432a7440a8016e197d95d06dfac8f9bd625ae5cb5e069beaab4a105a3843320"), looks := false }, kinds := [], alts := [], laidByText := true, laidKinds := [.data, .data, .data, .data, .pinned], laidTests := true, laidLooks := .later }
def FnHallTextUptoCardSaid : Prop := Claim7.holds Tryd.pinned (.plain (OpenSpec.upto fnHallTextSpec)) fnHallTextUptoCard

/-- THE SECOND FORM's CARD OF 'laws.FnReadHall'. -/
def fnReadHallUptoCard : Claim7 := { stood := { row := fnReadHallUptoRow, standIns := [], harness := (true, "3432a7440a8016e197d95d06dfac8f9bd625ae5cb5e069beaab4a105a3843320"), looks := false }, kinds := [], alts := [], laidByText := true, laidKinds := [.data, .data, .data, .data, .pinned], laidTests := true, laidLooks := .later }
def FnReadHallUptoCardSaid : Prop := Claim7.holds Tryd.pinned (.plain (OpenSpec.upto fnReadHallSpec)) fnReadHallUptoCard

/-- THE SECOND FORM's CARD OF 'laws.FnExactHallText'. -/
def fnExactHallTextUptoCard : Claim7 := { stood := { row := fnExactHallTextUptoRow, standIns := [], harness := (true, "3432a7440a8016e197d95d06dfac8f9bd625ae5cb5e069beaab4a105a3843320"), looks := false }, kinds := [], alts := [], laidByText := true, laidKinds := [.data, .data, .data], laidTests := true, laidLooks := .later }
def FnExactHallTextUptoCardSaid : Prop := Claim7.holds Tryd.pinned (.plain (OpenSpec.upto fnExactHallTextSpec)) fnExactHallTextUptoCard

/-- THE SECOND FORM's CARD OF 'laws.FnExactReadHall'. -/
def fnExactReadHallUptoCard : Claim7 := { stood := { row := fnExactReadHallUptoRow, standIns := [], harness := (true, "3432a7440a8016e197d95d06dfac8f9bd625ae5cb5e069beaab4a105a3843320"), looks := false }, kinds := [], alts := [], laidByText := true, laidKinds := [.data, .data, .data, .data, .pinned], laidTests := true, laidLooks := .later }
def FnExactReadHallUptoCardSaid : Prop := Claim7.holds Tryd.pinned (.plain (OpenSpec.upto fnExactReadHallSpec)) fnExactReadHallUptoCard
end Rows
end Go.Proofs.YtnfjmcenjpoloaaDoor
