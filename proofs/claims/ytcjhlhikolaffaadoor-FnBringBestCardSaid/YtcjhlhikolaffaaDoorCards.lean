/-
  DERIVED. GIVEN WITH THE SEED: THE CARDS: each row of YtcjhlhikolaffaaDoorRows.lean that lists a variable, with what it lists TIED to the program's text (the seventh form; the later family's looks); each row that meets fmt, with fmt's text TOLD by the authors' own Lean function (tested against real Go, not proved from fmt's source: count such statements apart). THE CARD IS WHAT COUNTS. Prove the row's statement (the work); the ties are given (YtcjhlhikolaffaaDoorTie.lean); close each card by the builder's one call (the guide's Derived/Test/ToyasCard.lean, 'card_holds'). Laid BY PROGRAM, IN A SANDBOX (cutbox-door.mjs). By AI agents, Wed Nov 11 2026. No macro, syntax, notation, axiom, sorry.
-/
import Derived.Test.YtcjhlhikolaffaaDoorRows
import GoSem.ClaimSeven
namespace Go.Proofs.YtcjhlhikolaffaaDoor
namespace Rows

/-- THE TIED CARD OF 'laws.FnSlideRun'. -/
def fnSlideRunCard : Claim7 := { stood := { row := fnSlideRunRow, standIns := [], harness := (true, "c97014f68e76c9bee1cf1c060a80fa87c7108b1da98671c5a888dc0ca14298e4"), looks := false }, kinds := [], alts := [], laidByText := true, laidKinds := [.data, .data, .data], laidTests := true, laidLooks := .later }
def FnSlideRunCardSaid : Prop := Claim7.holds Tryd.pinned (.plain (OpenSpec.ofChange fnSlideRunSpec)) fnSlideRunCard

/-- THE TIED CARD OF 'laws.FnParityOf'. -/
def fnParityOfCard : Claim7 := { stood := { row := fnParityOfRow, standIns := [], harness := (true, "c97014f68e76c9bee1cf1c060a80fa87c7108b1da98671c5a888dc0ca14298e4"), looks := false }, kinds := [], alts := [], laidByText := true, laidKinds := [.data, .data, .data], laidTests := true, laidLooks := .later }
def FnParityOfCardSaid : Prop := Claim7.holds Tryd.pinned (.plain (OpenSpec.ofChange fnParityOfSpec)) fnParityOfCard

/-- THE TIED CARD OF 'laws.FnHallText'. -/
def fnHallTextCard : Claim7 := { stood := { row := fnHallTextRow, standIns := [], harness := (true, "c97014f68e76c9bee1cf1c060a80fa87c7108b1da98671c5a888dc0ca14298e4"), looks := false }, kinds := [], alts := [], laidByText := true, laidKinds := [.data, .data, .data, .data, .pinned], laidTests := true, laidLooks := .later }
def FnHallTextCardSaid : Prop := Claim7.holds Tryd.pinned (.plain (OpenSpec.ofChange fnHallTextSpec)) fnHallTextCard

/-- THE TIED CARD OF 'laws.FnClearGate'. -/
def fnClearGateCard : Claim7 := { stood := { row := fnClearGateRow, standIns := [], harness := (true, "c97014f68e76c9bee1cf1c060a80fa87c7108b1da98671c5a888dc0ca14298e4"), looks := false }, kinds := [], alts := [], laidByText := true, laidKinds := [.data, .data, .data], laidTests := true, laidLooks := .later }
def FnClearGateCardSaid : Prop := Claim7.holds Tryd.pinned (.plain (OpenSpec.ofChange fnClearGateSpec)) fnClearGateCard

/-- THE TIED CARD OF 'laws.FnReadHall'. -/
def fnReadHallCard : Claim7 := { stood := { row := fnReadHallRow, standIns := [], harness := (true, "c97014f68e76c9bee1cf1c060a80fa87c7108b1da98671c5a888dc0ca14298e4"), looks := false }, kinds := [], alts := [], laidByText := true, laidKinds := [.data, .data, .data, .data, .pinned], laidTests := true, laidLooks := .later }
def FnReadHallCardSaid : Prop := Claim7.holds Tryd.pinned (.plain (OpenSpec.ofChange fnReadHallSpec)) fnReadHallCard

/-- THE TIED CARD OF 'laws.FnBringPlan'. -/
def fnBringPlanCard : Claim7 := { stood := { row := fnBringPlanRow, standIns := [], harness := (true, "c97014f68e76c9bee1cf1c060a80fa87c7108b1da98671c5a888dc0ca14298e4"), looks := false }, kinds := [], alts := [], laidByText := true, laidKinds := [.data, .data, .data], laidTests := true, laidLooks := .later }
def FnBringPlanCardSaid : Prop := Claim7.holds Tryd.pinned (.plain (OpenSpec.ofChange fnBringPlanSpec)) fnBringPlanCard

/-- THE TIED CARD OF 'laws.FnAlike'. -/
def fnAlikeCard : Claim7 := { stood := { row := fnAlikeRow, standIns := [], harness := (true, "c97014f68e76c9bee1cf1c060a80fa87c7108b1da98671c5a888dc0ca14298e4"), looks := false }, kinds := [], alts := [], laidByText := true, laidKinds := [.data, .data, .data], laidTests := true, laidLooks := .later }
def FnAlikeCardSaid : Prop := Claim7.holds Tryd.pinned (.plain (OpenSpec.ofChange fnAlikeSpec)) fnAlikeCard

/-- THE TIED CARD OF 'laws.FnFetchDo'. -/
def fnFetchDoCard : Claim7 := { stood := { row := fnFetchDoRow, standIns := [], harness := (true, "c97014f68e76c9bee1cf1c060a80fa87c7108b1da98671c5a888dc0ca14298e4"), looks := false }, kinds := [], alts := [], laidByText := true, laidKinds := [.data, .data, .data], laidTests := true, laidLooks := .later }
def FnFetchDoCardSaid : Prop := Claim7.holds Tryd.pinned (.plain (OpenSpec.ofChange fnFetchDoSpec)) fnFetchDoCard

/-- THE TIED CARD OF 'laws.FnFetchRun'. -/
def fnFetchRunCard : Claim7 := { stood := { row := fnFetchRunRow, standIns := [], harness := (true, "c97014f68e76c9bee1cf1c060a80fa87c7108b1da98671c5a888dc0ca14298e4"), looks := false }, kinds := [], alts := [], laidByText := true, laidKinds := [.data, .data, .data], laidTests := true, laidLooks := .later }
def FnFetchRunCardSaid : Prop := Claim7.holds Tryd.pinned (.plain (OpenSpec.ofChange fnFetchRunSpec)) fnFetchRunCard

/-- THE TIED CARD OF 'laws.FnBringBest'. -/
def fnBringBestCard : Claim7 := { stood := { row := fnBringBestRow, standIns := [], harness := (true, "c97014f68e76c9bee1cf1c060a80fa87c7108b1da98671c5a888dc0ca14298e4"), looks := false }, kinds := [], alts := [], laidByText := true, laidKinds := [.data, .data, .data], laidTests := true, laidLooks := .later }
def FnBringBestCardSaid : Prop := Claim7.holds Tryd.pinned (.plain (OpenSpec.ofChange fnBringBestSpec)) fnBringBestCard

/-- THE TIED CARD OF 'laws.FnBringLeast'. -/
def fnBringLeastCard : Claim7 := { stood := { row := fnBringLeastRow, standIns := [], harness := (true, "c97014f68e76c9bee1cf1c060a80fa87c7108b1da98671c5a888dc0ca14298e4"), looks := false }, kinds := [], alts := [], laidByText := true, laidKinds := [.data, .data, .data], laidTests := true, laidLooks := .later }
def FnBringLeastCardSaid : Prop := Claim7.holds Tryd.pinned (.plain (OpenSpec.ofChange fnBringLeastSpec)) fnBringLeastCard

/-- THE SECOND FORM's CARD OF 'laws.FnSlideRun'. -/
def fnSlideRunUptoCard : Claim7 := { stood := { row := fnSlideRunUptoRow, standIns := [], harness := (true, "c97014f68e76c9bee1cf1c060a80fa87c7108b1da98671c5a888dc0ca14298e4"), looks := false }, kinds := [], alts := [], laidByText := true, laidKinds := [.data, .data, .data], laidTests := true, laidLooks := .later }
def FnSlideRunUptoCardSaid : Prop := Claim7.holds Tryd.pinned (.plain (OpenSpec.upto fnSlideRunSpec)) fnSlideRunUptoCard

/-- THE SECOND FORM's CARD OF 'laws.FnParityOf'. -/
def fnParityOfUptoCard : Claim7 := { stood := { row := fnParityOfUptoRow, standIns := [], harness := (true, "c97014f68e76c9bee1cf1c060a80fa87c7108b1da98671c5a888dc0ca14298e4"), looks := false }, kinds := [], alts := [], laidByText := true, laidKinds := [.data, .data, .data], laidTests := true, laidLooks := .later }
def FnParityOfUptoCardSaid : Prop := Claim7.holds Tryd.pinned (.plain (OpenSpec.upto fnParityOfSpec)) fnParityOfUptoCard

/-- THE SECOND FORM's CARD OF 'laws.FnHallText'. -/
def fnHallTextUptoCard : Claim7 := { stood := { row := fnHallTextUptoRow, standIns := [], harness := (true, "c97014f68e76c9bee1cf1c060a80fa87c7108b1da98671c5a888dc0ca14298e4"), looks := false }, kinds := [], alts := [], laidByText := true, laidKinds := [.data, .data, .data, .data, .pinned], laidTests := true, laidLooks := .later }
def FnHallTextUptoCardSaid : Prop := Claim7.holds Tryd.pinned (.plain (OpenSpec.upto fnHallTextSpec)) fnHallTextUptoCard

/-- THE SECOND FORM's CARD OF 'laws.FnClearGate'. -/
def fnClearGateUptoCard : Claim7 := { stood := { row := fnClearGateUptoRow, standIns := [], harness := (true, "c97014f68e76c9bee1cf1c060a80fa87c7108b1da98671c5a888dc0ca14298e4"), looks := false }, kinds := [], alts := [], laidByText := true, laidKinds := [.data, .data, .data], laidTests := true, laidLooks := .later }
def FnClearGateUptoCardSaid : Prop := Claim7.holds Tryd.pinned (.plain (OpenSpec.upto fnClearGateSpec)) fnClearGateUptoCard

/-- THE SECOND FORM's CARD OF 'laws.FnReadHall'. -/
def fnReadHallUptoCard : Claim7 := { stood := { row := fnReadHallUptoRow, standIns := [], harness := (true, "c97014f68e76c9bee1cf1c060a80fa87c7108b1da98671c5a888dc0ca14298e4"), looks := false }, kinds := [], alts := [], laidByText := true, laidKinds := [.data, .data, .data, .data, .pinned], laidTests := true, laidLooks := .later }
def FnReadHallUptoCardSaid : Prop := Claim7.holds Tryd.pinned (.plain (OpenSpec.upto fnReadHallSpec)) fnReadHallUptoCard

/-- THE SECOND FORM's CARD OF 'laws.FnBringPlan'. -/
def fnBringPlanUptoCard : Claim7 := { stood := { row := fnBringPlanUptoRow, standIns := [], harness := (true, "c97014f68e76c9bee1cf1c060a80fa87c7108b1da98671c5a888dc0ca14298e4"), looks := false }, kinds := [], alts := [], laidByText := true, laidKinds := [.data, .data, .data], laidTests := true, laidLooks := .later }
def FnBringPlanUptoCardSaid : Prop := Claim7.holds Tryd.pinned (.plain (OpenSpec.upto fnBringPlanSpec)) fnBringPlanUptoCard

/-- THE SECOND FORM's CARD OF 'laws.FnAlike'. -/
def fnAlikeUptoCard : Claim7 := { stood := { row := fnAlikeUptoRow, standIns := [], harness := (true, "c97014f68e76c9bee1cf1c060a80fa87c7108b1da98671c5a888dc0ca14298e4"), looks := false }, kinds := [], alts := [], laidByText := true, laidKinds := [.data, .data, .data], laidTests := true, laidLooks := .later }
def FnAlikeUptoCardSaid : Prop := Claim7.holds Tryd.pinned (.plain (OpenSpec.upto fnAlikeSpec)) fnAlikeUptoCard

/-- THE SECOND FORM's CARD OF 'laws.FnFetchDo'. -/
def fnFetchDoUptoCard : Claim7 := { stood := { row := fnFetchDoUptoRow, standIns := [], harness := (true, "c97014f68e76c9bee1cf1c060a80fa87c7108b1da98671c5a888dc0ca14298e4"), looks := false }, kinds := [], alts := [], laidByText := true, laidKinds := [.data, .data, .data], laidTests := true, laidLooks := .later }
def FnFetchDoUptoCardSaid : Prop := Claim7.holds Tryd.pinned (.plain (OpenSpec.upto fnFetchDoSpec)) fnFetchDoUptoCard

/-- THE SECOND FORM's CARD OF 'laws.FnFetchRun'. -/
def fnFetchRunUptoCard : Claim7 := { stood := { row := fnFetchRunUptoRow, standIns := [], harness := (true, "c97014f68e76c9bee1cf1c060a80fa87c7108b1da98671c5a888dc0ca14298e4"), looks := false }, kinds := [], alts := [], laidByText := true, laidKinds := [.data, .data, .data], laidTests := true, laidLooks := .later }
def FnFetchRunUptoCardSaid : Prop := Claim7.holds Tryd.pinned (.plain (OpenSpec.upto fnFetchRunSpec)) fnFetchRunUptoCard

/-- THE SECOND FORM's CARD OF 'laws.FnBringBest'. -/
def fnBringBestUptoCard : Claim7 := { stood := { row := fnBringBestUptoRow, standIns := [], harness := (true, "c97014f68e76c9bee1cf1c060a80fa87c7108b1da98671c5a888dc0ca14298e4"), looks := false }, kinds := [], alts := [], laidByText := true, laidKinds := [.data, .data, .data], laidTests := true, laidLooks := .later }
def FnBringBestUptoCardSaid : Prop := Claim7.holds Tryd.pinned (.plain (OpenSpec.upto fnBringBestSpec)) fnBringBestUptoCard

/-- THE SECOND FORM's CARD OF 'laws.FnBringLeast'. -/
def fnBringLeastUptoCard : Claim7 := { stood := { row := fnBringLeastUptoRow, standIns := [], harness := (true, "c97014f68e76c9bee1cf1c060a80fa87c7108b1da98671c5a888dc0ca14298e4"), looks := false }, kinds := [], alts := [], laidByText := true, laidKinds := [.data, .data, .data], laidTests := true, laidLooks := .later }
def FnBringLeastUptoCardSaid : Prop := Claim7.holds Tryd.pinned (.plain (OpenSpec.upto fnBringLeastSpec)) fnBringLeastUptoCard
end Rows
end Go.Proofs.YtcjhlhikolaffaaDoor
