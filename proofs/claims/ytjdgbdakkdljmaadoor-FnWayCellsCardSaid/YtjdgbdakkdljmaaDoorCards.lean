/-
  DERIVED. GIVEN WITH THE SEED: THE CARDS: each row of YtjdgbdakkdljmaaDoorRows.lean that lists a variable, with what it lists TIED to the program's text (the seventh form; the later family's looks); each row that meets fmt, with fmt's text TOLD by the authors' own Lean function (tested against real Go, not proved from fmt's source: count such statements apart). THE CARD IS WHAT COUNTS. Prove the row's statement (the work); the ties are given (YtjdgbdakkdljmaaDoorTie.lean); close each card by the builder's one call (the guide's Derived/Test/ToyasCard.lean, 'card_holds'). Laid BY PROGRAM, IN A SANDBOX (cutbox-door.mjs). By AI agents, Wed Nov 11 2026. No macro, syntax, notation, axiom, sorry.
-/
import Derived.Test.YtjdgbdakkdljmaaDoorRows
import GoSem.ClaimSeven
namespace Go.Proofs.YtjdgbdakkdljmaaDoor
namespace Rows

/-- THE TIED CARD OF 'laws.FnHallCars'. -/
def fnHallCarsCard : Claim7 := { stood := { row := fnHallCarsRow, standIns := [], harness := (true, "95bd73474bbfca7220134a5bcb344c632dd53cc0a5fc55e53307baf8364cf53d"), looks := false }, kinds := [], alts := [], laidByText := true, laidKinds := [.data, .data, .data], laidTests := true, laidLooks := .later }
def FnHallCarsCardSaid : Prop := Claim7.holds Tryd.pinned (.plain (OpenSpec.ofChange fnHallCarsSpec)) fnHallCarsCard

/-- THE TIED CARD OF 'laws.FnHallTurn'. -/
def fnHallTurnCard : Claim7 := { stood := { row := fnHallTurnRow, standIns := [], harness := (true, "95bd73474bbfca7220134a5bcb344c632dd53cc0a5fc55e53307baf8364cf53d"), looks := false }, kinds := [], alts := [], laidByText := true, laidKinds := [.data, .data, .data], laidTests := true, laidLooks := .later }
def FnHallTurnCardSaid : Prop := Claim7.holds Tryd.pinned (.plain (OpenSpec.ofChange fnHallTurnSpec)) fnHallTurnCard

/-- THE TIED CARD OF 'laws.FnSlidesAll'. -/
def fnSlidesAllCard : Claim7 := { stood := { row := fnSlidesAllRow, standIns := [], harness := (true, "95bd73474bbfca7220134a5bcb344c632dd53cc0a5fc55e53307baf8364cf53d"), looks := false }, kinds := [], alts := [], laidByText := true, laidKinds := [.data, .data, .data], laidTests := true, laidLooks := .later }
def FnSlidesAllCardSaid : Prop := Claim7.holds Tryd.pinned (.plain (OpenSpec.ofChange fnSlidesAllSpec)) fnSlidesAllCard

/-- THE TIED CARD OF 'laws.FnSlideDo'. -/
def fnSlideDoCard : Claim7 := { stood := { row := fnSlideDoRow, standIns := [], harness := (true, "95bd73474bbfca7220134a5bcb344c632dd53cc0a5fc55e53307baf8364cf53d"), looks := false }, kinds := [], alts := [], laidByText := true, laidKinds := [.data, .data, .data], laidTests := true, laidLooks := .later }
def FnSlideDoCardSaid : Prop := Claim7.holds Tryd.pinned (.plain (OpenSpec.ofChange fnSlideDoSpec)) fnSlideDoCard

/-- THE TIED CARD OF 'laws.FnSlideRun'. -/
def fnSlideRunCard : Claim7 := { stood := { row := fnSlideRunRow, standIns := [], harness := (true, "95bd73474bbfca7220134a5bcb344c632dd53cc0a5fc55e53307baf8364cf53d"), looks := false }, kinds := [], alts := [], laidByText := true, laidKinds := [.data, .data, .data], laidTests := true, laidLooks := .later }
def FnSlideRunCardSaid : Prop := Claim7.holds Tryd.pinned (.plain (OpenSpec.ofChange fnSlideRunSpec)) fnSlideRunCard

/-- THE TIED CARD OF 'laws.FnParityOf'. -/
def fnParityOfCard : Claim7 := { stood := { row := fnParityOfRow, standIns := [], harness := (true, "95bd73474bbfca7220134a5bcb344c632dd53cc0a5fc55e53307baf8364cf53d"), looks := false }, kinds := [], alts := [], laidByText := true, laidKinds := [.data, .data, .data], laidTests := true, laidLooks := .later }
def FnParityOfCardSaid : Prop := Claim7.holds Tryd.pinned (.plain (OpenSpec.ofChange fnParityOfSpec)) fnParityOfCard

/-- THE TIED CARD OF 'laws.FnWayCells'. -/
def fnWayCellsCard : Claim7 := { stood := { row := fnWayCellsRow, standIns := [], harness := (true, "95bd73474bbfca7220134a5bcb344c632dd53cc0a5fc55e53307baf8364cf53d"), looks := false }, kinds := [], alts := [], laidByText := true, laidKinds := [.data, .data, .data], laidTests := true, laidLooks := .later }
def FnWayCellsCardSaid : Prop := Claim7.holds Tryd.pinned (.plain (OpenSpec.ofChange fnWayCellsSpec)) fnWayCellsCard

/-- THE TIED CARD OF 'laws.FnHoleSlides'. -/
def fnHoleSlidesCard : Claim7 := { stood := { row := fnHoleSlidesRow, standIns := [], harness := (true, "95bd73474bbfca7220134a5bcb344c632dd53cc0a5fc55e53307baf8364cf53d"), looks := false }, kinds := [], alts := [], laidByText := true, laidKinds := [.data, .data, .data], laidTests := true, laidLooks := .later }
def FnHoleSlidesCardSaid : Prop := Claim7.holds Tryd.pinned (.plain (OpenSpec.ofChange fnHoleSlidesSpec)) fnHoleSlidesCard

/-- THE TIED CARD OF 'laws.FnHallText'. -/
def fnHallTextCard : Claim7 := { stood := { row := fnHallTextRow, standIns := [], harness := (true, "95bd73474bbfca7220134a5bcb344c632dd53cc0a5fc55e53307baf8364cf53d"), looks := false }, kinds := [], alts := [], laidByText := true, laidKinds := [.data, .data, .data, .data, .pinned], laidTests := true, laidLooks := .later }
def FnHallTextCardSaid : Prop := Claim7.holds Tryd.pinned (.plain (OpenSpec.ofChange fnHallTextSpec)) fnHallTextCard

/-- THE TIED CARD OF 'laws.FnClearGate'. -/
def fnClearGateCard : Claim7 := { stood := { row := fnClearGateRow, standIns := [], harness := (true, "95bd73474bbfca7220134a5bcb344c632dd53cc0a5fc55e53307baf8364cf53d"), looks := false }, kinds := [], alts := [], laidByText := true, laidKinds := [.data, .data, .data], laidTests := true, laidLooks := .later }
def FnClearGateCardSaid : Prop := Claim7.holds Tryd.pinned (.plain (OpenSpec.ofChange fnClearGateSpec)) fnClearGateCard

/-- THE TIED CARD OF 'laws.FnReadHall'. -/
def fnReadHallCard : Claim7 := { stood := { row := fnReadHallRow, standIns := [], harness := (true, "95bd73474bbfca7220134a5bcb344c632dd53cc0a5fc55e53307baf8364cf53d"), looks := false }, kinds := [], alts := [], laidByText := true, laidKinds := [.data, .data, .data, .data, .pinned], laidTests := true, laidLooks := .later }
def FnReadHallCardSaid : Prop := Claim7.holds Tryd.pinned (.plain (OpenSpec.ofChange fnReadHallSpec)) fnReadHallCard

/-- THE TIED CARD OF 'laws.FnExactReadHall'. -/
def fnExactReadHallCard : Claim7 := { stood := { row := fnExactReadHallRow, standIns := [], harness := (true, "95bd73474bbfca7220134a5bcb344c632dd53cc0a5fc55e53307baf8364cf53d"), looks := false }, kinds := [], alts := [], laidByText := true, laidKinds := [.data, .data, .data, .data, .pinned], laidTests := true, laidLooks := .later }
def FnExactReadHallCardSaid : Prop := Claim7.holds Tryd.pinned (.plain (OpenSpec.ofChange fnExactReadHallSpec)) fnExactReadHallCard

/-- THE SECOND FORM's CARD OF 'laws.FnHallCars'. -/
def fnHallCarsUptoCard : Claim7 := { stood := { row := fnHallCarsUptoRow, standIns := [], harness := (true, "95bd73474bbfca7220134a5bcb344c632dd53cc0a5fc55e53307baf8364cf53d"), looks := false }, kinds := [], alts := [], laidByText := true, laidKinds := [.data, .data, .data], laidTests := true, laidLooks := .later }
def FnHallCarsUptoCardSaid : Prop := Claim7.holds Tryd.pinned (.plain (OpenSpec.upto fnHallCarsSpec)) fnHallCarsUptoCard

/-- THE SECOND FORM's CARD OF 'laws.FnHallTurn'. -/
def fnHallTurnUptoCard : Claim7 := { stood := { row := fnHallTurnUptoRow, standIns := [], harness := (true, "95bd73474bbfca7220134a5bcb344c632dd53cc0a5fc55e53307baf8364cf53d"), looks := false }, kinds := [], alts := [], laidByText := true, laidKinds := [.data, .data, .data], laidTests := true, laidLooks := .later }
def FnHallTurnUptoCardSaid : Prop := Claim7.holds Tryd.pinned (.plain (OpenSpec.upto fnHallTurnSpec)) fnHallTurnUptoCard

/-- THE SECOND FORM's CARD OF 'laws.FnSlidesAll'. -/
def fnSlidesAllUptoCard : Claim7 := { stood := { row := fnSlidesAllUptoRow, standIns := [], harness := (true, "95bd73474bbfca7220134a5bcb344c632dd53cc0a5fc55e53307baf8364cf53d"), looks := false }, kinds := [], alts := [], laidByText := true, laidKinds := [.data, .data, .data], laidTests := true, laidLooks := .later }
def FnSlidesAllUptoCardSaid : Prop := Claim7.holds Tryd.pinned (.plain (OpenSpec.upto fnSlidesAllSpec)) fnSlidesAllUptoCard

/-- THE SECOND FORM's CARD OF 'laws.FnSlideDo'. -/
def fnSlideDoUptoCard : Claim7 := { stood := { row := fnSlideDoUptoRow, standIns := [], harness := (true, "95bd73474bbfca7220134a5bcb344c632dd53cc0a5fc55e53307baf8364cf53d"), looks := false }, kinds := [], alts := [], laidByText := true, laidKinds := [.data, .data, .data], laidTests := true, laidLooks := .later }
def FnSlideDoUptoCardSaid : Prop := Claim7.holds Tryd.pinned (.plain (OpenSpec.upto fnSlideDoSpec)) fnSlideDoUptoCard

/-- THE SECOND FORM's CARD OF 'laws.FnSlideRun'. -/
def fnSlideRunUptoCard : Claim7 := { stood := { row := fnSlideRunUptoRow, standIns := [], harness := (true, "95bd73474bbfca7220134a5bcb344c632dd53cc0a5fc55e53307baf8364cf53d"), looks := false }, kinds := [], alts := [], laidByText := true, laidKinds := [.data, .data, .data], laidTests := true, laidLooks := .later }
def FnSlideRunUptoCardSaid : Prop := Claim7.holds Tryd.pinned (.plain (OpenSpec.upto fnSlideRunSpec)) fnSlideRunUptoCard

/-- THE SECOND FORM's CARD OF 'laws.FnParityOf'. -/
def fnParityOfUptoCard : Claim7 := { stood := { row := fnParityOfUptoRow, standIns := [], harness := (true, "95bd73474bbfca7220134a5bcb344c632dd53cc0a5fc55e53307baf8364cf53d"), looks := false }, kinds := [], alts := [], laidByText := true, laidKinds := [.data, .data, .data], laidTests := true, laidLooks := .later }
def FnParityOfUptoCardSaid : Prop := Claim7.holds Tryd.pinned (.plain (OpenSpec.upto fnParityOfSpec)) fnParityOfUptoCard

/-- THE SECOND FORM's CARD OF 'laws.FnWayCells'. -/
def fnWayCellsUptoCard : Claim7 := { stood := { row := fnWayCellsUptoRow, standIns := [], harness := (true, "95bd73474bbfca7220134a5bcb344c632dd53cc0a5fc55e53307baf8364cf53d"), looks := false }, kinds := [], alts := [], laidByText := true, laidKinds := [.data, .data, .data], laidTests := true, laidLooks := .later }
def FnWayCellsUptoCardSaid : Prop := Claim7.holds Tryd.pinned (.plain (OpenSpec.upto fnWayCellsSpec)) fnWayCellsUptoCard

/-- THE SECOND FORM's CARD OF 'laws.FnHoleSlides'. -/
def fnHoleSlidesUptoCard : Claim7 := { stood := { row := fnHoleSlidesUptoRow, standIns := [], harness := (true, "95bd73474bbfca7220134a5bcb344c632dd53cc0a5fc55e53307baf8364cf53d"), looks := false }, kinds := [], alts := [], laidByText := true, laidKinds := [.data, .data, .data], laidTests := true, laidLooks := .later }
def FnHoleSlidesUptoCardSaid : Prop := Claim7.holds Tryd.pinned (.plain (OpenSpec.upto fnHoleSlidesSpec)) fnHoleSlidesUptoCard

/-- THE SECOND FORM's CARD OF 'laws.FnHallText'. -/
def fnHallTextUptoCard : Claim7 := { stood := { row := fnHallTextUptoRow, standIns := [], harness := (true, "95bd73474bbfca7220134a5bcb344c632dd53cc0a5fc55e53307baf8364cf53d"), looks := false }, kinds := [], alts := [], laidByText := true, laidKinds := [.data, .data, .data, .data, .pinned], laidTests := true, laidLooks := .later }
def FnHallTextUptoCardSaid : Prop := Claim7.holds Tryd.pinned (.plain (OpenSpec.upto fnHallTextSpec)) fnHallTextUptoCard

/-- THE SECOND FORM's CARD OF 'laws.FnClearGate'. -/
def fnClearGateUptoCard : Claim7 := { stood := { row := fnClearGateUptoRow, standIns := [], harness := (true, "95bd73474bbfca7220134a5bcb344c632dd53cc0a5fc55e53307baf8364cf53d"), looks := false }, kinds := [], alts := [], laidByText := true, laidKinds := [.data, .data, .data], laidTests := true, laidLooks := .later }
def FnClearGateUptoCardSaid : Prop := Claim7.holds Tryd.pinned (.plain (OpenSpec.upto fnClearGateSpec)) fnClearGateUptoCard

/-- THE SECOND FORM's CARD OF 'laws.FnReadHall'. -/
def fnReadHallUptoCard : Claim7 := { stood := { row := fnReadHallUptoRow, standIns := [], harness := (true, "95bd73474bbfca7220134a5bcb344c632dd53cc0a5fc55e53307baf8364cf53d"), looks := false }, kinds := [], alts := [], laidByText := true, laidKinds := [.data, .data, .data, .data, .pinned], laidTests := true, laidLooks := .later }
def FnReadHallUptoCardSaid : Prop := Claim7.holds Tryd.pinned (.plain (OpenSpec.upto fnReadHallSpec)) fnReadHallUptoCard

/-- THE SECOND FORM's CARD OF 'laws.FnExactReadHall'. -/
def fnExactReadHallUptoCard : Claim7 := { stood := { row := fnExactReadHallUptoRow, standIns := [], harness := (true, "95bd73474bbfca7220134a5bcb344c632dd53cc0a5fc55e53307baf8364cf53d"), looks := false }, kinds := [], alts := [], laidByText := true, laidKinds := [.data, .data, .data, .data, .pinned], laidTests := true, laidLooks := .later }
def FnExactReadHallUptoCardSaid : Prop := Claim7.holds Tryd.pinned (.plain (OpenSpec.upto fnExactReadHallSpec)) fnExactReadHallUptoCard
end Rows
end Go.Proofs.YtjdgbdakkdljmaaDoor
