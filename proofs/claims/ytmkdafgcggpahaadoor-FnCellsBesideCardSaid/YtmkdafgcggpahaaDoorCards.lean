/-
  DERIVED. GIVEN WITH THE SEED: THE CARDS: each row of YtmkdafgcggpahaaDoorRows.lean that lists a variable, with what it lists TIED to the program's text (the seventh form; the later family's looks); each row that meets fmt, with fmt's text TOLD by the authors' own Lean function (tested against real Go, not proved from fmt's source: count such statements apart). THE CARD IS WHAT COUNTS. Prove the row's statement (the work); the ties are given (YtmkdafgcggpahaaDoorTie.lean); close each card by the builder's one call (the guide's Derived/Test/ToyasCard.lean, 'card_holds'). Laid BY PROGRAM, IN A SANDBOX (cutbox-door.mjs). By AI agents, Wed Nov 11 2026. No macro, syntax, notation, axiom, sorry.
-/
import Derived.Test.YtmkdafgcggpahaaDoorRows
import GoSem.ClaimSeven
namespace Go.Proofs.YtmkdafgcggpahaaDoor
namespace Rows

/-- THE TIED CARD OF 'laws.FnHallValid'. -/
def fnHallValidCard : Claim7 := { stood := { row := fnHallValidRow, standIns := [], harness := (true, "183c6039e94343597abad65a678dfe7ab664f20e51fdc3ab499f890404975da0"), looks := false }, kinds := [], alts := [], laidByText := true, laidKinds := [.data, .data, .data], laidTests := true, laidLooks := .later }
def FnHallValidCardSaid : Prop := Claim7.holds Tryd.pinned (.plain (OpenSpec.ofChange fnHallValidSpec)) fnHallValidCard

/-- THE TIED CARD OF 'laws.FnCellAt'. -/
def fnCellAtCard : Claim7 := { stood := { row := fnCellAtRow, standIns := [], harness := (true, "183c6039e94343597abad65a678dfe7ab664f20e51fdc3ab499f890404975da0"), looks := false }, kinds := [], alts := [], laidByText := true, laidKinds := [.data, .data, .data], laidTests := true, laidLooks := .later }
def FnCellAtCardSaid : Prop := Claim7.holds Tryd.pinned (.plain (OpenSpec.ofChange fnCellAtSpec)) fnCellAtCard

/-- THE TIED CARD OF 'laws.FnCellPlace'. -/
def fnCellPlaceCard : Claim7 := { stood := { row := fnCellPlaceRow, standIns := [], harness := (true, "183c6039e94343597abad65a678dfe7ab664f20e51fdc3ab499f890404975da0"), looks := false }, kinds := [], alts := [], laidByText := true, laidKinds := [.data, .data, .data], laidTests := true, laidLooks := .later }
def FnCellPlaceCardSaid : Prop := Claim7.holds Tryd.pinned (.plain (OpenSpec.ofChange fnCellPlaceSpec)) fnCellPlaceCard

/-- THE TIED CARD OF 'laws.FnCellsApart'. -/
def fnCellsApartCard : Claim7 := { stood := { row := fnCellsApartRow, standIns := [], harness := (true, "183c6039e94343597abad65a678dfe7ab664f20e51fdc3ab499f890404975da0"), looks := false }, kinds := [], alts := [], laidByText := true, laidKinds := [.data, .data, .data], laidTests := true, laidLooks := .later }
def FnCellsApartCardSaid : Prop := Claim7.holds Tryd.pinned (.plain (OpenSpec.ofChange fnCellsApartSpec)) fnCellsApartCard

/-- THE TIED CARD OF 'laws.FnSlideMay'. -/
def fnSlideMayCard : Claim7 := { stood := { row := fnSlideMayRow, standIns := [], harness := (true, "183c6039e94343597abad65a678dfe7ab664f20e51fdc3ab499f890404975da0"), looks := false }, kinds := [], alts := [], laidByText := true, laidKinds := [.data, .data, .data], laidTests := true, laidLooks := .later }
def FnSlideMayCardSaid : Prop := Claim7.holds Tryd.pinned (.plain (OpenSpec.ofChange fnSlideMaySpec)) fnSlideMayCard

/-- THE TIED CARD OF 'laws.FnSlidesBack'. -/
def fnSlidesBackCard : Claim7 := { stood := { row := fnSlidesBackRow, standIns := [], harness := (true, "183c6039e94343597abad65a678dfe7ab664f20e51fdc3ab499f890404975da0"), looks := false }, kinds := [], alts := [], laidByText := true, laidKinds := [.data, .data, .data], laidTests := true, laidLooks := .later }
def FnSlidesBackCardSaid : Prop := Claim7.holds Tryd.pinned (.plain (OpenSpec.ofChange fnSlidesBackSpec)) fnSlidesBackCard

/-- THE TIED CARD OF 'laws.FnCellsBeside'. -/
def fnCellsBesideCard : Claim7 := { stood := { row := fnCellsBesideRow, standIns := [], harness := (true, "183c6039e94343597abad65a678dfe7ab664f20e51fdc3ab499f890404975da0"), looks := false }, kinds := [], alts := [], laidByText := true, laidKinds := [.data, .data, .data], laidTests := true, laidLooks := .later }
def FnCellsBesideCardSaid : Prop := Claim7.holds Tryd.pinned (.plain (OpenSpec.ofChange fnCellsBesideSpec)) fnCellsBesideCard

/-- THE TIED CARD OF 'laws.FnHallTake'. -/
def fnHallTakeCard : Claim7 := { stood := { row := fnHallTakeRow, standIns := [], harness := (true, "183c6039e94343597abad65a678dfe7ab664f20e51fdc3ab499f890404975da0"), looks := false }, kinds := [], alts := [], laidByText := true, laidKinds := [.data, .data, .data], laidTests := true, laidLooks := .later }
def FnHallTakeCardSaid : Prop := Claim7.holds Tryd.pinned (.plain (OpenSpec.ofChange fnHallTakeSpec)) fnHallTakeCard

/-- THE TIED CARD OF 'laws.FnHallPut'. -/
def fnHallPutCard : Claim7 := { stood := { row := fnHallPutRow, standIns := [], harness := (true, "183c6039e94343597abad65a678dfe7ab664f20e51fdc3ab499f890404975da0"), looks := false }, kinds := [], alts := [], laidByText := true, laidKinds := [.data, .data, .data], laidTests := true, laidLooks := .later }
def FnHallPutCardSaid : Prop := Claim7.holds Tryd.pinned (.plain (OpenSpec.ofChange fnHallPutSpec)) fnHallPutCard

/-- THE TIED CARD OF 'laws.FnHallFree'. -/
def fnHallFreeCard : Claim7 := { stood := { row := fnHallFreeRow, standIns := [], harness := (true, "183c6039e94343597abad65a678dfe7ab664f20e51fdc3ab499f890404975da0"), looks := false }, kinds := [], alts := [], laidByText := true, laidKinds := [.data, .data, .data], laidTests := true, laidLooks := .later }
def FnHallFreeCardSaid : Prop := Claim7.holds Tryd.pinned (.plain (OpenSpec.ofChange fnHallFreeSpec)) fnHallFreeCard

/-- THE TIED CARD OF 'laws.FnHallEmpty'. -/
def fnHallEmptyCard : Claim7 := { stood := { row := fnHallEmptyRow, standIns := [], harness := (true, "183c6039e94343597abad65a678dfe7ab664f20e51fdc3ab499f890404975da0"), looks := false }, kinds := [], alts := [], laidByText := true, laidKinds := [.data, .data, .data], laidTests := true, laidLooks := .later }
def FnHallEmptyCardSaid : Prop := Claim7.holds Tryd.pinned (.plain (OpenSpec.ofChange fnHallEmptySpec)) fnHallEmptyCard

/-- THE TIED CARD OF 'laws.FnHallFind'. -/
def fnHallFindCard : Claim7 := { stood := { row := fnHallFindRow, standIns := [], harness := (true, "183c6039e94343597abad65a678dfe7ab664f20e51fdc3ab499f890404975da0"), looks := false }, kinds := [], alts := [], laidByText := true, laidKinds := [.data, .data, .data], laidTests := true, laidLooks := .later }
def FnHallFindCardSaid : Prop := Claim7.holds Tryd.pinned (.plain (OpenSpec.ofChange fnHallFindSpec)) fnHallFindCard

/-- THE SECOND FORM's CARD OF 'laws.FnHallValid'. -/
def fnHallValidUptoCard : Claim7 := { stood := { row := fnHallValidUptoRow, standIns := [], harness := (true, "183c6039e94343597abad65a678dfe7ab664f20e51fdc3ab499f890404975da0"), looks := false }, kinds := [], alts := [], laidByText := true, laidKinds := [.data, .data, .data], laidTests := true, laidLooks := .later }
def FnHallValidUptoCardSaid : Prop := Claim7.holds Tryd.pinned (.plain (OpenSpec.upto fnHallValidSpec)) fnHallValidUptoCard

/-- THE SECOND FORM's CARD OF 'laws.FnCellAt'. -/
def fnCellAtUptoCard : Claim7 := { stood := { row := fnCellAtUptoRow, standIns := [], harness := (true, "183c6039e94343597abad65a678dfe7ab664f20e51fdc3ab499f890404975da0"), looks := false }, kinds := [], alts := [], laidByText := true, laidKinds := [.data, .data, .data], laidTests := true, laidLooks := .later }
def FnCellAtUptoCardSaid : Prop := Claim7.holds Tryd.pinned (.plain (OpenSpec.upto fnCellAtSpec)) fnCellAtUptoCard

/-- THE SECOND FORM's CARD OF 'laws.FnCellPlace'. -/
def fnCellPlaceUptoCard : Claim7 := { stood := { row := fnCellPlaceUptoRow, standIns := [], harness := (true, "183c6039e94343597abad65a678dfe7ab664f20e51fdc3ab499f890404975da0"), looks := false }, kinds := [], alts := [], laidByText := true, laidKinds := [.data, .data, .data], laidTests := true, laidLooks := .later }
def FnCellPlaceUptoCardSaid : Prop := Claim7.holds Tryd.pinned (.plain (OpenSpec.upto fnCellPlaceSpec)) fnCellPlaceUptoCard

/-- THE SECOND FORM's CARD OF 'laws.FnCellsApart'. -/
def fnCellsApartUptoCard : Claim7 := { stood := { row := fnCellsApartUptoRow, standIns := [], harness := (true, "183c6039e94343597abad65a678dfe7ab664f20e51fdc3ab499f890404975da0"), looks := false }, kinds := [], alts := [], laidByText := true, laidKinds := [.data, .data, .data], laidTests := true, laidLooks := .later }
def FnCellsApartUptoCardSaid : Prop := Claim7.holds Tryd.pinned (.plain (OpenSpec.upto fnCellsApartSpec)) fnCellsApartUptoCard

/-- THE SECOND FORM's CARD OF 'laws.FnSlideMay'. -/
def fnSlideMayUptoCard : Claim7 := { stood := { row := fnSlideMayUptoRow, standIns := [], harness := (true, "183c6039e94343597abad65a678dfe7ab664f20e51fdc3ab499f890404975da0"), looks := false }, kinds := [], alts := [], laidByText := true, laidKinds := [.data, .data, .data], laidTests := true, laidLooks := .later }
def FnSlideMayUptoCardSaid : Prop := Claim7.holds Tryd.pinned (.plain (OpenSpec.upto fnSlideMaySpec)) fnSlideMayUptoCard

/-- THE SECOND FORM's CARD OF 'laws.FnSlidesBack'. -/
def fnSlidesBackUptoCard : Claim7 := { stood := { row := fnSlidesBackUptoRow, standIns := [], harness := (true, "183c6039e94343597abad65a678dfe7ab664f20e51fdc3ab499f890404975da0"), looks := false }, kinds := [], alts := [], laidByText := true, laidKinds := [.data, .data, .data], laidTests := true, laidLooks := .later }
def FnSlidesBackUptoCardSaid : Prop := Claim7.holds Tryd.pinned (.plain (OpenSpec.upto fnSlidesBackSpec)) fnSlidesBackUptoCard

/-- THE SECOND FORM's CARD OF 'laws.FnCellsBeside'. -/
def fnCellsBesideUptoCard : Claim7 := { stood := { row := fnCellsBesideUptoRow, standIns := [], harness := (true, "183c6039e94343597abad65a678dfe7ab664f20e51fdc3ab499f890404975da0"), looks := false }, kinds := [], alts := [], laidByText := true, laidKinds := [.data, .data, .data], laidTests := true, laidLooks := .later }
def FnCellsBesideUptoCardSaid : Prop := Claim7.holds Tryd.pinned (.plain (OpenSpec.upto fnCellsBesideSpec)) fnCellsBesideUptoCard

/-- THE SECOND FORM's CARD OF 'laws.FnHallTake'. -/
def fnHallTakeUptoCard : Claim7 := { stood := { row := fnHallTakeUptoRow, standIns := [], harness := (true, "183c6039e94343597abad65a678dfe7ab664f20e51fdc3ab499f890404975da0"), looks := false }, kinds := [], alts := [], laidByText := true, laidKinds := [.data, .data, .data], laidTests := true, laidLooks := .later }
def FnHallTakeUptoCardSaid : Prop := Claim7.holds Tryd.pinned (.plain (OpenSpec.upto fnHallTakeSpec)) fnHallTakeUptoCard

/-- THE SECOND FORM's CARD OF 'laws.FnHallPut'. -/
def fnHallPutUptoCard : Claim7 := { stood := { row := fnHallPutUptoRow, standIns := [], harness := (true, "183c6039e94343597abad65a678dfe7ab664f20e51fdc3ab499f890404975da0"), looks := false }, kinds := [], alts := [], laidByText := true, laidKinds := [.data, .data, .data], laidTests := true, laidLooks := .later }
def FnHallPutUptoCardSaid : Prop := Claim7.holds Tryd.pinned (.plain (OpenSpec.upto fnHallPutSpec)) fnHallPutUptoCard

/-- THE SECOND FORM's CARD OF 'laws.FnHallFree'. -/
def fnHallFreeUptoCard : Claim7 := { stood := { row := fnHallFreeUptoRow, standIns := [], harness := (true, "183c6039e94343597abad65a678dfe7ab664f20e51fdc3ab499f890404975da0"), looks := false }, kinds := [], alts := [], laidByText := true, laidKinds := [.data, .data, .data], laidTests := true, laidLooks := .later }
def FnHallFreeUptoCardSaid : Prop := Claim7.holds Tryd.pinned (.plain (OpenSpec.upto fnHallFreeSpec)) fnHallFreeUptoCard

/-- THE SECOND FORM's CARD OF 'laws.FnHallEmpty'. -/
def fnHallEmptyUptoCard : Claim7 := { stood := { row := fnHallEmptyUptoRow, standIns := [], harness := (true, "183c6039e94343597abad65a678dfe7ab664f20e51fdc3ab499f890404975da0"), looks := false }, kinds := [], alts := [], laidByText := true, laidKinds := [.data, .data, .data], laidTests := true, laidLooks := .later }
def FnHallEmptyUptoCardSaid : Prop := Claim7.holds Tryd.pinned (.plain (OpenSpec.upto fnHallEmptySpec)) fnHallEmptyUptoCard

/-- THE SECOND FORM's CARD OF 'laws.FnHallFind'. -/
def fnHallFindUptoCard : Claim7 := { stood := { row := fnHallFindUptoRow, standIns := [], harness := (true, "183c6039e94343597abad65a678dfe7ab664f20e51fdc3ab499f890404975da0"), looks := false }, kinds := [], alts := [], laidByText := true, laidKinds := [.data, .data, .data], laidTests := true, laidLooks := .later }
def FnHallFindUptoCardSaid : Prop := Claim7.holds Tryd.pinned (.plain (OpenSpec.upto fnHallFindSpec)) fnHallFindUptoCard
end Rows
end Go.Proofs.YtmkdafgcggpahaaDoor
