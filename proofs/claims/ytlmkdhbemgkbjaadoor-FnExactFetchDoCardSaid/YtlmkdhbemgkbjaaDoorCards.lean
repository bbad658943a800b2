/-
  DERIVED. GIVEN WITH THE SEED: THE CARDS: each row of YtlmkdhbemgkbjaaDoorRows.lean that lists a variable, with what it lists TIED to the program's text (the seventh form; the later family's looks); each row that meets fmt, with fmt's text TOLD by the authors' own Lean function (tested against real Go, not proved from fmt's source: count such statements apart). THE CARD IS WHAT COUNTS. Prove the row's statement (the work); the ties are given (YtlmkdhbemgkbjaaDoorTie.lean); close each card by the builder's one call (the guide's Derived/Test/ToyasCard.lean, 'card_holds'). Laid BY PROGRAM, IN A SANDBOX (cutbox-door.mjs). By AI agents, Wed Nov 11 2026. No macro, syntax, notation, axiom, sorry.
-/
import Derived.Test.YtlmkdhbemgkbjaaDoorRows
import GoSem.ClaimSeven
namespace Go.Proofs.YtlmkdhbemgkbjaaDoor
namespace Rows

/-- THE TIED CARD OF 'laws.FnExactHallText'. -/
def fnExactHallTextCard : Claim7 := { stood := { row := fnExactHallTextRow, standIns := [], harness := (true, "ede278acf37601a815d1dd2ed8e206bede28397bcc2fa90bb3a58a38c4c41be1"), looks := false }, kinds := [], alts := [], laidByText := true, laidKinds := [.data, .data, .data], laidTests := true, laidLooks := .later }
def FnExactHallTextCardSaid : Prop := Claim7.holds Tryd.pinned (.plain (OpenSpec.ofChange fnExactHallTextSpec)) fnExactHallTextCard

/-- THE TIED CARD OF 'laws.FnExactReadHall'. -/
def fnExactReadHallCard : Claim7 := { stood := { row := fnExactReadHallRow, standIns := [], harness := (true, "ede278acf37601a815d1dd2ed8e206bede28397bcc2fa90bb3a58a38c4c41be1"), looks := false }, kinds := [], alts := [], laidByText := true, laidKinds := [.data, .data, .data, .data, .pinned], laidTests := true, laidLooks := .later }
def FnExactReadHallCardSaid : Prop := Claim7.holds Tryd.pinned (.plain (OpenSpec.ofChange fnExactReadHallSpec)) fnExactReadHallCard

/-- THE TIED CARD OF 'laws.FnExactBringLeast'. -/
def fnExactBringLeastCard : Claim7 := { stood := { row := fnExactBringLeastRow, standIns := [], harness := (true, "ede278acf37601a815d1dd2ed8e206bede28397bcc2fa90bb3a58a38c4c41be1"), looks := false }, kinds := [], alts := [], laidByText := true, laidKinds := [.data, .data], laidTests := true, laidLooks := .later }
def FnExactBringLeastCardSaid : Prop := Claim7.holds Tryd.pinned (.plain (OpenSpec.ofChange fnExactBringLeastSpec)) fnExactBringLeastCard

/-- THE TIED CARD OF 'laws.FnExactBringBest'. -/
def fnExactBringBestCard : Claim7 := { stood := { row := fnExactBringBestRow, standIns := [], harness := (true, "ede278acf37601a815d1dd2ed8e206bede28397bcc2fa90bb3a58a38c4c41be1"), looks := false }, kinds := [], alts := [], laidByText := true, laidKinds := [.data, .data], laidTests := true, laidLooks := .later }
def FnExactBringBestCardSaid : Prop := Claim7.holds Tryd.pinned (.plain (OpenSpec.ofChange fnExactBringBestSpec)) fnExactBringBestCard

/-- THE TIED CARD OF 'laws.FnExactFetchDo'. -/
def fnExactFetchDoCard : Claim7 := { stood := { row := fnExactFetchDoRow, standIns := [], harness := (true, "ede278acf37601a815d1dd2ed8e206bede28397bcc2fa90bb3a58a38c4c41be1"), looks := false }, kinds := [], alts := [], laidByText := true, laidKinds := [.data, .data], laidTests := true, laidLooks := .later }
def FnExactFetchDoCardSaid : Prop := Claim7.holds Tryd.pinned (.plain (OpenSpec.ofChange fnExactFetchDoSpec)) fnExactFetchDoCard

/-- THE TIED CARD OF 'laws.FnExactFetchRun'. -/
def fnExactFetchRunCard : Claim7 := { stood := { row := fnExactFetchRunRow, standIns := [], harness := (true, "ede278acf37601a815d1dd2ed8e206bede28397bcc2fa90bb3a58a38c4c41be1"), looks := false }, kinds := [], alts := [], laidByText := true, laidKinds := [.data, .data], laidTests := true, laidLooks := .later }
def FnExactFetchRunCardSaid : Prop := Claim7.holds Tryd.pinned (.plain (OpenSpec.ofChange fnExactFetchRunSpec)) fnExactFetchRunCard

/-- THE SECOND FORM's CARD OF 'laws.FnExactHallText'. -/
def fnExactHallTextUptoCard : Claim7 := { stood := { row := fnExactHallTextUptoRow, standIns := [], harness := (true, "ede278acf37601a815d1dd2ed8e206bede28397bcc2fa90bb3a58a38c4c41be1"), looks := false }, kinds := [], alts := [], laidByText := true, laidKinds := [.data, .data, .data], laidTests := true, laidLooks := .later }
def FnExactHallTextUptoCardSaid : Prop := Claim7.holds Tryd.pinned (.plain (OpenSpec.upto fnExactHallTextSpec)) fnExactHallTextUptoCard

/-- THE SECOND FORM's CARD OF 'laws.FnExactReadHall'. -/
def fnExactReadHallUptoCard : Claim7 := { stood := { row := fnExactReadHallUptoRow, standIns := [], harness := (true, "ede278acf37601a815d1dd2ed8e206bede28397bcc2fa90bb3a58a38c4c41be1"), looks := false }, kinds := [], alts := [], laidByText := true, laidKinds := [.data, .data, .data, .data, .pinned], laidTests := true, laidLooks := .later }
def FnExactReadHallUptoCardSaid : Prop := Claim7.holds Tryd.pinned (.plain (OpenSpec.upto fnExactReadHallSpec)) fnExactReadHallUptoCard

/-- THE SECOND FORM's CARD OF 'laws.FnExactBringLeast'. -/
def fnExactBringLeastUptoCard : Claim7 := { stood := { row := fnExactBringLeastUptoRow, standIns := [], harness := (true, "ede278acf37601a815d1dd2ed8e206bede28397bcc2fa90bb3a58a38c4c41be1"), looks := false }, kinds := [], alts := [], laidByText := true, laidKinds := [.data, .data], laidTests := true, laidLooks := .later }
def FnExactBringLeastUptoCardSaid : Prop := Claim7.holds Tryd.pinned (.plain (OpenSpec.upto fnExactBringLeastSpec)) fnExactBringLeastUptoCard

/-- THE SECOND FORM's CARD OF 'laws.FnExactBringBest'. -/
def fnExactBringBestUptoCard : Claim7 := { stood := { row := fnExactBringBestUptoRow, standIns := [], harness := (true, "ede278acf37601a815d1dd2ed8e206bede28397bcc2fa90bb3a58a38c4c41be1"), looks := false }, kinds := [], alts := [], laidByText := true, laidKinds := [.data, .data], laidTests := true, laidLooks := .later }
def FnExactBringBestUptoCardSaid : Prop := Claim7.holds Tryd.pinned (.plain (OpenSpec.upto fnExactBringBestSpec)) fnExactBringBestUptoCard

/-- THE SECOND FORM's CARD OF 'laws.FnExactFetchDo'. -/
def fnExactFetchDoUptoCard : Claim7 := { stood := { row := fnExactFetchDoUptoRow, standIns := [], harness := (true, "ede278acf37601a815d1dd2ed8e206bede28397bcc2fa90bb3a58a38c4c41be1"), looks := false }, kinds := [], alts := [], laidByText := true, laidKinds := [.data, .data], laidTests := true, laidLooks := .later }
def FnExactFetchDoUptoCardSaid : Prop := Claim7.holds Tryd.pinned (.plain (OpenSpec.upto fnExactFetchDoSpec)) fnExactFetchDoUptoCard

/-- THE SECOND FORM's CARD OF 'laws.FnExactFetchRun'. -/
def fnExactFetchRunUptoCard : Claim7 := { stood := { row := fnExactFetchRunUptoRow, standIns := [], harness := (true, "ede278acf37601a815d1dd2ed8e206bede28397bcc2fa90bb3a58a38c4c41be1"), looks := false }, kinds := [], alts := [], laidByText := true, laidKinds := [.data, .data], laidTests := true, laidLooks := .later }
def FnExactFetchRunUptoCardSaid : Prop := Claim7.holds Tryd.pinned (.plain (OpenSpec.upto fnExactFetchRunSpec)) fnExactFetchRunUptoCard
end Rows
end Go.Proofs.YtlmkdhbemgkbjaaDoor
