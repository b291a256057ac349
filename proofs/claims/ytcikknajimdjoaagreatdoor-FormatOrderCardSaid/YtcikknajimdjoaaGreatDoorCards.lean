/-
  DERIVED. GIVEN WITH THE SEED: THE CARDS: each row of YtcikknajimdjoaaGreatDoorRows.lean that lists a variable, with what it lists TIED to the program's text (the seventh form; the later family's looks); each row that meets fmt, with fmt's text TOLD by the authors' own Lean function (tested against real Go, not proved from fmt's source: count such statements apart). THE CARD IS WHAT COUNTS. Prove the row's statement (the work); the ties are given (YtcikknajimdjoaaGreatDoorTie.lean); close each card by the builder's one call (the guide's Derived/Test/ToyasCard.lean, 'card_holds'). Laid BY PROGRAM, IN A SANDBOX (cutbox-door.mjs). By AI agents, Wed Nov 11 2026. No macro, syntax, notation, axiom, sorry.
-/
import Derived.Test.YtcikknajimdjoaaGreatDoorRows
import GoSem.ClaimSeven
namespace Go.Proofs.YtcikknajimdjoaaGreatDoor
namespace Rows

/-- THE TIED CARD OF 'zigguratlaw22.FormatTells'. -/
def formatTellsCard : Claim7 := { stood := { row := formatTellsRow, standIns := [], harness := (true, "6455c29408e4c0a2964c39bde5a03031786c0870f96656ebe233a2428156a471"), looks := false }, kinds := [], alts := [], laidByText := true, laidKinds := [.data], laidTests := true, laidLooks := .later }
def FormatTellsCardSaid : Prop := Claim7.holds Tryz.pinned (.plain (OpenSpec.ofChange formatTellsSpec)) formatTellsCard

/-- THE TIED CARD OF 'zigguratlaw22.FormatRounds'. -/
def formatRoundsCard : Claim7 := { stood := { row := formatRoundsRow, standIns := [], harness := (true, "6455c29408e4c0a2964c39bde5a03031786c0870f96656ebe233a2428156a471"), looks := false }, kinds := [], alts := [], laidByText := true, laidKinds := [.data], laidTests := true, laidLooks := .later }
def FormatRoundsCardSaid : Prop := Claim7.holds Tryz.pinned (.plain (OpenSpec.ofChange formatRoundsSpec)) formatRoundsCard

/-- THE TIED CARD OF 'zigguratlaw22.FormatOwn'. -/
def formatOwnCard : Claim7 := { stood := { row := formatOwnRow, standIns := [], harness := (true, "6455c29408e4c0a2964c39bde5a03031786c0870f96656ebe233a2428156a471"), looks := false }, kinds := [], alts := [], laidByText := true, laidKinds := [.data], laidTests := true, laidLooks := .later }
def FormatOwnCardSaid : Prop := Claim7.holds Tryz.pinned (.plain (OpenSpec.ofChange formatOwnSpec)) formatOwnCard

/-- THE TIED CARD OF 'zigguratlaw22.FormatSides'. -/
def formatSidesCard : Claim7 := { stood := { row := formatSidesRow, standIns := [], harness := (true, "6455c29408e4c0a2964c39bde5a03031786c0870f96656ebe233a2428156a471"), looks := false }, kinds := [], alts := [], laidByText := true, laidKinds := [.data], laidTests := true, laidLooks := .later }
def FormatSidesCardSaid : Prop := Claim7.holds Tryz.pinned (.plain (OpenSpec.ofChange formatSidesSpec)) formatSidesCard

/-- THE TIED CARD OF 'zigguratlaw22.FormatNear'. -/
def formatNearCard : Claim7 := { stood := { row := formatNearRow, standIns := [], harness := (true, "6455c29408e4c0a2964c39bde5a03031786c0870f96656ebe233a2428156a471"), looks := false }, kinds := [], alts := [], laidByText := true, laidKinds := [.data], laidTests := true, laidLooks := .later }
def FormatNearCardSaid : Prop := Claim7.holds Tryz.pinned (.plain (OpenSpec.ofChange formatNearSpec)) formatNearCard

/-- THE TIED CARD OF 'zigguratlaw22.FormatOrder'. -/
def formatOrderCard : Claim7 := { stood := { row := formatOrderRow, standIns := [], harness := (true, "6455c29408e4c0a2964c39bde5a03031786c0870f96656ebe233a2428156a471"), looks := false }, kinds := [], alts := [], laidByText := true, laidKinds := [.data], laidTests := true, laidLooks := .later }
def FormatOrderCardSaid : Prop := Claim7.holds Tryz.pinned (.plain (OpenSpec.ofChange formatOrderSpec)) formatOrderCard

/-- THE TIED CARD OF 'zigguratlaw22.FormatTurned'. -/
def formatTurnedCard : Claim7 := { stood := { row := formatTurnedRow, standIns := [], harness := (true, "6455c29408e4c0a2964c39bde5a03031786c0870f96656ebe233a2428156a471"), looks := false }, kinds := [], alts := [], laidByText := true, laidKinds := [.data], laidTests := true, laidLooks := .later }
def FormatTurnedCardSaid : Prop := Claim7.holds Tryz.pinned (.plain (OpenSpec.ofChange formatTurnedSpec)) formatTurnedCard

/-- THE TIED CARD OF 'zigguratlaw22.FormatBeside'. -/
def formatBesideCard : Claim7 := { stood := { row := formatBesideRow, standIns := [], harness := (true, "6455c29408e4c0a2964c39bde5a03031786c0870f96656ebe233a2428156a471"), looks := false }, kinds := [], alts := [], laidByText := true, laidKinds := [.data], laidTests := true, laidLooks := .later }
def FormatBesideCardSaid : Prop := Claim7.holds Tryz.pinned (.plain (OpenSpec.ofChange formatBesideSpec)) formatBesideCard

/-- THE TIED CARD OF 'zigguratlaw22.FormatMore'. -/
def formatMoreCard : Claim7 := { stood := { row := formatMoreRow, standIns := [], harness := (true, "6455c29408e4c0a2964c39bde5a03031786c0870f96656ebe233a2428156a471"), looks := false }, kinds := [], alts := [], laidByText := true, laidKinds := [.data], laidTests := true, laidLooks := .later }
def FormatMoreCardSaid : Prop := Claim7.holds Tryz.pinned (.plain (OpenSpec.ofChange formatMoreSpec)) formatMoreCard

/-- THE SECOND FORM's CARD OF 'zigguratlaw22.FormatTells'. -/
def formatTellsUptoCard : Claim7 := { stood := { row := formatTellsUptoRow, standIns := [], harness := (true, "6455c29408e4c0a2964c39bde5a03031786c0870f96656ebe233a2428156a471"), looks := false }, kinds := [], alts := [], laidByText := true, laidKinds := [.data], laidTests := true, laidLooks := .later }
def FormatTellsUptoCardSaid : Prop := Claim7.holds Tryz.pinned (.plain (OpenSpec.upto formatTellsSpec)) formatTellsUptoCard

/-- THE SECOND FORM's CARD OF 'zigguratlaw22.FormatRounds'. -/
def formatRoundsUptoCard : Claim7 := { stood := { row := formatRoundsUptoRow, standIns := [], harness := (true, "6455c29408e4c0a2964c39bde5a03031786c0870f96656ebe233a2428156a471"), looks := false }, kinds := [], alts := [], laidByText := true, laidKinds := [.data], laidTests := true, laidLooks := .later }
def FormatRoundsUptoCardSaid : Prop := Claim7.holds Tryz.pinned (.plain (OpenSpec.upto formatRoundsSpec)) formatRoundsUptoCard

/-- THE SECOND FORM's CARD OF 'zigguratlaw22.FormatOwn'. -/
def formatOwnUptoCard : Claim7 := { stood := { row := formatOwnUptoRow, standIns := [], harness := (true, "6455c29408e4c0a2964c39bde5a03031786c0870f96656ebe233a2428156a471"), looks := false }, kinds := [], alts := [], laidByText := true, laidKinds := [.data], laidTests := true, laidLooks := .later }
def FormatOwnUptoCardSaid : Prop := Claim7.holds Tryz.pinned (.plain (OpenSpec.upto formatOwnSpec)) formatOwnUptoCard

/-- THE SECOND FORM's CARD OF 'zigguratlaw22.FormatSides'. -/
def formatSidesUptoCard : Claim7 := { stood := { row := formatSidesUptoRow, standIns := [], harness := (true, "6455c29408e4c0a2964c39bde5a03031786c0870f96656ebe233a2428156a471"), looks := false }, kinds := [], alts := [], laidByText := true, laidKinds := [.data], laidTests := true, laidLooks := .later }
def FormatSidesUptoCardSaid : Prop := Claim7.holds Tryz.pinned (.plain (OpenSpec.upto formatSidesSpec)) formatSidesUptoCard

/-- THE SECOND FORM's CARD OF 'zigguratlaw22.FormatNear'. -/
def formatNearUptoCard : Claim7 := { stood := { row := formatNearUptoRow, standIns := [], harness := (true, "6455c29408e4c0a2964c39bde5a03031786c0870f96656ebe233a2428156a471"), looks := false }, kinds := [], alts := [], laidByText := true, laidKinds := [.data], laidTests := true, laidLooks := .later }
def FormatNearUptoCardSaid : Prop := Claim7.holds Tryz.pinned (.plain (OpenSpec.upto formatNearSpec)) formatNearUptoCard

/-- THE SECOND FORM's CARD OF 'zigguratlaw22.FormatOrder'. -/
def formatOrderUptoCard : Claim7 := { stood := { row := formatOrderUptoRow, standIns := [], harness := (true, "6455c29408e4c0a2964c39bde5a03031786c0870f96656ebe233a2428156a471"), looks := false }, kinds := [], alts := [], laidByText := true, laidKinds := [.data], laidTests := true, laidLooks := .later }
def FormatOrderUptoCardSaid : Prop := Claim7.holds Tryz.pinned (.plain (OpenSpec.upto formatOrderSpec)) formatOrderUptoCard

/-- THE SECOND FORM's CARD OF 'zigguratlaw22.FormatTurned'. -/
def formatTurnedUptoCard : Claim7 := { stood := { row := formatTurnedUptoRow, standIns := [], harness := (true, "6455c29408e4c0a2964c39bde5a03031786c0870f96656ebe233a2428156a471"), looks := false }, kinds := [], alts := [], laidByText := true, laidKinds := [.data], laidTests := true, laidLooks := .later }
def FormatTurnedUptoCardSaid : Prop := Claim7.holds Tryz.pinned (.plain (OpenSpec.upto formatTurnedSpec)) formatTurnedUptoCard

/-- THE SECOND FORM's CARD OF 'zigguratlaw22.FormatBeside'. -/
def formatBesideUptoCard : Claim7 := { stood := { row := formatBesideUptoRow, standIns := [], harness := (true, "6455c29408e4c0a2964c39bde5a03031786c0870f96656ebe233a2428156a471"), looks := false }, kinds := [], alts := [], laidByText := true, laidKinds := [.data], laidTests := true, laidLooks := .later }
def FormatBesideUptoCardSaid : Prop := Claim7.holds Tryz.pinned (.plain (OpenSpec.upto formatBesideSpec)) formatBesideUptoCard

/-- THE SECOND FORM's CARD OF 'zigguratlaw22.FormatMore'. -/
def formatMoreUptoCard : Claim7 := { stood := { row := formatMoreUptoRow, standIns := [], harness := (true, "6455c29408e4c0a2964c39bde5a03031786c0870f96656ebe233a2428156a471"), looks := false }, kinds := [], alts := [], laidByText := true, laidKinds := [.data], laidTests := true, laidLooks := .later }
def FormatMoreUptoCardSaid : Prop := Claim7.holds Tryz.pinned (.plain (OpenSpec.upto formatMoreSpec)) formatMoreUptoCard
end Rows
end Go.Proofs.YtcikknajimdjoaaGreatDoor
