/-
  DERIVED. GIVEN WITH THE SEED: THE CARDS: each row of YtemiagcencajeaaGreatDoorRows.lean that lists a variable, with what it lists TIED to the program's text (the seventh form; the later family's looks); each row that meets fmt, with fmt's text TOLD by the authors' own Lean function (tested against real Go, not proved from fmt's source: count such statements apart). THE CARD IS WHAT COUNTS. Prove the row's statement (the work); the ties are given (YtemiagcencajeaaGreatDoorTie.lean); close each card by the builder's one call (the guide's Derived/Test/ToyasCard.lean, 'card_holds'). Laid BY PROGRAM, IN A SANDBOX (cutbox-door.mjs). By AI agents, Wed Nov 11 2026. No macro, syntax, notation, axiom, sorry.
-/
import Derived.Test.YtemiagcencajeaaGreatDoorRows
import GoSem.ClaimSeven
namespace Go.Proofs.YtemiagcencajeaaGreatDoor
namespace Rows

/-- THE TIED CARD OF 'zigguratlaw12.PolyMore'. -/
def polyMoreCard : Claim7 := { stood := { row := polyMoreRow, standIns := [], harness := (true, "b80ab7c540858910af2aef5834c8ee8413ea27e4a5354534785bb10ee11f10df"), looks := false }, kinds := [], alts := [], laidByText := true, laidKinds := [.data], laidTests := true, laidLooks := .later }
def PolyMoreCardSaid : Prop := Claim7.holds Tryz.pinned (.plain (OpenSpec.ofChange polyMoreSpec)) polyMoreCard

/-- THE TIED CARD OF 'ziggurattop.TopBalls'. -/
def topBallsCard : Claim7 := { stood := { row := topBallsRow, standIns := [], harness := (true, "b80ab7c540858910af2aef5834c8ee8413ea27e4a5354534785bb10ee11f10df"), looks := false }, kinds := [], alts := [], laidByText := true, laidKinds := [.data, .data], laidTests := true, laidLooks := .later }
def TopBallsCardSaid : Prop := Claim7.holds Tryz.pinned (.plain (OpenSpec.ofChange topBallsSpec)) topBallsCard

/-- THE TIED CARD OF 'zigguratlaw12.PolyContents'. -/
def polyContentsCard : Claim7 := { stood := { row := polyContentsRow, standIns := [], harness := (true, "b80ab7c540858910af2aef5834c8ee8413ea27e4a5354534785bb10ee11f10df"), looks := false }, kinds := [], alts := [], laidByText := true, laidKinds := [.data], laidTests := true, laidLooks := .later }
def PolyContentsCardSaid : Prop := Claim7.holds Tryz.pinned (.plain (OpenSpec.ofChange polyContentsSpec)) polyContentsCard

/-- THE TIED CARD OF 'zigguratlaw12.PolyProducts'. -/
def polyProductsCard : Claim7 := { stood := { row := polyProductsRow, standIns := [], harness := (true, "b80ab7c540858910af2aef5834c8ee8413ea27e4a5354534785bb10ee11f10df"), looks := false }, kinds := [], alts := [], laidByText := true, laidKinds := [.data], laidTests := true, laidLooks := .later }
def PolyProductsCardSaid : Prop := Claim7.holds Tryz.pinned (.plain (OpenSpec.ofChange polyProductsSpec)) polyProductsCard

/-- THE TIED CARD OF 'zigguratlaw12.PolyTells'. -/
def polyTellsCard : Claim7 := { stood := { row := polyTellsRow, standIns := [], harness := (true, "b80ab7c540858910af2aef5834c8ee8413ea27e4a5354534785bb10ee11f10df"), looks := false }, kinds := [], alts := [], laidByText := true, laidKinds := [.data], laidTests := true, laidLooks := .later }
def PolyTellsCardSaid : Prop := Claim7.holds Tryz.pinned (.plain (OpenSpec.ofChange polyTellsSpec)) polyTellsCard

/-- THE TIED CARD OF 'zigguratlaw12.PolyRing'. -/
def polyRingCard : Claim7 := { stood := { row := polyRingRow, standIns := [], harness := (true, "b80ab7c540858910af2aef5834c8ee8413ea27e4a5354534785bb10ee11f10df"), looks := false }, kinds := [], alts := [], laidByText := true, laidKinds := [.data], laidTests := true, laidLooks := .later }
def PolyRingCardSaid : Prop := Claim7.holds Tryz.pinned (.plain (OpenSpec.ofChange polyRingSpec)) polyRingCard

/-- THE TIED CARD OF 'zigguratlaw12.PolyQuotients'. -/
def polyQuotientsCard : Claim7 := { stood := { row := polyQuotientsRow, standIns := [], harness := (true, "b80ab7c540858910af2aef5834c8ee8413ea27e4a5354534785bb10ee11f10df"), looks := false }, kinds := [], alts := [], laidByText := true, laidKinds := [.data], laidTests := true, laidLooks := .later }
def PolyQuotientsCardSaid : Prop := Claim7.holds Tryz.pinned (.plain (OpenSpec.ofChange polyQuotientsSpec)) polyQuotientsCard

/-- THE TIED CARD OF 'ziggurattop.TopConvergents'. -/
def topConvergentsCard : Claim7 := { stood := { row := topConvergentsRow, standIns := [], harness := (true, "b80ab7c540858910af2aef5834c8ee8413ea27e4a5354534785bb10ee11f10df"), looks := false }, kinds := [], alts := [], laidByText := true, laidKinds := [.data, .data], laidTests := true, laidLooks := .later }
def TopConvergentsCardSaid : Prop := Claim7.holds Tryz.pinned (.plain (OpenSpec.ofChange topConvergentsSpec)) topConvergentsCard

/-- THE TIED CARD OF 'zigguratlaw24.BoundRational'. -/
def boundRationalCard : Claim7 := { stood := { row := boundRationalRow, standIns := [], harness := (true, "b80ab7c540858910af2aef5834c8ee8413ea27e4a5354534785bb10ee11f10df"), looks := false }, kinds := [], alts := [], laidByText := true, laidKinds := [.data, .data], laidTests := true, laidLooks := .later }
def BoundRationalCardSaid : Prop := Claim7.holds Tryz.pinned (.plain (OpenSpec.ofChange boundRationalSpec)) boundRationalCard

/-- THE TIED CARD OF 'zigguratlaw12.PolyValues'. -/
def polyValuesCard : Claim7 := { stood := { row := polyValuesRow, standIns := [], harness := (true, "b80ab7c540858910af2aef5834c8ee8413ea27e4a5354534785bb10ee11f10df"), looks := false }, kinds := [], alts := [], laidByText := true, laidKinds := [.data], laidTests := true, laidLooks := .later }
def PolyValuesCardSaid : Prop := Claim7.holds Tryz.pinned (.plain (OpenSpec.ofChange polyValuesSpec)) polyValuesCard

/-- THE TIED CARD OF 'zigguratlaw12.PolyTurned'. -/
def polyTurnedCard : Claim7 := { stood := { row := polyTurnedRow, standIns := [], harness := (true, "b80ab7c540858910af2aef5834c8ee8413ea27e4a5354534785bb10ee11f10df"), looks := false }, kinds := [], alts := [], laidByText := true, laidKinds := [.data], laidTests := true, laidLooks := .later }
def PolyTurnedCardSaid : Prop := Claim7.holds Tryz.pinned (.plain (OpenSpec.ofChange polyTurnedSpec)) polyTurnedCard

/-- THE SECOND FORM's CARD OF 'zigguratlaw12.PolyMore'. -/
def polyMoreUptoCard : Claim7 := { stood := { row := polyMoreUptoRow, standIns := [], harness := (true, "b80ab7c540858910af2aef5834c8ee8413ea27e4a5354534785bb10ee11f10df"), looks := false }, kinds := [], alts := [], laidByText := true, laidKinds := [.data], laidTests := true, laidLooks := .later }
def PolyMoreUptoCardSaid : Prop := Claim7.holds Tryz.pinned (.plain (OpenSpec.upto polyMoreSpec)) polyMoreUptoCard

/-- THE SECOND FORM's CARD OF 'ziggurattop.TopBalls'. -/
def topBallsUptoCard : Claim7 := { stood := { row := topBallsUptoRow, standIns := [], harness := (true, "b80ab7c540858910af2aef5834c8ee8413ea27e4a5354534785bb10ee11f10df"), looks := false }, kinds := [], alts := [], laidByText := true, laidKinds := [.data, .data], laidTests := true, laidLooks := .later }
def TopBallsUptoCardSaid : Prop := Claim7.holds Tryz.pinned (.plain (OpenSpec.upto topBallsSpec)) topBallsUptoCard

/-- THE SECOND FORM's CARD OF 'zigguratlaw12.PolyContents'. -/
def polyContentsUptoCard : Claim7 := { stood := { row := polyContentsUptoRow, standIns := [], harness := (true, "b80ab7c540858910af2aef5834c8ee8413ea27e4a5354534785bb10ee11f10df"), looks := false }, kinds := [], alts := [], laidByText := true, laidKinds := [.data], laidTests := true, laidLooks := .later }
def PolyContentsUptoCardSaid : Prop := Claim7.holds Tryz.pinned (.plain (OpenSpec.upto polyContentsSpec)) polyContentsUptoCard

/-- THE SECOND FORM's CARD OF 'zigguratlaw12.PolyProducts'. -/
def polyProductsUptoCard : Claim7 := { stood := { row := polyProductsUptoRow, standIns := [], harness := (true, "b80ab7c540858910af2aef5834c8ee8413ea27e4a5354534785bb10ee11f10df"), looks := false }, kinds := [], alts := [], laidByText := true, laidKinds := [.data], laidTests := true, laidLooks := .later }
def PolyProductsUptoCardSaid : Prop := Claim7.holds Tryz.pinned (.plain (OpenSpec.upto polyProductsSpec)) polyProductsUptoCard

/-- THE SECOND FORM's CARD OF 'zigguratlaw12.PolyTells'. -/
def polyTellsUptoCard : Claim7 := { stood := { row := polyTellsUptoRow, standIns := [], harness := (true, "b80ab7c540858910af2aef5834c8ee8413ea27e4a5354534785bb10ee11f10df"), looks := false }, kinds := [], alts := [], laidByText := true, laidKinds := [.data], laidTests := true, laidLooks := .later }
def PolyTellsUptoCardSaid : Prop := Claim7.holds Tryz.pinned (.plain (OpenSpec.upto polyTellsSpec)) polyTellsUptoCard

/-- THE SECOND FORM's CARD OF 'zigguratlaw12.PolyRing'. -/
def polyRingUptoCard : Claim7 := { stood := { row := polyRingUptoRow, standIns := [], harness := (true, "b80ab7c540858910af2aef5834c8ee8413ea27e4a5354534785bb10ee11f10df"), looks := false }, kinds := [], alts := [], laidByText := true, laidKinds := [.data], laidTests := true, laidLooks := .later }
def PolyRingUptoCardSaid : Prop := Claim7.holds Tryz.pinned (.plain (OpenSpec.upto polyRingSpec)) polyRingUptoCard

/-- THE SECOND FORM's CARD OF 'zigguratlaw12.PolyQuotients'. -/
def polyQuotientsUptoCard : Claim7 := { stood := { row := polyQuotientsUptoRow, standIns := [], harness := (true, "b80ab7c540858910af2aef5834c8ee8413ea27e4a5354534785bb10ee11f10df"), looks := false }, kinds := [], alts := [], laidByText := true, laidKinds := [.data], laidTests := true, laidLooks := .later }
def PolyQuotientsUptoCardSaid : Prop := Claim7.holds Tryz.pinned (.plain (OpenSpec.upto polyQuotientsSpec)) polyQuotientsUptoCard

/-- THE SECOND FORM's CARD OF 'ziggurattop.TopConvergents'. -/
def topConvergentsUptoCard : Claim7 := { stood := { row := topConvergentsUptoRow, standIns := [], harness := (true, "b80ab7c540858910af2aef5834c8ee8413ea27e4a5354534785bb10ee11f10df"), looks := false }, kinds := [], alts := [], laidByText := true, laidKinds := [.data, .data], laidTests := true, laidLooks := .later }
def TopConvergentsUptoCardSaid : Prop := Claim7.holds Tryz.pinned (.plain (OpenSpec.upto topConvergentsSpec)) topConvergentsUptoCard

/-- THE SECOND FORM's CARD OF 'zigguratlaw24.BoundRational'. -/
def boundRationalUptoCard : Claim7 := { stood := { row := boundRationalUptoRow, standIns := [], harness := (true, "b80ab7c540858910af2aef5834c8ee8413ea27e4a5354534785bb10ee11f10df"), looks := false }, kinds := [], alts := [], laidByText := true, laidKinds := [.data, .data], laidTests := true, laidLooks := .later }
def BoundRationalUptoCardSaid : Prop := Claim7.holds Tryz.pinned (.plain (OpenSpec.upto boundRationalSpec)) boundRationalUptoCard

/-- THE SECOND FORM's CARD OF 'zigguratlaw12.PolyValues'. -/
def polyValuesUptoCard : Claim7 := { stood := { row := polyValuesUptoRow, standIns := [], harness := (true, "b80ab7c540858910af2aef5834c8ee8413ea27e4a5354534785bb10ee11f10df"), looks := false }, kinds := [], alts := [], laidByText := true, laidKinds := [.data], laidTests := true, laidLooks := .later }
def PolyValuesUptoCardSaid : Prop := Claim7.holds Tryz.pinned (.plain (OpenSpec.upto polyValuesSpec)) polyValuesUptoCard

/-- THE SECOND FORM's CARD OF 'zigguratlaw12.PolyTurned'. -/
def polyTurnedUptoCard : Claim7 := { stood := { row := polyTurnedUptoRow, standIns := [], harness := (true, "b80ab7c540858910af2aef5834c8ee8413ea27e4a5354534785bb10ee11f10df"), looks := false }, kinds := [], alts := [], laidByText := true, laidKinds := [.data], laidTests := true, laidLooks := .later }
def PolyTurnedUptoCardSaid : Prop := Claim7.holds Tryz.pinned (.plain (OpenSpec.upto polyTurnedSpec)) polyTurnedUptoCard
end Rows
end Go.Proofs.YtemiagcencajeaaGreatDoor
