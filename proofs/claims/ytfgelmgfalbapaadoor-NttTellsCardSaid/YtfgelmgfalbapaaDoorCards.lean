/-
  DERIVED. GIVEN WITH THE SEED: THE CARDS: each row of YtfgelmgfalbapaaDoorRows.lean that lists a variable, with what it lists TIED to the program's text (the seventh form; the later family's looks); each row that meets fmt, with fmt's text TOLD by the authors' own Lean function (tested against real Go, not proved from fmt's source: count such statements apart). THE CARD IS WHAT COUNTS. Prove the row's statement (the work); the ties are given (YtfgelmgfalbapaaDoorTie.lean); close each card by the builder's one call (the guide's Derived/Test/ToyasCard.lean, 'card_holds'). Laid BY PROGRAM, IN A SANDBOX (cutbox-door.mjs). By AI agents, Wed Nov 11 2026. No macro, syntax, notation, axiom, sorry.
-/
import Derived.Test.YtfgelmgfalbapaaDoorRows
import GoSem.ClaimSeven
namespace Go.Proofs.YtfgelmgfalbapaaDoor
namespace Rows

/-- THE TIED CARD OF 'zigguratlaw02.NttTells'. -/
def nttTellsCard : Claim7 := { stood := { row := nttTellsRow, standIns := [], harness := (true, "99e02ba15edcea76a94e89709651f7ce016210403fc6628a12a2fd4fe2c4f73d"), looks := false }, kinds := [], alts := [], laidByText := true, laidKinds := [.data], laidTests := true, laidLooks := .later }
def NttTellsCardSaid : Prop := Claim7.holds Tryd.pinned (.plain (OpenSpec.ofChange nttTellsSpec)) nttTellsCard

/-- THE TIED CARD OF 'zigguratlaw02.NttBack'. -/
def nttBackCard : Claim7 := { stood := { row := nttBackRow, standIns := [], harness := (true, "99e02ba15edcea76a94e89709651f7ce016210403fc6628a12a2fd4fe2c4f73d"), looks := false }, kinds := [], alts := [], laidByText := true, laidKinds := [.data], laidTests := true, laidLooks := .later }
def NttBackCardSaid : Prop := Claim7.holds Tryd.pinned (.plain (OpenSpec.ofChange nttBackSpec)) nttBackCard

/-- THE TIED CARD OF 'zigguratlaw02.NttLines'. -/
def nttLinesCard : Claim7 := { stood := { row := nttLinesRow, standIns := [], harness := (true, "99e02ba15edcea76a94e89709651f7ce016210403fc6628a12a2fd4fe2c4f73d"), looks := false }, kinds := [], alts := [], laidByText := true, laidKinds := [.data], laidTests := true, laidLooks := .later }
def NttLinesCardSaid : Prop := Claim7.holds Tryd.pinned (.plain (OpenSpec.ofChange nttLinesSpec)) nttLinesCard

/-- THE TIED CARD OF 'zigguratlaw02.NttTurn'. -/
def nttTurnCard : Claim7 := { stood := { row := nttTurnRow, standIns := [], harness := (true, "99e02ba15edcea76a94e89709651f7ce016210403fc6628a12a2fd4fe2c4f73d"), looks := false }, kinds := [], alts := [], laidByText := true, laidKinds := [.data], laidTests := true, laidLooks := .later }
def NttTurnCardSaid : Prop := Claim7.holds Tryd.pinned (.plain (OpenSpec.ofChange nttTurnSpec)) nttTurnCard

/-- THE TIED CARD OF 'zigguratlaw02.NttAround'. -/
def nttAroundCard : Claim7 := { stood := { row := nttAroundRow, standIns := [], harness := (true, "99e02ba15edcea76a94e89709651f7ce016210403fc6628a12a2fd4fe2c4f73d"), looks := false }, kinds := [], alts := [], laidByText := true, laidKinds := [.data], laidTests := true, laidLooks := .later }
def NttAroundCardSaid : Prop := Claim7.holds Tryd.pinned (.plain (OpenSpec.ofChange nttAroundSpec)) nttAroundCard

/-- THE TIED CARD OF 'zigguratlaw02.NttRoots'. -/
def nttRootsCard : Claim7 := { stood := { row := nttRootsRow, standIns := [], harness := (true, "99e02ba15edcea76a94e89709651f7ce016210403fc6628a12a2fd4fe2c4f73d"), looks := false }, kinds := [], alts := [], laidByText := true, laidKinds := [.data], laidTests := true, laidLooks := .later }
def NttRootsCardSaid : Prop := Claim7.holds Tryd.pinned (.plain (OpenSpec.ofChange nttRootsSpec)) nttRootsCard

/-- THE TIED CARD OF 'zigguratlaw02.NttValues'. -/
def nttValuesCard : Claim7 := { stood := { row := nttValuesRow, standIns := [], harness := (true, "99e02ba15edcea76a94e89709651f7ce016210403fc6628a12a2fd4fe2c4f73d"), looks := false }, kinds := [], alts := [], laidByText := true, laidKinds := [.data], laidTests := true, laidLooks := .later }
def NttValuesCardSaid : Prop := Claim7.holds Tryd.pinned (.plain (OpenSpec.ofChange nttValuesSpec)) nttValuesCard

/-- THE TIED CARD OF 'zigguratlaw02.NttSums'. -/
def nttSumsCard : Claim7 := { stood := { row := nttSumsRow, standIns := [], harness := (true, "99e02ba15edcea76a94e89709651f7ce016210403fc6628a12a2fd4fe2c4f73d"), looks := false }, kinds := [], alts := [], laidByText := true, laidKinds := [.data], laidTests := true, laidLooks := .later }
def NttSumsCardSaid : Prop := Claim7.holds Tryd.pinned (.plain (OpenSpec.ofChange nttSumsSpec)) nttSumsCard

/-- THE TIED CARD OF 'zigguratlaw02.NttOnes'. -/
def nttOnesCard : Claim7 := { stood := { row := nttOnesRow, standIns := [], harness := (true, "99e02ba15edcea76a94e89709651f7ce016210403fc6628a12a2fd4fe2c4f73d"), looks := false }, kinds := [], alts := [], laidByText := true, laidKinds := [.data], laidTests := true, laidLooks := .later }
def NttOnesCardSaid : Prop := Claim7.holds Tryd.pinned (.plain (OpenSpec.ofChange nttOnesSpec)) nttOnesCard

/-- THE SECOND FORM's CARD OF 'zigguratlaw02.NttTells'. -/
def nttTellsUptoCard : Claim7 := { stood := { row := nttTellsUptoRow, standIns := [], harness := (true, "99e02ba15edcea76a94e89709651f7ce016210403fc6628a12a2fd4fe2c4f73d"), looks := false }, kinds := [], alts := [], laidByText := true, laidKinds := [.data], laidTests := true, laidLooks := .later }
def NttTellsUptoCardSaid : Prop := Claim7.holds Tryd.pinned (.plain (OpenSpec.upto nttTellsSpec)) nttTellsUptoCard

/-- THE SECOND FORM's CARD OF 'zigguratlaw02.NttBack'. -/
def nttBackUptoCard : Claim7 := { stood := { row := nttBackUptoRow, standIns := [], harness := (true, "99e02ba15edcea76a94e89709651f7ce016210403fc6628a12a2fd4fe2c4f73d"), looks := false }, kinds := [], alts := [], laidByText := true, laidKinds := [.data], laidTests := true, laidLooks := .later }
def NttBackUptoCardSaid : Prop := Claim7.holds Tryd.pinned (.plain (OpenSpec.upto nttBackSpec)) nttBackUptoCard

/-- THE SECOND FORM's CARD OF 'zigguratlaw02.NttLines'. -/
def nttLinesUptoCard : Claim7 := { stood := { row := nttLinesUptoRow, standIns := [], harness := (true, "99e02ba15edcea76a94e89709651f7ce016210403fc6628a12a2fd4fe2c4f73d"), looks := false }, kinds := [], alts := [], laidByText := true, laidKinds := [.data], laidTests := true, laidLooks := .later }
def NttLinesUptoCardSaid : Prop := Claim7.holds Tryd.pinned (.plain (OpenSpec.upto nttLinesSpec)) nttLinesUptoCard

/-- THE SECOND FORM's CARD OF 'zigguratlaw02.NttTurn'. -/
def nttTurnUptoCard : Claim7 := { stood := { row := nttTurnUptoRow, standIns := [], harness := (true, "99e02ba15edcea76a94e89709651f7ce016210403fc6628a12a2fd4fe2c4f73d"), looks := false }, kinds := [], alts := [], laidByText := true, laidKinds := [.data], laidTests := true, laidLooks := .later }
def NttTurnUptoCardSaid : Prop := Claim7.holds Tryd.pinned (.plain (OpenSpec.upto nttTurnSpec)) nttTurnUptoCard

/-- THE SECOND FORM's CARD OF 'zigguratlaw02.NttAround'. -/
def nttAroundUptoCard : Claim7 := { stood := { row := nttAroundUptoRow, standIns := [], harness := (true, "99e02ba15edcea76a94e89709651f7ce016210403fc6628a12a2fd4fe2c4f73d"), looks := false }, kinds := [], alts := [], laidByText := true, laidKinds := [.data], laidTests := true, laidLooks := .later }
def NttAroundUptoCardSaid : Prop := Claim7.holds Tryd.pinned (.plain (OpenSpec.upto nttAroundSpec)) nttAroundUptoCard

/-- THE SECOND FORM's CARD OF 'zigguratlaw02.NttRoots'. -/
def nttRootsUptoCard : Claim7 := { stood := { row := nttRootsUptoRow, standIns := [], harness := (true, "99e02ba15edcea76a94e89709651f7ce016210403fc6628a12a2fd4fe2c4f73d"), looks := false }, kinds := [], alts := [], laidByText := true, laidKinds := [.data], laidTests := true, laidLooks := .later }
def NttRootsUptoCardSaid : Prop := Claim7.holds Tryd.pinned (.plain (OpenSpec.upto nttRootsSpec)) nttRootsUptoCard

/-- THE SECOND FORM's CARD OF 'zigguratlaw02.NttValues'. -/
def nttValuesUptoCard : Claim7 := { stood := { row := nttValuesUptoRow, standIns := [], harness := (true, "99e02ba15edcea76a94e89709651f7ce016210403fc6628a12a2fd4fe2c4f73d"), looks := false }, kinds := [], alts := [], laidByText := true, laidKinds := [.data], laidTests := true, laidLooks := .later }
def NttValuesUptoCardSaid : Prop := Claim7.holds Tryd.pinned (.plain (OpenSpec.upto nttValuesSpec)) nttValuesUptoCard

/-- THE SECOND FORM's CARD OF 'zigguratlaw02.NttSums'. -/
def nttSumsUptoCard : Claim7 := { stood := { row := nttSumsUptoRow, standIns := [], harness := (true, "99e02ba15edcea76a94e89709651f7ce016210403fc6628a12a2fd4fe2c4f73d"), looks := false }, kinds := [], alts := [], laidByText := true, laidKinds := [.data], laidTests := true, laidLooks := .later }
def NttSumsUptoCardSaid : Prop := Claim7.holds Tryd.pinned (.plain (OpenSpec.upto nttSumsSpec)) nttSumsUptoCard

/-- THE SECOND FORM's CARD OF 'zigguratlaw02.NttOnes'. -/
def nttOnesUptoCard : Claim7 := { stood := { row := nttOnesUptoRow, standIns := [], harness := (true, "99e02ba15edcea76a94e89709651f7ce016210403fc6628a12a2fd4fe2c4f73d"), looks := false }, kinds := [], alts := [], laidByText := true, laidKinds := [.data], laidTests := true, laidLooks := .later }
def NttOnesUptoCardSaid : Prop := Claim7.holds Tryd.pinned (.plain (OpenSpec.upto nttOnesSpec)) nttOnesUptoCard
end Rows
end Go.Proofs.YtfgelmgfalbapaaDoor
