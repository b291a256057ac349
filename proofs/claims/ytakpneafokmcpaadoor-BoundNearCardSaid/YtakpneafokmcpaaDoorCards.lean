/-
  DERIVED. GIVEN WITH THE SEED: THE CARDS: each row of YtakpneafokmcpaaDoorRows.lean that lists a variable, with what it lists TIED to the program's text (the seventh form; the later family's looks); each row that meets fmt, with fmt's text TOLD by the authors' own Lean function (tested against real Go, not proved from fmt's source: count such statements apart). THE CARD IS WHAT COUNTS. Prove the row's statement (the work); the ties are given (YtakpneafokmcpaaDoorTie.lean); close each card by the builder's one call (the guide's Derived/Test/ToyasCard.lean, 'card_holds'). Laid BY PROGRAM, IN A SANDBOX (cutbox-door.mjs). By AI agents, Wed Nov 11 2026. No macro, syntax, notation, axiom, sorry.
-/
import Derived.Test.YtakpneafokmcpaaDoorRows
import GoSem.ClaimSeven
namespace Go.Proofs.YtakpneafokmcpaaDoor
namespace Rows

/-- THE TIED CARD OF 'zigguratlaw24.BoundTells'. -/
def boundTellsCard : Claim7 := { stood := { row := boundTellsRow, standIns := [], harness := (true, "af89263eb56af32e277ee3c303e69c1b1de5cf17c1fa357b53757da9a0cbff32"), looks := false }, kinds := [], alts := [], laidByText := true, laidKinds := [.data], laidTests := true, laidLooks := .later }
def BoundTellsCardSaid : Prop := Claim7.holds Tryd.pinned (.plain (OpenSpec.ofChange boundTellsSpec)) boundTellsCard

/-- THE TIED CARD OF 'zigguratlaw24.BoundLevels'. -/
def boundLevelsCard : Claim7 := { stood := { row := boundLevelsRow, standIns := [], harness := (true, "af89263eb56af32e277ee3c303e69c1b1de5cf17c1fa357b53757da9a0cbff32"), looks := false }, kinds := [], alts := [], laidByText := true, laidKinds := [.data], laidTests := true, laidLooks := .later }
def BoundLevelsCardSaid : Prop := Claim7.holds Tryd.pinned (.plain (OpenSpec.ofChange boundLevelsSpec)) boundLevelsCard

/-- THE TIED CARD OF 'zigguratlaw24.BoundSame'. -/
def boundSameCard : Claim7 := { stood := { row := boundSameRow, standIns := [], harness := (true, "af89263eb56af32e277ee3c303e69c1b1de5cf17c1fa357b53757da9a0cbff32"), looks := false }, kinds := [], alts := [], laidByText := true, laidKinds := [.data], laidTests := true, laidLooks := .later }
def BoundSameCardSaid : Prop := Claim7.holds Tryd.pinned (.plain (OpenSpec.ofChange boundSameSpec)) boundSameCard

/-- THE TIED CARD OF 'zigguratlaw24.BoundGrows'. -/
def boundGrowsCard : Claim7 := { stood := { row := boundGrowsRow, standIns := [], harness := (true, "af89263eb56af32e277ee3c303e69c1b1de5cf17c1fa357b53757da9a0cbff32"), looks := false }, kinds := [], alts := [], laidByText := true, laidKinds := [.data], laidTests := true, laidLooks := .later }
def BoundGrowsCardSaid : Prop := Claim7.holds Tryd.pinned (.plain (OpenSpec.ofChange boundGrowsSpec)) boundGrowsCard

/-- THE TIED CARD OF 'zigguratlaw24.BoundIf'. -/
def boundIfCard : Claim7 := { stood := { row := boundIfRow, standIns := [], harness := (true, "af89263eb56af32e277ee3c303e69c1b1de5cf17c1fa357b53757da9a0cbff32"), looks := false }, kinds := [], alts := [], laidByText := true, laidKinds := [.data], laidTests := true, laidLooks := .later }
def BoundIfCardSaid : Prop := Claim7.holds Tryd.pinned (.plain (OpenSpec.ofChange boundIfSpec)) boundIfCard

/-- THE TIED CARD OF 'zigguratlaw24.BoundNear'. -/
def boundNearCard : Claim7 := { stood := { row := boundNearRow, standIns := [], harness := (true, "af89263eb56af32e277ee3c303e69c1b1de5cf17c1fa357b53757da9a0cbff32"), looks := false }, kinds := [], alts := [], laidByText := true, laidKinds := [.data], laidTests := true, laidLooks := .later }
def BoundNearCardSaid : Prop := Claim7.holds Tryd.pinned (.plain (OpenSpec.ofChange boundNearSpec)) boundNearCard

/-- THE SECOND FORM's CARD OF 'zigguratlaw24.BoundTells'. -/
def boundTellsUptoCard : Claim7 := { stood := { row := boundTellsUptoRow, standIns := [], harness := (true, "af89263eb56af32e277ee3c303e69c1b1de5cf17c1fa357b53757da9a0cbff32"), looks := false }, kinds := [], alts := [], laidByText := true, laidKinds := [.data], laidTests := true, laidLooks := .later }
def BoundTellsUptoCardSaid : Prop := Claim7.holds Tryd.pinned (.plain (OpenSpec.upto boundTellsSpec)) boundTellsUptoCard

/-- THE SECOND FORM's CARD OF 'zigguratlaw24.BoundLevels'. -/
def boundLevelsUptoCard : Claim7 := { stood := { row := boundLevelsUptoRow, standIns := [], harness := (true, "af89263eb56af32e277ee3c303e69c1b1de5cf17c1fa357b53757da9a0cbff32"), looks := false }, kinds := [], alts := [], laidByText := true, laidKinds := [.data], laidTests := true, laidLooks := .later }
def BoundLevelsUptoCardSaid : Prop := Claim7.holds Tryd.pinned (.plain (OpenSpec.upto boundLevelsSpec)) boundLevelsUptoCard

/-- THE SECOND FORM's CARD OF 'zigguratlaw24.BoundSame'. -/
def boundSameUptoCard : Claim7 := { stood := { row := boundSameUptoRow, standIns := [], harness := (true, "af89263eb56af32e277ee3c303e69c1b1de5cf17c1fa357b53757da9a0cbff32"), looks := false }, kinds := [], alts := [], laidByText := true, laidKinds := [.data], laidTests := true, laidLooks := .later }
def BoundSameUptoCardSaid : Prop := Claim7.holds Tryd.pinned (.plain (OpenSpec.upto boundSameSpec)) boundSameUptoCard

/-- THE SECOND FORM's CARD OF 'zigguratlaw24.BoundGrows'. -/
def boundGrowsUptoCard : Claim7 := { stood := { row := boundGrowsUptoRow, standIns := [], harness := (true, "af89263eb56af32e277ee3c303e69c1b1de5cf17c1fa357b53757da9a0cbff32"), looks := false }, kinds := [], alts := [], laidByText := true, laidKinds := [.data], laidTests := true, laidLooks := .later }
def BoundGrowsUptoCardSaid : Prop := Claim7.holds Tryd.pinned (.plain (OpenSpec.upto boundGrowsSpec)) boundGrowsUptoCard

/-- THE SECOND FORM's CARD OF 'zigguratlaw24.BoundIf'. -/
def boundIfUptoCard : Claim7 := { stood := { row := boundIfUptoRow, standIns := [], harness := (true, "af89263eb56af32e277ee3c303e69c1b1de5cf17c1fa357b53757da9a0cbff32"), looks := false }, kinds := [], alts := [], laidByText := true, laidKinds := [.data], laidTests := true, laidLooks := .later }
def BoundIfUptoCardSaid : Prop := Claim7.holds Tryd.pinned (.plain (OpenSpec.upto boundIfSpec)) boundIfUptoCard

/-- THE SECOND FORM's CARD OF 'zigguratlaw24.BoundNear'. -/
def boundNearUptoCard : Claim7 := { stood := { row := boundNearUptoRow, standIns := [], harness := (true, "af89263eb56af32e277ee3c303e69c1b1de5cf17c1fa357b53757da9a0cbff32"), looks := false }, kinds := [], alts := [], laidByText := true, laidKinds := [.data], laidTests := true, laidLooks := .later }
def BoundNearUptoCardSaid : Prop := Claim7.holds Tryd.pinned (.plain (OpenSpec.upto boundNearSpec)) boundNearUptoCard
end Rows
end Go.Proofs.YtakpneafokmcpaaDoor
