/-
  NARROWER THAN 'FOR EVERY INPUT', by the rows' own cells (each row's printed sentence says how): NttTells: laid · NttBack: laid · NttLines: laid · NttTurn: laid · NttAround: laid · NttRoots: laid · NttValues: laid · NttSums: laid · NttOnes: laid.
  DERIVED. THE GIVEN ROWS OF THIS SEAT. 9 by the template 'for every input the law returns true; each argument reads behind the call as it read before'; 0 by the template 'total and deterministic' (their statements: YtfgelmgfalbapaaDoorTotals.lean).
  GIVEN WITH THE SEED: the statements are not yours to turn. If you find one false, say at which input.
  Laid BY PROGRAM, IN A SANDBOX (cutbox-rows.mjs): the forced cells as the released guide's own fill.sh prints them over the translation 7d59309c9c77f144… (all of the seat's roots in one cut). By AI agents, Wed Nov 11 2026. No macro, syntax, notation, axiom, sorry.
-/
import Derived.Test.YtfgelmgfalbapaaDoorChecked
import GoSem.Claim
import GoSem.ClaimJoined
import GoSem.ClaimMapViews
import Derived.JoinedTies
import Derived.KernelRfl
namespace Go.Proofs.YtfgelmgfalbapaaDoor
/- THE CELL 'sum', in the pinned program and in every row, IS THE sha256 OF THE DUMP (.gsa) THAT YtfgelmgfalbapaaDoorProg.lean LOADS. Nothing in Lean hashes anything: it is a label: what it is worth is what the hold of that sum in a sandbox is worth. -/
noncomputable def Tryd.pinned : Pinned := { name := "ytfgelmgfalbapaadoor", sum := "7d59309c9c77f14483b653d7e78153a2ea79d6608aff596ecab8ba87b14cad90", checked := Tryd.checked }
namespace Rows
def none {H : Type} : Left H := { results := [], args := [] }

/- WHAT THE LISTED PACKAGE-LEVEL VARIABLES READ AS WHEN THE CALL BEGINS. Each datum BY PROGRAM (the guide's laid-datum.mjs) off the statement by which the dump's own 'gosem.cut.vars' lays the variable. In a bare row this is a premise. The card (YtfgelmgfalbapaaDoorCards.lean) ties it to the program's text. -/
def laid_ziggurat_ntt_fields {H : Type} : DataW H := .agg [.agg [.lit (.int .u64 998244353)], .agg [.lit (.int .u64 469762049)], .agg [.lit (.int .u64 167772161)]]

/-- 'zigguratlaw02.NttTells': WHATEVER THE INPUT: true; the input reads as it did. -/
def nttTellsSpec : ChangeSpec := { name := "nttTells", fn := fun _ => fun
  | [d1, d2, d3] => { results := [.lit (.bool true)], args := [d1, d2, d3] }
  | _ => none }
def nttTellsRow : OpenClaim := { program := "ytfgelmgfalbapaadoor", sum := "7d59309c9c77f14483b653d7e78153a2ea79d6608aff596ecab8ba87b14cad90", func := "ziggurat/zigguratlaw02.NttTells", spec := "nttTells", inPlace := ["math/bits.Add64"], unfollowed := true, recurses := true, named := ["ziggurat/ntt.fields"], apart := false, laid := [("ziggurat/ntt.fields", laid_ziggurat_ntt_fields)] }
def NttTellsSaid : Prop := nttTellsRow.holds Tryd.pinned (OpenSpec.ofChange nttTellsSpec)

/-- ITS FALSE NEIGHBOUR: 'it returns false'. Refute it at one input. -/
def nttTellsWrong : ChangeSpec := { name := "nttTells", fn := fun _ => fun
  | [d1, d2, d3] => { results := [.lit (.bool false)], args := [d1, d2, d3] }
  | _ => none }
def NttTellsWrongFalsely : Prop := nttTellsRow.holds Tryd.pinned (OpenSpec.ofChange nttTellsWrong)

/-- 'zigguratlaw02.NttBack': WHATEVER THE INPUT: true; the input reads as it did. -/
def nttBackSpec : ChangeSpec := { name := "nttBack", fn := fun _ => fun
  | [d] => { results := [.lit (.bool true)], args := [d] }
  | _ => none }
def nttBackRow : OpenClaim := { program := "ytfgelmgfalbapaadoor", sum := "7d59309c9c77f14483b653d7e78153a2ea79d6608aff596ecab8ba87b14cad90", func := "ziggurat/zigguratlaw02.NttBack", spec := "nttBack", inPlace := ["math/bits.Add64"], unfollowed := true, recurses := true, named := ["ziggurat/ntt.fields"], apart := false, laid := [("ziggurat/ntt.fields", laid_ziggurat_ntt_fields)] }
def NttBackSaid : Prop := nttBackRow.holds Tryd.pinned (OpenSpec.ofChange nttBackSpec)

/-- ITS FALSE NEIGHBOUR: 'it returns false'. Refute it at one input. -/
def nttBackWrong : ChangeSpec := { name := "nttBack", fn := fun _ => fun
  | [d] => { results := [.lit (.bool false)], args := [d] }
  | _ => none }
def NttBackWrongFalsely : Prop := nttBackRow.holds Tryd.pinned (OpenSpec.ofChange nttBackWrong)

/-- 'zigguratlaw02.NttLines': WHATEVER THE INPUT: true; the input reads as it did. -/
def nttLinesSpec : ChangeSpec := { name := "nttLines", fn := fun _ => fun
  | [d1, d2, d3] => { results := [.lit (.bool true)], args := [d1, d2, d3] }
  | _ => none }
def nttLinesRow : OpenClaim := { program := "ytfgelmgfalbapaadoor", sum := "7d59309c9c77f14483b653d7e78153a2ea79d6608aff596ecab8ba87b14cad90", func := "ziggurat/zigguratlaw02.NttLines", spec := "nttLines", inPlace := ["math/bits.Add64"], unfollowed := true, recurses := true, named := ["ziggurat/ntt.fields"], apart := false, laid := [("ziggurat/ntt.fields", laid_ziggurat_ntt_fields)] }
def NttLinesSaid : Prop := nttLinesRow.holds Tryd.pinned (OpenSpec.ofChange nttLinesSpec)

/-- ITS FALSE NEIGHBOUR: 'it returns false'. Refute it at one input. -/
def nttLinesWrong : ChangeSpec := { name := "nttLines", fn := fun _ => fun
  | [d1, d2, d3] => { results := [.lit (.bool false)], args := [d1, d2, d3] }
  | _ => none }
def NttLinesWrongFalsely : Prop := nttLinesRow.holds Tryd.pinned (OpenSpec.ofChange nttLinesWrong)

/-- 'zigguratlaw02.NttTurn': WHATEVER THE INPUT: true; the input reads as it did. -/
def nttTurnSpec : ChangeSpec := { name := "nttTurn", fn := fun _ => fun
  | [d] => { results := [.lit (.bool true)], args := [d] }
  | _ => none }
def nttTurnRow : OpenClaim := { program := "ytfgelmgfalbapaadoor", sum := "7d59309c9c77f14483b653d7e78153a2ea79d6608aff596ecab8ba87b14cad90", func := "ziggurat/zigguratlaw02.NttTurn", spec := "nttTurn", inPlace := ["math/bits.Add64"], unfollowed := true, recurses := true, named := ["ziggurat/ntt.fields"], apart := false, laid := [("ziggurat/ntt.fields", laid_ziggurat_ntt_fields)] }
def NttTurnSaid : Prop := nttTurnRow.holds Tryd.pinned (OpenSpec.ofChange nttTurnSpec)

/-- ITS FALSE NEIGHBOUR: 'it returns false'. Refute it at one input. -/
def nttTurnWrong : ChangeSpec := { name := "nttTurn", fn := fun _ => fun
  | [d] => { results := [.lit (.bool false)], args := [d] }
  | _ => none }
def NttTurnWrongFalsely : Prop := nttTurnRow.holds Tryd.pinned (OpenSpec.ofChange nttTurnWrong)

/-- 'zigguratlaw02.NttAround': WHATEVER THE INPUT: true; the input reads as it did. -/
def nttAroundSpec : ChangeSpec := { name := "nttAround", fn := fun _ => fun
  | [d1, d2] => { results := [.lit (.bool true)], args := [d1, d2] }
  | _ => none }
def nttAroundRow : OpenClaim := { program := "ytfgelmgfalbapaadoor", sum := "7d59309c9c77f14483b653d7e78153a2ea79d6608aff596ecab8ba87b14cad90", func := "ziggurat/zigguratlaw02.NttAround", spec := "nttAround", inPlace := ["math/bits.Add64"], unfollowed := true, recurses := true, named := ["ziggurat/ntt.fields"], apart := false, laid := [("ziggurat/ntt.fields", laid_ziggurat_ntt_fields)] }
def NttAroundSaid : Prop := nttAroundRow.holds Tryd.pinned (OpenSpec.ofChange nttAroundSpec)

/-- ITS FALSE NEIGHBOUR: 'it returns false'. Refute it at one input. -/
def nttAroundWrong : ChangeSpec := { name := "nttAround", fn := fun _ => fun
  | [d1, d2] => { results := [.lit (.bool false)], args := [d1, d2] }
  | _ => none }
def NttAroundWrongFalsely : Prop := nttAroundRow.holds Tryd.pinned (OpenSpec.ofChange nttAroundWrong)

/-- 'zigguratlaw02.NttRoots': WHATEVER THE INPUT: true; the input reads as it did. -/
def nttRootsSpec : ChangeSpec := { name := "nttRoots", fn := fun _ => fun
  | [d1, d2] => { results := [.lit (.bool true)], args := [d1, d2] }
  | _ => none }
def nttRootsRow : OpenClaim := { program := "ytfgelmgfalbapaadoor", sum := "7d59309c9c77f14483b653d7e78153a2ea79d6608aff596ecab8ba87b14cad90", func := "ziggurat/zigguratlaw02.NttRoots", spec := "nttRoots", inPlace := ["math/bits.Add64"], unfollowed := true, recurses := true, named := ["ziggurat/ntt.fields"], apart := false, laid := [("ziggurat/ntt.fields", laid_ziggurat_ntt_fields)] }
def NttRootsSaid : Prop := nttRootsRow.holds Tryd.pinned (OpenSpec.ofChange nttRootsSpec)

/-- ITS FALSE NEIGHBOUR: 'it returns false'. Refute it at one input. -/
def nttRootsWrong : ChangeSpec := { name := "nttRoots", fn := fun _ => fun
  | [d1, d2] => { results := [.lit (.bool false)], args := [d1, d2] }
  | _ => none }
def NttRootsWrongFalsely : Prop := nttRootsRow.holds Tryd.pinned (OpenSpec.ofChange nttRootsWrong)

/-- 'zigguratlaw02.NttValues': WHATEVER THE INPUT: true; the input reads as it did. -/
def nttValuesSpec : ChangeSpec := { name := "nttValues", fn := fun _ => fun
  | [d1, d2] => { results := [.lit (.bool true)], args := [d1, d2] }
  | _ => none }
def nttValuesRow : OpenClaim := { program := "ytfgelmgfalbapaadoor", sum := "7d59309c9c77f14483b653d7e78153a2ea79d6608aff596ecab8ba87b14cad90", func := "ziggurat/zigguratlaw02.NttValues", spec := "nttValues", inPlace := ["math/bits.Add64"], unfollowed := true, recurses := true, named := ["ziggurat/ntt.fields"], apart := false, laid := [("ziggurat/ntt.fields", laid_ziggurat_ntt_fields)] }
def NttValuesSaid : Prop := nttValuesRow.holds Tryd.pinned (OpenSpec.ofChange nttValuesSpec)

/-- ITS FALSE NEIGHBOUR: 'it returns false'. Refute it at one input. -/
def nttValuesWrong : ChangeSpec := { name := "nttValues", fn := fun _ => fun
  | [d1, d2] => { results := [.lit (.bool false)], args := [d1, d2] }
  | _ => none }
def NttValuesWrongFalsely : Prop := nttValuesRow.holds Tryd.pinned (OpenSpec.ofChange nttValuesWrong)

/-- 'zigguratlaw02.NttSums': WHATEVER THE INPUT: true; the input reads as it did. -/
def nttSumsSpec : ChangeSpec := { name := "nttSums", fn := fun _ => fun
  | [d1, d2, d3] => { results := [.lit (.bool true)], args := [d1, d2, d3] }
  | _ => none }
def nttSumsRow : OpenClaim := { program := "ytfgelmgfalbapaadoor", sum := "7d59309c9c77f14483b653d7e78153a2ea79d6608aff596ecab8ba87b14cad90", func := "ziggurat/zigguratlaw02.NttSums", spec := "nttSums", inPlace := ["math/bits.Add64"], unfollowed := true, recurses := true, named := ["ziggurat/ntt.fields"], apart := false, laid := [("ziggurat/ntt.fields", laid_ziggurat_ntt_fields)] }
def NttSumsSaid : Prop := nttSumsRow.holds Tryd.pinned (OpenSpec.ofChange nttSumsSpec)

/-- ITS FALSE NEIGHBOUR: 'it returns false'. Refute it at one input. -/
def nttSumsWrong : ChangeSpec := { name := "nttSums", fn := fun _ => fun
  | [d1, d2, d3] => { results := [.lit (.bool false)], args := [d1, d2, d3] }
  | _ => none }
def NttSumsWrongFalsely : Prop := nttSumsRow.holds Tryd.pinned (OpenSpec.ofChange nttSumsWrong)

/-- 'zigguratlaw02.NttOnes': WHATEVER THE INPUT: true; the input reads as it did. -/
def nttOnesSpec : ChangeSpec := { name := "nttOnes", fn := fun _ => fun
  | [d1, d2] => { results := [.lit (.bool true)], args := [d1, d2] }
  | _ => none }
def nttOnesRow : OpenClaim := { program := "ytfgelmgfalbapaadoor", sum := "7d59309c9c77f14483b653d7e78153a2ea79d6608aff596ecab8ba87b14cad90", func := "ziggurat/zigguratlaw02.NttOnes", spec := "nttOnes", inPlace := ["math/bits.Add64"], unfollowed := true, recurses := true, named := ["ziggurat/ntt.fields"], apart := false, laid := [("ziggurat/ntt.fields", laid_ziggurat_ntt_fields)] }
def NttOnesSaid : Prop := nttOnesRow.holds Tryd.pinned (OpenSpec.ofChange nttOnesSpec)

/-- ITS FALSE NEIGHBOUR: 'it returns false'. Refute it at one input. -/
def nttOnesWrong : ChangeSpec := { name := "nttOnes", fn := fun _ => fun
  | [d1, d2] => { results := [.lit (.bool false)], args := [d1, d2] }
  | _ => none }
def NttOnesWrongFalsely : Prop := nttOnesRow.holds Tryd.pinned (OpenSpec.ofChange nttOnesWrong)

/- THE SECOND FORM. 'bulk': how many values and letters a reading holds, each counted each time it is reached (what is shared counts as often as it is met; a slice's spare places count too). A statement '..UptoSaid' is the law's where the arguments, and the package variables that the reading takes, are together of bulk at most 1048576: NARROWER than '..Said'. Prove '..Said' where nothing that the law and all that it calls make is longer than what came in: it says more and counts as full. Else prove '..UptoSaid'. A law counts once. -/
mutual
def uptoBulk {H : Type} : DataW H → Nat
  | .lit (.string bytes) => bytes.length + 1
  | .lit _ => 1
  | .nil => 1
  | .ptr d => uptoBulk d + 1
  | .slice elems spare => uptoBulkAll elems + uptoBulkAll spare + 1
  | .agg parts => uptoBulkAll parts + 1
  | .iface _ d => uptoBulk d + 1
  | .map entries => uptoBulkEntries entries + 1
  | .held _ => 1
def uptoBulkAll {H : Type} : List (DataW H) → Nat
  | [] => 0
  | d :: r => uptoBulk d + uptoBulkAll r
def uptoBulkEntries {H : Type} : List (Lit × DataW H) → Nat
  | [] => 0
  | x :: r => uptoBulkEntry x + uptoBulkEntries r
def uptoBulkEntry {H : Type} : Lit × DataW H → Nat
  | (.string bytes, d) => bytes.length + uptoBulk d + 1
  | (_, d) => uptoBulk d + 1
 end
def uptoSmall : (H : Type) → List (DataW H) → Bool := fun _ ds => decide (uptoBulkAll ds ≤ 1048576)
def OpenSpec.upto (s : _root_.Go.ChangeSpec) : _root_.Go.OpenSpec := { _root_.Go.OpenSpec.ofChange s with cond := some uptoSmall }

/-- 'zigguratlaw02.NttTells', WHERE WHAT IT READS IS OF BULK AT MOST 1048576: true; the input reads as it did. -/
def nttTellsUptoRow : OpenClaim := { program := "ytfgelmgfalbapaadoor", sum := "7d59309c9c77f14483b653d7e78153a2ea79d6608aff596ecab8ba87b14cad90", func := "ziggurat/zigguratlaw02.NttTells", spec := "nttTells", inPlace := ["math/bits.Add64"], unfollowed := true, recurses := true, named := ["ziggurat/ntt.fields"], apart := false, laid := [("ziggurat/ntt.fields", laid_ziggurat_ntt_fields)], narrowed := true }
def NttTellsUptoSaid : Prop := nttTellsUptoRow.holds Tryd.pinned (OpenSpec.upto nttTellsSpec)

/-- 'zigguratlaw02.NttBack', WHERE WHAT IT READS IS OF BULK AT MOST 1048576: true; the input reads as it did. -/
def nttBackUptoRow : OpenClaim := { program := "ytfgelmgfalbapaadoor", sum := "7d59309c9c77f14483b653d7e78153a2ea79d6608aff596ecab8ba87b14cad90", func := "ziggurat/zigguratlaw02.NttBack", spec := "nttBack", inPlace := ["math/bits.Add64"], unfollowed := true, recurses := true, named := ["ziggurat/ntt.fields"], apart := false, laid := [("ziggurat/ntt.fields", laid_ziggurat_ntt_fields)], narrowed := true }
def NttBackUptoSaid : Prop := nttBackUptoRow.holds Tryd.pinned (OpenSpec.upto nttBackSpec)

/-- 'zigguratlaw02.NttLines', WHERE WHAT IT READS IS OF BULK AT MOST 1048576: true; the input reads as it did. -/
def nttLinesUptoRow : OpenClaim := { program := "ytfgelmgfalbapaadoor", sum := "7d59309c9c77f14483b653d7e78153a2ea79d6608aff596ecab8ba87b14cad90", func := "ziggurat/zigguratlaw02.NttLines", spec := "nttLines", inPlace := ["math/bits.Add64"], unfollowed := true, recurses := true, named := ["ziggurat/ntt.fields"], apart := false, laid := [("ziggurat/ntt.fields", laid_ziggurat_ntt_fields)], narrowed := true }
def NttLinesUptoSaid : Prop := nttLinesUptoRow.holds Tryd.pinned (OpenSpec.upto nttLinesSpec)

/-- 'zigguratlaw02.NttTurn', WHERE WHAT IT READS IS OF BULK AT MOST 1048576: true; the input reads as it did. -/
def nttTurnUptoRow : OpenClaim := { program := "ytfgelmgfalbapaadoor", sum := "7d59309c9c77f14483b653d7e78153a2ea79d6608aff596ecab8ba87b14cad90", func := "ziggurat/zigguratlaw02.NttTurn", spec := "nttTurn", inPlace := ["math/bits.Add64"], unfollowed := true, recurses := true, named := ["ziggurat/ntt.fields"], apart := false, laid := [("ziggurat/ntt.fields", laid_ziggurat_ntt_fields)], narrowed := true }
def NttTurnUptoSaid : Prop := nttTurnUptoRow.holds Tryd.pinned (OpenSpec.upto nttTurnSpec)

/-- 'zigguratlaw02.NttAround', WHERE WHAT IT READS IS OF BULK AT MOST 1048576: true; the input reads as it did. -/
def nttAroundUptoRow : OpenClaim := { program := "ytfgelmgfalbapaadoor", sum := "7d59309c9c77f14483b653d7e78153a2ea79d6608aff596ecab8ba87b14cad90", func := "ziggurat/zigguratlaw02.NttAround", spec := "nttAround", inPlace := ["math/bits.Add64"], unfollowed := true, recurses := true, named := ["ziggurat/ntt.fields"], apart := false, laid := [("ziggurat/ntt.fields", laid_ziggurat_ntt_fields)], narrowed := true }
def NttAroundUptoSaid : Prop := nttAroundUptoRow.holds Tryd.pinned (OpenSpec.upto nttAroundSpec)

/-- 'zigguratlaw02.NttRoots', WHERE WHAT IT READS IS OF BULK AT MOST 1048576: true; the input reads as it did. -/
def nttRootsUptoRow : OpenClaim := { program := "ytfgelmgfalbapaadoor", sum := "7d59309c9c77f14483b653d7e78153a2ea79d6608aff596ecab8ba87b14cad90", func := "ziggurat/zigguratlaw02.NttRoots", spec := "nttRoots", inPlace := ["math/bits.Add64"], unfollowed := true, recurses := true, named := ["ziggurat/ntt.fields"], apart := false, laid := [("ziggurat/ntt.fields", laid_ziggurat_ntt_fields)], narrowed := true }
def NttRootsUptoSaid : Prop := nttRootsUptoRow.holds Tryd.pinned (OpenSpec.upto nttRootsSpec)

/-- 'zigguratlaw02.NttValues', WHERE WHAT IT READS IS OF BULK AT MOST 1048576: true; the input reads as it did. -/
def nttValuesUptoRow : OpenClaim := { program := "ytfgelmgfalbapaadoor", sum := "7d59309c9c77f14483b653d7e78153a2ea79d6608aff596ecab8ba87b14cad90", func := "ziggurat/zigguratlaw02.NttValues", spec := "nttValues", inPlace := ["math/bits.Add64"], unfollowed := true, recurses := true, named := ["ziggurat/ntt.fields"], apart := false, laid := [("ziggurat/ntt.fields", laid_ziggurat_ntt_fields)], narrowed := true }
def NttValuesUptoSaid : Prop := nttValuesUptoRow.holds Tryd.pinned (OpenSpec.upto nttValuesSpec)

/-- 'zigguratlaw02.NttSums', WHERE WHAT IT READS IS OF BULK AT MOST 1048576: true; the input reads as it did. -/
def nttSumsUptoRow : OpenClaim := { program := "ytfgelmgfalbapaadoor", sum := "7d59309c9c77f14483b653d7e78153a2ea79d6608aff596ecab8ba87b14cad90", func := "ziggurat/zigguratlaw02.NttSums", spec := "nttSums", inPlace := ["math/bits.Add64"], unfollowed := true, recurses := true, named := ["ziggurat/ntt.fields"], apart := false, laid := [("ziggurat/ntt.fields", laid_ziggurat_ntt_fields)], narrowed := true }
def NttSumsUptoSaid : Prop := nttSumsUptoRow.holds Tryd.pinned (OpenSpec.upto nttSumsSpec)

/-- 'zigguratlaw02.NttOnes', WHERE WHAT IT READS IS OF BULK AT MOST 1048576: true; the input reads as it did. -/
def nttOnesUptoRow : OpenClaim := { program := "ytfgelmgfalbapaadoor", sum := "7d59309c9c77f14483b653d7e78153a2ea79d6608aff596ecab8ba87b14cad90", func := "ziggurat/zigguratlaw02.NttOnes", spec := "nttOnes", inPlace := ["math/bits.Add64"], unfollowed := true, recurses := true, named := ["ziggurat/ntt.fields"], apart := false, laid := [("ziggurat/ntt.fields", laid_ziggurat_ntt_fields)], narrowed := true }
def NttOnesUptoSaid : Prop := nttOnesUptoRow.holds Tryd.pinned (OpenSpec.upto nttOnesSpec)

end Rows
end Go.Proofs.YtfgelmgfalbapaaDoor
