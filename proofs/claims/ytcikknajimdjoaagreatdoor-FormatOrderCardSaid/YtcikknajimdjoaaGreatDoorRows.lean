/-
  NARROWER THAN 'FOR EVERY INPUT', by the rows' own cells (each row's printed sentence says how): FormatTells: laid · FormatRounds: laid · FormatOwn: laid · FormatSides: laid · FormatNear: laid · FormatOrder: laid · FormatTurned: laid · FormatBeside: laid · FormatMore: laid.
  DERIVED. THE GIVEN ROWS OF THIS SEAT. 9 by the template 'for every input the law returns true; each argument reads behind the call as it read before'; 0 by the template 'total and deterministic' (their statements: YtcikknajimdjoaaGreatDoorTotals.lean).
  GIVEN WITH THE SEED: the statements are not yours to turn. If you find one false, say at which input.
  Laid BY PROGRAM, IN A SANDBOX (cutbox-rows.mjs): the forced cells as the released guide's own fill.sh prints them over the translation 6252f9cf95a89720… (all of the seat's roots in one cut). By AI agents, Wed Nov 11 2026. No macro, syntax, notation, axiom, sorry.
-/
import Derived.Test.YtcikknajimdjoaaGreatDoorChecked
import GoSem.Claim
import GoSem.ClaimJoined
import GoSem.ClaimMapViews
import Derived.JoinedTies
import Derived.KernelRfl
namespace Go.Proofs.YtcikknajimdjoaaGreatDoor
/- THE CELL 'sum', in the pinned program and in every row, IS THE sha256 OF THE DUMP (.gsa) THAT YtcikknajimdjoaaGreatDoorProg.lean LOADS. Nothing in Lean hashes anything: it is a label: what it is worth is what the hold of that sum in a sandbox is worth. -/
noncomputable def Tryz.pinned : Pinned := { name := "ytcikknajimdjoaagreatdoor", sum := "6252f9cf95a89720b7cb3f7ba1439ed447ff0c8ddd65541bb9fdf24883db7f02", checked := Tryz.checked }
namespace Rows
def none {H : Type} : Left H := { results := [], args := [] }

/- WHAT THE LISTED PACKAGE-LEVEL VARIABLES READ AS WHEN THE CALL BEGINS. Each datum BY PROGRAM (the guide's laid-datum.mjs) off the statement by which the dump's own 'gosem.cut.vars' lays the variable. In a bare row this is a premise. The card (YtcikknajimdjoaaGreatDoorCards.lean) ties it to the program's text. -/
def laid_ziggurat_ntt_fields {H : Type} : DataW H := .agg [.agg [.lit (.int .u64 998244353)], .agg [.lit (.int .u64 469762049)], .agg [.lit (.int .u64 167772161)]]

/-- 'zigguratlaw22.FormatTells': WHATEVER THE INPUT: true; the input reads as it did. -/
def formatTellsSpec : ChangeSpec := { name := "formatTells", fn := fun _ => fun
  | [d1, d2] => { results := [.lit (.bool true)], args := [d1, d2] }
  | _ => none }
def formatTellsRow : OpenClaim := { program := "ytcikknajimdjoaagreatdoor", sum := "6252f9cf95a89720b7cb3f7ba1439ed447ff0c8ddd65541bb9fdf24883db7f02", func := "ziggurat/zigguratlaw22.FormatTells", spec := "formatTells", inPlace := ["math/bits.Add64"], unfollowed := true, recurses := true, named := ["ziggurat/ntt.fields", "math/bits.overflowError"], apart := false, laid := [("ziggurat/ntt.fields", laid_ziggurat_ntt_fields)] }
def FormatTellsSaid : Prop := formatTellsRow.holds Tryz.pinned (OpenSpec.ofChange formatTellsSpec)

/-- ITS FALSE NEIGHBOUR: 'it returns false'. Refute it at one input. -/
def formatTellsWrong : ChangeSpec := { name := "formatTells", fn := fun _ => fun
  | [d1, d2] => { results := [.lit (.bool false)], args := [d1, d2] }
  | _ => none }
def FormatTellsWrongFalsely : Prop := formatTellsRow.holds Tryz.pinned (OpenSpec.ofChange formatTellsWrong)

/-- 'zigguratlaw22.FormatRounds': WHATEVER THE INPUT: true; the input reads as it did. -/
def formatRoundsSpec : ChangeSpec := { name := "formatRounds", fn := fun _ => fun
  | [d1, d2, d3] => { results := [.lit (.bool true)], args := [d1, d2, d3] }
  | _ => none }
def formatRoundsRow : OpenClaim := { program := "ytcikknajimdjoaagreatdoor", sum := "6252f9cf95a89720b7cb3f7ba1439ed447ff0c8ddd65541bb9fdf24883db7f02", func := "ziggurat/zigguratlaw22.FormatRounds", spec := "formatRounds", inPlace := ["math/bits.Add64"], unfollowed := true, recurses := true, named := ["ziggurat/ntt.fields", "math/bits.overflowError"], apart := false, laid := [("ziggurat/ntt.fields", laid_ziggurat_ntt_fields)] }
def FormatRoundsSaid : Prop := formatRoundsRow.holds Tryz.pinned (OpenSpec.ofChange formatRoundsSpec)

/-- ITS FALSE NEIGHBOUR: 'it returns false'. Refute it at one input. -/
def formatRoundsWrong : ChangeSpec := { name := "formatRounds", fn := fun _ => fun
  | [d1, d2, d3] => { results := [.lit (.bool false)], args := [d1, d2, d3] }
  | _ => none }
def FormatRoundsWrongFalsely : Prop := formatRoundsRow.holds Tryz.pinned (OpenSpec.ofChange formatRoundsWrong)

/-- 'zigguratlaw22.FormatOwn': WHATEVER THE INPUT: true; the input reads as it did. -/
def formatOwnSpec : ChangeSpec := { name := "formatOwn", fn := fun _ => fun
  | [d1, d2, d3] => { results := [.lit (.bool true)], args := [d1, d2, d3] }
  | _ => none }
def formatOwnRow : OpenClaim := { program := "ytcikknajimdjoaagreatdoor", sum := "6252f9cf95a89720b7cb3f7ba1439ed447ff0c8ddd65541bb9fdf24883db7f02", func := "ziggurat/zigguratlaw22.FormatOwn", spec := "formatOwn", inPlace := ["math/bits.Add64"], unfollowed := true, recurses := true, named := ["ziggurat/ntt.fields", "math/bits.overflowError"], apart := false, laid := [("ziggurat/ntt.fields", laid_ziggurat_ntt_fields)] }
def FormatOwnSaid : Prop := formatOwnRow.holds Tryz.pinned (OpenSpec.ofChange formatOwnSpec)

/-- ITS FALSE NEIGHBOUR: 'it returns false'. Refute it at one input. -/
def formatOwnWrong : ChangeSpec := { name := "formatOwn", fn := fun _ => fun
  | [d1, d2, d3] => { results := [.lit (.bool false)], args := [d1, d2, d3] }
  | _ => none }
def FormatOwnWrongFalsely : Prop := formatOwnRow.holds Tryz.pinned (OpenSpec.ofChange formatOwnWrong)

/-- 'zigguratlaw22.FormatSides': WHATEVER THE INPUT: true; the input reads as it did. -/
def formatSidesSpec : ChangeSpec := { name := "formatSides", fn := fun _ => fun
  | [d1, d2] => { results := [.lit (.bool true)], args := [d1, d2] }
  | _ => none }
def formatSidesRow : OpenClaim := { program := "ytcikknajimdjoaagreatdoor", sum := "6252f9cf95a89720b7cb3f7ba1439ed447ff0c8ddd65541bb9fdf24883db7f02", func := "ziggurat/zigguratlaw22.FormatSides", spec := "formatSides", inPlace := ["math/bits.Add64"], unfollowed := true, recurses := true, named := ["ziggurat/ntt.fields", "math/bits.overflowError"], apart := false, laid := [("ziggurat/ntt.fields", laid_ziggurat_ntt_fields)] }
def FormatSidesSaid : Prop := formatSidesRow.holds Tryz.pinned (OpenSpec.ofChange formatSidesSpec)

/-- ITS FALSE NEIGHBOUR: 'it returns false'. Refute it at one input. -/
def formatSidesWrong : ChangeSpec := { name := "formatSides", fn := fun _ => fun
  | [d1, d2] => { results := [.lit (.bool false)], args := [d1, d2] }
  | _ => none }
def FormatSidesWrongFalsely : Prop := formatSidesRow.holds Tryz.pinned (OpenSpec.ofChange formatSidesWrong)

/-- 'zigguratlaw22.FormatNear': WHATEVER THE INPUT: true; the input reads as it did. -/
def formatNearSpec : ChangeSpec := { name := "formatNear", fn := fun _ => fun
  | [d1, d2] => { results := [.lit (.bool true)], args := [d1, d2] }
  | _ => none }
def formatNearRow : OpenClaim := { program := "ytcikknajimdjoaagreatdoor", sum := "6252f9cf95a89720b7cb3f7ba1439ed447ff0c8ddd65541bb9fdf24883db7f02", func := "ziggurat/zigguratlaw22.FormatNear", spec := "formatNear", inPlace := ["math/bits.Add64"], unfollowed := true, recurses := true, named := ["ziggurat/ntt.fields", "math/bits.overflowError"], apart := false, laid := [("ziggurat/ntt.fields", laid_ziggurat_ntt_fields)] }
def FormatNearSaid : Prop := formatNearRow.holds Tryz.pinned (OpenSpec.ofChange formatNearSpec)

/-- ITS FALSE NEIGHBOUR: 'it returns false'. Refute it at one input. -/
def formatNearWrong : ChangeSpec := { name := "formatNear", fn := fun _ => fun
  | [d1, d2] => { results := [.lit (.bool false)], args := [d1, d2] }
  | _ => none }
def FormatNearWrongFalsely : Prop := formatNearRow.holds Tryz.pinned (OpenSpec.ofChange formatNearWrong)

/-- 'zigguratlaw22.FormatOrder': WHATEVER THE INPUT: true; the input reads as it did. -/
def formatOrderSpec : ChangeSpec := { name := "formatOrder", fn := fun _ => fun
  | [d1, d2, d3] => { results := [.lit (.bool true)], args := [d1, d2, d3] }
  | _ => none }
def formatOrderRow : OpenClaim := { program := "ytcikknajimdjoaagreatdoor", sum := "6252f9cf95a89720b7cb3f7ba1439ed447ff0c8ddd65541bb9fdf24883db7f02", func := "ziggurat/zigguratlaw22.FormatOrder", spec := "formatOrder", inPlace := ["math/bits.Add64"], unfollowed := true, recurses := true, named := ["ziggurat/ntt.fields", "math/bits.overflowError"], apart := false, laid := [("ziggurat/ntt.fields", laid_ziggurat_ntt_fields)] }
def FormatOrderSaid : Prop := formatOrderRow.holds Tryz.pinned (OpenSpec.ofChange formatOrderSpec)

/-- ITS FALSE NEIGHBOUR: 'it returns false'. Refute it at one input. -/
def formatOrderWrong : ChangeSpec := { name := "formatOrder", fn := fun _ => fun
  | [d1, d2, d3] => { results := [.lit (.bool false)], args := [d1, d2, d3] }
  | _ => none }
def FormatOrderWrongFalsely : Prop := formatOrderRow.holds Tryz.pinned (OpenSpec.ofChange formatOrderWrong)

/-- 'zigguratlaw22.FormatTurned': WHATEVER THE INPUT: true; the input reads as it did. -/
def formatTurnedSpec : ChangeSpec := { name := "formatTurned", fn := fun _ => fun
  | [d1, d2, d3] => { results := [.lit (.bool true)], args := [d1, d2, d3] }
  | _ => none }
def formatTurnedRow : OpenClaim := { program := "ytcikknajimdjoaagreatdoor", sum := "6252f9cf95a89720b7cb3f7ba1439ed447ff0c8ddd65541bb9fdf24883db7f02", func := "ziggurat/zigguratlaw22.FormatTurned", spec := "formatTurned", inPlace := ["math/bits.Add64"], unfollowed := true, recurses := true, named := ["ziggurat/ntt.fields", "math/bits.overflowError"], apart := false, laid := [("ziggurat/ntt.fields", laid_ziggurat_ntt_fields)] }
def FormatTurnedSaid : Prop := formatTurnedRow.holds Tryz.pinned (OpenSpec.ofChange formatTurnedSpec)

/-- ITS FALSE NEIGHBOUR: 'it returns false'. Refute it at one input. -/
def formatTurnedWrong : ChangeSpec := { name := "formatTurned", fn := fun _ => fun
  | [d1, d2, d3] => { results := [.lit (.bool false)], args := [d1, d2, d3] }
  | _ => none }
def FormatTurnedWrongFalsely : Prop := formatTurnedRow.holds Tryz.pinned (OpenSpec.ofChange formatTurnedWrong)

/-- 'zigguratlaw22.FormatBeside': WHATEVER THE INPUT: true; the input reads as it did. -/
def formatBesideSpec : ChangeSpec := { name := "formatBeside", fn := fun _ => fun
  | [d1, d2] => { results := [.lit (.bool true)], args := [d1, d2] }
  | _ => none }
def formatBesideRow : OpenClaim := { program := "ytcikknajimdjoaagreatdoor", sum := "6252f9cf95a89720b7cb3f7ba1439ed447ff0c8ddd65541bb9fdf24883db7f02", func := "ziggurat/zigguratlaw22.FormatBeside", spec := "formatBeside", inPlace := ["math/bits.Add64"], unfollowed := true, recurses := true, named := ["ziggurat/ntt.fields", "math/bits.overflowError"], apart := false, laid := [("ziggurat/ntt.fields", laid_ziggurat_ntt_fields)] }
def FormatBesideSaid : Prop := formatBesideRow.holds Tryz.pinned (OpenSpec.ofChange formatBesideSpec)

/-- ITS FALSE NEIGHBOUR: 'it returns false'. Refute it at one input. -/
def formatBesideWrong : ChangeSpec := { name := "formatBeside", fn := fun _ => fun
  | [d1, d2] => { results := [.lit (.bool false)], args := [d1, d2] }
  | _ => none }
def FormatBesideWrongFalsely : Prop := formatBesideRow.holds Tryz.pinned (OpenSpec.ofChange formatBesideWrong)

/-- 'zigguratlaw22.FormatMore': WHATEVER THE INPUT: true; the input reads as it did. -/
def formatMoreSpec : ChangeSpec := { name := "formatMore", fn := fun _ => fun
  | [d1, d2, d3] => { results := [.lit (.bool true)], args := [d1, d2, d3] }
  | _ => none }
def formatMoreRow : OpenClaim := { program := "ytcikknajimdjoaagreatdoor", sum := "6252f9cf95a89720b7cb3f7ba1439ed447ff0c8ddd65541bb9fdf24883db7f02", func := "ziggurat/zigguratlaw22.FormatMore", spec := "formatMore", inPlace := ["math/bits.Add64"], unfollowed := true, recurses := true, named := ["ziggurat/ntt.fields", "math/bits.overflowError"], apart := false, laid := [("ziggurat/ntt.fields", laid_ziggurat_ntt_fields)] }
def FormatMoreSaid : Prop := formatMoreRow.holds Tryz.pinned (OpenSpec.ofChange formatMoreSpec)

/-- ITS FALSE NEIGHBOUR: 'it returns false'. Refute it at one input. -/
def formatMoreWrong : ChangeSpec := { name := "formatMore", fn := fun _ => fun
  | [d1, d2, d3] => { results := [.lit (.bool false)], args := [d1, d2, d3] }
  | _ => none }
def FormatMoreWrongFalsely : Prop := formatMoreRow.holds Tryz.pinned (OpenSpec.ofChange formatMoreWrong)

/- THE SECOND FORM. 'bulk': how many values and letters a reading holds, each counted each time it is reached (what is shared counts as often as it is met; a slice's spare places count too). A statement '..UptoSaid' is the law's where the arguments, and the package variables that the reading takes, are together of bulk at most 1048576: NARROWER than '..Said'. Prove '..Said' where nothing that the law and all that it calls make is longer than what came in: it says more and counts as full. Else prove '..UptoSaid'. A law counts once. -/
mutual
def uptoBulk {H : Type} : DataW H → Nat
  | .lit (.string bytes) => bytes.length + 1
  | .lit _ => 1
  | .nil => 1
  | .ptr d => uptoBulk d + 1
  | .slice elems spare => uptoBulkAll elems + uptoBulkAll spare + 1
  | .agg parts => uptoBulkAll parts + 1
  | .iface _ d => uptoBulk d + 1
  | .map entries => uptoBulkEntries entries + 1
  | .held _ => 1
def uptoBulkAll {H : Type} : List (DataW H) → Nat
  | [] => 0
  | d :: r => uptoBulk d + uptoBulkAll r
def uptoBulkEntries {H : Type} : List (Lit × DataW H) → Nat
  | [] => 0
  | x :: r => uptoBulkEntry x + uptoBulkEntries r
def uptoBulkEntry {H : Type} : Lit × DataW H → Nat
  | (.string bytes, d) => bytes.length + uptoBulk d + 1
  | (_, d) => uptoBulk d + 1
 end
def uptoSmall : (H : Type) → List (DataW H) → Bool := fun _ ds => decide (uptoBulkAll ds ≤ 1048576)
def OpenSpec.upto (s : _root_.Go.ChangeSpec) : _root_.Go.OpenSpec := { _root_.Go.OpenSpec.ofChange s with cond := some uptoSmall }

/-- 'zigguratlaw22.FormatTells', WHERE WHAT IT READS IS OF BULK AT MOST 1048576: true; the input reads as it did. -/
def formatTellsUptoRow : OpenClaim := { program := "ytcikknajimdjoaagreatdoor", sum := "6252f9cf95a89720b7cb3f7ba1439ed447ff0c8ddd65541bb9fdf24883db7f02", func := "ziggurat/zigguratlaw22.FormatTells", spec := "formatTells", inPlace := ["math/bits.Add64"], unfollowed := true, recurses := true, named := ["ziggurat/ntt.fields", "math/bits.overflowError"], apart := false, laid := [("ziggurat/ntt.fields", laid_ziggurat_ntt_fields)], narrowed := true }
def FormatTellsUptoSaid : Prop := formatTellsUptoRow.holds Tryz.pinned (OpenSpec.upto formatTellsSpec)

/-- 'zigguratlaw22.FormatRounds', WHERE WHAT IT READS IS OF BULK AT MOST 1048576: true; the input reads as it did. -/
def formatRoundsUptoRow : OpenClaim := { program := "ytcikknajimdjoaagreatdoor", sum := "6252f9cf95a89720b7cb3f7ba1439ed447ff0c8ddd65541bb9fdf24883db7f02", func := "ziggurat/zigguratlaw22.FormatRounds", spec := "formatRounds", inPlace := ["math/bits.Add64"], unfollowed := true, recurses := true, named := ["ziggurat/ntt.fields", "math/bits.overflowError"], apart := false, laid := [("ziggurat/ntt.fields", laid_ziggurat_ntt_fields)], narrowed := true }
def FormatRoundsUptoSaid : Prop := formatRoundsUptoRow.holds Tryz.pinned (OpenSpec.upto formatRoundsSpec)

/-- 'zigguratlaw22.FormatOwn', WHERE WHAT IT READS IS OF BULK AT MOST 1048576: true; the input reads as it did. -/
def formatOwnUptoRow : OpenClaim := { program := "ytcikknajimdjoaagreatdoor", sum := "6252f9cf95a89720b7cb3f7ba1439ed447ff0c8ddd65541bb9fdf24883db7f02", func := "ziggurat/zigguratlaw22.FormatOwn", spec := "formatOwn", inPlace := ["math/bits.Add64"], unfollowed := true, recurses := true, named := ["ziggurat/ntt.fields", "math/bits.overflowError"], apart := false, laid := [("ziggurat/ntt.fields", laid_ziggurat_ntt_fields)], narrowed := true }
def FormatOwnUptoSaid : Prop := formatOwnUptoRow.holds Tryz.pinned (OpenSpec.upto formatOwnSpec)

/-- 'zigguratlaw22.FormatSides', WHERE WHAT IT READS IS OF BULK AT MOST 1048576: true; the input reads as it did. -/
def formatSidesUptoRow : OpenClaim := { program := "ytcikknajimdjoaagreatdoor", sum := "6252f9cf95a89720b7cb3f7ba1439ed447ff0c8ddd65541bb9fdf24883db7f02", func := "ziggurat/zigguratlaw22.FormatSides", spec := "formatSides", inPlace := ["math/bits.Add64"], unfollowed := true, recurses := true, named := ["ziggurat/ntt.fields", "math/bits.overflowError"], apart := false, laid := [("ziggurat/ntt.fields", laid_ziggurat_ntt_fields)], narrowed := true }
def FormatSidesUptoSaid : Prop := formatSidesUptoRow.holds Tryz.pinned (OpenSpec.upto formatSidesSpec)

/-- 'zigguratlaw22.FormatNear', WHERE WHAT IT READS IS OF BULK AT MOST 1048576: true; the input reads as it did. -/
def formatNearUptoRow : OpenClaim := { program := "ytcikknajimdjoaagreatdoor", sum := "6252f9cf95a89720b7cb3f7ba1439ed447ff0c8ddd65541bb9fdf24883db7f02", func := "ziggurat/zigguratlaw22.FormatNear", spec := "formatNear", inPlace := ["math/bits.Add64"], unfollowed := true, recurses := true, named := ["ziggurat/ntt.fields", "math/bits.overflowError"], apart := false, laid := [("ziggurat/ntt.fields", laid_ziggurat_ntt_fields)], narrowed := true }
def FormatNearUptoSaid : Prop := formatNearUptoRow.holds Tryz.pinned (OpenSpec.upto formatNearSpec)

/-- 'zigguratlaw22.FormatOrder', WHERE WHAT IT READS IS OF BULK AT MOST 1048576: true; the input reads as it did. -/
def formatOrderUptoRow : OpenClaim := { program := "ytcikknajimdjoaagreatdoor", sum := "6252f9cf95a89720b7cb3f7ba1439ed447ff0c8ddd65541bb9fdf24883db7f02", func := "ziggurat/zigguratlaw22.FormatOrder", spec := "formatOrder", inPlace := ["math/bits.Add64"], unfollowed := true, recurses := true, named := ["ziggurat/ntt.fields", "math/bits.overflowError"], apart := false, laid := [("ziggurat/ntt.fields", laid_ziggurat_ntt_fields)], narrowed := true }
def FormatOrderUptoSaid : Prop := formatOrderUptoRow.holds Tryz.pinned (OpenSpec.upto formatOrderSpec)

/-- 'zigguratlaw22.FormatTurned', WHERE WHAT IT READS IS OF BULK AT MOST 1048576: true; the input reads as it did. -/
def formatTurnedUptoRow : OpenClaim := { program := "ytcikknajimdjoaagreatdoor", sum := "6252f9cf95a89720b7cb3f7ba1439ed447ff0c8ddd65541bb9fdf24883db7f02", func := "ziggurat/zigguratlaw22.FormatTurned", spec := "formatTurned", inPlace := ["math/bits.Add64"], unfollowed := true, recurses := true, named := ["ziggurat/ntt.fields", "math/bits.overflowError"], apart := false, laid := [("ziggurat/ntt.fields", laid_ziggurat_ntt_fields)], narrowed := true }
def FormatTurnedUptoSaid : Prop := formatTurnedUptoRow.holds Tryz.pinned (OpenSpec.upto formatTurnedSpec)

/-- 'zigguratlaw22.FormatBeside', WHERE WHAT IT READS IS OF BULK AT MOST 1048576: true; the input reads as it did. -/
def formatBesideUptoRow : OpenClaim := { program := "ytcikknajimdjoaagreatdoor", sum := "6252f9cf95a89720b7cb3f7ba1439ed447ff0c8ddd65541bb9fdf24883db7f02", func := "ziggurat/zigguratlaw22.FormatBeside", spec := "formatBeside", inPlace := ["math/bits.Add64"], unfollowed := true, recurses := true, named := ["ziggurat/ntt.fields", "math/bits.overflowError"], apart := false, laid := [("ziggurat/ntt.fields", laid_ziggurat_ntt_fields)], narrowed := true }
def FormatBesideUptoSaid : Prop := formatBesideUptoRow.holds Tryz.pinned (OpenSpec.upto formatBesideSpec)

/-- 'zigguratlaw22.FormatMore', WHERE WHAT IT READS IS OF BULK AT MOST 1048576: true; the input reads as it did. -/
def formatMoreUptoRow : OpenClaim := { program := "ytcikknajimdjoaagreatdoor", sum := "6252f9cf95a89720b7cb3f7ba1439ed447ff0c8ddd65541bb9fdf24883db7f02", func := "ziggurat/zigguratlaw22.FormatMore", spec := "formatMore", inPlace := ["math/bits.Add64"], unfollowed := true, recurses := true, named := ["ziggurat/ntt.fields", "math/bits.overflowError"], apart := false, laid := [("ziggurat/ntt.fields", laid_ziggurat_ntt_fields)], narrowed := true }
def FormatMoreUptoSaid : Prop := formatMoreUptoRow.holds Tryz.pinned (OpenSpec.upto formatMoreSpec)

end Rows
end Go.Proofs.YtcikknajimdjoaaGreatDoor
