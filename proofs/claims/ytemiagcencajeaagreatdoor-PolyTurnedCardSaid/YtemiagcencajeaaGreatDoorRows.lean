/-
  NARROWER THAN 'FOR EVERY INPUT', by the rows' own cells (each row's printed sentence says how): PolyMore: laid · TopBalls: laid · PolyContents: laid · PolyProducts: laid · PolyTells: laid · PolyRing: laid · PolyQuotients: laid · TopConvergents: laid · BoundRational: laid · PolyValues: laid · PolyTurned: laid.
  DERIVED. THE GIVEN ROWS OF THIS SEAT. 11 by the template 'for every input the law returns true; each argument reads behind the call as it read before'; 0 by the template 'total and deterministic' (their statements: YtemiagcencajeaaGreatDoorTotals.lean).
  GIVEN WITH THE SEED: the statements are not yours to turn. If you find one false, say at which input.
  Laid BY PROGRAM, IN A SANDBOX (cutbox-rows.mjs): the forced cells as the released guide's own fill.sh prints them over the translation 8dc1129f9a94b11e… (all of the seat's roots in one cut). By AI agents, Wed Nov 11 2026. No macro, syntax, notation, axiom, sorry.
-/
import Derived.Test.YtemiagcencajeaaGreatDoorChecked
import GoSem.Claim
import GoSem.ClaimJoined
import GoSem.ClaimMapViews
import Derived.JoinedTies
import Derived.KernelRfl
namespace Go.Proofs.YtemiagcencajeaaGreatDoor
/- THE CELL 'sum', in the pinned program and in every row, IS THE sha256 OF THE DUMP (.gsa) THAT YtemiagcencajeaaGreatDoorProg.lean LOADS. Nothing in Lean hashes anything: it is a label: what it is worth is what the hold of that sum in a sandbox is worth. -/
noncomputable def Tryz.pinned : Pinned := { name := "ytemiagcencajeaagreatdoor", sum := "8dc1129f9a94b11e9d5a519588bdb6457170f1d0d5cd48379cd8cf741bf630f2", checked := Tryz.checked }
namespace Rows
def none {H : Type} : Left H := { results := [], args := [] }

/- WHAT THE LISTED PACKAGE-LEVEL VARIABLES READ AS WHEN THE CALL BEGINS. Each datum BY PROGRAM (the guide's laid-datum.mjs) off the statement by which the dump's own 'gosem.cut.vars' lays the variable. In a bare row this is a premise. The card (YtemiagcencajeaaGreatDoorCards.lean) ties it to the program's text. -/
def laid_ziggurat_ntt_fields {H : Type} : DataW H := .agg [.agg [.lit (.int .u64 998244353)], .agg [.lit (.int .u64 469762049)], .agg [.lit (.int .u64 167772161)]]
def laid_math_bits_deBruijn32tab {H : Type} : DataW H := .agg [.lit (.int .u8 0), .lit (.int .u8 1), .lit (.int .u8 28), .lit (.int .u8 2), .lit (.int .u8 29), .lit (.int .u8 14), .lit (.int .u8 24), .lit (.int .u8 3), .lit (.int .u8 30), .lit (.int .u8 22), .lit (.int .u8 20), .lit (.int .u8 15), .lit (.int .u8 25), .lit (.int .u8 17), .lit (.int .u8 4), .lit (.int .u8 8), .lit (.int .u8 31), .lit (.int .u8 27), .lit (.int .u8 13), .lit (.int .u8 23), .lit (.int .u8 21), .lit (.int .u8 19), .lit (.int .u8 16), .lit (.int .u8 7), .lit (.int .u8 26), .lit (.int .u8 12), .lit (.int .u8 18), .lit (.int .u8 6), .lit (.int .u8 11), .lit (.int .u8 5), .lit (.int .u8 10), .lit (.int .u8 9)]
def laid_ziggurat_expr_arities {H : Type} : DataW H := .agg [.lit (.int .i64 0), .lit (.int .i64 1), .lit (.int .i64 1), .lit (.int .i64 2), .lit (.int .i64 3), .lit (.int .i64 3), .lit (.int .i64 3), .lit (.int .i64 3), .lit (.int .i64 2), .lit (.int .i64 2), .lit (.int .i64 1), .lit (.int .i64 2), .lit (.int .i64 1), .lit (.int .i64 3), .lit (.int .i64 5), .lit (.int .i64 2), .lit (.int .i64 2)]

/-- 'zigguratlaw12.PolyMore': WHATEVER THE INPUT: true; the input reads as it did. -/
def polyMoreSpec : ChangeSpec := { name := "polyMore", fn := fun _ => fun
  | [d1, d2, d3] => { results := [.lit (.bool true)], args := [d1, d2, d3] }
  | _ => none }
def polyMoreRow : OpenClaim := { program := "ytemiagcencajeaagreatdoor", sum := "8dc1129f9a94b11e9d5a519588bdb6457170f1d0d5cd48379cd8cf741bf630f2", func := "ziggurat/zigguratlaw12.PolyMore", spec := "polyMore", inPlace := ["math/bits.Add64"], unfollowed := true, recurses := true, named := ["ziggurat/ntt.fields", "math/bits.overflowError"], apart := false, laid := [("ziggurat/ntt.fields", laid_ziggurat_ntt_fields)] }
def PolyMoreSaid : Prop := polyMoreRow.holds Tryz.pinned (OpenSpec.ofChange polyMoreSpec)

/-- ITS FALSE NEIGHBOUR: 'it returns false'. Refute it at one input. -/
def polyMoreWrong : ChangeSpec := { name := "polyMore", fn := fun _ => fun
  | [d1, d2, d3] => { results := [.lit (.bool false)], args := [d1, d2, d3] }
  | _ => none }
def PolyMoreWrongFalsely : Prop := polyMoreRow.holds Tryz.pinned (OpenSpec.ofChange polyMoreWrong)

/-- 'ziggurattop.TopBalls': WHATEVER THE INPUT: true; the input reads as it did. -/
def topBallsSpec : ChangeSpec := { name := "topBalls", fn := fun _ => fun
  | [d1, d2, d3] => { results := [.lit (.bool true)], args := [d1, d2, d3] }
  | _ => none }
def topBallsRow : OpenClaim := { program := "ytemiagcencajeaagreatdoor", sum := "8dc1129f9a94b11e9d5a519588bdb6457170f1d0d5cd48379cd8cf741bf630f2", func := "ziggurat/ziggurattop.TopBalls", spec := "topBalls", inPlace := ["math/bits.Add64"], unfollowed := true, recurses := true, named := ["math/bits.overflowError", "math/bits.deBruijn32tab", "ziggurat/ntt.fields"], apart := false, laid := [("math/bits.deBruijn32tab", laid_math_bits_deBruijn32tab), ("ziggurat/ntt.fields", laid_ziggurat_ntt_fields)] }
def TopBallsSaid : Prop := topBallsRow.holds Tryz.pinned (OpenSpec.ofChange topBallsSpec)

/-- ITS FALSE NEIGHBOUR: 'it returns false'. Refute it at one input. -/
def topBallsWrong : ChangeSpec := { name := "topBalls", fn := fun _ => fun
  | [d1, d2, d3] => { results := [.lit (.bool false)], args := [d1, d2, d3] }
  | _ => none }
def TopBallsWrongFalsely : Prop := topBallsRow.holds Tryz.pinned (OpenSpec.ofChange topBallsWrong)

/-- 'zigguratlaw12.PolyContents': WHATEVER THE INPUT: true; the input reads as it did. -/
def polyContentsSpec : ChangeSpec := { name := "polyContents", fn := fun _ => fun
  | [d1, d2] => { results := [.lit (.bool true)], args := [d1, d2] }
  | _ => none }
def polyContentsRow : OpenClaim := { program := "ytemiagcencajeaagreatdoor", sum := "8dc1129f9a94b11e9d5a519588bdb6457170f1d0d5cd48379cd8cf741bf630f2", func := "ziggurat/zigguratlaw12.PolyContents", spec := "polyContents", inPlace := ["math/bits.Add64"], unfollowed := true, recurses := true, named := ["ziggurat/ntt.fields", "math/bits.overflowError"], apart := false, laid := [("ziggurat/ntt.fields", laid_ziggurat_ntt_fields)] }
def PolyContentsSaid : Prop := polyContentsRow.holds Tryz.pinned (OpenSpec.ofChange polyContentsSpec)

/-- ITS FALSE NEIGHBOUR: 'it returns false'. Refute it at one input. -/
def polyContentsWrong : ChangeSpec := { name := "polyContents", fn := fun _ => fun
  | [d1, d2] => { results := [.lit (.bool false)], args := [d1, d2] }
  | _ => none }
def PolyContentsWrongFalsely : Prop := polyContentsRow.holds Tryz.pinned (OpenSpec.ofChange polyContentsWrong)

/-- 'zigguratlaw12.PolyProducts': WHATEVER THE INPUT: true; the input reads as it did. -/
def polyProductsSpec : ChangeSpec := { name := "polyProducts", fn := fun _ => fun
  | [d1, d2, d3] => { results := [.lit (.bool true)], args := [d1, d2, d3] }
  | _ => none }
def polyProductsRow : OpenClaim := { program := "ytemiagcencajeaagreatdoor", sum := "8dc1129f9a94b11e9d5a519588bdb6457170f1d0d5cd48379cd8cf741bf630f2", func := "ziggurat/zigguratlaw12.PolyProducts", spec := "polyProducts", inPlace := ["math/bits.Add64"], unfollowed := true, recurses := true, named := ["ziggurat/ntt.fields", "math/bits.overflowError"], apart := false, laid := [("ziggurat/ntt.fields", laid_ziggurat_ntt_fields)] }
def PolyProductsSaid : Prop := polyProductsRow.holds Tryz.pinned (OpenSpec.ofChange polyProductsSpec)

/-- ITS FALSE NEIGHBOUR: 'it returns false'. Refute it at one input. -/
def polyProductsWrong : ChangeSpec := { name := "polyProducts", fn := fun _ => fun
  | [d1, d2, d3] => { results := [.lit (.bool false)], args := [d1, d2, d3] }
  | _ => none }
def PolyProductsWrongFalsely : Prop := polyProductsRow.holds Tryz.pinned (OpenSpec.ofChange polyProductsWrong)

/-- 'zigguratlaw12.PolyTells': WHATEVER THE INPUT: true; the input reads as it did. -/
def polyTellsSpec : ChangeSpec := { name := "polyTells", fn := fun _ => fun
  | [d1, d2] => { results := [.lit (.bool true)], args := [d1, d2] }
  | _ => none }
def polyTellsRow : OpenClaim := { program := "ytemiagcencajeaagreatdoor", sum := "8dc1129f9a94b11e9d5a519588bdb6457170f1d0d5cd48379cd8cf741bf630f2", func := "ziggurat/zigguratlaw12.PolyTells", spec := "polyTells", inPlace := ["math/bits.Add64"], unfollowed := true, recurses := true, named := ["ziggurat/ntt.fields", "math/bits.overflowError"], apart := false, laid := [("ziggurat/ntt.fields", laid_ziggurat_ntt_fields)] }
def PolyTellsSaid : Prop := polyTellsRow.holds Tryz.pinned (OpenSpec.ofChange polyTellsSpec)

/-- ITS FALSE NEIGHBOUR: 'it returns false'. Refute it at one input. -/
def polyTellsWrong : ChangeSpec := { name := "polyTells", fn := fun _ => fun
  | [d1, d2] => { results := [.lit (.bool false)], args := [d1, d2] }
  | _ => none }
def PolyTellsWrongFalsely : Prop := polyTellsRow.holds Tryz.pinned (OpenSpec.ofChange polyTellsWrong)

/-- 'zigguratlaw12.PolyRing': WHATEVER THE INPUT: true; the input reads as it did. -/
def polyRingSpec : ChangeSpec := { name := "polyRing", fn := fun _ => fun
  | [d] => { results := [.lit (.bool true)], args := [d] }
  | _ => none }
def polyRingRow : OpenClaim := { program := "ytemiagcencajeaagreatdoor", sum := "8dc1129f9a94b11e9d5a519588bdb6457170f1d0d5cd48379cd8cf741bf630f2", func := "ziggurat/zigguratlaw12.PolyRing", spec := "polyRing", inPlace := ["math/bits.Add64"], unfollowed := true, recurses := true, named := ["ziggurat/ntt.fields", "math/bits.overflowError"], apart := false, laid := [("ziggurat/ntt.fields", laid_ziggurat_ntt_fields)] }
def PolyRingSaid : Prop := polyRingRow.holds Tryz.pinned (OpenSpec.ofChange polyRingSpec)

/-- ITS FALSE NEIGHBOUR: 'it returns false'. Refute it at one input. -/
def polyRingWrong : ChangeSpec := { name := "polyRing", fn := fun _ => fun
  | [d] => { results := [.lit (.bool false)], args := [d] }
  | _ => none }
def PolyRingWrongFalsely : Prop := polyRingRow.holds Tryz.pinned (OpenSpec.ofChange polyRingWrong)

/-- 'zigguratlaw12.PolyQuotients': WHATEVER THE INPUT: true; the input reads as it did. -/
def polyQuotientsSpec : ChangeSpec := { name := "polyQuotients", fn := fun _ => fun
  | [d1, d2, d3] => { results := [.lit (.bool true)], args := [d1, d2, d3] }
  | _ => none }
def polyQuotientsRow : OpenClaim := { program := "ytemiagcencajeaagreatdoor", sum := "8dc1129f9a94b11e9d5a519588bdb6457170f1d0d5cd48379cd8cf741bf630f2", func := "ziggurat/zigguratlaw12.PolyQuotients", spec := "polyQuotients", inPlace := ["math/bits.Add64"], unfollowed := true, recurses := true, named := ["ziggurat/ntt.fields", "math/bits.overflowError"], apart := false, laid := [("ziggurat/ntt.fields", laid_ziggurat_ntt_fields)] }
def PolyQuotientsSaid : Prop := polyQuotientsRow.holds Tryz.pinned (OpenSpec.ofChange polyQuotientsSpec)

/-- ITS FALSE NEIGHBOUR: 'it returns false'. Refute it at one input. -/
def polyQuotientsWrong : ChangeSpec := { name := "polyQuotients", fn := fun _ => fun
  | [d1, d2, d3] => { results := [.lit (.bool false)], args := [d1, d2, d3] }
  | _ => none }
def PolyQuotientsWrongFalsely : Prop := polyQuotientsRow.holds Tryz.pinned (OpenSpec.ofChange polyQuotientsWrong)

/-- 'ziggurattop.TopConvergents': WHATEVER THE INPUT: true; the input reads as it did. -/
def topConvergentsSpec : ChangeSpec := { name := "topConvergents", fn := fun _ => fun
  | [d1, d2] => { results := [.lit (.bool true)], args := [d1, d2] }
  | _ => none }
def topConvergentsRow : OpenClaim := { program := "ytemiagcencajeaagreatdoor", sum := "8dc1129f9a94b11e9d5a519588bdb6457170f1d0d5cd48379cd8cf741bf630f2", func := "ziggurat/ziggurattop.TopConvergents", spec := "topConvergents", inPlace := ["math/bits.Add64"], unfollowed := true, recurses := true, named := ["math/bits.overflowError", "math/bits.deBruijn32tab", "ziggurat/ntt.fields"], apart := false, laid := [("math/bits.deBruijn32tab", laid_math_bits_deBruijn32tab), ("ziggurat/ntt.fields", laid_ziggurat_ntt_fields)] }
def TopConvergentsSaid : Prop := topConvergentsRow.holds Tryz.pinned (OpenSpec.ofChange topConvergentsSpec)

/-- ITS FALSE NEIGHBOUR: 'it returns false'. Refute it at one input. -/
def topConvergentsWrong : ChangeSpec := { name := "topConvergents", fn := fun _ => fun
  | [d1, d2] => { results := [.lit (.bool false)], args := [d1, d2] }
  | _ => none }
def TopConvergentsWrongFalsely : Prop := topConvergentsRow.holds Tryz.pinned (OpenSpec.ofChange topConvergentsWrong)

/-- 'zigguratlaw24.BoundRational': WHATEVER THE INPUT: true; the input reads as it did. -/
def boundRationalSpec : ChangeSpec := { name := "boundRational", fn := fun _ => fun
  | [d] => { results := [.lit (.bool true)], args := [d] }
  | _ => none }
def boundRationalRow : OpenClaim := { program := "ytemiagcencajeaagreatdoor", sum := "8dc1129f9a94b11e9d5a519588bdb6457170f1d0d5cd48379cd8cf741bf630f2", func := "ziggurat/zigguratlaw24.BoundRational", spec := "boundRational", inPlace := ["math/bits.Add64"], unfollowed := true, recurses := true, named := ["ziggurat/expr.arities", "ziggurat/ntt.fields", "math/bits.overflowError"], apart := false, laid := [("ziggurat/ntt.fields", laid_ziggurat_ntt_fields), ("ziggurat/expr.arities", laid_ziggurat_expr_arities)] }
def BoundRationalSaid : Prop := boundRationalRow.holds Tryz.pinned (OpenSpec.ofChange boundRationalSpec)

/-- ITS FALSE NEIGHBOUR: 'it returns false'. Refute it at one input. -/
def boundRationalWrong : ChangeSpec := { name := "boundRational", fn := fun _ => fun
  | [d] => { results := [.lit (.bool false)], args := [d] }
  | _ => none }
def BoundRationalWrongFalsely : Prop := boundRationalRow.holds Tryz.pinned (OpenSpec.ofChange boundRationalWrong)

/-- 'zigguratlaw12.PolyValues': WHATEVER THE INPUT: true; the input reads as it did. -/
def polyValuesSpec : ChangeSpec := { name := "polyValues", fn := fun _ => fun
  | [d1, d2, d3] => { results := [.lit (.bool true)], args := [d1, d2, d3] }
  | _ => none }
def polyValuesRow : OpenClaim := { program := "ytemiagcencajeaagreatdoor", sum := "8dc1129f9a94b11e9d5a519588bdb6457170f1d0d5cd48379cd8cf741bf630f2", func := "ziggurat/zigguratlaw12.PolyValues", spec := "polyValues", inPlace := ["math/bits.Add64"], unfollowed := true, recurses := true, named := ["ziggurat/ntt.fields", "math/bits.overflowError"], apart := false, laid := [("ziggurat/ntt.fields", laid_ziggurat_ntt_fields)] }
def PolyValuesSaid : Prop := polyValuesRow.holds Tryz.pinned (OpenSpec.ofChange polyValuesSpec)

/-- ITS FALSE NEIGHBOUR: 'it returns false'. Refute it at one input. -/
def polyValuesWrong : ChangeSpec := { name := "polyValues", fn := fun _ => fun
  | [d1, d2, d3] => { results := [.lit (.bool false)], args := [d1, d2, d3] }
  | _ => none }
def PolyValuesWrongFalsely : Prop := polyValuesRow.holds Tryz.pinned (OpenSpec.ofChange polyValuesWrong)

/-- 'zigguratlaw12.PolyTurned': WHATEVER THE INPUT: true; the input reads as it did. -/
def polyTurnedSpec : ChangeSpec := { name := "polyTurned", fn := fun _ => fun
  | [d1, d2, d3] => { results := [.lit (.bool true)], args := [d1, d2, d3] }
  | _ => none }
def polyTurnedRow : OpenClaim := { program := "ytemiagcencajeaagreatdoor", sum := "8dc1129f9a94b11e9d5a519588bdb6457170f1d0d5cd48379cd8cf741bf630f2", func := "ziggurat/zigguratlaw12.PolyTurned", spec := "polyTurned", inPlace := ["math/bits.Add64"], unfollowed := true, recurses := true, named := ["ziggurat/ntt.fields", "math/bits.overflowError"], apart := false, laid := [("ziggurat/ntt.fields", laid_ziggurat_ntt_fields)] }
def PolyTurnedSaid : Prop := polyTurnedRow.holds Tryz.pinned (OpenSpec.ofChange polyTurnedSpec)

/-- ITS FALSE NEIGHBOUR: 'it returns false'. Refute it at one input. -/
def polyTurnedWrong : ChangeSpec := { name := "polyTurned", fn := fun _ => fun
  | [d1, d2, d3] => { results := [.lit (.bool false)], args := [d1, d2, d3] }
  | _ => none }
def PolyTurnedWrongFalsely : Prop := polyTurnedRow.holds Tryz.pinned (OpenSpec.ofChange polyTurnedWrong)

/- THE SECOND FORM. 'bulk': how many values and letters a reading holds, each counted each time it is reached (what is shared counts as often as it is met; a slice's spare places count too). A statement '..UptoSaid' is the law's where the arguments, and the package variables that the reading takes, are together of bulk at most 1048576: NARROWER than '..Said'. Prove '..Said' where nothing that the law and all that it calls make is longer than what came in: it says more and counts as full. Else prove '..UptoSaid'. A law counts once. -/
mutual
def uptoBulk {H : Type} : DataW H → Nat
  | .lit (.string bytes) => bytes.length + 1
  | .lit _ => 1
  | .nil => 1
  | .ptr d => uptoBulk d + 1
  | .slice elems spare => uptoBulkAll elems + uptoBulkAll spare + 1
  | .agg parts => uptoBulkAll parts + 1
  | .iface _ d => uptoBulk d + 1
  | .map entries => uptoBulkEntries entries + 1
  | .held _ => 1
def uptoBulkAll {H : Type} : List (DataW H) → Nat
  | [] => 0
  | d :: r => uptoBulk d + uptoBulkAll r
def uptoBulkEntries {H : Type} : List (Lit × DataW H) → Nat
  | [] => 0
  | x :: r => uptoBulkEntry x + uptoBulkEntries r
def uptoBulkEntry {H : Type} : Lit × DataW H → Nat
  | (.string bytes, d) => bytes.length + uptoBulk d + 1
  | (_, d) => uptoBulk d + 1
 end
def uptoSmall : (H : Type) → List (DataW H) → Bool := fun _ ds => decide (uptoBulkAll ds ≤ 1048576)
def OpenSpec.upto (s : _root_.Go.ChangeSpec) : _root_.Go.OpenSpec := { _root_.Go.OpenSpec.ofChange s with cond := some uptoSmall }

/-- 'zigguratlaw12.PolyMore', WHERE WHAT IT READS IS OF BULK AT MOST 1048576: true; the input reads as it did. -/
def polyMoreUptoRow : OpenClaim := { program := "ytemiagcencajeaagreatdoor", sum := "8dc1129f9a94b11e9d5a519588bdb6457170f1d0d5cd48379cd8cf741bf630f2", func := "ziggurat/zigguratlaw12.PolyMore", spec := "polyMore", inPlace := ["math/bits.Add64"], unfollowed := true, recurses := true, named := ["ziggurat/ntt.fields", "math/bits.overflowError"], apart := false, laid := [("ziggurat/ntt.fields", laid_ziggurat_ntt_fields)], narrowed := true }
def PolyMoreUptoSaid : Prop := polyMoreUptoRow.holds Tryz.pinned (OpenSpec.upto polyMoreSpec)

/-- 'ziggurattop.TopBalls', WHERE WHAT IT READS IS OF BULK AT MOST 1048576: true; the input reads as it did. -/
def topBallsUptoRow : OpenClaim := { program := "ytemiagcencajeaagreatdoor", sum := "8dc1129f9a94b11e9d5a519588bdb6457170f1d0d5cd48379cd8cf741bf630f2", func := "ziggurat/ziggurattop.TopBalls", spec := "topBalls", inPlace := ["math/bits.Add64"], unfollowed := true, recurses := true, named := ["math/bits.overflowError", "math/bits.deBruijn32tab", "ziggurat/ntt.fields"], apart := false, laid := [("math/bits.deBruijn32tab", laid_math_bits_deBruijn32tab), ("ziggurat/ntt.fields", laid_ziggurat_ntt_fields)], narrowed := true }
def TopBallsUptoSaid : Prop := topBallsUptoRow.holds Tryz.pinned (OpenSpec.upto topBallsSpec)

/-- 'zigguratlaw12.PolyContents', WHERE WHAT IT READS IS OF BULK AT MOST 1048576: true; the input reads as it did. -/
def polyContentsUptoRow : OpenClaim := { program := "ytemiagcencajeaagreatdoor", sum := "8dc1129f9a94b11e9d5a519588bdb6457170f1d0d5cd48379cd8cf741bf630f2", func := "ziggurat/zigguratlaw12.PolyContents", spec := "polyContents", inPlace := ["math/bits.Add64"], unfollowed := true, recurses := true, named := ["ziggurat/ntt.fields", "math/bits.overflowError"], apart := false, laid := [("ziggurat/ntt.fields", laid_ziggurat_ntt_fields)], narrowed := true }
def PolyContentsUptoSaid : Prop := polyContentsUptoRow.holds Tryz.pinned (OpenSpec.upto polyContentsSpec)

/-- 'zigguratlaw12.PolyProducts', WHERE WHAT IT READS IS OF BULK AT MOST 1048576: true; the input reads as it did. -/
def polyProductsUptoRow : OpenClaim := { program := "ytemiagcencajeaagreatdoor", sum := "8dc1129f9a94b11e9d5a519588bdb6457170f1d0d5cd48379cd8cf741bf630f2", func := "ziggurat/zigguratlaw12.PolyProducts", spec := "polyProducts", inPlace := ["math/bits.Add64"], unfollowed := true, recurses := true, named := ["ziggurat/ntt.fields", "math/bits.overflowError"], apart := false, laid := [("ziggurat/ntt.fields", laid_ziggurat_ntt_fields)], narrowed := true }
def PolyProductsUptoSaid : Prop := polyProductsUptoRow.holds Tryz.pinned (OpenSpec.upto polyProductsSpec)

/-- 'zigguratlaw12.PolyTells', WHERE WHAT IT READS IS OF BULK AT MOST 1048576: true; the input reads as it did. -/
def polyTellsUptoRow : OpenClaim := { program := "ytemiagcencajeaagreatdoor", sum := "8dc1129f9a94b11e9d5a519588bdb6457170f1d0d5cd48379cd8cf741bf630f2", func := "ziggurat/zigguratlaw12.PolyTells", spec := "polyTells", inPlace := ["math/bits.Add64"], unfollowed := true, recurses := true, named := ["ziggurat/ntt.fields", "math/bits.overflowError"], apart := false, laid := [("ziggurat/ntt.fields", laid_ziggurat_ntt_fields)], narrowed := true }
def PolyTellsUptoSaid : Prop := polyTellsUptoRow.holds Tryz.pinned (OpenSpec.upto polyTellsSpec)

/-- 'zigguratlaw12.PolyRing', WHERE WHAT IT READS IS OF BULK AT MOST 1048576: true; the input reads as it did. -/
def polyRingUptoRow : OpenClaim := { program := "ytemiagcencajeaagreatdoor", sum := "8dc1129f9a94b11e9d5a519588bdb6457170f1d0d5cd48379cd8cf741bf630f2", func := "ziggurat/zigguratlaw12.PolyRing", spec := "polyRing", inPlace := ["math/bits.Add64"], unfollowed := true, recurses := true, named := ["ziggurat/ntt.fields", "math/bits.overflowError"], apart := false, laid := [("ziggurat/ntt.fields", laid_ziggurat_ntt_fields)], narrowed := true }
def PolyRingUptoSaid : Prop := polyRingUptoRow.holds Tryz.pinned (OpenSpec.upto polyRingSpec)

/-- 'zigguratlaw12.PolyQuotients', WHERE WHAT IT READS IS OF BULK AT MOST 1048576: true; the input reads as it did. -/
def polyQuotientsUptoRow : OpenClaim := { program := "ytemiagcencajeaagreatdoor", sum := "8dc1129f9a94b11e9d5a519588bdb6457170f1d0d5cd48379cd8cf741bf630f2", func := "ziggurat/zigguratlaw12.PolyQuotients", spec := "polyQuotients", inPlace := ["math/bits.Add64"], unfollowed := true, recurses := true, named := ["ziggurat/ntt.fields", "math/bits.overflowError"], apart := false, laid := [("ziggurat/ntt.fields", laid_ziggurat_ntt_fields)], narrowed := true }
def PolyQuotientsUptoSaid : Prop := polyQuotientsUptoRow.holds Tryz.pinned (OpenSpec.upto polyQuotientsSpec)

/-- 'ziggurattop.TopConvergents', WHERE WHAT IT READS IS OF BULK AT MOST 1048576: true; the input reads as it did. -/
def topConvergentsUptoRow : OpenClaim := { program := "ytemiagcencajeaagreatdoor", sum := "8dc1129f9a94b11e9d5a519588bdb6457170f1d0d5cd48379cd8cf741bf630f2", func := "ziggurat/ziggurattop.TopConvergents", spec := "topConvergents", inPlace := ["math/bits.Add64"], unfollowed := true, recurses := true, named := ["math/bits.overflowError", "math/bits.deBruijn32tab", "ziggurat/ntt.fields"], apart := false, laid := [("math/bits.deBruijn32tab", laid_math_bits_deBruijn32tab), ("ziggurat/ntt.fields", laid_ziggurat_ntt_fields)], narrowed := true }
def TopConvergentsUptoSaid : Prop := topConvergentsUptoRow.holds Tryz.pinned (OpenSpec.upto topConvergentsSpec)

/-- 'zigguratlaw24.BoundRational', WHERE WHAT IT READS IS OF BULK AT MOST 1048576: true; the input reads as it did. -/
def boundRationalUptoRow : OpenClaim := { program := "ytemiagcencajeaagreatdoor", sum := "8dc1129f9a94b11e9d5a519588bdb6457170f1d0d5cd48379cd8cf741bf630f2", func := "ziggurat/zigguratlaw24.BoundRational", spec := "boundRational", inPlace := ["math/bits.Add64"], unfollowed := true, recurses := true, named := ["ziggurat/expr.arities", "ziggurat/ntt.fields", "math/bits.overflowError"], apart := false, laid := [("ziggurat/ntt.fields", laid_ziggurat_ntt_fields), ("ziggurat/expr.arities", laid_ziggurat_expr_arities)], narrowed := true }
def BoundRationalUptoSaid : Prop := boundRationalUptoRow.holds Tryz.pinned (OpenSpec.upto boundRationalSpec)

/-- 'zigguratlaw12.PolyValues', WHERE WHAT IT READS IS OF BULK AT MOST 1048576: true; the input reads as it did. -/
def polyValuesUptoRow : OpenClaim := { program := "ytemiagcencajeaagreatdoor", sum := "8dc1129f9a94b11e9d5a519588bdb6457170f1d0d5cd48379cd8cf741bf630f2", func := "ziggurat/zigguratlaw12.PolyValues", spec := "polyValues", inPlace := ["math/bits.Add64"], unfollowed := true, recurses := true, named := ["ziggurat/ntt.fields", "math/bits.overflowError"], apart := false, laid := [("ziggurat/ntt.fields", laid_ziggurat_ntt_fields)], narrowed := true }
def PolyValuesUptoSaid : Prop := polyValuesUptoRow.holds Tryz.pinned (OpenSpec.upto polyValuesSpec)

/-- 'zigguratlaw12.PolyTurned', WHERE WHAT IT READS IS OF BULK AT MOST 1048576: true; the input reads as it did. -/
def polyTurnedUptoRow : OpenClaim := { program := "ytemiagcencajeaagreatdoor", sum := "8dc1129f9a94b11e9d5a519588bdb6457170f1d0d5cd48379cd8cf741bf630f2", func := "ziggurat/zigguratlaw12.PolyTurned", spec := "polyTurned", inPlace := ["math/bits.Add64"], unfollowed := true, recurses := true, named := ["ziggurat/ntt.fields", "math/bits.overflowError"], apart := false, laid := [("ziggurat/ntt.fields", laid_ziggurat_ntt_fields)], narrowed := true }
def PolyTurnedUptoSaid : Prop := polyTurnedUptoRow.holds Tryz.pinned (OpenSpec.upto polyTurnedSpec)

end Rows
end Go.Proofs.YtemiagcencajeaaGreatDoor
