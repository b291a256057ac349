/-
  NARROWER THAN 'FOR EVERY INPUT', by the rows' own cells (each row's printed sentence says how): BoundTells: laid · BoundLevels: laid · BoundSame: laid · BoundGrows: laid · BoundIf: laid · BoundNear: laid.
  DERIVED. THE GIVEN ROWS OF THIS SEAT. 6 by the template 'for every input the law returns true; each argument reads behind the call as it read before'; 0 by the template 'total and deterministic' (their statements: YtakpneafokmcpaaDoorTotals.lean).
  GIVEN WITH THE SEED: the statements are not yours to turn. If you find one false, say at which input.
  Laid BY PROGRAM, IN A SANDBOX (cutbox-rows.mjs): the forced cells as the released guide's own fill.sh prints them over the translation 024d6d3a4b4d1719… (all of the seat's roots in one cut). By AI agents, Wed Nov 11 2026. No macro, syntax, notation, axiom, sorry.
-/
import Derived.Test.YtakpneafokmcpaaDoorChecked
import GoSem.Claim
import GoSem.ClaimJoined
import GoSem.ClaimMapViews
import Derived.JoinedTies
import Derived.KernelRfl
namespace Go.Proofs.YtakpneafokmcpaaDoor
/- THE CELL 'sum', in the pinned program and in every row, IS THE sha256 OF THE DUMP (.gsa) THAT YtakpneafokmcpaaDoorProg.lean LOADS. Nothing in Lean hashes anything: it is a label: what it is worth is what the hold of that sum in a sandbox is worth. -/
noncomputable def Tryd.pinned : Pinned := { name := "ytakpneafokmcpaadoor", sum := "024d6d3a4b4d1719c9d882d16ef7e7f20d96c44eb810b245dbae29582e3c7353", checked := Tryd.checked }
namespace Rows
def none {H : Type} : Left H := { results := [], args := [] }

/- WHAT THE LISTED PACKAGE-LEVEL VARIABLES READ AS WHEN THE CALL BEGINS. Each datum BY PROGRAM (the guide's laid-datum.mjs) off the statement by which the dump's own 'gosem.cut.vars' lays the variable. In a bare row this is a premise. The card (YtakpneafokmcpaaDoorCards.lean) ties it to the program's text. -/
def laid_ziggurat_expr_arities {H : Type} : DataW H := .agg [.lit (.int .i64 0), .lit (.int .i64 1), .lit (.int .i64 1), .lit (.int .i64 2), .lit (.int .i64 3), .lit (.int .i64 3), .lit (.int .i64 3), .lit (.int .i64 3), .lit (.int .i64 2), .lit (.int .i64 2), .lit (.int .i64 1), .lit (.int .i64 2), .lit (.int .i64 1), .lit (.int .i64 3), .lit (.int .i64 5), .lit (.int .i64 2), .lit (.int .i64 2)]

/-- 'zigguratlaw24.BoundTells': WHATEVER THE INPUT: true; the input reads as it did. -/
def boundTellsSpec : ChangeSpec := { name := "boundTells", fn := fun _ => fun
  | [d] => { results := [.lit (.bool true)], args := [d] }
  | _ => none }
def boundTellsRow : OpenClaim := { program := "ytakpneafokmcpaadoor", sum := "024d6d3a4b4d1719c9d882d16ef7e7f20d96c44eb810b245dbae29582e3c7353", func := "ziggurat/zigguratlaw24.BoundTells", spec := "boundTells", unfollowed := true, recurses := true, named := ["ziggurat/expr.arities"], apart := false, laid := [("ziggurat/expr.arities", laid_ziggurat_expr_arities)] }
def BoundTellsSaid : Prop := boundTellsRow.holds Tryd.pinned (OpenSpec.ofChange boundTellsSpec)

/-- ITS FALSE NEIGHBOUR: 'it returns false'. Refute it at one input. -/
def boundTellsWrong : ChangeSpec := { name := "boundTells", fn := fun _ => fun
  | [d] => { results := [.lit (.bool false)], args := [d] }
  | _ => none }
def BoundTellsWrongFalsely : Prop := boundTellsRow.holds Tryd.pinned (OpenSpec.ofChange boundTellsWrong)

/-- 'zigguratlaw24.BoundLevels': WHATEVER THE INPUT: true; the input reads as it did. -/
def boundLevelsSpec : ChangeSpec := { name := "boundLevels", fn := fun _ => fun
  | [d] => { results := [.lit (.bool true)], args := [d] }
  | _ => none }
def boundLevelsRow : OpenClaim := { program := "ytakpneafokmcpaadoor", sum := "024d6d3a4b4d1719c9d882d16ef7e7f20d96c44eb810b245dbae29582e3c7353", func := "ziggurat/zigguratlaw24.BoundLevels", spec := "boundLevels", unfollowed := true, recurses := true, named := ["ziggurat/expr.arities"], apart := false, laid := [("ziggurat/expr.arities", laid_ziggurat_expr_arities)] }
def BoundLevelsSaid : Prop := boundLevelsRow.holds Tryd.pinned (OpenSpec.ofChange boundLevelsSpec)

/-- ITS FALSE NEIGHBOUR: 'it returns false'. Refute it at one input. -/
def boundLevelsWrong : ChangeSpec := { name := "boundLevels", fn := fun _ => fun
  | [d] => { results := [.lit (.bool false)], args := [d] }
  | _ => none }
def BoundLevelsWrongFalsely : Prop := boundLevelsRow.holds Tryd.pinned (OpenSpec.ofChange boundLevelsWrong)

/-- 'zigguratlaw24.BoundSame': WHATEVER THE INPUT: true; the input reads as it did. -/
def boundSameSpec : ChangeSpec := { name := "boundSame", fn := fun _ => fun
  | [d1, d2, d3] => { results := [.lit (.bool true)], args := [d1, d2, d3] }
  | _ => none }
def boundSameRow : OpenClaim := { program := "ytakpneafokmcpaadoor", sum := "024d6d3a4b4d1719c9d882d16ef7e7f20d96c44eb810b245dbae29582e3c7353", func := "ziggurat/zigguratlaw24.BoundSame", spec := "boundSame", unfollowed := true, recurses := true, named := ["ziggurat/expr.arities"], apart := false, laid := [("ziggurat/expr.arities", laid_ziggurat_expr_arities)] }
def BoundSameSaid : Prop := boundSameRow.holds Tryd.pinned (OpenSpec.ofChange boundSameSpec)

/-- ITS FALSE NEIGHBOUR: 'it returns false'. Refute it at one input. -/
def boundSameWrong : ChangeSpec := { name := "boundSame", fn := fun _ => fun
  | [d1, d2, d3] => { results := [.lit (.bool false)], args := [d1, d2, d3] }
  | _ => none }
def BoundSameWrongFalsely : Prop := boundSameRow.holds Tryd.pinned (OpenSpec.ofChange boundSameWrong)

/-- 'zigguratlaw24.BoundGrows': WHATEVER THE INPUT: true; the input reads as it did. -/
def boundGrowsSpec : ChangeSpec := { name := "boundGrows", fn := fun _ => fun
  | [d1, d2, d3] => { results := [.lit (.bool true)], args := [d1, d2, d3] }
  | _ => none }
def boundGrowsRow : OpenClaim := { program := "ytakpneafokmcpaadoor", sum := "024d6d3a4b4d1719c9d882d16ef7e7f20d96c44eb810b245dbae29582e3c7353", func := "ziggurat/zigguratlaw24.BoundGrows", spec := "boundGrows", unfollowed := true, recurses := true, named := ["ziggurat/expr.arities"], apart := false, laid := [("ziggurat/expr.arities", laid_ziggurat_expr_arities)] }
def BoundGrowsSaid : Prop := boundGrowsRow.holds Tryd.pinned (OpenSpec.ofChange boundGrowsSpec)

/-- ITS FALSE NEIGHBOUR: 'it returns false'. Refute it at one input. -/
def boundGrowsWrong : ChangeSpec := { name := "boundGrows", fn := fun _ => fun
  | [d1, d2, d3] => { results := [.lit (.bool false)], args := [d1, d2, d3] }
  | _ => none }
def BoundGrowsWrongFalsely : Prop := boundGrowsRow.holds Tryd.pinned (OpenSpec.ofChange boundGrowsWrong)

/-- 'zigguratlaw24.BoundIf': WHATEVER THE INPUT: true; the input reads as it did. -/
def boundIfSpec : ChangeSpec := { name := "boundIf", fn := fun _ => fun
  | [d1, d2, d3] => { results := [.lit (.bool true)], args := [d1, d2, d3] }
  | _ => none }
def boundIfRow : OpenClaim := { program := "ytakpneafokmcpaadoor", sum := "024d6d3a4b4d1719c9d882d16ef7e7f20d96c44eb810b245dbae29582e3c7353", func := "ziggurat/zigguratlaw24.BoundIf", spec := "boundIf", unfollowed := true, recurses := true, named := ["ziggurat/expr.arities"], apart := false, laid := [("ziggurat/expr.arities", laid_ziggurat_expr_arities)] }
def BoundIfSaid : Prop := boundIfRow.holds Tryd.pinned (OpenSpec.ofChange boundIfSpec)

/-- ITS FALSE NEIGHBOUR: 'it returns false'. Refute it at one input. -/
def boundIfWrong : ChangeSpec := { name := "boundIf", fn := fun _ => fun
  | [d1, d2, d3] => { results := [.lit (.bool false)], args := [d1, d2, d3] }
  | _ => none }
def BoundIfWrongFalsely : Prop := boundIfRow.holds Tryd.pinned (OpenSpec.ofChange boundIfWrong)

/-- 'zigguratlaw24.BoundNear': WHATEVER THE INPUT: true; the input reads as it did. -/
def boundNearSpec : ChangeSpec := { name := "boundNear", fn := fun _ => fun
  | [d1, d2] => { results := [.lit (.bool true)], args := [d1, d2] }
  | _ => none }
def boundNearRow : OpenClaim := { program := "ytakpneafokmcpaadoor", sum := "024d6d3a4b4d1719c9d882d16ef7e7f20d96c44eb810b245dbae29582e3c7353", func := "ziggurat/zigguratlaw24.BoundNear", spec := "boundNear", unfollowed := true, recurses := true, named := ["ziggurat/expr.arities"], apart := false, laid := [("ziggurat/expr.arities", laid_ziggurat_expr_arities)] }
def BoundNearSaid : Prop := boundNearRow.holds Tryd.pinned (OpenSpec.ofChange boundNearSpec)

/-- ITS FALSE NEIGHBOUR: 'it returns false'. Refute it at one input. -/
def boundNearWrong : ChangeSpec := { name := "boundNear", fn := fun _ => fun
  | [d1, d2] => { results := [.lit (.bool false)], args := [d1, d2] }
  | _ => none }
def BoundNearWrongFalsely : Prop := boundNearRow.holds Tryd.pinned (OpenSpec.ofChange boundNearWrong)

/- THE SECOND FORM. 'bulk': how many values and letters a reading holds, each counted each time it is reached (what is shared counts as often as it is met; a slice's spare places count too). A statement '..UptoSaid' is the law's where the arguments, and the package variables that the reading takes, are together of bulk at most 1048576: NARROWER than '..Said'. Prove '..Said' where nothing that the law and all that it calls make is longer than what came in: it says more and counts as full. Else prove '..UptoSaid'. A law counts once. -/
mutual
def uptoBulk {H : Type} : DataW H → Nat
  | .lit (.string bytes) => bytes.length + 1
  | .lit _ => 1
  | .nil => 1
  | .ptr d => uptoBulk d + 1
  | .slice elems spare => uptoBulkAll elems + uptoBulkAll spare + 1
  | .agg parts => uptoBulkAll parts + 1
  | .iface _ d => uptoBulk d + 1
  | .map entries => uptoBulkEntries entries + 1
  | .held _ => 1
def uptoBulkAll {H : Type} : List (DataW H) → Nat
  | [] => 0
  | d :: r => uptoBulk d + uptoBulkAll r
def uptoBulkEntries {H : Type} : List (Lit × DataW H) → Nat
  | [] => 0
  | x :: r => uptoBulkEntry x + uptoBulkEntries r
def uptoBulkEntry {H : Type} : Lit × DataW H → Nat
  | (.string bytes, d) => bytes.length + uptoBulk d + 1
  | (_, d) => uptoBulk d + 1
 end
def uptoSmall : (H : Type) → List (DataW H) → Bool := fun _ ds => decide (uptoBulkAll ds ≤ 1048576)
def OpenSpec.upto (s : _root_.Go.ChangeSpec) : _root_.Go.OpenSpec := { _root_.Go.OpenSpec.ofChange s with cond := some uptoSmall }

/-- 'zigguratlaw24.BoundTells', WHERE WHAT IT READS IS OF BULK AT MOST 1048576: true; the input reads as it did. -/
def boundTellsUptoRow : OpenClaim := { program := "ytakpneafokmcpaadoor", sum := "024d6d3a4b4d1719c9d882d16ef7e7f20d96c44eb810b245dbae29582e3c7353", func := "ziggurat/zigguratlaw24.BoundTells", spec := "boundTells", unfollowed := true, recurses := true, named := ["ziggurat/expr.arities"], apart := false, laid := [("ziggurat/expr.arities", laid_ziggurat_expr_arities)], narrowed := true }
def BoundTellsUptoSaid : Prop := boundTellsUptoRow.holds Tryd.pinned (OpenSpec.upto boundTellsSpec)

/-- 'zigguratlaw24.BoundLevels', WHERE WHAT IT READS IS OF BULK AT MOST 1048576: true; the input reads as it did. -/
def boundLevelsUptoRow : OpenClaim := { program := "ytakpneafokmcpaadoor", sum := "024d6d3a4b4d1719c9d882d16ef7e7f20d96c44eb810b245dbae29582e3c7353", func := "ziggurat/zigguratlaw24.BoundLevels", spec := "boundLevels", unfollowed := true, recurses := true, named := ["ziggurat/expr.arities"], apart := false, laid := [("ziggurat/expr.arities", laid_ziggurat_expr_arities)], narrowed := true }
def BoundLevelsUptoSaid : Prop := boundLevelsUptoRow.holds Tryd.pinned (OpenSpec.upto boundLevelsSpec)

/-- 'zigguratlaw24.BoundSame', WHERE WHAT IT READS IS OF BULK AT MOST 1048576: true; the input reads as it did. -/
def boundSameUptoRow : OpenClaim := { program := "ytakpneafokmcpaadoor", sum := "024d6d3a4b4d1719c9d882d16ef7e7f20d96c44eb810b245dbae29582e3c7353", func := "ziggurat/zigguratlaw24.BoundSame", spec := "boundSame", unfollowed := true, recurses := true, named := ["ziggurat/expr.arities"], apart := false, laid := [("ziggurat/expr.arities", laid_ziggurat_expr_arities)], narrowed := true }
def BoundSameUptoSaid : Prop := boundSameUptoRow.holds Tryd.pinned (OpenSpec.upto boundSameSpec)

/-- 'zigguratlaw24.BoundGrows', WHERE WHAT IT READS IS OF BULK AT MOST 1048576: true; the input reads as it did. -/
def boundGrowsUptoRow : OpenClaim := { program := "ytakpneafokmcpaadoor", sum := "024d6d3a4b4d1719c9d882d16ef7e7f20d96c44eb810b245dbae29582e3c7353", func := "ziggurat/zigguratlaw24.BoundGrows", spec := "boundGrows", unfollowed := true, recurses := true, named := ["ziggurat/expr.arities"], apart := false, laid := [("ziggurat/expr.arities", laid_ziggurat_expr_arities)], narrowed := true }
def BoundGrowsUptoSaid : Prop := boundGrowsUptoRow.holds Tryd.pinned (OpenSpec.upto boundGrowsSpec)

/-- 'zigguratlaw24.BoundIf', WHERE WHAT IT READS IS OF BULK AT MOST 1048576: true; the input reads as it did. -/
def boundIfUptoRow : OpenClaim := { program := "ytakpneafokmcpaadoor", sum := "024d6d3a4b4d1719c9d882d16ef7e7f20d96c44eb810b245dbae29582e3c7353", func := "ziggurat/zigguratlaw24.BoundIf", spec := "boundIf", unfollowed := true, recurses := true, named := ["ziggurat/expr.arities"], apart := false, laid := [("ziggurat/expr.arities", laid_ziggurat_expr_arities)], narrowed := true }
def BoundIfUptoSaid : Prop := boundIfUptoRow.holds Tryd.pinned (OpenSpec.upto boundIfSpec)

/-- 'zigguratlaw24.BoundNear', WHERE WHAT IT READS IS OF BULK AT MOST 1048576: true; the input reads as it did. -/
def boundNearUptoRow : OpenClaim := { program := "ytakpneafokmcpaadoor", sum := "024d6d3a4b4d1719c9d882d16ef7e7f20d96c44eb810b245dbae29582e3c7353", func := "ziggurat/zigguratlaw24.BoundNear", spec := "boundNear", unfollowed := true, recurses := true, named := ["ziggurat/expr.arities"], apart := false, laid := [("ziggurat/expr.arities", laid_ziggurat_expr_arities)], narrowed := true }
def BoundNearUptoSaid : Prop := boundNearUptoRow.holds Tryd.pinned (OpenSpec.upto boundNearSpec)

end Rows
end Go.Proofs.YtakpneafokmcpaaDoor
