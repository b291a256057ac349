/- What the listed variable's datum gives the walks. -/
import Derived.Test.YtakpneafokmcpaaDoorBdX
import Derived.Test.YtakpneafokmcpaaDoorGlob
import Derived.Test.YtakpneafokmcpaaDoorRows
import Derived.Test.YtakpneafokmcpaaDoorTie
set_option maxRecDepth 100000
set_option linter.unusedSimpArgs false
set_option linter.unusedVariables false
set_option linter.unusedSectionVars false
namespace Go.Proofs.YtakpneafokmcpaaDoor
open Go Go.Eng Go.RowKit

def laidL : List (String × DataW Unit) := [("ziggurat/expr.arities", Rows.laid_ziggurat_expr_arities)]
theorem gF : Tryd.prog.globalNamed "ziggurat/expr.arities" = some 0 := by kernel_rfl
theorem own : ownKnob Tryd.prog.godebug = none := by kernel_rfl
theorem lay : laidOutB Tryd.prog = true := by kernel_rfl
theorem glob (W : World) (_args : Array Value) (h : laidMetH Tryd.prog laidL W) : ∀ g u, G g = some u → Rep W (fun _ => True) (fun _ => none) (.vptr u) (.pointer (some ⟨g, 0, none⟩)) := by
  intro g u hg
  rw [MakeChecks.laidMetH_plain _ _ _ (by kernel_rfl)] at h
  unfold G at hg
  split at hg <;> try (cases hg; done)
  rename_i e; subst e; cases hg
  obtain ⟨zs, h1, h2⟩ := laid_rep h (m := 5) (List.mem_singleton.2 rfl) gF (t := 108) (s := .ag (List.replicate 17 (.int .i64))) (by kernel_rfl) (by kernel_rfl)
  obtain rfl := h1.cells_eq (zs := arL.map fun n => .int .i64 n) rfl
  exact h2 _ rfl

theorem door_met (os : Os) (args : Array Value) : laidMetH Tryd.prog laidL ((World.doorLaid Tryd.prog 14 os).forCall (fun _ _ => 0) ⟨#[], args, []⟩).memory :=
  laidMetH_of_parts3 (fuel := 8) (laidMet_of_run' 8 (by kernel_rfl) (by kernel_rfl)) (by kernel_rfl) (by kernel_rfl)
theorem hold_heap (w w' : World) (_args : Array Value) (hh : w.heap = w'.heap) (h : laidMetH Tryd.prog laidL w) : laidMetH Tryd.prog laidL w' := h.of_heap hh
end Go.Proofs.YtakpneafokmcpaaDoor
