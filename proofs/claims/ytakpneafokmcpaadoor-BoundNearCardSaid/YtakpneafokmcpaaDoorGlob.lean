/- What the laid variables hold, as values. -/
import Derived.Test.YtakpneafokmcpaaDoorBaA
set_option linter.unusedSimpArgs false
set_option linter.unusedVariables false
set_option linter.unusedSectionVars false
namespace Go.Proofs.YtakpneafokmcpaaDoor
open Go Go.Eng
def arL : List Int := [0, 1, 1, 2, 3, 3, 3, 3, 2, 2, 1, 2, 1, 3, 5, 2, 2]
def G : Nat → Option AV := fun g => if g = 0 then some (.agg (arL.map fun n => .int .i64 n)) else none
end Go.Proofs.YtakpneafokmcpaaDoor
