/-
  The program's own example of the layer is run by the evaluator, and answers true. No conditions.
-/
import Derived.Test.YtbgomaapfocbhaaGreatEvA
import Derived.Test.YtbgomaapfocbhaaGreatProg
import Derived.KernelRfl
set_option linter.unusedVariables false
set_option linter.unusedSimpArgs false
namespace Go.Ev
set_option maxRecDepth 100000
theorem wakes25 : (app (envOf Go.Proofs.Tryz.prog) (299 + 1) (.func 5 [] []) [] H0).map (·.1) = some (.bool true) := by kernel_rfl
end Go.Ev
