/-
  The program's own example of the layer is run by the evaluator, and answers true. No conditions.
-/
import Derived.Test.YtjpmmbbdmodjdaaGreatEvA
import Derived.Test.YtjpmmbbdmodjdaaGreatProg
import Derived.KernelRfl
namespace Go.Ev
set_option maxRecDepth 100000
theorem wakes25 : (app (envOf Go.Proofs.Tryz.prog) (299 + 1) (.func 26 [] []) [] H0).map (·.1) = some (.bool true) := by kernel_rfl
end Go.Ev
