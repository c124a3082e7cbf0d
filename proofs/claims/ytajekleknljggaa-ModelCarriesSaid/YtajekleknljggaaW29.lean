/-
  The program's own example of the layer is run by the evaluator, and answers true. No conditions.
-/
import Derived.Test.YtajekleknljggaaEvA
import Derived.Test.YtajekleknljggaaProg
import Derived.KernelRfl
set_option linter.unusedVariables false
set_option linter.unusedSimpArgs false
namespace Go.az
set_option maxRecDepth 100000
theorem S9:(app (ib Go.Proofs.Try.prog) (299 + 1) (.func 9 [] []) [] H0).map (·.1)=some (.bool true):=by kernel_rfl
end Go.az
