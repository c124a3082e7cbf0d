/-
  The program in which slices.Insert stands for its code, too. No conditions.
-/
import Derived.Test.YtkbfagkgiogllaaGreatEs
import Derived.Test.YtkbfagkgiogllaaGreatIn
set_option linter.unusedVariables false
set_option linter.unusedSimpArgs false
namespace Go.Ev.Sm
open Go.Proofs
set_option maxRecDepth 100000
noncomputable def ES2 : Env := withSum ES 109 In.insG
theorem es2Ok : EnvOk ES2 Tryz.prog := In.ins_env baseOk esOk fun _ => rfl
end Go.Ev.Sm
