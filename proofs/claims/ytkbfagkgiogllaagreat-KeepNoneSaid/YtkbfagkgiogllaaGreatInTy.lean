/-
  What the program says of its types, for the walk of slices.Insert. No conditions.
-/
import Derived.Test.YtkbfagkgiogllaaGreatEvJ
import Derived.Test.YtkbfagkgiogllaaGreatProg
import Derived.KernelRfl
set_option linter.unusedVariables false
set_option linter.unusedSimpArgs false
namespace Go.Ev.In
noncomputable section
def wk (f : FuncId) : Bool := false

def EE : Env := withSum (envV Go.Proofs.Tryz.prog wk) 197 (ovG (envV Go.Proofs.Tryz.prog wk))
set_option maxRecDepth 100000
theorem tyE : True ∧
  kindOf EE 3 = .int .i64 ∧
  sizeT EE 3 = 1 ∧
  bytesT EE 3 = 8 ∧
  zeroT EE 3 = some (.int .i64 0) ∧
  (∀ H b o, loadAV EE H 3 b o = cellAt H b o) ∧
  (∀ cs o, partAV EE 3 cs o = getL cs o) ∧
  (∀ H p x, storeV EE H 3 p x = storeN H 1 p x) ∧
  EE.flat 3 = some (false, 1) ∧
  kindOf EE 4 = .bool ∧
  sizeT EE 4 = 1 ∧
  bytesT EE 4 = 1 ∧
  zeroT EE 4 = some (.bool false) ∧
  (∀ H b o, loadAV EE H 4 b o = cellAt H b o) ∧
  (∀ cs o, partAV EE 4 cs o = getL cs o) ∧
  (∀ H p x, storeV EE H 4 p x = storeN H 1 p x) ∧
  EE.flat 4 = some (true, 1) ∧
  kindOf EE 78 = .slice 150 ∧
  sizeT EE 78 = 1 ∧
  bytesT EE 78 = 24 ∧
  zeroT EE 78 = some (.nils) ∧
  (∀ H b o, loadAV EE H 78 b o = cellAt H b o) ∧
  (∀ cs o, partAV EE 78 cs o = getL cs o) ∧
  (∀ H p x, storeV EE H 78 p x = storeN H 1 p x) ∧
  EE.flat 78 = none ∧
  kindOf EE 150 = .struct [(0, 3), (1, 3)] ∧
  sizeT EE 150 = 2 ∧
  bytesT EE 150 = 16 ∧
  zeroT EE 150 = some (.agg [.int .i64 0, .int .i64 0]) ∧
  (∀ H b o, loadAV EE H 150 b o = (cellsAt H b o 2).omap .agg) ∧
  (∀ cs o, partAV EE 150 cs o = (takeE 2 (dropL o cs)).omap .agg) ∧
  (∀ H p x, storeV EE H 150 p x = storeN H 2 p x) ∧
  EE.flat 150 = some (false, 2) :=
  ⟨trivial,
   by kernel_rfl,
   by kernel_rfl,
   by kernel_rfl,
   by kernel_rfl,
   load_one (by kernel_rfl),
   part_one (by kernel_rfl),
   store_n (by kernel_rfl),
   by kernel_rfl,
   by kernel_rfl,
   by kernel_rfl,
   by kernel_rfl,
   by kernel_rfl,
   load_one (by kernel_rfl),
   part_one (by kernel_rfl),
   store_n (by kernel_rfl),
   by kernel_rfl,
   by kernel_rfl,
   by kernel_rfl,
   by kernel_rfl,
   by kernel_rfl,
   load_one (by kernel_rfl),
   part_one (by kernel_rfl),
   store_n (by kernel_rfl),
   by kernel_rfl,
   by kernel_rfl,
   by kernel_rfl,
   by kernel_rfl,
   by kernel_rfl,
   load_agg (by kernel_rfl),
   part_agg (by kernel_rfl),
   store_n (by kernel_rfl),
   by kernel_rfl⟩
end
end Go.Ev.In
