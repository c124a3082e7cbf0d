/-
  What the program says of its types, and that it is one of which the evaluator may speak. No conditions.
-/
import Derived.Test.YtjpmmbbdmodjdaaEvF
import Derived.Test.YtjpmmbbdmodjdaaChecked
import Derived.KernelRfl
import Derived.Eval
set_option linter.unusedVariables false
set_option linter.unusedSimpArgs false
namespace Go.Ev
noncomputable section
def wk (f : FuncId) : Bool := f == 4
def EE : Env := envV Go.Proofs.Try.prog wk
set_option maxRecDepth 100000
theorem tyE : True ∧
  kindOf EE 3 = .int .i64 ∧
  sizeT EE 3 = 1 ∧
  bytesT EE 3 = 8 ∧
  zeroT EE 3 = some (.int .i64 0) ∧
  (∀ H b o, loadAV EE H 3 b o = cellAt H b o) ∧
  (∀ cs o, partAV EE 3 cs o = getL cs o) ∧
  (∀ H p x, storeV EE H 3 p x = storeN H 1 p x) ∧
  EE.flat 3 = some (false, 1) ∧
  kindOf EE 4 = .bool ∧
  sizeT EE 4 = 1 ∧
  bytesT EE 4 = 1 ∧
  zeroT EE 4 = some (.bool false) ∧
  (∀ H b o, loadAV EE H 4 b o = cellAt H b o) ∧
  (∀ cs o, partAV EE 4 cs o = getL cs o) ∧
  (∀ H p x, storeV EE H 4 p x = storeN H 1 p x) ∧
  EE.flat 4 = some (true, 1) ∧
  kindOf EE 5 = .int .u8 ∧
  sizeT EE 5 = 1 ∧
  bytesT EE 5 = 1 ∧
  zeroT EE 5 = some (.int .u8 0) ∧
  (∀ H b o, loadAV EE H 5 b o = cellAt H b o) ∧
  (∀ cs o, partAV EE 5 cs o = getL cs o) ∧
  (∀ H p x, storeV EE H 5 p x = storeN H 1 p x) ∧
  EE.flat 5 = some (false, 1) ∧
  kindOf EE 22 = .slice 5 ∧
  sizeT EE 22 = 1 ∧
  bytesT EE 22 = 24 ∧
  zeroT EE 22 = some (.nils) ∧
  (∀ H b o, loadAV EE H 22 b o = cellAt H b o) ∧
  (∀ cs o, partAV EE 22 cs o = getL cs o) ∧
  (∀ H p x, storeV EE H 22 p x = storeN H 1 p x) ∧
  EE.flat 22 = none ∧
  kindOf EE 23 = .struct [(0, 3), (1, 3), (2, 3), (3, 3), (4, 3), (5, 22)] ∧
  sizeT EE 23 = 6 ∧
  bytesT EE 23 = 64 ∧
  zeroT EE 23 = some (.agg [.int .i64 0, .int .i64 0, .int .i64 0, .int .i64 0, .int .i64 0, .nils]) ∧
  (∀ H b o, loadAV EE H 23 b o = (cellsAt H b o 6).omap .agg) ∧
  (∀ cs o, partAV EE 23 cs o = (takeE 6 (dropL o cs)).omap .agg) ∧
  (∀ H p x, storeV EE H 23 p x = storeN H 6 p x) ∧
  EE.flat 23 = none ∧
  kindOf EE 24 = .struct [(0, 3), (1, 3), (2, 3), (3, 3), (4, 3), (5, 22)] ∧
  sizeT EE 24 = 6 ∧
  bytesT EE 24 = 64 ∧
  zeroT EE 24 = some (.agg [.int .i64 0, .int .i64 0, .int .i64 0, .int .i64 0, .int .i64 0, .nils]) ∧
  (∀ H b o, loadAV EE H 24 b o = (cellsAt H b o 6).omap .agg) ∧
  (∀ cs o, partAV EE 24 cs o = (takeE 6 (dropL o cs)).omap .agg) ∧
  (∀ H p x, storeV EE H 24 p x = storeN H 6 p x) ∧
  EE.flat 24 = none ∧
  kindOf EE 26 = .ptr 46 ∧
  sizeT EE 26 = 1 ∧
  bytesT EE 26 = 8 ∧
  zeroT EE 26 = some (.nilp) ∧
  (∀ H b o, loadAV EE H 26 b o = cellAt H b o) ∧
  (∀ cs o, partAV EE 26 cs o = getL cs o) ∧
  (∀ H p x, storeV EE H 26 p x = storeN H 1 p x) ∧
  EE.flat 26 = none ∧
  kindOf EE 27 = .int .i64 ∧
  sizeT EE 27 = 1 ∧
  bytesT EE 27 = 8 ∧
  zeroT EE 27 = some (.int .i64 0) ∧
  (∀ H b o, loadAV EE H 27 b o = cellAt H b o) ∧
  (∀ cs o, partAV EE 27 cs o = getL cs o) ∧
  (∀ H p x, storeV EE H 27 p x = storeN H 1 p x) ∧
  EE.flat 27 = some (false, 1) ∧
  kindOf EE 31 = .func ∧
  sizeT EE 31 = 1 ∧
  bytesT EE 31 = 8 ∧
  zeroT EE 31 = some (.nilf) ∧
  (∀ H b o, loadAV EE H 31 b o = cellAt H b o) ∧
  (∀ cs o, partAV EE 31 cs o = getL cs o) ∧
  (∀ H p x, storeV EE H 31 p x = storeN H 1 p x) ∧
  EE.flat 31 = none ∧
  kindOf EE 32 = .slice 40 ∧
  sizeT EE 32 = 1 ∧
  bytesT EE 32 = 24 ∧
  zeroT EE 32 = some (.nils) ∧
  (∀ H b o, loadAV EE H 32 b o = cellAt H b o) ∧
  (∀ cs o, partAV EE 32 cs o = getL cs o) ∧
  (∀ H p x, storeV EE H 32 p x = storeN H 1 p x) ∧
  EE.flat 32 = none ∧
  kindOf EE 33 = .func ∧
  sizeT EE 33 = 1 ∧
  bytesT EE 33 = 8 ∧
  zeroT EE 33 = some (.nilf) ∧
  (∀ H b o, loadAV EE H 33 b o = cellAt H b o) ∧
  (∀ cs o, partAV EE 33 cs o = getL cs o) ∧
  (∀ H p x, storeV EE H 33 p x = storeN H 1 p x) ∧
  EE.flat 33 = none ∧
  kindOf EE 34 = .slice 3 ∧
  sizeT EE 34 = 1 ∧
  bytesT EE 34 = 24 ∧
  zeroT EE 34 = some (.nils) ∧
  (∀ H b o, loadAV EE H 34 b o = cellAt H b o) ∧
  (∀ cs o, partAV EE 34 cs o = getL cs o) ∧
  (∀ H p x, storeV EE H 34 p x = storeN H 1 p x) ∧
  EE.flat 34 = none ∧
  kindOf EE 46 = .struct [(0, 32), (1, 44), (2, 3)] ∧
  sizeT EE 46 = 3 ∧
  bytesT EE 46 = 56 ∧
  zeroT EE 46 = some (.agg [.nils, .nils, .int .i64 0]) ∧
  (∀ H b o, loadAV EE H 46 b o = (cellsAt H b o 3).omap .agg) ∧
  (∀ cs o, partAV EE 46 cs o = (takeE 3 (dropL o cs)).omap .agg) ∧
  (∀ H p x, storeV EE H 46 p x = storeN H 3 p x) ∧
  EE.flat 46 = none :=
  ⟨trivial,
   by kernel_rfl,
   by kernel_rfl,
   by kernel_rfl,
   by kernel_rfl,
   load_one (by kernel_rfl),
   part_one (by kernel_rfl),
   store_n (by kernel_rfl),
   by kernel_rfl,
   by kernel_rfl,
   by kernel_rfl,
   by kernel_rfl,
   by kernel_rfl,
   load_one (by kernel_rfl),
   part_one (by kernel_rfl),
   store_n (by kernel_rfl),
   by kernel_rfl,
   by kernel_rfl,
   by kernel_rfl,
   by kernel_rfl,
   by kernel_rfl,
   load_one (by kernel_rfl),
   part_one (by kernel_rfl),
   store_n (by kernel_rfl),
   by kernel_rfl,
   by kernel_rfl,
   by kernel_rfl,
   by kernel_rfl,
   by kernel_rfl,
   load_one (by kernel_rfl),
   part_one (by kernel_rfl),
   store_n (by kernel_rfl),
   by kernel_rfl,
   by kernel_rfl,
   by kernel_rfl,
   by kernel_rfl,
   by kernel_rfl,
   load_agg (by kernel_rfl),
   part_agg (by kernel_rfl),
   store_n (by kernel_rfl),
   by kernel_rfl,
   by kernel_rfl,
   by kernel_rfl,
   by kernel_rfl,
   by kernel_rfl,
   load_agg (by kernel_rfl),
   part_agg (by kernel_rfl),
   store_n (by kernel_rfl),
   by kernel_rfl,
   by kernel_rfl,
   by kernel_rfl,
   by kernel_rfl,
   by kernel_rfl,
   load_one (by kernel_rfl),
   part_one (by kernel_rfl),
   store_n (by kernel_rfl),
   by kernel_rfl,
   by kernel_rfl,
   by kernel_rfl,
   by kernel_rfl,
   by kernel_rfl,
   load_one (by kernel_rfl),
   part_one (by kernel_rfl),
   store_n (by kernel_rfl),
   by kernel_rfl,
   by kernel_rfl,
   by kernel_rfl,
   by kernel_rfl,
   by kernel_rfl,
   load_one (by kernel_rfl),
   part_one (by kernel_rfl),
   store_n (by kernel_rfl),
   by kernel_rfl,
   by kernel_rfl,
   by kernel_rfl,
   by kernel_rfl,
   by kernel_rfl,
   load_one (by kernel_rfl),
   part_one (by kernel_rfl),
   store_n (by kernel_rfl),
   by kernel_rfl,
   by kernel_rfl,
   by kernel_rfl,
   by kernel_rfl,
   by kernel_rfl,
   load_one (by kernel_rfl),
   part_one (by kernel_rfl),
   store_n (by kernel_rfl),
   by kernel_rfl,
   by kernel_rfl,
   by kernel_rfl,
   by kernel_rfl,
   by kernel_rfl,
   load_one (by kernel_rfl),
   part_one (by kernel_rfl),
   store_n (by kernel_rfl),
   by kernel_rfl,
   by kernel_rfl,
   by kernel_rfl,
   by kernel_rfl,
   by kernel_rfl,
   load_agg (by kernel_rfl),
   part_agg (by kernel_rfl),
   store_n (by kernel_rfl),
   by kernel_rfl⟩
theorem baseOk : EnvOk (envOf Go.Proofs.Try.prog) Go.Proofs.Try.prog := envOk_of (by kernel_rfl) (by kernel_rfl) (Checked.mixed Go.Proofs.Try.checked)
end
end Go.Ev
