/-
  What the program says of its types, for the walk of the statement. No conditions.
-/
import Derived.Test.YtkbfagkgiogllaaGreatEvJ
import Derived.Test.YtkbfagkgiogllaaGreatProg
import Derived.KernelRfl
set_option linter.unusedVariables false
set_option linter.unusedSimpArgs false
namespace Go.Ev
noncomputable section
def wk (f : FuncId) : Bool := f == 7
def tState : List (List AV × AV) := [([.nilp], .agg [.nils, .nils, .int .i64 0, .int .i64 0, .int .i64 0, .nils])]
def tGeom : List (List AV × AV) := [([.nilp], .agg [.int .i64 0, .int .i64 0, .int .i64 0, .int .i64 0, .int .i64 0])]
def tAll : List (List AV × AV) := [([.nilp], .nils)]
def EE : Env := withSum (withSum (withSum (envV Go.Proofs.Tryz.prog wk) 42 (sumR (memoG tState))) 44 (sumR (memoG tGeom))) 10 (sumR (memoG tAll))
set_option maxRecDepth 100000
theorem tyE : True ∧
  kindOf EE 3 = .int .i64 ∧
  sizeT EE 3 = 1 ∧
  bytesT EE 3 = 8 ∧
  zeroT EE 3 = some (.int .i64 0) ∧
  (∀ H b o, loadAV EE H 3 b o = cellAt H b o) ∧
  (∀ cs o, partAV EE 3 cs o = getL cs o) ∧
  (∀ H p x, storeV EE H 3 p x = storeN H 1 p x) ∧
  EE.flat 3 = some (false, 1) ∧
  kindOf EE 4 = .bool ∧
  sizeT EE 4 = 1 ∧
  bytesT EE 4 = 1 ∧
  zeroT EE 4 = some (.bool false) ∧
  (∀ H b o, loadAV EE H 4 b o = cellAt H b o) ∧
  (∀ cs o, partAV EE 4 cs o = getL cs o) ∧
  (∀ H p x, storeV EE H 4 p x = storeN H 1 p x) ∧
  EE.flat 4 = some (true, 1) ∧
  kindOf EE 5 = .int .u8 ∧
  sizeT EE 5 = 1 ∧
  bytesT EE 5 = 1 ∧
  zeroT EE 5 = some (.int .u8 0) ∧
  (∀ H b o, loadAV EE H 5 b o = cellAt H b o) ∧
  (∀ cs o, partAV EE 5 cs o = getL cs o) ∧
  (∀ H p x, storeV EE H 5 p x = storeN H 1 p x) ∧
  EE.flat 5 = some (false, 1) ∧
  kindOf EE 22 = .slice 3 ∧
  sizeT EE 22 = 1 ∧
  bytesT EE 22 = 24 ∧
  zeroT EE 22 = some (.nils) ∧
  (∀ H b o, loadAV EE H 22 b o = cellAt H b o) ∧
  (∀ cs o, partAV EE 22 cs o = getL cs o) ∧
  (∀ H p x, storeV EE H 22 p x = storeN H 1 p x) ∧
  EE.flat 22 = none ∧
  kindOf EE 26 = .int .i64 ∧
  sizeT EE 26 = 1 ∧
  bytesT EE 26 = 8 ∧
  zeroT EE 26 = some (.int .i64 0) ∧
  (∀ H b o, loadAV EE H 26 b o = cellAt H b o) ∧
  (∀ cs o, partAV EE 26 cs o = getL cs o) ∧
  (∀ H p x, storeV EE H 26 p x = storeN H 1 p x) ∧
  EE.flat 26 = some (false, 1) ∧
  kindOf EE 34 = .slice 5 ∧
  sizeT EE 34 = 1 ∧
  bytesT EE 34 = 24 ∧
  zeroT EE 34 = some (.nils) ∧
  (∀ H b o, loadAV EE H 34 b o = cellAt H b o) ∧
  (∀ cs o, partAV EE 34 cs o = getL cs o) ∧
  (∀ H p x, storeV EE H 34 p x = storeN H 1 p x) ∧
  EE.flat 34 = none ∧
  kindOf EE 42 = .ptr 185 ∧
  sizeT EE 42 = 1 ∧
  bytesT EE 42 = 8 ∧
  zeroT EE 42 = some (.nilp) ∧
  (∀ H b o, loadAV EE H 42 b o = cellAt H b o) ∧
  (∀ cs o, partAV EE 42 cs o = getL cs o) ∧
  (∀ H p x, storeV EE H 42 p x = storeN H 1 p x) ∧
  EE.flat 42 = none ∧
  kindOf EE 48 = .struct [(0, 3), (1, 3), (2, 3), (3, 3), (4, 3)] ∧
  sizeT EE 48 = 5 ∧
  bytesT EE 48 = 40 ∧
  zeroT EE 48 = some (.agg [.int .i64 0, .int .i64 0, .int .i64 0, .int .i64 0, .int .i64 0]) ∧
  (∀ H b o, loadAV EE H 48 b o = (cellsAt H b o 5).omap .agg) ∧
  (∀ cs o, partAV EE 48 cs o = (takeE 5 (dropL o cs)).omap .agg) ∧
  (∀ H p x, storeV EE H 48 p x = storeN H 5 p x) ∧
  EE.flat 48 = some (false, 5) ∧
  kindOf EE 68 = .slice 80 ∧
  sizeT EE 68 = 1 ∧
  bytesT EE 68 = 24 ∧
  zeroT EE 68 = some (.nils) ∧
  (∀ H b o, loadAV EE H 68 b o = cellAt H b o) ∧
  (∀ cs o, partAV EE 68 cs o = getL cs o) ∧
  (∀ H p x, storeV EE H 68 p x = storeN H 1 p x) ∧
  EE.flat 68 = none ∧
  kindOf EE 78 = .slice 150 ∧
  sizeT EE 78 = 1 ∧
  bytesT EE 78 = 24 ∧
  zeroT EE 78 = some (.nils) ∧
  (∀ H b o, loadAV EE H 78 b o = cellAt H b o) ∧
  (∀ cs o, partAV EE 78 cs o = getL cs o) ∧
  (∀ H p x, storeV EE H 78 p x = storeN H 1 p x) ∧
  EE.flat 78 = none ∧
  kindOf EE 80 = .struct [(0, 3), (1, 34), (2, 78)] ∧
  sizeT EE 80 = 3 ∧
  bytesT EE 80 = 56 ∧
  zeroT EE 80 = some (.agg [.int .i64 0, .nils, .nils]) ∧
  (∀ H b o, loadAV EE H 80 b o = (cellsAt H b o 3).omap .agg) ∧
  (∀ cs o, partAV EE 80 cs o = (takeE 3 (dropL o cs)).omap .agg) ∧
  (∀ H p x, storeV EE H 80 p x = storeN H 3 p x) ∧
  EE.flat 80 = none ∧
  kindOf EE 98 = .struct [(0, 22), (1, 68), (2, 3), (3, 96)] ∧
  sizeT EE 98 = 6 ∧
  bytesT EE 98 = 96 ∧
  zeroT EE 98 = some (.agg [.nils, .nils, .int .i64 0, .int .i64 0, .int .i64 0, .nils]) ∧
  (∀ H b o, loadAV EE H 98 b o = (cellsAt H b o 6).omap .agg) ∧
  (∀ cs o, partAV EE 98 cs o = (takeE 6 (dropL o cs)).omap .agg) ∧
  (∀ H p x, storeV EE H 98 p x = storeN H 6 p x) ∧
  EE.flat 98 = none :=
  ⟨trivial,
   by kernel_rfl,
   by kernel_rfl,
   by kernel_rfl,
   by kernel_rfl,
   load_one (by kernel_rfl),
   part_one (by kernel_rfl),
   store_n (by kernel_rfl),
   by kernel_rfl,
   by kernel_rfl,
   by kernel_rfl,
   by kernel_rfl,
   by kernel_rfl,
   load_one (by kernel_rfl),
   part_one (by kernel_rfl),
   store_n (by kernel_rfl),
   by kernel_rfl,
   by kernel_rfl,
   by kernel_rfl,
   by kernel_rfl,
   by kernel_rfl,
   load_one (by kernel_rfl),
   part_one (by kernel_rfl),
   store_n (by kernel_rfl),
   by kernel_rfl,
   by kernel_rfl,
   by kernel_rfl,
   by kernel_rfl,
   by kernel_rfl,
   load_one (by kernel_rfl),
   part_one (by kernel_rfl),
   store_n (by kernel_rfl),
   by kernel_rfl,
   by kernel_rfl,
   by kernel_rfl,
   by kernel_rfl,
   by kernel_rfl,
   load_one (by kernel_rfl),
   part_one (by kernel_rfl),
   store_n (by kernel_rfl),
   by kernel_rfl,
   by kernel_rfl,
   by kernel_rfl,
   by kernel_rfl,
   by kernel_rfl,
   load_one (by kernel_rfl),
   part_one (by kernel_rfl),
   store_n (by kernel_rfl),
   by kernel_rfl,
   by kernel_rfl,
   by kernel_rfl,
   by kernel_rfl,
   by kernel_rfl,
   load_one (by kernel_rfl),
   part_one (by kernel_rfl),
   store_n (by kernel_rfl),
   by kernel_rfl,
   by kernel_rfl,
   by kernel_rfl,
   by kernel_rfl,
   by kernel_rfl,
   load_agg (by kernel_rfl),
   part_agg (by kernel_rfl),
   store_n (by kernel_rfl),
   by kernel_rfl,
   by kernel_rfl,
   by kernel_rfl,
   by kernel_rfl,
   by kernel_rfl,
   load_one (by kernel_rfl),
   part_one (by kernel_rfl),
   store_n (by kernel_rfl),
   by kernel_rfl,
   by kernel_rfl,
   by kernel_rfl,
   by kernel_rfl,
   by kernel_rfl,
   load_one (by kernel_rfl),
   part_one (by kernel_rfl),
   store_n (by kernel_rfl),
   by kernel_rfl,
   by kernel_rfl,
   by kernel_rfl,
   by kernel_rfl,
   by kernel_rfl,
   load_agg (by kernel_rfl),
   part_agg (by kernel_rfl),
   store_n (by kernel_rfl),
   by kernel_rfl,
   by kernel_rfl,
   by kernel_rfl,
   by kernel_rfl,
   by kernel_rfl,
   load_agg (by kernel_rfl),
   part_agg (by kernel_rfl),
   store_n (by kernel_rfl),
   by kernel_rfl⟩
end
end Go.Ev
