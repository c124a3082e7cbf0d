/-
  What the program says of its types, for the walk of the statement. No conditions.
-/
import Derived.Test.YtkbfagkgiogllaaGreatEvI
import Derived.Test.YtkbfagkgiogllaaGreatProg
import Derived.KernelRfl
set_option linter.unusedVariables false
set_option linter.unusedSimpArgs false
namespace Go.Ev
noncomputable section
def wk (f : FuncId) : Bool := f == 23
def gG : AV := .agg [.int .i64 8, .int .i64 2, .int .i64 2, .int .i64 4, .int .i64 12]
def tSmall : List (List AV × AV) := [([], gG)]
def tOpen : List (List AV × AV) := [([.nilp], .tuple [.nilp, .int .i64 1])]
def tFmt : List (List AV × AV) := [([.nilp, gG], .tuple [.nilp, .int .i64 1])]
def tStat : List (List AV × AV) := [([.nilp], .agg [.int .i64 0, .int .i64 0, .int .i64 0, .int .i64 0])]
def tCore : List (List AV × AV) := [([.nilp], .nilp)]
def EE : Env := withSum (withSum (withSum (withSum (withSum (envV Go.Proofs.Tryz.prog wk) 20 (sumR (memoG tSmall))) 25 (sumR (memoG tOpen))) 26 (sumR (memoG tFmt))) 27 (sumR (memoG tStat))) 28 (sumR (memoG tCore))
set_option maxRecDepth 100000
theorem tyE : True ∧
  kindOf EE 3 = .int .i64 ∧
  sizeT EE 3 = 1 ∧
  bytesT EE 3 = 8 ∧
  zeroT EE 3 = some (.int .i64 0) ∧
  (∀ H b o, loadAV EE H 3 b o = cellAt H b o) ∧
  (∀ cs o, partAV EE 3 cs o = getL cs o) ∧
  (∀ H p x, storeV EE H 3 p x = storeN H 1 p x) ∧
  EE.flat 3 = some (false, 1) ∧
  kindOf EE 4 = .bool ∧
  sizeT EE 4 = 1 ∧
  bytesT EE 4 = 1 ∧
  zeroT EE 4 = some (.bool false) ∧
  (∀ H b o, loadAV EE H 4 b o = cellAt H b o) ∧
  (∀ cs o, partAV EE 4 cs o = getL cs o) ∧
  (∀ H p x, storeV EE H 4 p x = storeN H 1 p x) ∧
  EE.flat 4 = some (true, 1) ∧
  kindOf EE 5 = .int .u8 ∧
  sizeT EE 5 = 1 ∧
  bytesT EE 5 = 1 ∧
  zeroT EE 5 = some (.int .u8 0) ∧
  (∀ H b o, loadAV EE H 5 b o = cellAt H b o) ∧
  (∀ cs o, partAV EE 5 cs o = getL cs o) ∧
  (∀ H p x, storeV EE H 5 p x = storeN H 1 p x) ∧
  EE.flat 5 = some (false, 1) ∧
  kindOf EE 22 = .slice 3 ∧
  sizeT EE 22 = 1 ∧
  bytesT EE 22 = 24 ∧
  zeroT EE 22 = some (.nils) ∧
  (∀ H b o, loadAV EE H 22 b o = cellAt H b o) ∧
  (∀ cs o, partAV EE 22 cs o = getL cs o) ∧
  (∀ H p x, storeV EE H 22 p x = storeN H 1 p x) ∧
  EE.flat 22 = none ∧
  kindOf EE 26 = .int .i64 ∧
  sizeT EE 26 = 1 ∧
  bytesT EE 26 = 8 ∧
  zeroT EE 26 = some (.int .i64 0) ∧
  (∀ H b o, loadAV EE H 26 b o = cellAt H b o) ∧
  (∀ cs o, partAV EE 26 cs o = getL cs o) ∧
  (∀ H p x, storeV EE H 26 p x = storeN H 1 p x) ∧
  EE.flat 26 = some (false, 1) ∧
  kindOf EE 34 = .slice 5 ∧
  sizeT EE 34 = 1 ∧
  bytesT EE 34 = 24 ∧
  zeroT EE 34 = some (.nils) ∧
  (∀ H b o, loadAV EE H 34 b o = cellAt H b o) ∧
  (∀ cs o, partAV EE 34 cs o = getL cs o) ∧
  (∀ H p x, storeV EE H 34 p x = storeN H 1 p x) ∧
  EE.flat 34 = none ∧
  kindOf EE 42 = .ptr 185 ∧
  sizeT EE 42 = 1 ∧
  bytesT EE 42 = 8 ∧
  zeroT EE 42 = some (.nilp) ∧
  (∀ H b o, loadAV EE H 42 b o = cellAt H b o) ∧
  (∀ cs o, partAV EE 42 cs o = getL cs o) ∧
  (∀ H p x, storeV EE H 42 p x = storeN H 1 p x) ∧
  EE.flat 42 = none ∧
  kindOf EE 44 = .ptr 243 ∧
  sizeT EE 44 = 1 ∧
  bytesT EE 44 = 8 ∧
  zeroT EE 44 = some (.nilp) ∧
  (∀ H b o, loadAV EE H 44 b o = cellAt H b o) ∧
  (∀ cs o, partAV EE 44 cs o = getL cs o) ∧
  (∀ H p x, storeV EE H 44 p x = storeN H 1 p x) ∧
  EE.flat 44 = none ∧
  kindOf EE 48 = .struct [(0, 3), (1, 3), (2, 3), (3, 3), (4, 3)] ∧
  sizeT EE 48 = 5 ∧
  bytesT EE 48 = 40 ∧
  zeroT EE 48 = some (.agg [.int .i64 0, .int .i64 0, .int .i64 0, .int .i64 0, .int .i64 0]) ∧
  (∀ H b o, loadAV EE H 48 b o = (cellsAt H b o 5).omap .agg) ∧
  (∀ cs o, partAV EE 48 cs o = (takeE 5 (dropL o cs)).omap .agg) ∧
  (∀ H p x, storeV EE H 48 p x = storeN H 5 p x) ∧
  EE.flat 48 = some (false, 5) ∧
  kindOf EE 54 = .struct [(0, 3), (1, 3), (2, 3), (3, 3), (4, 3), (5, 34)] ∧
  sizeT EE 54 = 6 ∧
  bytesT EE 54 = 64 ∧
  zeroT EE 54 = some (.agg [.int .i64 0, .int .i64 0, .int .i64 0, .int .i64 0, .int .i64 0, .nils]) ∧
  (∀ H b o, loadAV EE H 54 b o = (cellsAt H b o 6).omap .agg) ∧
  (∀ cs o, partAV EE 54 cs o = (takeE 6 (dropL o cs)).omap .agg) ∧
  (∀ H p x, storeV EE H 54 p x = storeN H 6 p x) ∧
  EE.flat 54 = none ∧
  kindOf EE 55 = .ptr 165 ∧
  sizeT EE 55 = 1 ∧
  bytesT EE 55 = 8 ∧
  zeroT EE 55 = some (.nilp) ∧
  (∀ H b o, loadAV EE H 55 b o = cellAt H b o) ∧
  (∀ cs o, partAV EE 55 cs o = getL cs o) ∧
  (∀ H p x, storeV EE H 55 p x = storeN H 1 p x) ∧
  EE.flat 55 = none ∧
  kindOf EE 62 = .struct [(0, 3), (1, 3), (2, 3), (3, 3)] ∧
  sizeT EE 62 = 4 ∧
  bytesT EE 62 = 32 ∧
  zeroT EE 62 = some (.agg [.int .i64 0, .int .i64 0, .int .i64 0, .int .i64 0]) ∧
  (∀ H b o, loadAV EE H 62 b o = (cellsAt H b o 4).omap .agg) ∧
  (∀ cs o, partAV EE 62 cs o = (takeE 4 (dropL o cs)).omap .agg) ∧
  (∀ H p x, storeV EE H 62 p x = storeN H 4 p x) ∧
  EE.flat 62 = some (false, 4) :=
  ⟨trivial,
   by kernel_rfl,
   by kernel_rfl,
   by kernel_rfl,
   by kernel_rfl,
   load_one (by kernel_rfl),
   part_one (by kernel_rfl),
   store_n (by kernel_rfl),
   by kernel_rfl,
   by kernel_rfl,
   by kernel_rfl,
   by kernel_rfl,
   by kernel_rfl,
   load_one (by kernel_rfl),
   part_one (by kernel_rfl),
   store_n (by kernel_rfl),
   by kernel_rfl,
   by kernel_rfl,
   by kernel_rfl,
   by kernel_rfl,
   by kernel_rfl,
   load_one (by kernel_rfl),
   part_one (by kernel_rfl),
   store_n (by kernel_rfl),
   by kernel_rfl,
   by kernel_rfl,
   by kernel_rfl,
   by kernel_rfl,
   by kernel_rfl,
   load_one (by kernel_rfl),
   part_one (by kernel_rfl),
   store_n (by kernel_rfl),
   by kernel_rfl,
   by kernel_rfl,
   by kernel_rfl,
   by kernel_rfl,
   by kernel_rfl,
   load_one (by kernel_rfl),
   part_one (by kernel_rfl),
   store_n (by kernel_rfl),
   by kernel_rfl,
   by kernel_rfl,
   by kernel_rfl,
   by kernel_rfl,
   by kernel_rfl,
   load_one (by kernel_rfl),
   part_one (by kernel_rfl),
   store_n (by kernel_rfl),
   by kernel_rfl,
   by kernel_rfl,
   by kernel_rfl,
   by kernel_rfl,
   by kernel_rfl,
   load_one (by kernel_rfl),
   part_one (by kernel_rfl),
   store_n (by kernel_rfl),
   by kernel_rfl,
   by kernel_rfl,
   by kernel_rfl,
   by kernel_rfl,
   by kernel_rfl,
   load_one (by kernel_rfl),
   part_one (by kernel_rfl),
   store_n (by kernel_rfl),
   by kernel_rfl,
   by kernel_rfl,
   by kernel_rfl,
   by kernel_rfl,
   by kernel_rfl,
   load_agg (by kernel_rfl),
   part_agg (by kernel_rfl),
   store_n (by kernel_rfl),
   by kernel_rfl,
   by kernel_rfl,
   by kernel_rfl,
   by kernel_rfl,
   by kernel_rfl,
   load_agg (by kernel_rfl),
   part_agg (by kernel_rfl),
   store_n (by kernel_rfl),
   by kernel_rfl,
   by kernel_rfl,
   by kernel_rfl,
   by kernel_rfl,
   by kernel_rfl,
   load_one (by kernel_rfl),
   part_one (by kernel_rfl),
   store_n (by kernel_rfl),
   by kernel_rfl,
   by kernel_rfl,
   by kernel_rfl,
   by kernel_rfl,
   by kernel_rfl,
   load_agg (by kernel_rfl),
   part_agg (by kernel_rfl),
   store_n (by kernel_rfl),
   by kernel_rfl⟩
end
end Go.Ev
