/-
  What the program says of its types, and that it is one of which the evaluator may speak. No conditions.
-/
import Derived.Test.YtjpmmbbdmodjdaaGreatEvF
import Derived.Test.YtjpmmbbdmodjdaaGreatChecked
import Derived.KernelRfl
import Derived.Eval
namespace Go.Ev
noncomputable section
def wk (f : FuncId) : Bool := f == 26
def EE : Env := envV Go.Proofs.Tryz.prog wk
set_option maxRecDepth 100000
theorem tyE : True ∧
  kindOf EE 1 = .func ∧
  sizeT EE 1 = 1 ∧
  bytesT EE 1 = 8 ∧
  zeroT EE 1 = some (.nilf) ∧
  (∀ H b o, loadAV EE H 1 b o = cellAt H b o) ∧
  (∀ cs o, partAV EE 1 cs o = getL cs o) ∧
  (∀ H p x, storeV EE H 1 p x = storeN H 1 p x) ∧
  EE.flat 1 = none ∧
  kindOf EE 2 = .int .i64 ∧
  sizeT EE 2 = 1 ∧
  bytesT EE 2 = 8 ∧
  zeroT EE 2 = some (.int .i64 0) ∧
  (∀ H b o, loadAV EE H 2 b o = cellAt H b o) ∧
  (∀ cs o, partAV EE 2 cs o = getL cs o) ∧
  (∀ H p x, storeV EE H 2 p x = storeN H 1 p x) ∧
  EE.flat 2 = some (false, 1) ∧
  kindOf EE 3 = .int .i64 ∧
  sizeT EE 3 = 1 ∧
  bytesT EE 3 = 8 ∧
  zeroT EE 3 = some (.int .i64 0) ∧
  (∀ H b o, loadAV EE H 3 b o = cellAt H b o) ∧
  (∀ cs o, partAV EE 3 cs o = getL cs o) ∧
  (∀ H p x, storeV EE H 3 p x = storeN H 1 p x) ∧
  EE.flat 3 = some (false, 1) ∧
  kindOf EE 4 = .bool ∧
  sizeT EE 4 = 1 ∧
  bytesT EE 4 = 1 ∧
  zeroT EE 4 = some (.bool false) ∧
  (∀ H b o, loadAV EE H 4 b o = cellAt H b o) ∧
  (∀ cs o, partAV EE 4 cs o = getL cs o) ∧
  (∀ H p x, storeV EE H 4 p x = storeN H 1 p x) ∧
  EE.flat 4 = some (true, 1) ∧
  kindOf EE 5 = .int .u8 ∧
  sizeT EE 5 = 1 ∧
  bytesT EE 5 = 1 ∧
  zeroT EE 5 = some (.int .u8 0) ∧
  (∀ H b o, loadAV EE H 5 b o = cellAt H b o) ∧
  (∀ cs o, partAV EE 5 cs o = getL cs o) ∧
  (∀ H p x, storeV EE H 5 p x = storeN H 1 p x) ∧
  EE.flat 5 = some (false, 1) ∧
  kindOf EE 6 = .int .u8 ∧
  sizeT EE 6 = 1 ∧
  bytesT EE 6 = 1 ∧
  zeroT EE 6 = some (.int .u8 0) ∧
  (∀ H b o, loadAV EE H 6 b o = cellAt H b o) ∧
  (∀ cs o, partAV EE 6 cs o = getL cs o) ∧
  (∀ H p x, storeV EE H 6 p x = storeN H 1 p x) ∧
  EE.flat 6 = some (false, 1) ∧
  kindOf EE 7 = .struct [(0, 2), (1, 3), (2, 4), (3, 6)] ∧
  sizeT EE 7 = 4 ∧
  bytesT EE 7 = 24 ∧
  zeroT EE 7 = some (.agg [.int .i64 0, .int .i64 0, .bool false, .int .u8 0]) ∧
  (∀ H b o, loadAV EE H 7 b o = (cellsAt H b o 4).omap .agg) ∧
  (∀ cs o, partAV EE 7 cs o = (takeE 4 (dropL o cs)).omap .agg) ∧
  (∀ H p x, storeV EE H 7 p x = storeN H 4 p x) ∧
  EE.flat 7 = none ∧
  kindOf EE 8 = .struct [(0, 2), (1, 3), (2, 4), (3, 6)] ∧
  sizeT EE 8 = 4 ∧
  bytesT EE 8 = 24 ∧
  zeroT EE 8 = some (.agg [.int .i64 0, .int .i64 0, .bool false, .int .u8 0]) ∧
  (∀ H b o, loadAV EE H 8 b o = (cellsAt H b o 4).omap .agg) ∧
  (∀ cs o, partAV EE 8 cs o = (takeE 4 (dropL o cs)).omap .agg) ∧
  (∀ H p x, storeV EE H 8 p x = storeN H 4 p x) ∧
  EE.flat 8 = none ∧
  kindOf EE 9 = .string ∧
  sizeT EE 9 = 1 ∧
  bytesT EE 9 = 16 ∧
  zeroT EE 9 = some (.str []) ∧
  (∀ H b o, loadAV EE H 9 b o = cellAt H b o) ∧
  (∀ cs o, partAV EE 9 cs o = getL cs o) ∧
  (∀ H p x, storeV EE H 9 p x = storeN H 1 p x) ∧
  EE.flat 9 = none ∧
  kindOf EE 10 = .string ∧
  sizeT EE 10 = 1 ∧
  bytesT EE 10 = 16 ∧
  zeroT EE 10 = some (.str []) ∧
  (∀ H b o, loadAV EE H 10 b o = cellAt H b o) ∧
  (∀ cs o, partAV EE 10 cs o = getL cs o) ∧
  (∀ H p x, storeV EE H 10 p x = storeN H 1 p x) ∧
  EE.flat 10 = none ∧
  kindOf EE 11 = .string ∧
  sizeT EE 11 = 1 ∧
  bytesT EE 11 = 16 ∧
  zeroT EE 11 = some (.str []) ∧
  (∀ H b o, loadAV EE H 11 b o = cellAt H b o) ∧
  (∀ cs o, partAV EE 11 cs o = getL cs o) ∧
  (∀ H p x, storeV EE H 11 p x = storeN H 1 p x) ∧
  EE.flat 11 = none ∧
  kindOf EE 12 = .int .u64 ∧
  sizeT EE 12 = 1 ∧
  bytesT EE 12 = 8 ∧
  zeroT EE 12 = some (.int .u64 0) ∧
  (∀ H b o, loadAV EE H 12 b o = cellAt H b o) ∧
  (∀ cs o, partAV EE 12 cs o = getL cs o) ∧
  (∀ H p x, storeV EE H 12 p x = storeN H 1 p x) ∧
  EE.flat 12 = some (false, 1) ∧
  kindOf EE 13 = .struct [(0, 9), (1, 12)] ∧
  sizeT EE 13 = 2 ∧
  bytesT EE 13 = 24 ∧
  zeroT EE 13 = some (.agg [.str [], .int .u64 0]) ∧
  (∀ H b o, loadAV EE H 13 b o = (cellsAt H b o 2).omap .agg) ∧
  (∀ cs o, partAV EE 13 cs o = (takeE 2 (dropL o cs)).omap .agg) ∧
  (∀ H p x, storeV EE H 13 p x = storeN H 2 p x) ∧
  EE.flat 13 = none ∧
  kindOf EE 14 = .struct [(0, 9), (1, 12)] ∧
  sizeT EE 14 = 2 ∧
  bytesT EE 14 = 24 ∧
  zeroT EE 14 = some (.agg [.str [], .int .u64 0]) ∧
  (∀ H b o, loadAV EE H 14 b o = (cellsAt H b o 2).omap .agg) ∧
  (∀ cs o, partAV EE 14 cs o = (takeE 2 (dropL o cs)).omap .agg) ∧
  (∀ H p x, storeV EE H 14 p x = storeN H 2 p x) ∧
  EE.flat 14 = none ∧
  kindOf EE 15 = .ptr 328 ∧
  sizeT EE 15 = 1 ∧
  bytesT EE 15 = 8 ∧
  zeroT EE 15 = some (.nilp) ∧
  (∀ H b o, loadAV EE H 15 b o = cellAt H b o) ∧
  (∀ cs o, partAV EE 15 cs o = getL cs o) ∧
  (∀ H p x, storeV EE H 15 p x = storeN H 1 p x) ∧
  EE.flat 15 = none ∧
  kindOf EE 16 = .ptr 331 ∧
  sizeT EE 16 = 1 ∧
  bytesT EE 16 = 8 ∧
  zeroT EE 16 = some (.nilp) ∧
  (∀ H b o, loadAV EE H 16 b o = cellAt H b o) ∧
  (∀ cs o, partAV EE 16 cs o = getL cs o) ∧
  (∀ H p x, storeV EE H 16 p x = storeN H 1 p x) ∧
  EE.flat 16 = none ∧
  kindOf EE 17 = .ptr 339 ∧
  sizeT EE 17 = 1 ∧
  bytesT EE 17 = 8 ∧
  zeroT EE 17 = some (.nilp) ∧
  (∀ H b o, loadAV EE H 17 b o = cellAt H b o) ∧
  (∀ cs o, partAV EE 17 cs o = getL cs o) ∧
  (∀ H p x, storeV EE H 17 p x = storeN H 1 p x) ∧
  EE.flat 17 = none ∧
  kindOf EE 18 = .struct [(0, 17)] ∧
  sizeT EE 18 = 1 ∧
  bytesT EE 18 = 8 ∧
  zeroT EE 18 = some (.agg [.nilp]) ∧
  (∀ H b o, loadAV EE H 18 b o = (cellsAt H b o 1).omap .agg) ∧
  (∀ cs o, partAV EE 18 cs o = (takeE 1 (dropL o cs)).omap .agg) ∧
  (∀ H p x, storeV EE H 18 p x = storeN H 1 p x) ∧
  EE.flat 18 = none ∧
  kindOf EE 19 = .struct [(0, 17)] ∧
  sizeT EE 19 = 1 ∧
  bytesT EE 19 = 8 ∧
  zeroT EE 19 = some (.agg [.nilp]) ∧
  (∀ H b o, loadAV EE H 19 b o = (cellsAt H b o 1).omap .agg) ∧
  (∀ cs o, partAV EE 19 cs o = (takeE 1 (dropL o cs)).omap .agg) ∧
  (∀ H p x, storeV EE H 19 p x = storeN H 1 p x) ∧
  EE.flat 19 = none ∧
  kindOf EE 20 = .iface ∧
  sizeT EE 20 = 1 ∧
  bytesT EE 20 = 16 ∧
  zeroT EE 20 = some (.nili) ∧
  (∀ H b o, loadAV EE H 20 b o = cellAt H b o) ∧
  (∀ cs o, partAV EE 20 cs o = getL cs o) ∧
  (∀ H p x, storeV EE H 20 p x = storeN H 1 p x) ∧
  EE.flat 20 = none ∧
  kindOf EE 21 = .int .i32 ∧
  sizeT EE 21 = 1 ∧
  bytesT EE 21 = 4 ∧
  zeroT EE 21 = some (.int .i32 0) ∧
  (∀ H b o, loadAV EE H 21 b o = cellAt H b o) ∧
  (∀ cs o, partAV EE 21 cs o = getL cs o) ∧
  (∀ H p x, storeV EE H 21 p x = storeN H 1 p x) ∧
  EE.flat 21 = some (false, 1) ∧
  kindOf EE 22 = .slice 3 ∧
  sizeT EE 22 = 1 ∧
  bytesT EE 22 = 24 ∧
  zeroT EE 22 = some (.nils) ∧
  (∀ H b o, loadAV EE H 22 b o = cellAt H b o) ∧
  (∀ cs o, partAV EE 22 cs o = getL cs o) ∧
  (∀ H p x, storeV EE H 22 p x = storeN H 1 p x) ∧
  EE.flat 22 = none ∧
  kindOf EE 23 = .func ∧
  sizeT EE 23 = 1 ∧
  bytesT EE 23 = 8 ∧
  zeroT EE 23 = some (.nilf) ∧
  (∀ H b o, loadAV EE H 23 b o = cellAt H b o) ∧
  (∀ cs o, partAV EE 23 cs o = getL cs o) ∧
  (∀ H p x, storeV EE H 23 p x = storeN H 1 p x) ∧
  EE.flat 23 = none ∧
  kindOf EE 24 = .func ∧
  sizeT EE 24 = 1 ∧
  bytesT EE 24 = 8 ∧
  zeroT EE 24 = some (.nilf) ∧
  (∀ H b o, loadAV EE H 24 b o = cellAt H b o) ∧
  (∀ cs o, partAV EE 24 cs o = getL cs o) ∧
  (∀ H p x, storeV EE H 24 p x = storeN H 1 p x) ∧
  EE.flat 24 = none ∧
  kindOf EE 25 = .func ∧
  sizeT EE 25 = 1 ∧
  bytesT EE 25 = 8 ∧
  zeroT EE 25 = some (.nilf) ∧
  (∀ H b o, loadAV EE H 25 b o = cellAt H b o) ∧
  (∀ cs o, partAV EE 25 cs o = getL cs o) ∧
  (∀ H p x, storeV EE H 25 p x = storeN H 1 p x) ∧
  EE.flat 25 = none ∧
  kindOf EE 26 = .int .i64 ∧
  sizeT EE 26 = 1 ∧
  bytesT EE 26 = 8 ∧
  zeroT EE 26 = some (.int .i64 0) ∧
  (∀ H b o, loadAV EE H 26 b o = cellAt H b o) ∧
  (∀ cs o, partAV EE 26 cs o = getL cs o) ∧
  (∀ H p x, storeV EE H 26 p x = storeN H 1 p x) ∧
  EE.flat 26 = some (false, 1) ∧
  kindOf EE 27 = .func ∧
  sizeT EE 27 = 1 ∧
  bytesT EE 27 = 8 ∧
  zeroT EE 27 = some (.nilf) ∧
  (∀ H b o, loadAV EE H 27 b o = cellAt H b o) ∧
  (∀ cs o, partAV EE 27 cs o = getL cs o) ∧
  (∀ H p x, storeV EE H 27 p x = storeN H 1 p x) ∧
  EE.flat 27 = none ∧
  kindOf EE 28 = .func ∧
  sizeT EE 28 = 1 ∧
  bytesT EE 28 = 8 ∧
  zeroT EE 28 = some (.nilf) ∧
  (∀ H b o, loadAV EE H 28 b o = cellAt H b o) ∧
  (∀ cs o, partAV EE 28 cs o = getL cs o) ∧
  (∀ H p x, storeV EE H 28 p x = storeN H 1 p x) ∧
  EE.flat 28 = none ∧
  kindOf EE 30 = .func ∧
  sizeT EE 30 = 1 ∧
  bytesT EE 30 = 8 ∧
  zeroT EE 30 = some (.nilf) ∧
  (∀ H b o, loadAV EE H 30 b o = cellAt H b o) ∧
  (∀ cs o, partAV EE 30 cs o = getL cs o) ∧
  (∀ H p x, storeV EE H 30 p x = storeN H 1 p x) ∧
  EE.flat 30 = none ∧
  kindOf EE 31 = .func ∧
  sizeT EE 31 = 1 ∧
  bytesT EE 31 = 8 ∧
  zeroT EE 31 = some (.nilf) ∧
  (∀ H b o, loadAV EE H 31 b o = cellAt H b o) ∧
  (∀ cs o, partAV EE 31 cs o = getL cs o) ∧
  (∀ H p x, storeV EE H 31 p x = storeN H 1 p x) ∧
  EE.flat 31 = none ∧
  kindOf EE 32 = .func ∧
  sizeT EE 32 = 1 ∧
  bytesT EE 32 = 8 ∧
  zeroT EE 32 = some (.nilf) ∧
  (∀ H b o, loadAV EE H 32 b o = cellAt H b o) ∧
  (∀ cs o, partAV EE 32 cs o = getL cs o) ∧
  (∀ H p x, storeV EE H 32 p x = storeN H 1 p x) ∧
  EE.flat 32 = none ∧
  kindOf EE 33 = .array 64 5 ∧
  sizeT EE 33 = 64 ∧
  bytesT EE 33 = 64 ∧
  zeroT EE 33 = some (.agg (List.replicate 64 (.int .u8 0))) ∧
  (∀ H b o, loadAV EE H 33 b o = (cellsAt H b o 64).omap .agg) ∧
  (∀ cs o, partAV EE 33 cs o = (takeE 64 (dropL o cs)).omap .agg) ∧
  (∀ H p x, storeV EE H 33 p x = storeN H 64 p x) ∧
  EE.flat 33 = some (false, 64) ∧
  kindOf EE 34 = .array 64 5 ∧
  sizeT EE 34 = 64 ∧
  bytesT EE 34 = 64 ∧
  zeroT EE 34 = some (.agg (List.replicate 64 (.int .u8 0))) ∧
  (∀ H b o, loadAV EE H 34 b o = (cellsAt H b o 64).omap .agg) ∧
  (∀ cs o, partAV EE 34 cs o = (takeE 64 (dropL o cs)).omap .agg) ∧
  (∀ H p x, storeV EE H 34 p x = storeN H 64 p x) ∧
  EE.flat 34 = some (false, 64) ∧
  kindOf EE 36 = .func ∧
  sizeT EE 36 = 1 ∧
  bytesT EE 36 = 8 ∧
  zeroT EE 36 = some (.nilf) ∧
  (∀ H b o, loadAV EE H 36 b o = cellAt H b o) ∧
  (∀ cs o, partAV EE 36 cs o = getL cs o) ∧
  (∀ H p x, storeV EE H 36 p x = storeN H 1 p x) ∧
  EE.flat 36 = none ∧
  kindOf EE 37 = .func ∧
  sizeT EE 37 = 1 ∧
  bytesT EE 37 = 8 ∧
  zeroT EE 37 = some (.nilf) ∧
  (∀ H b o, loadAV EE H 37 b o = cellAt H b o) ∧
  (∀ cs o, partAV EE 37 cs o = getL cs o) ∧
  (∀ H p x, storeV EE H 37 p x = storeN H 1 p x) ∧
  EE.flat 37 = none ∧
  kindOf EE 38 = .func ∧
  sizeT EE 38 = 1 ∧
  bytesT EE 38 = 8 ∧
  zeroT EE 38 = some (.nilf) ∧
  (∀ H b o, loadAV EE H 38 b o = cellAt H b o) ∧
  (∀ cs o, partAV EE 38 cs o = getL cs o) ∧
  (∀ H p x, storeV EE H 38 p x = storeN H 1 p x) ∧
  EE.flat 38 = none ∧
  kindOf EE 39 = .func ∧
  sizeT EE 39 = 1 ∧
  bytesT EE 39 = 8 ∧
  zeroT EE 39 = some (.nilf) ∧
  (∀ H b o, loadAV EE H 39 b o = cellAt H b o) ∧
  (∀ cs o, partAV EE 39 cs o = getL cs o) ∧
  (∀ H p x, storeV EE H 39 p x = storeN H 1 p x) ∧
  EE.flat 39 = none ∧
  kindOf EE 40 = .func ∧
  sizeT EE 40 = 1 ∧
  bytesT EE 40 = 8 ∧
  zeroT EE 40 = some (.nilf) ∧
  (∀ H b o, loadAV EE H 40 b o = cellAt H b o) ∧
  (∀ cs o, partAV EE 40 cs o = getL cs o) ∧
  (∀ H p x, storeV EE H 40 p x = storeN H 1 p x) ∧
  EE.flat 40 = none ∧
  kindOf EE 41 = .func ∧
  sizeT EE 41 = 1 ∧
  bytesT EE 41 = 8 ∧
  zeroT EE 41 = some (.nilf) ∧
  (∀ H b o, loadAV EE H 41 b o = cellAt H b o) ∧
  (∀ cs o, partAV EE 41 cs o = getL cs o) ∧
  (∀ H p x, storeV EE H 41 p x = storeN H 1 p x) ∧
  EE.flat 41 = none ∧
  kindOf EE 42 = .slice 108 ∧
  sizeT EE 42 = 1 ∧
  bytesT EE 42 = 24 ∧
  zeroT EE 42 = some (.nils) ∧
  (∀ H b o, loadAV EE H 42 b o = cellAt H b o) ∧
  (∀ cs o, partAV EE 42 cs o = getL cs o) ∧
  (∀ H p x, storeV EE H 42 p x = storeN H 1 p x) ∧
  EE.flat 42 = none ∧
  kindOf EE 44 = .func ∧
  sizeT EE 44 = 1 ∧
  bytesT EE 44 = 8 ∧
  zeroT EE 44 = some (.nilf) ∧
  (∀ H b o, loadAV EE H 44 b o = cellAt H b o) ∧
  (∀ cs o, partAV EE 44 cs o = getL cs o) ∧
  (∀ H p x, storeV EE H 44 p x = storeN H 1 p x) ∧
  EE.flat 44 = none ∧
  kindOf EE 45 = .slice 65 ∧
  sizeT EE 45 = 1 ∧
  bytesT EE 45 = 24 ∧
  zeroT EE 45 = some (.nils) ∧
  (∀ H b o, loadAV EE H 45 b o = cellAt H b o) ∧
  (∀ cs o, partAV EE 45 cs o = getL cs o) ∧
  (∀ H p x, storeV EE H 45 p x = storeN H 1 p x) ∧
  EE.flat 45 = none ∧
  kindOf EE 46 = .struct [(0, 3), (1, 3), (2, 42)] ∧
  sizeT EE 46 = 3 ∧
  bytesT EE 46 = 40 ∧
  zeroT EE 46 = some (.agg [.int .i64 0, .int .i64 0, .nils]) ∧
  (∀ H b o, loadAV EE H 46 b o = (cellsAt H b o 3).omap .agg) ∧
  (∀ cs o, partAV EE 46 cs o = (takeE 3 (dropL o cs)).omap .agg) ∧
  (∀ H p x, storeV EE H 46 p x = storeN H 3 p x) ∧
  EE.flat 46 = none ∧
  kindOf EE 47 = .struct [(0, 3), (1, 3), (2, 42)] ∧
  sizeT EE 47 = 3 ∧
  bytesT EE 47 = 40 ∧
  zeroT EE 47 = some (.agg [.int .i64 0, .int .i64 0, .nils]) ∧
  (∀ H b o, loadAV EE H 47 b o = (cellsAt H b o 3).omap .agg) ∧
  (∀ cs o, partAV EE 47 cs o = (takeE 3 (dropL o cs)).omap .agg) ∧
  (∀ H p x, storeV EE H 47 p x = storeN H 3 p x) ∧
  EE.flat 47 = none ∧
  kindOf EE 48 = .struct [(0, 22), (1, 45), (2, 3), (3, 47)] ∧
  sizeT EE 48 = 6 ∧
  bytesT EE 48 = 96 ∧
  zeroT EE 48 = some (.agg [.nils, .nils, .int .i64 0, .int .i64 0, .int .i64 0, .nils]) ∧
  (∀ H b o, loadAV EE H 48 b o = (cellsAt H b o 6).omap .agg) ∧
  (∀ cs o, partAV EE 48 cs o = (takeE 6 (dropL o cs)).omap .agg) ∧
  (∀ H p x, storeV EE H 48 p x = storeN H 6 p x) ∧
  EE.flat 48 = none ∧
  kindOf EE 49 = .struct [(0, 22), (1, 45), (2, 3), (3, 47)] ∧
  sizeT EE 49 = 6 ∧
  bytesT EE 49 = 96 ∧
  zeroT EE 49 = some (.agg [.nils, .nils, .int .i64 0, .int .i64 0, .int .i64 0, .nils]) ∧
  (∀ H b o, loadAV EE H 49 b o = (cellsAt H b o 6).omap .agg) ∧
  (∀ cs o, partAV EE 49 cs o = (takeE 6 (dropL o cs)).omap .agg) ∧
  (∀ H p x, storeV EE H 49 p x = storeN H 6 p x) ∧
  EE.flat 49 = none ∧
  kindOf EE 50 = .ptr 133 ∧
  sizeT EE 50 = 1 ∧
  bytesT EE 50 = 8 ∧
  zeroT EE 50 = some (.nilp) ∧
  (∀ H b o, loadAV EE H 50 b o = cellAt H b o) ∧
  (∀ cs o, partAV EE 50 cs o = getL cs o) ∧
  (∀ H p x, storeV EE H 50 p x = storeN H 1 p x) ∧
  EE.flat 50 = none ∧
  kindOf EE 51 = .ptr 120 ∧
  sizeT EE 51 = 1 ∧
  bytesT EE 51 = 8 ∧
  zeroT EE 51 = some (.nilp) ∧
  (∀ H b o, loadAV EE H 51 b o = cellAt H b o) ∧
  (∀ cs o, partAV EE 51 cs o = getL cs o) ∧
  (∀ H p x, storeV EE H 51 p x = storeN H 1 p x) ∧
  EE.flat 51 = none ∧
  kindOf EE 52 = .ptr 175 ∧
  sizeT EE 52 = 1 ∧
  bytesT EE 52 = 8 ∧
  zeroT EE 52 = some (.nilp) ∧
  (∀ H b o, loadAV EE H 52 b o = cellAt H b o) ∧
  (∀ cs o, partAV EE 52 cs o = getL cs o) ∧
  (∀ H p x, storeV EE H 52 p x = storeN H 1 p x) ∧
  EE.flat 52 = none ∧
  kindOf EE 54 = .func ∧
  sizeT EE 54 = 1 ∧
  bytesT EE 54 = 8 ∧
  zeroT EE 54 = some (.nilf) ∧
  (∀ H b o, loadAV EE H 54 b o = cellAt H b o) ∧
  (∀ cs o, partAV EE 54 cs o = getL cs o) ∧
  (∀ H p x, storeV EE H 54 p x = storeN H 1 p x) ∧
  EE.flat 54 = none ∧
  kindOf EE 55 = .struct [(0, 3), (1, 3), (2, 3), (3, 3), (4, 3)] ∧
  sizeT EE 55 = 5 ∧
  bytesT EE 55 = 40 ∧
  zeroT EE 55 = some (.agg [.int .i64 0, .int .i64 0, .int .i64 0, .int .i64 0, .int .i64 0]) ∧
  (∀ H b o, loadAV EE H 55 b o = (cellsAt H b o 5).omap .agg) ∧
  (∀ cs o, partAV EE 55 cs o = (takeE 5 (dropL o cs)).omap .agg) ∧
  (∀ H p x, storeV EE H 55 p x = storeN H 5 p x) ∧
  EE.flat 55 = some (false, 5) ∧
  kindOf EE 56 = .struct [(0, 3), (1, 3), (2, 3), (3, 3), (4, 3)] ∧
  sizeT EE 56 = 5 ∧
  bytesT EE 56 = 40 ∧
  zeroT EE 56 = some (.agg [.int .i64 0, .int .i64 0, .int .i64 0, .int .i64 0, .int .i64 0]) ∧
  (∀ H b o, loadAV EE H 56 b o = (cellsAt H b o 5).omap .agg) ∧
  (∀ cs o, partAV EE 56 cs o = (takeE 5 (dropL o cs)).omap .agg) ∧
  (∀ H p x, storeV EE H 56 p x = storeN H 5 p x) ∧
  EE.flat 56 = some (false, 5) ∧
  kindOf EE 57 = .slice 5 ∧
  sizeT EE 57 = 1 ∧
  bytesT EE 57 = 24 ∧
  zeroT EE 57 = some (.nils) ∧
  (∀ H b o, loadAV EE H 57 b o = cellAt H b o) ∧
  (∀ cs o, partAV EE 57 cs o = getL cs o) ∧
  (∀ H p x, storeV EE H 57 p x = storeN H 1 p x) ∧
  EE.flat 57 = none ∧
  kindOf EE 58 = .slice 93 ∧
  sizeT EE 58 = 1 ∧
  bytesT EE 58 = 24 ∧
  zeroT EE 58 = some (.nils) ∧
  (∀ H b o, loadAV EE H 58 b o = cellAt H b o) ∧
  (∀ cs o, partAV EE 58 cs o = getL cs o) ∧
  (∀ H p x, storeV EE H 58 p x = storeN H 1 p x) ∧
  EE.flat 58 = none ∧
  kindOf EE 59 = .struct [(0, 56), (5, 57), (6, 58), (7, 45)] ∧
  sizeT EE 59 = 8 ∧
  bytesT EE 59 = 112 ∧
  zeroT EE 59 = some (.agg [.int .i64 0, .int .i64 0, .int .i64 0, .int .i64 0, .int .i64 0, .nils, .nils, .nils]) ∧
  (∀ H b o, loadAV EE H 59 b o = (cellsAt H b o 8).omap .agg) ∧
  (∀ cs o, partAV EE 59 cs o = (takeE 8 (dropL o cs)).omap .agg) ∧
  (∀ H p x, storeV EE H 59 p x = storeN H 8 p x) ∧
  EE.flat 59 = none ∧
  kindOf EE 60 = .struct [(0, 56), (5, 57), (6, 58), (7, 45)] ∧
  sizeT EE 60 = 8 ∧
  bytesT EE 60 = 112 ∧
  zeroT EE 60 = some (.agg [.int .i64 0, .int .i64 0, .int .i64 0, .int .i64 0, .int .i64 0, .nils, .nils, .nils]) ∧
  (∀ H b o, loadAV EE H 60 b o = (cellsAt H b o 8).omap .agg) ∧
  (∀ cs o, partAV EE 60 cs o = (takeE 8 (dropL o cs)).omap .agg) ∧
  (∀ H p x, storeV EE H 60 p x = storeN H 8 p x) ∧
  EE.flat 60 = none ∧
  kindOf EE 61 = .func ∧
  sizeT EE 61 = 1 ∧
  bytesT EE 61 = 8 ∧
  zeroT EE 61 = some (.nilf) ∧
  (∀ H b o, loadAV EE H 61 b o = cellAt H b o) ∧
  (∀ cs o, partAV EE 61 cs o = getL cs o) ∧
  (∀ H p x, storeV EE H 61 p x = storeN H 1 p x) ∧
  EE.flat 61 = none ∧
  kindOf EE 62 = .func ∧
  sizeT EE 62 = 1 ∧
  bytesT EE 62 = 8 ∧
  zeroT EE 62 = some (.nilf) ∧
  (∀ H b o, loadAV EE H 62 b o = cellAt H b o) ∧
  (∀ cs o, partAV EE 62 cs o = getL cs o) ∧
  (∀ H p x, storeV EE H 62 p x = storeN H 1 p x) ∧
  EE.flat 62 = none ∧
  kindOf EE 63 = .func ∧
  sizeT EE 63 = 1 ∧
  bytesT EE 63 = 8 ∧
  zeroT EE 63 = some (.nilf) ∧
  (∀ H b o, loadAV EE H 63 b o = cellAt H b o) ∧
  (∀ cs o, partAV EE 63 cs o = getL cs o) ∧
  (∀ H p x, storeV EE H 63 p x = storeN H 1 p x) ∧
  EE.flat 63 = none ∧
  kindOf EE 64 = .struct [(0, 3), (1, 57), (2, 42)] ∧
  sizeT EE 64 = 3 ∧
  bytesT EE 64 = 56 ∧
  zeroT EE 64 = some (.agg [.int .i64 0, .nils, .nils]) ∧
  (∀ H b o, loadAV EE H 64 b o = (cellsAt H b o 3).omap .agg) ∧
  (∀ cs o, partAV EE 64 cs o = (takeE 3 (dropL o cs)).omap .agg) ∧
  (∀ H p x, storeV EE H 64 p x = storeN H 3 p x) ∧
  EE.flat 64 = none ∧
  kindOf EE 65 = .struct [(0, 3), (1, 57), (2, 42)] ∧
  sizeT EE 65 = 3 ∧
  bytesT EE 65 = 56 ∧
  zeroT EE 65 = some (.agg [.int .i64 0, .nils, .nils]) ∧
  (∀ H b o, loadAV EE H 65 b o = (cellsAt H b o 3).omap .agg) ∧
  (∀ cs o, partAV EE 65 cs o = (takeE 3 (dropL o cs)).omap .agg) ∧
  (∀ H p x, storeV EE H 65 p x = storeN H 3 p x) ∧
  EE.flat 65 = none ∧
  kindOf EE 67 = .func ∧
  sizeT EE 67 = 1 ∧
  bytesT EE 67 = 8 ∧
  zeroT EE 67 = some (.nilf) ∧
  (∀ H b o, loadAV EE H 67 b o = cellAt H b o) ∧
  (∀ cs o, partAV EE 67 cs o = getL cs o) ∧
  (∀ H p x, storeV EE H 67 p x = storeN H 1 p x) ∧
  EE.flat 67 = none ∧
  kindOf EE 68 = .func ∧
  sizeT EE 68 = 1 ∧
  bytesT EE 68 = 8 ∧
  zeroT EE 68 = some (.nilf) ∧
  (∀ H b o, loadAV EE H 68 b o = cellAt H b o) ∧
  (∀ cs o, partAV EE 68 cs o = getL cs o) ∧
  (∀ H p x, storeV EE H 68 p x = storeN H 1 p x) ∧
  EE.flat 68 = none ∧
  kindOf EE 70 = .ptr 136 ∧
  sizeT EE 70 = 1 ∧
  bytesT EE 70 = 8 ∧
  zeroT EE 70 = some (.nilp) ∧
  (∀ H b o, loadAV EE H 70 b o = cellAt H b o) ∧
  (∀ cs o, partAV EE 70 cs o = getL cs o) ∧
  (∀ H p x, storeV EE H 70 p x = storeN H 1 p x) ∧
  EE.flat 70 = none ∧
  kindOf EE 71 = .func ∧
  sizeT EE 71 = 1 ∧
  bytesT EE 71 = 8 ∧
  zeroT EE 71 = some (.nilf) ∧
  (∀ H b o, loadAV EE H 71 b o = cellAt H b o) ∧
  (∀ cs o, partAV EE 71 cs o = getL cs o) ∧
  (∀ H p x, storeV EE H 71 p x = storeN H 1 p x) ∧
  EE.flat 71 = none ∧
  kindOf EE 72 = .func ∧
  sizeT EE 72 = 1 ∧
  bytesT EE 72 = 8 ∧
  zeroT EE 72 = some (.nilf) ∧
  (∀ H b o, loadAV EE H 72 b o = cellAt H b o) ∧
  (∀ cs o, partAV EE 72 cs o = getL cs o) ∧
  (∀ H p x, storeV EE H 72 p x = storeN H 1 p x) ∧
  EE.flat 72 = none ∧
  kindOf EE 74 = .func ∧
  sizeT EE 74 = 1 ∧
  bytesT EE 74 = 8 ∧
  zeroT EE 74 = some (.nilf) ∧
  (∀ H b o, loadAV EE H 74 b o = cellAt H b o) ∧
  (∀ cs o, partAV EE 74 cs o = getL cs o) ∧
  (∀ H p x, storeV EE H 74 p x = storeN H 1 p x) ∧
  EE.flat 74 = none ∧
  kindOf EE 75 = .func ∧
  sizeT EE 75 = 1 ∧
  bytesT EE 75 = 8 ∧
  zeroT EE 75 = some (.nilf) ∧
  (∀ H b o, loadAV EE H 75 b o = cellAt H b o) ∧
  (∀ cs o, partAV EE 75 cs o = getL cs o) ∧
  (∀ H p x, storeV EE H 75 p x = storeN H 1 p x) ∧
  EE.flat 75 = none ∧
  kindOf EE 76 = .func ∧
  sizeT EE 76 = 1 ∧
  bytesT EE 76 = 8 ∧
  zeroT EE 76 = some (.nilf) ∧
  (∀ H b o, loadAV EE H 76 b o = cellAt H b o) ∧
  (∀ cs o, partAV EE 76 cs o = getL cs o) ∧
  (∀ H p x, storeV EE H 76 p x = storeN H 1 p x) ∧
  EE.flat 76 = none ∧
  kindOf EE 77 = .func ∧
  sizeT EE 77 = 1 ∧
  bytesT EE 77 = 8 ∧
  zeroT EE 77 = some (.nilf) ∧
  (∀ H b o, loadAV EE H 77 b o = cellAt H b o) ∧
  (∀ cs o, partAV EE 77 cs o = getL cs o) ∧
  (∀ H p x, storeV EE H 77 p x = storeN H 1 p x) ∧
  EE.flat 77 = none ∧
  kindOf EE 78 = .func ∧
  sizeT EE 78 = 1 ∧
  bytesT EE 78 = 8 ∧
  zeroT EE 78 = some (.nilf) ∧
  (∀ H b o, loadAV EE H 78 b o = cellAt H b o) ∧
  (∀ cs o, partAV EE 78 cs o = getL cs o) ∧
  (∀ H p x, storeV EE H 78 p x = storeN H 1 p x) ∧
  EE.flat 78 = none ∧
  kindOf EE 79 = .func ∧
  sizeT EE 79 = 1 ∧
  bytesT EE 79 = 8 ∧
  zeroT EE 79 = some (.nilf) ∧
  (∀ H b o, loadAV EE H 79 b o = cellAt H b o) ∧
  (∀ cs o, partAV EE 79 cs o = getL cs o) ∧
  (∀ H p x, storeV EE H 79 p x = storeN H 1 p x) ∧
  EE.flat 79 = none ∧
  kindOf EE 80 = .func ∧
  sizeT EE 80 = 1 ∧
  bytesT EE 80 = 8 ∧
  zeroT EE 80 = some (.nilf) ∧
  (∀ H b o, loadAV EE H 80 b o = cellAt H b o) ∧
  (∀ cs o, partAV EE 80 cs o = getL cs o) ∧
  (∀ H p x, storeV EE H 80 p x = storeN H 1 p x) ∧
  EE.flat 80 = none ∧
  kindOf EE 82 = .func ∧
  sizeT EE 82 = 1 ∧
  bytesT EE 82 = 8 ∧
  zeroT EE 82 = some (.nilf) ∧
  (∀ H b o, loadAV EE H 82 b o = cellAt H b o) ∧
  (∀ cs o, partAV EE 82 cs o = getL cs o) ∧
  (∀ H p x, storeV EE H 82 p x = storeN H 1 p x) ∧
  EE.flat 82 = none ∧
  kindOf EE 83 = .func ∧
  sizeT EE 83 = 1 ∧
  bytesT EE 83 = 8 ∧
  zeroT EE 83 = some (.nilf) ∧
  (∀ H b o, loadAV EE H 83 b o = cellAt H b o) ∧
  (∀ cs o, partAV EE 83 cs o = getL cs o) ∧
  (∀ H p x, storeV EE H 83 p x = storeN H 1 p x) ∧
  EE.flat 83 = none ∧
  kindOf EE 84 = .ptr 65 ∧
  sizeT EE 84 = 1 ∧
  bytesT EE 84 = 8 ∧
  zeroT EE 84 = some (.nilp) ∧
  (∀ H b o, loadAV EE H 84 b o = cellAt H b o) ∧
  (∀ cs o, partAV EE 84 cs o = getL cs o) ∧
  (∀ H p x, storeV EE H 84 p x = storeN H 1 p x) ∧
  EE.flat 84 = none ∧
  kindOf EE 85 = .func ∧
  sizeT EE 85 = 1 ∧
  bytesT EE 85 = 8 ∧
  zeroT EE 85 = some (.nilf) ∧
  (∀ H b o, loadAV EE H 85 b o = cellAt H b o) ∧
  (∀ cs o, partAV EE 85 cs o = getL cs o) ∧
  (∀ H p x, storeV EE H 85 p x = storeN H 1 p x) ∧
  EE.flat 85 = none ∧
  kindOf EE 86 = .func ∧
  sizeT EE 86 = 1 ∧
  bytesT EE 86 = 8 ∧
  zeroT EE 86 = some (.nilf) ∧
  (∀ H b o, loadAV EE H 86 b o = cellAt H b o) ∧
  (∀ cs o, partAV EE 86 cs o = getL cs o) ∧
  (∀ H p x, storeV EE H 86 p x = storeN H 1 p x) ∧
  EE.flat 86 = none ∧
  kindOf EE 87 = .func ∧
  sizeT EE 87 = 1 ∧
  bytesT EE 87 = 8 ∧
  zeroT EE 87 = some (.nilf) ∧
  (∀ H b o, loadAV EE H 87 b o = cellAt H b o) ∧
  (∀ cs o, partAV EE 87 cs o = getL cs o) ∧
  (∀ H p x, storeV EE H 87 p x = storeN H 1 p x) ∧
  EE.flat 87 = none ∧
  kindOf EE 88 = .func ∧
  sizeT EE 88 = 1 ∧
  bytesT EE 88 = 8 ∧
  zeroT EE 88 = some (.nilf) ∧
  (∀ H b o, loadAV EE H 88 b o = cellAt H b o) ∧
  (∀ cs o, partAV EE 88 cs o = getL cs o) ∧
  (∀ H p x, storeV EE H 88 p x = storeN H 1 p x) ∧
  EE.flat 88 = none ∧
  kindOf EE 89 = .func ∧
  sizeT EE 89 = 1 ∧
  bytesT EE 89 = 8 ∧
  zeroT EE 89 = some (.nilf) ∧
  (∀ H b o, loadAV EE H 89 b o = cellAt H b o) ∧
  (∀ cs o, partAV EE 89 cs o = getL cs o) ∧
  (∀ H p x, storeV EE H 89 p x = storeN H 1 p x) ∧
  EE.flat 89 = none ∧
  kindOf EE 90 = .func ∧
  sizeT EE 90 = 1 ∧
  bytesT EE 90 = 8 ∧
  zeroT EE 90 = some (.nilf) ∧
  (∀ H b o, loadAV EE H 90 b o = cellAt H b o) ∧
  (∀ cs o, partAV EE 90 cs o = getL cs o) ∧
  (∀ H p x, storeV EE H 90 p x = storeN H 1 p x) ∧
  EE.flat 90 = none ∧
  kindOf EE 91 = .func ∧
  sizeT EE 91 = 1 ∧
  bytesT EE 91 = 8 ∧
  zeroT EE 91 = some (.nilf) ∧
  (∀ H b o, loadAV EE H 91 b o = cellAt H b o) ∧
  (∀ cs o, partAV EE 91 cs o = getL cs o) ∧
  (∀ H p x, storeV EE H 91 p x = storeN H 1 p x) ∧
  EE.flat 91 = none ∧
  kindOf EE 92 = .struct [(0, 3), (1, 5), (2, 4)] ∧
  sizeT EE 92 = 3 ∧
  bytesT EE 92 = 16 ∧
  zeroT EE 92 = some (.agg [.int .i64 0, .int .u8 0, .bool false]) ∧
  (∀ H b o, loadAV EE H 92 b o = (cellsAt H b o 3).omap .agg) ∧
  (∀ cs o, partAV EE 92 cs o = (takeE 3 (dropL o cs)).omap .agg) ∧
  (∀ H p x, storeV EE H 92 p x = storeN H 3 p x) ∧
  EE.flat 92 = none ∧
  kindOf EE 93 = .struct [(0, 3), (1, 5), (2, 4)] ∧
  sizeT EE 93 = 3 ∧
  bytesT EE 93 = 16 ∧
  zeroT EE 93 = some (.agg [.int .i64 0, .int .u8 0, .bool false]) ∧
  (∀ H b o, loadAV EE H 93 b o = (cellsAt H b o 3).omap .agg) ∧
  (∀ cs o, partAV EE 93 cs o = (takeE 3 (dropL o cs)).omap .agg) ∧
  (∀ H p x, storeV EE H 93 p x = storeN H 3 p x) ∧
  EE.flat 93 = none ∧
  kindOf EE 94 = .func ∧
  sizeT EE 94 = 1 ∧
  bytesT EE 94 = 8 ∧
  zeroT EE 94 = some (.nilf) ∧
  (∀ H b o, loadAV EE H 94 b o = cellAt H b o) ∧
  (∀ cs o, partAV EE 94 cs o = getL cs o) ∧
  (∀ H p x, storeV EE H 94 p x = storeN H 1 p x) ∧
  EE.flat 94 = none ∧
  kindOf EE 95 = .func ∧
  sizeT EE 95 = 1 ∧
  bytesT EE 95 = 8 ∧
  zeroT EE 95 = some (.nilf) ∧
  (∀ H b o, loadAV EE H 95 b o = cellAt H b o) ∧
  (∀ cs o, partAV EE 95 cs o = getL cs o) ∧
  (∀ H p x, storeV EE H 95 p x = storeN H 1 p x) ∧
  EE.flat 95 = none ∧
  kindOf EE 96 = .func ∧
  sizeT EE 96 = 1 ∧
  bytesT EE 96 = 8 ∧
  zeroT EE 96 = some (.nilf) ∧
  (∀ H b o, loadAV EE H 96 b o = cellAt H b o) ∧
  (∀ cs o, partAV EE 96 cs o = getL cs o) ∧
  (∀ H p x, storeV EE H 96 p x = storeN H 1 p x) ∧
  EE.flat 96 = none ∧
  kindOf EE 97 = .func ∧
  sizeT EE 97 = 1 ∧
  bytesT EE 97 = 8 ∧
  zeroT EE 97 = some (.nilf) ∧
  (∀ H b o, loadAV EE H 97 b o = cellAt H b o) ∧
  (∀ cs o, partAV EE 97 cs o = getL cs o) ∧
  (∀ H p x, storeV EE H 97 p x = storeN H 1 p x) ∧
  EE.flat 97 = none ∧
  kindOf EE 98 = .func ∧
  sizeT EE 98 = 1 ∧
  bytesT EE 98 = 8 ∧
  zeroT EE 98 = some (.nilf) ∧
  (∀ H b o, loadAV EE H 98 b o = cellAt H b o) ∧
  (∀ cs o, partAV EE 98 cs o = getL cs o) ∧
  (∀ H p x, storeV EE H 98 p x = storeN H 1 p x) ∧
  EE.flat 98 = none ∧
  kindOf EE 99 = .func ∧
  sizeT EE 99 = 1 ∧
  bytesT EE 99 = 8 ∧
  zeroT EE 99 = some (.nilf) ∧
  (∀ H b o, loadAV EE H 99 b o = cellAt H b o) ∧
  (∀ cs o, partAV EE 99 cs o = getL cs o) ∧
  (∀ H p x, storeV EE H 99 p x = storeN H 1 p x) ∧
  EE.flat 99 = none ∧
  kindOf EE 100 = .func ∧
  sizeT EE 100 = 1 ∧
  bytesT EE 100 = 8 ∧
  zeroT EE 100 = some (.nilf) ∧
  (∀ H b o, loadAV EE H 100 b o = cellAt H b o) ∧
  (∀ cs o, partAV EE 100 cs o = getL cs o) ∧
  (∀ H p x, storeV EE H 100 p x = storeN H 1 p x) ∧
  EE.flat 100 = none ∧
  kindOf EE 101 = .func ∧
  sizeT EE 101 = 1 ∧
  bytesT EE 101 = 8 ∧
  zeroT EE 101 = some (.nilf) ∧
  (∀ H b o, loadAV EE H 101 b o = cellAt H b o) ∧
  (∀ cs o, partAV EE 101 cs o = getL cs o) ∧
  (∀ H p x, storeV EE H 101 p x = storeN H 1 p x) ∧
  EE.flat 101 = none ∧
  kindOf EE 102 = .func ∧
  sizeT EE 102 = 1 ∧
  bytesT EE 102 = 8 ∧
  zeroT EE 102 = some (.nilf) ∧
  (∀ H b o, loadAV EE H 102 b o = cellAt H b o) ∧
  (∀ cs o, partAV EE 102 cs o = getL cs o) ∧
  (∀ H p x, storeV EE H 102 p x = storeN H 1 p x) ∧
  EE.flat 102 = none ∧
  kindOf EE 103 = .func ∧
  sizeT EE 103 = 1 ∧
  bytesT EE 103 = 8 ∧
  zeroT EE 103 = some (.nilf) ∧
  (∀ H b o, loadAV EE H 103 b o = cellAt H b o) ∧
  (∀ cs o, partAV EE 103 cs o = getL cs o) ∧
  (∀ H p x, storeV EE H 103 p x = storeN H 1 p x) ∧
  EE.flat 103 = none ∧
  kindOf EE 104 = .func ∧
  sizeT EE 104 = 1 ∧
  bytesT EE 104 = 8 ∧
  zeroT EE 104 = some (.nilf) ∧
  (∀ H b o, loadAV EE H 104 b o = cellAt H b o) ∧
  (∀ cs o, partAV EE 104 cs o = getL cs o) ∧
  (∀ H p x, storeV EE H 104 p x = storeN H 1 p x) ∧
  EE.flat 104 = none ∧
  kindOf EE 105 = .func ∧
  sizeT EE 105 = 1 ∧
  bytesT EE 105 = 8 ∧
  zeroT EE 105 = some (.nilf) ∧
  (∀ H b o, loadAV EE H 105 b o = cellAt H b o) ∧
  (∀ cs o, partAV EE 105 cs o = getL cs o) ∧
  (∀ H p x, storeV EE H 105 p x = storeN H 1 p x) ∧
  EE.flat 105 = none ∧
  kindOf EE 106 = .func ∧
  sizeT EE 106 = 1 ∧
  bytesT EE 106 = 8 ∧
  zeroT EE 106 = some (.nilf) ∧
  (∀ H b o, loadAV EE H 106 b o = cellAt H b o) ∧
  (∀ cs o, partAV EE 106 cs o = getL cs o) ∧
  (∀ H p x, storeV EE H 106 p x = storeN H 1 p x) ∧
  EE.flat 106 = none ∧
  kindOf EE 107 = .struct [(0, 3), (1, 3)] ∧
  sizeT EE 107 = 2 ∧
  bytesT EE 107 = 16 ∧
  zeroT EE 107 = some (.agg [.int .i64 0, .int .i64 0]) ∧
  (∀ H b o, loadAV EE H 107 b o = (cellsAt H b o 2).omap .agg) ∧
  (∀ cs o, partAV EE 107 cs o = (takeE 2 (dropL o cs)).omap .agg) ∧
  (∀ H p x, storeV EE H 107 p x = storeN H 2 p x) ∧
  EE.flat 107 = some (false, 2) ∧
  kindOf EE 108 = .struct [(0, 3), (1, 3)] ∧
  sizeT EE 108 = 2 ∧
  bytesT EE 108 = 16 ∧
  zeroT EE 108 = some (.agg [.int .i64 0, .int .i64 0]) ∧
  (∀ H b o, loadAV EE H 108 b o = (cellsAt H b o 2).omap .agg) ∧
  (∀ cs o, partAV EE 108 cs o = (takeE 2 (dropL o cs)).omap .agg) ∧
  (∀ H p x, storeV EE H 108 p x = storeN H 2 p x) ∧
  EE.flat 108 = some (false, 2) ∧
  kindOf EE 109 = .func ∧
  sizeT EE 109 = 1 ∧
  bytesT EE 109 = 8 ∧
  zeroT EE 109 = some (.nilf) ∧
  (∀ H b o, loadAV EE H 109 b o = cellAt H b o) ∧
  (∀ cs o, partAV EE 109 cs o = getL cs o) ∧
  (∀ H p x, storeV EE H 109 p x = storeN H 1 p x) ∧
  EE.flat 109 = none ∧
  kindOf EE 111 = .func ∧
  sizeT EE 111 = 1 ∧
  bytesT EE 111 = 8 ∧
  zeroT EE 111 = some (.nilf) ∧
  (∀ H b o, loadAV EE H 111 b o = cellAt H b o) ∧
  (∀ cs o, partAV EE 111 cs o = getL cs o) ∧
  (∀ H p x, storeV EE H 111 p x = storeN H 1 p x) ∧
  EE.flat 111 = none ∧
  kindOf EE 112 = .func ∧
  sizeT EE 112 = 1 ∧
  bytesT EE 112 = 8 ∧
  zeroT EE 112 = some (.nilf) ∧
  (∀ H b o, loadAV EE H 112 b o = cellAt H b o) ∧
  (∀ cs o, partAV EE 112 cs o = getL cs o) ∧
  (∀ H p x, storeV EE H 112 p x = storeN H 1 p x) ∧
  EE.flat 112 = none ∧
  kindOf EE 114 = .func ∧
  sizeT EE 114 = 1 ∧
  bytesT EE 114 = 8 ∧
  zeroT EE 114 = some (.nilf) ∧
  (∀ H b o, loadAV EE H 114 b o = cellAt H b o) ∧
  (∀ cs o, partAV EE 114 cs o = getL cs o) ∧
  (∀ H p x, storeV EE H 114 p x = storeN H 1 p x) ∧
  EE.flat 114 = none ∧
  kindOf EE 116 = .func ∧
  sizeT EE 116 = 1 ∧
  bytesT EE 116 = 8 ∧
  zeroT EE 116 = some (.nilf) ∧
  (∀ H b o, loadAV EE H 116 b o = cellAt H b o) ∧
  (∀ cs o, partAV EE 116 cs o = getL cs o) ∧
  (∀ H p x, storeV EE H 116 p x = storeN H 1 p x) ∧
  EE.flat 116 = none ∧
  kindOf EE 117 = .ptr 194 ∧
  sizeT EE 117 = 1 ∧
  bytesT EE 117 = 8 ∧
  zeroT EE 117 = some (.nilp) ∧
  (∀ H b o, loadAV EE H 117 b o = cellAt H b o) ∧
  (∀ cs o, partAV EE 117 cs o = getL cs o) ∧
  (∀ H p x, storeV EE H 117 p x = storeN H 1 p x) ∧
  EE.flat 117 = none ∧
  kindOf EE 118 = .slice 34 ∧
  sizeT EE 118 = 1 ∧
  bytesT EE 118 = 24 ∧
  zeroT EE 118 = some (.nils) ∧
  (∀ H b o, loadAV EE H 118 b o = cellAt H b o) ∧
  (∀ cs o, partAV EE 118 cs o = getL cs o) ∧
  (∀ H p x, storeV EE H 118 p x = storeN H 1 p x) ∧
  EE.flat 118 = none ∧
  kindOf EE 119 = .struct [(0, 56), (5, 49), (11, 49), (17, 117), (18, 118), (19, 118), (20, 118)] ∧
  sizeT EE 119 = 21 ∧
  bytesT EE 119 = 312 ∧
  zeroT EE 119 = some (.agg [.int .i64 0, .int .i64 0, .int .i64 0, .int .i64 0, .int .i64 0, .nils, .nils, .int .i64 0, .int .i64 0, .int .i64 0, .nils, .nils, .nils, .int .i64 0, .int .i64 0, .int .i64 0, .nils, .nilp, .nils, .nils, .nils]) ∧
  (∀ H b o, loadAV EE H 119 b o = (cellsAt H b o 21).omap .agg) ∧
  (∀ cs o, partAV EE 119 cs o = (takeE 21 (dropL o cs)).omap .agg) ∧
  (∀ H p x, storeV EE H 119 p x = storeN H 21 p x) ∧
  EE.flat 119 = none ∧
  kindOf EE 120 = .struct [(0, 56), (5, 49), (11, 49), (17, 117), (18, 118), (19, 118), (20, 118)] ∧
  sizeT EE 120 = 21 ∧
  bytesT EE 120 = 312 ∧
  zeroT EE 120 = some (.agg [.int .i64 0, .int .i64 0, .int .i64 0, .int .i64 0, .int .i64 0, .nils, .nils, .int .i64 0, .int .i64 0, .int .i64 0, .nils, .nils, .nils, .int .i64 0, .int .i64 0, .int .i64 0, .nils, .nilp, .nils, .nils, .nils]) ∧
  (∀ H b o, loadAV EE H 120 b o = (cellsAt H b o 21).omap .agg) ∧
  (∀ cs o, partAV EE 120 cs o = (takeE 21 (dropL o cs)).omap .agg) ∧
  (∀ H p x, storeV EE H 120 p x = storeN H 21 p x) ∧
  EE.flat 120 = none ∧
  kindOf EE 121 = .func ∧
  sizeT EE 121 = 1 ∧
  bytesT EE 121 = 8 ∧
  zeroT EE 121 = some (.nilf) ∧
  (∀ H b o, loadAV EE H 121 b o = cellAt H b o) ∧
  (∀ cs o, partAV EE 121 cs o = getL cs o) ∧
  (∀ H p x, storeV EE H 121 p x = storeN H 1 p x) ∧
  EE.flat 121 = none ∧
  kindOf EE 122 = .func ∧
  sizeT EE 122 = 1 ∧
  bytesT EE 122 = 8 ∧
  zeroT EE 122 = some (.nilf) ∧
  (∀ H b o, loadAV EE H 122 b o = cellAt H b o) ∧
  (∀ cs o, partAV EE 122 cs o = getL cs o) ∧
  (∀ H p x, storeV EE H 122 p x = storeN H 1 p x) ∧
  EE.flat 122 = none ∧
  kindOf EE 123 = .func ∧
  sizeT EE 123 = 1 ∧
  bytesT EE 123 = 8 ∧
  zeroT EE 123 = some (.nilf) ∧
  (∀ H b o, loadAV EE H 123 b o = cellAt H b o) ∧
  (∀ cs o, partAV EE 123 cs o = getL cs o) ∧
  (∀ H p x, storeV EE H 123 p x = storeN H 1 p x) ∧
  EE.flat 123 = none ∧
  kindOf EE 124 = .func ∧
  sizeT EE 124 = 1 ∧
  bytesT EE 124 = 8 ∧
  zeroT EE 124 = some (.nilf) ∧
  (∀ H b o, loadAV EE H 124 b o = cellAt H b o) ∧
  (∀ cs o, partAV EE 124 cs o = getL cs o) ∧
  (∀ H p x, storeV EE H 124 p x = storeN H 1 p x) ∧
  EE.flat 124 = none ∧
  kindOf EE 125 = .func ∧
  sizeT EE 125 = 1 ∧
  bytesT EE 125 = 8 ∧
  zeroT EE 125 = some (.nilf) ∧
  (∀ H b o, loadAV EE H 125 b o = cellAt H b o) ∧
  (∀ cs o, partAV EE 125 cs o = getL cs o) ∧
  (∀ H p x, storeV EE H 125 p x = storeN H 1 p x) ∧
  EE.flat 125 = none ∧
  kindOf EE 126 = .func ∧
  sizeT EE 126 = 1 ∧
  bytesT EE 126 = 8 ∧
  zeroT EE 126 = some (.nilf) ∧
  (∀ H b o, loadAV EE H 126 b o = cellAt H b o) ∧
  (∀ cs o, partAV EE 126 cs o = getL cs o) ∧
  (∀ H p x, storeV EE H 126 p x = storeN H 1 p x) ∧
  EE.flat 126 = none ∧
  kindOf EE 127 = .struct [(0, 3), (1, 3)] ∧
  sizeT EE 127 = 2 ∧
  bytesT EE 127 = 16 ∧
  zeroT EE 127 = some (.agg [.int .i64 0, .int .i64 0]) ∧
  (∀ H b o, loadAV EE H 127 b o = (cellsAt H b o 2).omap .agg) ∧
  (∀ cs o, partAV EE 127 cs o = (takeE 2 (dropL o cs)).omap .agg) ∧
  (∀ H p x, storeV EE H 127 p x = storeN H 2 p x) ∧
  EE.flat 127 = some (false, 2) ∧
  kindOf EE 128 = .struct [(0, 3), (1, 3)] ∧
  sizeT EE 128 = 2 ∧
  bytesT EE 128 = 16 ∧
  zeroT EE 128 = some (.agg [.int .i64 0, .int .i64 0]) ∧
  (∀ H b o, loadAV EE H 128 b o = (cellsAt H b o 2).omap .agg) ∧
  (∀ cs o, partAV EE 128 cs o = (takeE 2 (dropL o cs)).omap .agg) ∧
  (∀ H p x, storeV EE H 128 p x = storeN H 2 p x) ∧
  EE.flat 128 = some (false, 2) ∧
  kindOf EE 129 = .func ∧
  sizeT EE 129 = 1 ∧
  bytesT EE 129 = 8 ∧
  zeroT EE 129 = some (.nilf) ∧
  (∀ H b o, loadAV EE H 129 b o = cellAt H b o) ∧
  (∀ cs o, partAV EE 129 cs o = getL cs o) ∧
  (∀ H p x, storeV EE H 129 p x = storeN H 1 p x) ∧
  EE.flat 129 = none ∧
  kindOf EE 130 = .func ∧
  sizeT EE 130 = 1 ∧
  bytesT EE 130 = 8 ∧
  zeroT EE 130 = some (.nilf) ∧
  (∀ H b o, loadAV EE H 130 b o = cellAt H b o) ∧
  (∀ cs o, partAV EE 130 cs o = getL cs o) ∧
  (∀ H p x, storeV EE H 130 p x = storeN H 1 p x) ∧
  EE.flat 130 = none ∧
  kindOf EE 131 = .ptr 207 ∧
  sizeT EE 131 = 1 ∧
  bytesT EE 131 = 8 ∧
  zeroT EE 131 = some (.nilp) ∧
  (∀ H b o, loadAV EE H 131 b o = cellAt H b o) ∧
  (∀ cs o, partAV EE 131 cs o = getL cs o) ∧
  (∀ H p x, storeV EE H 131 p x = storeN H 1 p x) ∧
  EE.flat 131 = none ∧
  kindOf EE 132 = .struct [(0, 52), (1, 131), (2, 49), (8, 70)] ∧
  sizeT EE 132 = 9 ∧
  bytesT EE 132 = 120 ∧
  zeroT EE 132 = some (.agg [.nilp, .nilp, .nils, .nils, .int .i64 0, .int .i64 0, .int .i64 0, .nils, .nilp]) ∧
  (∀ H b o, loadAV EE H 132 b o = (cellsAt H b o 9).omap .agg) ∧
  (∀ cs o, partAV EE 132 cs o = (takeE 9 (dropL o cs)).omap .agg) ∧
  (∀ H p x, storeV EE H 132 p x = storeN H 9 p x) ∧
  EE.flat 132 = none ∧
  kindOf EE 133 = .struct [(0, 52), (1, 131), (2, 49), (8, 70)] ∧
  sizeT EE 133 = 9 ∧
  bytesT EE 133 = 120 ∧
  zeroT EE 133 = some (.agg [.nilp, .nilp, .nils, .nils, .int .i64 0, .int .i64 0, .int .i64 0, .nils, .nilp]) ∧
  (∀ H b o, loadAV EE H 133 b o = (cellsAt H b o 9).omap .agg) ∧
  (∀ cs o, partAV EE 133 cs o = (takeE 9 (dropL o cs)).omap .agg) ∧
  (∀ H p x, storeV EE H 133 p x = storeN H 9 p x) ∧
  EE.flat 133 = none ∧
  kindOf EE 134 = .slice 138 ∧
  sizeT EE 134 = 1 ∧
  bytesT EE 134 = 24 ∧
  zeroT EE 134 = some (.nils) ∧
  (∀ H b o, loadAV EE H 134 b o = cellAt H b o) ∧
  (∀ cs o, partAV EE 134 cs o = getL cs o) ∧
  (∀ H p x, storeV EE H 134 p x = storeN H 1 p x) ∧
  EE.flat 134 = none ∧
  kindOf EE 135 = .struct [(0, 3), (1, 3), (2, 134), (3, 22)] ∧
  sizeT EE 135 = 4 ∧
  bytesT EE 135 = 64 ∧
  zeroT EE 135 = some (.agg [.int .i64 0, .int .i64 0, .nils, .nils]) ∧
  (∀ H b o, loadAV EE H 135 b o = (cellsAt H b o 4).omap .agg) ∧
  (∀ cs o, partAV EE 135 cs o = (takeE 4 (dropL o cs)).omap .agg) ∧
  (∀ H p x, storeV EE H 135 p x = storeN H 4 p x) ∧
  EE.flat 135 = none ∧
  kindOf EE 136 = .struct [(0, 3), (1, 3), (2, 134), (3, 22)] ∧
  sizeT EE 136 = 4 ∧
  bytesT EE 136 = 64 ∧
  zeroT EE 136 = some (.agg [.int .i64 0, .int .i64 0, .nils, .nils]) ∧
  (∀ H b o, loadAV EE H 136 b o = (cellsAt H b o 4).omap .agg) ∧
  (∀ cs o, partAV EE 136 cs o = (takeE 4 (dropL o cs)).omap .agg) ∧
  (∀ H p x, storeV EE H 136 p x = storeN H 4 p x) ∧
  EE.flat 136 = none ∧
  kindOf EE 137 = .struct [(0, 3), (1, 4), (2, 4)] ∧
  sizeT EE 137 = 3 ∧
  bytesT EE 137 = 16 ∧
  zeroT EE 137 = some (.agg [.int .i64 0, .bool false, .bool false]) ∧
  (∀ H b o, loadAV EE H 137 b o = (cellsAt H b o 3).omap .agg) ∧
  (∀ cs o, partAV EE 137 cs o = (takeE 3 (dropL o cs)).omap .agg) ∧
  (∀ H p x, storeV EE H 137 p x = storeN H 3 p x) ∧
  EE.flat 137 = none ∧
  kindOf EE 138 = .struct [(0, 3), (1, 4), (2, 4)] ∧
  sizeT EE 138 = 3 ∧
  bytesT EE 138 = 16 ∧
  zeroT EE 138 = some (.agg [.int .i64 0, .bool false, .bool false]) ∧
  (∀ H b o, loadAV EE H 138 b o = (cellsAt H b o 3).omap .agg) ∧
  (∀ cs o, partAV EE 138 cs o = (takeE 3 (dropL o cs)).omap .agg) ∧
  (∀ H p x, storeV EE H 138 p x = storeN H 3 p x) ∧
  EE.flat 138 = none ∧
  kindOf EE 139 = .ptr 138 ∧
  sizeT EE 139 = 1 ∧
  bytesT EE 139 = 8 ∧
  zeroT EE 139 = some (.nilp) ∧
  (∀ H b o, loadAV EE H 139 b o = cellAt H b o) ∧
  (∀ cs o, partAV EE 139 cs o = getL cs o) ∧
  (∀ H p x, storeV EE H 139 p x = storeN H 1 p x) ∧
  EE.flat 139 = none ∧
  kindOf EE 140 = .func ∧
  sizeT EE 140 = 1 ∧
  bytesT EE 140 = 8 ∧
  zeroT EE 140 = some (.nilf) ∧
  (∀ H b o, loadAV EE H 140 b o = cellAt H b o) ∧
  (∀ cs o, partAV EE 140 cs o = getL cs o) ∧
  (∀ H p x, storeV EE H 140 p x = storeN H 1 p x) ∧
  EE.flat 140 = none :=
  ⟨trivial,
   by kernel_rfl,
   by kernel_rfl,
   by kernel_rfl,
   by kernel_rfl,
   load_one (by kernel_rfl),
   part_one (by kernel_rfl),
   store_n (by kernel_rfl),
   by kernel_rfl,
   by kernel_rfl,
   by kernel_rfl,
   by kernel_rfl,
   by kernel_rfl,
   load_one (by kernel_rfl),
   part_one (by kernel_rfl),
   store_n (by kernel_rfl),
   by kernel_rfl,
   by kernel_rfl,
   by kernel_rfl,
   by kernel_rfl,
   by kernel_rfl,
   load_one (by kernel_rfl),
   part_one (by kernel_rfl),
   store_n (by kernel_rfl),
   by kernel_rfl,
   by kernel_rfl,
   by kernel_rfl,
   by kernel_rfl,
   by kernel_rfl,
   load_one (by kernel_rfl),
   part_one (by kernel_rfl),
   store_n (by kernel_rfl),
   by kernel_rfl,
   by kernel_rfl,
   by kernel_rfl,
   by kernel_rfl,
   by kernel_rfl,
   load_one (by kernel_rfl),
   part_one (by kernel_rfl),
   store_n (by kernel_rfl),
   by kernel_rfl,
   by kernel_rfl,
   by kernel_rfl,
   by kernel_rfl,
   by kernel_rfl,
   load_one (by kernel_rfl),
   part_one (by kernel_rfl),
   store_n (by kernel_rfl),
   by kernel_rfl,
   by kernel_rfl,
   by kernel_rfl,
   by kernel_rfl,
   by kernel_rfl,
   load_agg (by kernel_rfl),
   part_agg (by kernel_rfl),
   store_n (by kernel_rfl),
   by kernel_rfl,
   by kernel_rfl,
   by kernel_rfl,
   by kernel_rfl,
   by kernel_rfl,
   load_agg (by kernel_rfl),
   part_agg (by kernel_rfl),
   store_n (by kernel_rfl),
   by kernel_rfl,
   by kernel_rfl,
   by kernel_rfl,
   by kernel_rfl,
   by kernel_rfl,
   load_one (by kernel_rfl),
   part_one (by kernel_rfl),
   store_n (by kernel_rfl),
   by kernel_rfl,
   by kernel_rfl,
   by kernel_rfl,
   by kernel_rfl,
   by kernel_rfl,
   load_one (by kernel_rfl),
   part_one (by kernel_rfl),
   store_n (by kernel_rfl),
   by kernel_rfl,
   by kernel_rfl,
   by kernel_rfl,
   by kernel_rfl,
   by kernel_rfl,
   load_one (by kernel_rfl),
   part_one (by kernel_rfl),
   store_n (by kernel_rfl),
   by kernel_rfl,
   by kernel_rfl,
   by kernel_rfl,
   by kernel_rfl,
   by kernel_rfl,
   load_one (by kernel_rfl),
   part_one (by kernel_rfl),
   store_n (by kernel_rfl),
   by kernel_rfl,
   by kernel_rfl,
   by kernel_rfl,
   by kernel_rfl,
   by kernel_rfl,
   load_agg (by kernel_rfl),
   part_agg (by kernel_rfl),
   store_n (by kernel_rfl),
   by kernel_rfl,
   by kernel_rfl,
   by kernel_rfl,
   by kernel_rfl,
   by kernel_rfl,
   load_agg (by kernel_rfl),
   part_agg (by kernel_rfl),
   store_n (by kernel_rfl),
   by kernel_rfl,
   by kernel_rfl,
   by kernel_rfl,
   by kernel_rfl,
   by kernel_rfl,
   load_one (by kernel_rfl),
   part_one (by kernel_rfl),
   store_n (by kernel_rfl),
   by kernel_rfl,
   by kernel_rfl,
   by kernel_rfl,
   by kernel_rfl,
   by kernel_rfl,
   load_one (by kernel_rfl),
   part_one (by kernel_rfl),
   store_n (by kernel_rfl),
   by kernel_rfl,
   by kernel_rfl,
   by kernel_rfl,
   by kernel_rfl,
   by kernel_rfl,
   load_one (by kernel_rfl),
   part_one (by kernel_rfl),
   store_n (by kernel_rfl),
   by kernel_rfl,
   by kernel_rfl,
   by kernel_rfl,
   by kernel_rfl,
   by kernel_rfl,
   load_agg (by kernel_rfl),
   part_agg (by kernel_rfl),
   store_n (by kernel_rfl),
   by kernel_rfl,
   by kernel_rfl,
   by kernel_rfl,
   by kernel_rfl,
   by kernel_rfl,
   load_agg (by kernel_rfl),
   part_agg (by kernel_rfl),
   store_n (by kernel_rfl),
   by kernel_rfl,
   by kernel_rfl,
   by kernel_rfl,
   by kernel_rfl,
   by kernel_rfl,
   load_one (by kernel_rfl),
   part_one (by kernel_rfl),
   store_n (by kernel_rfl),
   by kernel_rfl,
   by kernel_rfl,
   by kernel_rfl,
   by kernel_rfl,
   by kernel_rfl,
   load_one (by kernel_rfl),
   part_one (by kernel_rfl),
   store_n (by kernel_rfl),
   by kernel_rfl,
   by kernel_rfl,
   by kernel_rfl,
   by kernel_rfl,
   by kernel_rfl,
   load_one (by kernel_rfl),
   part_one (by kernel_rfl),
   store_n (by kernel_rfl),
   by kernel_rfl,
   by kernel_rfl,
   by kernel_rfl,
   by kernel_rfl,
   by kernel_rfl,
   load_one (by kernel_rfl),
   part_one (by kernel_rfl),
   store_n (by kernel_rfl),
   by kernel_rfl,
   by kernel_rfl,
   by kernel_rfl,
   by kernel_rfl,
   by kernel_rfl,
   load_one (by kernel_rfl),
   part_one (by kernel_rfl),
   store_n (by kernel_rfl),
   by kernel_rfl,
   by kernel_rfl,
   by kernel_rfl,
   by kernel_rfl,
   by kernel_rfl,
   load_one (by kernel_rfl),
   part_one (by kernel_rfl),
   store_n (by kernel_rfl),
   by kernel_rfl,
   by kernel_rfl,
   by kernel_rfl,
   by kernel_rfl,
   by kernel_rfl,
   load_one (by kernel_rfl),
   part_one (by kernel_rfl),
   store_n (by kernel_rfl),
   by kernel_rfl,
   by kernel_rfl,
   by kernel_rfl,
   by kernel_rfl,
   by kernel_rfl,
   load_one (by kernel_rfl),
   part_one (by kernel_rfl),
   store_n (by kernel_rfl),
   by kernel_rfl,
   by kernel_rfl,
   by kernel_rfl,
   by kernel_rfl,
   by kernel_rfl,
   load_one (by kernel_rfl),
   part_one (by kernel_rfl),
   store_n (by kernel_rfl),
   by kernel_rfl,
   by kernel_rfl,
   by kernel_rfl,
   by kernel_rfl,
   by kernel_rfl,
   load_one (by kernel_rfl),
   part_one (by kernel_rfl),
   store_n (by kernel_rfl),
   by kernel_rfl,
   by kernel_rfl,
   by kernel_rfl,
   by kernel_rfl,
   by kernel_rfl,
   load_one (by kernel_rfl),
   part_one (by kernel_rfl),
   store_n (by kernel_rfl),
   by kernel_rfl,
   by kernel_rfl,
   by kernel_rfl,
   by kernel_rfl,
   by kernel_rfl,
   load_one (by kernel_rfl),
   part_one (by kernel_rfl),
   store_n (by kernel_rfl),
   by kernel_rfl,
   by kernel_rfl,
   by kernel_rfl,
   by kernel_rfl,
   by kernel_rfl,
   load_agg (by kernel_rfl),
   part_agg (by kernel_rfl),
   store_n (by kernel_rfl),
   by kernel_rfl,
   by kernel_rfl,
   by kernel_rfl,
   by kernel_rfl,
   by kernel_rfl,
   load_agg (by kernel_rfl),
   part_agg (by kernel_rfl),
   store_n (by kernel_rfl),
   by kernel_rfl,
   by kernel_rfl,
   by kernel_rfl,
   by kernel_rfl,
   by kernel_rfl,
   load_one (by kernel_rfl),
   part_one (by kernel_rfl),
   store_n (by kernel_rfl),
   by kernel_rfl,
   by kernel_rfl,
   by kernel_rfl,
   by kernel_rfl,
   by kernel_rfl,
   load_one (by kernel_rfl),
   part_one (by kernel_rfl),
   store_n (by kernel_rfl),
   by kernel_rfl,
   by kernel_rfl,
   by kernel_rfl,
   by kernel_rfl,
   by kernel_rfl,
   load_one (by kernel_rfl),
   part_one (by kernel_rfl),
   store_n (by kernel_rfl),
   by kernel_rfl,
   by kernel_rfl,
   by kernel_rfl,
   by kernel_rfl,
   by kernel_rfl,
   load_one (by kernel_rfl),
   part_one (by kernel_rfl),
   store_n (by kernel_rfl),
   by kernel_rfl,
   by kernel_rfl,
   by kernel_rfl,
   by kernel_rfl,
   by kernel_rfl,
   load_one (by kernel_rfl),
   part_one (by kernel_rfl),
   store_n (by kernel_rfl),
   by kernel_rfl,
   by kernel_rfl,
   by kernel_rfl,
   by kernel_rfl,
   by kernel_rfl,
   load_one (by kernel_rfl),
   part_one (by kernel_rfl),
   store_n (by kernel_rfl),
   by kernel_rfl,
   by kernel_rfl,
   by kernel_rfl,
   by kernel_rfl,
   by kernel_rfl,
   load_one (by kernel_rfl),
   part_one (by kernel_rfl),
   store_n (by kernel_rfl),
   by kernel_rfl,
   by kernel_rfl,
   by kernel_rfl,
   by kernel_rfl,
   by kernel_rfl,
   load_one (by kernel_rfl),
   part_one (by kernel_rfl),
   store_n (by kernel_rfl),
   by kernel_rfl,
   by kernel_rfl,
   by kernel_rfl,
   by kernel_rfl,
   by kernel_rfl,
   load_one (by kernel_rfl),
   part_one (by kernel_rfl),
   store_n (by kernel_rfl),
   by kernel_rfl,
   by kernel_rfl,
   by kernel_rfl,
   by kernel_rfl,
   by kernel_rfl,
   load_agg (by kernel_rfl),
   part_agg (by kernel_rfl),
   store_n (by kernel_rfl),
   by kernel_rfl,
   by kernel_rfl,
   by kernel_rfl,
   by kernel_rfl,
   by kernel_rfl,
   load_agg (by kernel_rfl),
   part_agg (by kernel_rfl),
   store_n (by kernel_rfl),
   by kernel_rfl,
   by kernel_rfl,
   by kernel_rfl,
   by kernel_rfl,
   by kernel_rfl,
   load_agg (by kernel_rfl),
   part_agg (by kernel_rfl),
   store_n (by kernel_rfl),
   by kernel_rfl,
   by kernel_rfl,
   by kernel_rfl,
   by kernel_rfl,
   by kernel_rfl,
   load_agg (by kernel_rfl),
   part_agg (by kernel_rfl),
   store_n (by kernel_rfl),
   by kernel_rfl,
   by kernel_rfl,
   by kernel_rfl,
   by kernel_rfl,
   by kernel_rfl,
   load_one (by kernel_rfl),
   part_one (by kernel_rfl),
   store_n (by kernel_rfl),
   by kernel_rfl,
   by kernel_rfl,
   by kernel_rfl,
   by kernel_rfl,
   by kernel_rfl,
   load_one (by kernel_rfl),
   part_one (by kernel_rfl),
   store_n (by kernel_rfl),
   by kernel_rfl,
   by kernel_rfl,
   by kernel_rfl,
   by kernel_rfl,
   by kernel_rfl,
   load_one (by kernel_rfl),
   part_one (by kernel_rfl),
   store_n (by kernel_rfl),
   by kernel_rfl,
   by kernel_rfl,
   by kernel_rfl,
   by kernel_rfl,
   by kernel_rfl,
   load_one (by kernel_rfl),
   part_one (by kernel_rfl),
   store_n (by kernel_rfl),
   by kernel_rfl,
   by kernel_rfl,
   by kernel_rfl,
   by kernel_rfl,
   by kernel_rfl,
   load_agg (by kernel_rfl),
   part_agg (by kernel_rfl),
   store_n (by kernel_rfl),
   by kernel_rfl,
   by kernel_rfl,
   by kernel_rfl,
   by kernel_rfl,
   by kernel_rfl,
   load_agg (by kernel_rfl),
   part_agg (by kernel_rfl),
   store_n (by kernel_rfl),
   by kernel_rfl,
   by kernel_rfl,
   by kernel_rfl,
   by kernel_rfl,
   by kernel_rfl,
   load_one (by kernel_rfl),
   part_one (by kernel_rfl),
   store_n (by kernel_rfl),
   by kernel_rfl,
   by kernel_rfl,
   by kernel_rfl,
   by kernel_rfl,
   by kernel_rfl,
   load_one (by kernel_rfl),
   part_one (by kernel_rfl),
   store_n (by kernel_rfl),
   by kernel_rfl,
   by kernel_rfl,
   by kernel_rfl,
   by kernel_rfl,
   by kernel_rfl,
   load_agg (by kernel_rfl),
   part_agg (by kernel_rfl),
   store_n (by kernel_rfl),
   by kernel_rfl,
   by kernel_rfl,
   by kernel_rfl,
   by kernel_rfl,
   by kernel_rfl,
   load_agg (by kernel_rfl),
   part_agg (by kernel_rfl),
   store_n (by kernel_rfl),
   by kernel_rfl,
   by kernel_rfl,
   by kernel_rfl,
   by kernel_rfl,
   by kernel_rfl,
   load_one (by kernel_rfl),
   part_one (by kernel_rfl),
   store_n (by kernel_rfl),
   by kernel_rfl,
   by kernel_rfl,
   by kernel_rfl,
   by kernel_rfl,
   by kernel_rfl,
   load_one (by kernel_rfl),
   part_one (by kernel_rfl),
   store_n (by kernel_rfl),
   by kernel_rfl,
   by kernel_rfl,
   by kernel_rfl,
   by kernel_rfl,
   by kernel_rfl,
   load_one (by kernel_rfl),
   part_one (by kernel_rfl),
   store_n (by kernel_rfl),
   by kernel_rfl,
   by kernel_rfl,
   by kernel_rfl,
   by kernel_rfl,
   by kernel_rfl,
   load_agg (by kernel_rfl),
   part_agg (by kernel_rfl),
   store_n (by kernel_rfl),
   by kernel_rfl,
   by kernel_rfl,
   by kernel_rfl,
   by kernel_rfl,
   by kernel_rfl,
   load_agg (by kernel_rfl),
   part_agg (by kernel_rfl),
   store_n (by kernel_rfl),
   by kernel_rfl,
   by kernel_rfl,
   by kernel_rfl,
   by kernel_rfl,
   by kernel_rfl,
   load_one (by kernel_rfl),
   part_one (by kernel_rfl),
   store_n (by kernel_rfl),
   by kernel_rfl,
   by kernel_rfl,
   by kernel_rfl,
   by kernel_rfl,
   by kernel_rfl,
   load_one (by kernel_rfl),
   part_one (by kernel_rfl),
   store_n (by kernel_rfl),
   by kernel_rfl,
   by kernel_rfl,
   by kernel_rfl,
   by kernel_rfl,
   by kernel_rfl,
   load_one (by kernel_rfl),
   part_one (by kernel_rfl),
   store_n (by kernel_rfl),
   by kernel_rfl,
   by kernel_rfl,
   by kernel_rfl,
   by kernel_rfl,
   by kernel_rfl,
   load_one (by kernel_rfl),
   part_one (by kernel_rfl),
   store_n (by kernel_rfl),
   by kernel_rfl,
   by kernel_rfl,
   by kernel_rfl,
   by kernel_rfl,
   by kernel_rfl,
   load_one (by kernel_rfl),
   part_one (by kernel_rfl),
   store_n (by kernel_rfl),
   by kernel_rfl,
   by kernel_rfl,
   by kernel_rfl,
   by kernel_rfl,
   by kernel_rfl,
   load_one (by kernel_rfl),
   part_one (by kernel_rfl),
   store_n (by kernel_rfl),
   by kernel_rfl,
   by kernel_rfl,
   by kernel_rfl,
   by kernel_rfl,
   by kernel_rfl,
   load_one (by kernel_rfl),
   part_one (by kernel_rfl),
   store_n (by kernel_rfl),
   by kernel_rfl,
   by kernel_rfl,
   by kernel_rfl,
   by kernel_rfl,
   by kernel_rfl,
   load_one (by kernel_rfl),
   part_one (by kernel_rfl),
   store_n (by kernel_rfl),
   by kernel_rfl,
   by kernel_rfl,
   by kernel_rfl,
   by kernel_rfl,
   by kernel_rfl,
   load_one (by kernel_rfl),
   part_one (by kernel_rfl),
   store_n (by kernel_rfl),
   by kernel_rfl,
   by kernel_rfl,
   by kernel_rfl,
   by kernel_rfl,
   by kernel_rfl,
   load_one (by kernel_rfl),
   part_one (by kernel_rfl),
   store_n (by kernel_rfl),
   by kernel_rfl,
   by kernel_rfl,
   by kernel_rfl,
   by kernel_rfl,
   by kernel_rfl,
   load_one (by kernel_rfl),
   part_one (by kernel_rfl),
   store_n (by kernel_rfl),
   by kernel_rfl,
   by kernel_rfl,
   by kernel_rfl,
   by kernel_rfl,
   by kernel_rfl,
   load_one (by kernel_rfl),
   part_one (by kernel_rfl),
   store_n (by kernel_rfl),
   by kernel_rfl,
   by kernel_rfl,
   by kernel_rfl,
   by kernel_rfl,
   by kernel_rfl,
   load_one (by kernel_rfl),
   part_one (by kernel_rfl),
   store_n (by kernel_rfl),
   by kernel_rfl,
   by kernel_rfl,
   by kernel_rfl,
   by kernel_rfl,
   by kernel_rfl,
   load_one (by kernel_rfl),
   part_one (by kernel_rfl),
   store_n (by kernel_rfl),
   by kernel_rfl,
   by kernel_rfl,
   by kernel_rfl,
   by kernel_rfl,
   by kernel_rfl,
   load_one (by kernel_rfl),
   part_one (by kernel_rfl),
   store_n (by kernel_rfl),
   by kernel_rfl,
   by kernel_rfl,
   by kernel_rfl,
   by kernel_rfl,
   by kernel_rfl,
   load_one (by kernel_rfl),
   part_one (by kernel_rfl),
   store_n (by kernel_rfl),
   by kernel_rfl,
   by kernel_rfl,
   by kernel_rfl,
   by kernel_rfl,
   by kernel_rfl,
   load_one (by kernel_rfl),
   part_one (by kernel_rfl),
   store_n (by kernel_rfl),
   by kernel_rfl,
   by kernel_rfl,
   by kernel_rfl,
   by kernel_rfl,
   by kernel_rfl,
   load_one (by kernel_rfl),
   part_one (by kernel_rfl),
   store_n (by kernel_rfl),
   by kernel_rfl,
   by kernel_rfl,
   by kernel_rfl,
   by kernel_rfl,
   by kernel_rfl,
   load_one (by kernel_rfl),
   part_one (by kernel_rfl),
   store_n (by kernel_rfl),
   by kernel_rfl,
   by kernel_rfl,
   by kernel_rfl,
   by kernel_rfl,
   by kernel_rfl,
   load_one (by kernel_rfl),
   part_one (by kernel_rfl),
   store_n (by kernel_rfl),
   by kernel_rfl,
   by kernel_rfl,
   by kernel_rfl,
   by kernel_rfl,
   by kernel_rfl,
   load_one (by kernel_rfl),
   part_one (by kernel_rfl),
   store_n (by kernel_rfl),
   by kernel_rfl,
   by kernel_rfl,
   by kernel_rfl,
   by kernel_rfl,
   by kernel_rfl,
   load_one (by kernel_rfl),
   part_one (by kernel_rfl),
   store_n (by kernel_rfl),
   by kernel_rfl,
   by kernel_rfl,
   by kernel_rfl,
   by kernel_rfl,
   by kernel_rfl,
   load_agg (by kernel_rfl),
   part_agg (by kernel_rfl),
   store_n (by kernel_rfl),
   by kernel_rfl,
   by kernel_rfl,
   by kernel_rfl,
   by kernel_rfl,
   by kernel_rfl,
   load_agg (by kernel_rfl),
   part_agg (by kernel_rfl),
   store_n (by kernel_rfl),
   by kernel_rfl,
   by kernel_rfl,
   by kernel_rfl,
   by kernel_rfl,
   by kernel_rfl,
   load_one (by kernel_rfl),
   part_one (by kernel_rfl),
   store_n (by kernel_rfl),
   by kernel_rfl,
   by kernel_rfl,
   by kernel_rfl,
   by kernel_rfl,
   by kernel_rfl,
   load_one (by kernel_rfl),
   part_one (by kernel_rfl),
   store_n (by kernel_rfl),
   by kernel_rfl,
   by kernel_rfl,
   by kernel_rfl,
   by kernel_rfl,
   by kernel_rfl,
   load_one (by kernel_rfl),
   part_one (by kernel_rfl),
   store_n (by kernel_rfl),
   by kernel_rfl,
   by kernel_rfl,
   by kernel_rfl,
   by kernel_rfl,
   by kernel_rfl,
   load_one (by kernel_rfl),
   part_one (by kernel_rfl),
   store_n (by kernel_rfl),
   by kernel_rfl,
   by kernel_rfl,
   by kernel_rfl,
   by kernel_rfl,
   by kernel_rfl,
   load_one (by kernel_rfl),
   part_one (by kernel_rfl),
   store_n (by kernel_rfl),
   by kernel_rfl,
   by kernel_rfl,
   by kernel_rfl,
   by kernel_rfl,
   by kernel_rfl,
   load_one (by kernel_rfl),
   part_one (by kernel_rfl),
   store_n (by kernel_rfl),
   by kernel_rfl,
   by kernel_rfl,
   by kernel_rfl,
   by kernel_rfl,
   by kernel_rfl,
   load_one (by kernel_rfl),
   part_one (by kernel_rfl),
   store_n (by kernel_rfl),
   by kernel_rfl,
   by kernel_rfl,
   by kernel_rfl,
   by kernel_rfl,
   by kernel_rfl,
   load_one (by kernel_rfl),
   part_one (by kernel_rfl),
   store_n (by kernel_rfl),
   by kernel_rfl,
   by kernel_rfl,
   by kernel_rfl,
   by kernel_rfl,
   by kernel_rfl,
   load_one (by kernel_rfl),
   part_one (by kernel_rfl),
   store_n (by kernel_rfl),
   by kernel_rfl,
   by kernel_rfl,
   by kernel_rfl,
   by kernel_rfl,
   by kernel_rfl,
   load_one (by kernel_rfl),
   part_one (by kernel_rfl),
   store_n (by kernel_rfl),
   by kernel_rfl,
   by kernel_rfl,
   by kernel_rfl,
   by kernel_rfl,
   by kernel_rfl,
   load_one (by kernel_rfl),
   part_one (by kernel_rfl),
   store_n (by kernel_rfl),
   by kernel_rfl,
   by kernel_rfl,
   by kernel_rfl,
   by kernel_rfl,
   by kernel_rfl,
   load_one (by kernel_rfl),
   part_one (by kernel_rfl),
   store_n (by kernel_rfl),
   by kernel_rfl,
   by kernel_rfl,
   by kernel_rfl,
   by kernel_rfl,
   by kernel_rfl,
   load_one (by kernel_rfl),
   part_one (by kernel_rfl),
   store_n (by kernel_rfl),
   by kernel_rfl,
   by kernel_rfl,
   by kernel_rfl,
   by kernel_rfl,
   by kernel_rfl,
   load_agg (by kernel_rfl),
   part_agg (by kernel_rfl),
   store_n (by kernel_rfl),
   by kernel_rfl,
   by kernel_rfl,
   by kernel_rfl,
   by kernel_rfl,
   by kernel_rfl,
   load_agg (by kernel_rfl),
   part_agg (by kernel_rfl),
   store_n (by kernel_rfl),
   by kernel_rfl,
   by kernel_rfl,
   by kernel_rfl,
   by kernel_rfl,
   by kernel_rfl,
   load_one (by kernel_rfl),
   part_one (by kernel_rfl),
   store_n (by kernel_rfl),
   by kernel_rfl,
   by kernel_rfl,
   by kernel_rfl,
   by kernel_rfl,
   by kernel_rfl,
   load_one (by kernel_rfl),
   part_one (by kernel_rfl),
   store_n (by kernel_rfl),
   by kernel_rfl,
   by kernel_rfl,
   by kernel_rfl,
   by kernel_rfl,
   by kernel_rfl,
   load_one (by kernel_rfl),
   part_one (by kernel_rfl),
   store_n (by kernel_rfl),
   by kernel_rfl,
   by kernel_rfl,
   by kernel_rfl,
   by kernel_rfl,
   by kernel_rfl,
   load_one (by kernel_rfl),
   part_one (by kernel_rfl),
   store_n (by kernel_rfl),
   by kernel_rfl,
   by kernel_rfl,
   by kernel_rfl,
   by kernel_rfl,
   by kernel_rfl,
   load_one (by kernel_rfl),
   part_one (by kernel_rfl),
   store_n (by kernel_rfl),
   by kernel_rfl,
   by kernel_rfl,
   by kernel_rfl,
   by kernel_rfl,
   by kernel_rfl,
   load_one (by kernel_rfl),
   part_one (by kernel_rfl),
   store_n (by kernel_rfl),
   by kernel_rfl,
   by kernel_rfl,
   by kernel_rfl,
   by kernel_rfl,
   by kernel_rfl,
   load_one (by kernel_rfl),
   part_one (by kernel_rfl),
   store_n (by kernel_rfl),
   by kernel_rfl,
   by kernel_rfl,
   by kernel_rfl,
   by kernel_rfl,
   by kernel_rfl,
   load_agg (by kernel_rfl),
   part_agg (by kernel_rfl),
   store_n (by kernel_rfl),
   by kernel_rfl,
   by kernel_rfl,
   by kernel_rfl,
   by kernel_rfl,
   by kernel_rfl,
   load_agg (by kernel_rfl),
   part_agg (by kernel_rfl),
   store_n (by kernel_rfl),
   by kernel_rfl,
   by kernel_rfl,
   by kernel_rfl,
   by kernel_rfl,
   by kernel_rfl,
   load_one (by kernel_rfl),
   part_one (by kernel_rfl),
   store_n (by kernel_rfl),
   by kernel_rfl,
   by kernel_rfl,
   by kernel_rfl,
   by kernel_rfl,
   by kernel_rfl,
   load_one (by kernel_rfl),
   part_one (by kernel_rfl),
   store_n (by kernel_rfl),
   by kernel_rfl,
   by kernel_rfl,
   by kernel_rfl,
   by kernel_rfl,
   by kernel_rfl,
   load_one (by kernel_rfl),
   part_one (by kernel_rfl),
   store_n (by kernel_rfl),
   by kernel_rfl,
   by kernel_rfl,
   by kernel_rfl,
   by kernel_rfl,
   by kernel_rfl,
   load_one (by kernel_rfl),
   part_one (by kernel_rfl),
   store_n (by kernel_rfl),
   by kernel_rfl,
   by kernel_rfl,
   by kernel_rfl,
   by kernel_rfl,
   by kernel_rfl,
   load_one (by kernel_rfl),
   part_one (by kernel_rfl),
   store_n (by kernel_rfl),
   by kernel_rfl,
   by kernel_rfl,
   by kernel_rfl,
   by kernel_rfl,
   by kernel_rfl,
   load_one (by kernel_rfl),
   part_one (by kernel_rfl),
   store_n (by kernel_rfl),
   by kernel_rfl,
   by kernel_rfl,
   by kernel_rfl,
   by kernel_rfl,
   by kernel_rfl,
   load_agg (by kernel_rfl),
   part_agg (by kernel_rfl),
   store_n (by kernel_rfl),
   by kernel_rfl,
   by kernel_rfl,
   by kernel_rfl,
   by kernel_rfl,
   by kernel_rfl,
   load_agg (by kernel_rfl),
   part_agg (by kernel_rfl),
   store_n (by kernel_rfl),
   by kernel_rfl,
   by kernel_rfl,
   by kernel_rfl,
   by kernel_rfl,
   by kernel_rfl,
   load_one (by kernel_rfl),
   part_one (by kernel_rfl),
   store_n (by kernel_rfl),
   by kernel_rfl,
   by kernel_rfl,
   by kernel_rfl,
   by kernel_rfl,
   by kernel_rfl,
   load_one (by kernel_rfl),
   part_one (by kernel_rfl),
   store_n (by kernel_rfl),
   by kernel_rfl,
   by kernel_rfl,
   by kernel_rfl,
   by kernel_rfl,
   by kernel_rfl,
   load_one (by kernel_rfl),
   part_one (by kernel_rfl),
   store_n (by kernel_rfl),
   by kernel_rfl,
   by kernel_rfl,
   by kernel_rfl,
   by kernel_rfl,
   by kernel_rfl,
   load_agg (by kernel_rfl),
   part_agg (by kernel_rfl),
   store_n (by kernel_rfl),
   by kernel_rfl,
   by kernel_rfl,
   by kernel_rfl,
   by kernel_rfl,
   by kernel_rfl,
   load_agg (by kernel_rfl),
   part_agg (by kernel_rfl),
   store_n (by kernel_rfl),
   by kernel_rfl,
   by kernel_rfl,
   by kernel_rfl,
   by kernel_rfl,
   by kernel_rfl,
   load_one (by kernel_rfl),
   part_one (by kernel_rfl),
   store_n (by kernel_rfl),
   by kernel_rfl,
   by kernel_rfl,
   by kernel_rfl,
   by kernel_rfl,
   by kernel_rfl,
   load_agg (by kernel_rfl),
   part_agg (by kernel_rfl),
   store_n (by kernel_rfl),
   by kernel_rfl,
   by kernel_rfl,
   by kernel_rfl,
   by kernel_rfl,
   by kernel_rfl,
   load_agg (by kernel_rfl),
   part_agg (by kernel_rfl),
   store_n (by kernel_rfl),
   by kernel_rfl,
   by kernel_rfl,
   by kernel_rfl,
   by kernel_rfl,
   by kernel_rfl,
   load_agg (by kernel_rfl),
   part_agg (by kernel_rfl),
   store_n (by kernel_rfl),
   by kernel_rfl,
   by kernel_rfl,
   by kernel_rfl,
   by kernel_rfl,
   by kernel_rfl,
   load_agg (by kernel_rfl),
   part_agg (by kernel_rfl),
   store_n (by kernel_rfl),
   by kernel_rfl,
   by kernel_rfl,
   by kernel_rfl,
   by kernel_rfl,
   by kernel_rfl,
   load_one (by kernel_rfl),
   part_one (by kernel_rfl),
   store_n (by kernel_rfl),
   by kernel_rfl,
   by kernel_rfl,
   by kernel_rfl,
   by kernel_rfl,
   by kernel_rfl,
   load_one (by kernel_rfl),
   part_one (by kernel_rfl),
   store_n (by kernel_rfl),
   by kernel_rfl⟩
theorem baseOk : EnvOk (envOf Go.Proofs.Tryz.prog) Go.Proofs.Tryz.prog := envOk_of (by kernel_rfl) (by kernel_rfl) (Checked.mixed Go.Proofs.Tryz.checked)
end
end Go.Ev
