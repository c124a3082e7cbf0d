/-
  What the program says of its types, and that it is one of which the evaluator may speak. No conditions.
-/
import Derived.Test.YtbciigjndoaoeaaEvF
import Derived.Test.YtbciigjndoaoeaaChecked
import Derived.KernelRfl
import Derived.Eval
set_option linter.unusedVariables false
set_option linter.unusedSimpArgs false
namespace Go.Ev
noncomputable section
def wk (f : FuncId) : Bool := f == 6
def EE : Env := envV Go.Proofs.Try.prog wk
set_option maxRecDepth 100000
theorem tyE : True ∧
  kindOf EE 1 = .func ∧
  sizeT EE 1 = 1 ∧
  bytesT EE 1 = 8 ∧
  zeroT EE 1 = some (.nilf) ∧
  (∀ H b o, loadAV EE H 1 b o = cellAt H b o) ∧
  (∀ cs o, partAV EE 1 cs o = getL cs o) ∧
  (∀ H p x, storeV EE H 1 p x = storeN H 1 p x) ∧
  EE.flat 1 = none ∧
  kindOf EE 2 = .int .i64 ∧
  sizeT EE 2 = 1 ∧
  bytesT EE 2 = 8 ∧
  zeroT EE 2 = some (.int .i64 0) ∧
  (∀ H b o, loadAV EE H 2 b o = cellAt H b o) ∧
  (∀ cs o, partAV EE 2 cs o = getL cs o) ∧
  (∀ H p x, storeV EE H 2 p x = storeN H 1 p x) ∧
  EE.flat 2 = some (false, 1) ∧
  kindOf EE 3 = .int .i64 ∧
  sizeT EE 3 = 1 ∧
  bytesT EE 3 = 8 ∧
  zeroT EE 3 = some (.int .i64 0) ∧
  (∀ H b o, loadAV EE H 3 b o = cellAt H b o) ∧
  (∀ cs o, partAV EE 3 cs o = getL cs o) ∧
  (∀ H p x, storeV EE H 3 p x = storeN H 1 p x) ∧
  EE.flat 3 = some (false, 1) ∧
  kindOf EE 4 = .bool ∧
  sizeT EE 4 = 1 ∧
  bytesT EE 4 = 1 ∧
  zeroT EE 4 = some (.bool false) ∧
  (∀ H b o, loadAV EE H 4 b o = cellAt H b o) ∧
  (∀ cs o, partAV EE 4 cs o = getL cs o) ∧
  (∀ H p x, storeV EE H 4 p x = storeN H 1 p x) ∧
  EE.flat 4 = some (true, 1) ∧
  kindOf EE 5 = .int .u8 ∧
  sizeT EE 5 = 1 ∧
  bytesT EE 5 = 1 ∧
  zeroT EE 5 = some (.int .u8 0) ∧
  (∀ H b o, loadAV EE H 5 b o = cellAt H b o) ∧
  (∀ cs o, partAV EE 5 cs o = getL cs o) ∧
  (∀ H p x, storeV EE H 5 p x = storeN H 1 p x) ∧
  EE.flat 5 = some (false, 1) ∧
  kindOf EE 6 = .int .u8 ∧
  sizeT EE 6 = 1 ∧
  bytesT EE 6 = 1 ∧
  zeroT EE 6 = some (.int .u8 0) ∧
  (∀ H b o, loadAV EE H 6 b o = cellAt H b o) ∧
  (∀ cs o, partAV EE 6 cs o = getL cs o) ∧
  (∀ H p x, storeV EE H 6 p x = storeN H 1 p x) ∧
  EE.flat 6 = some (false, 1) ∧
  kindOf EE 7 = .struct [(0, 2), (1, 3), (2, 4), (3, 6)] ∧
  sizeT EE 7 = 4 ∧
  bytesT EE 7 = 24 ∧
  zeroT EE 7 = some (.agg [.int .i64 0, .int .i64 0, .bool false, .int .u8 0]) ∧
  (∀ H b o, loadAV EE H 7 b o = (cellsAt H b o 4).omap .agg) ∧
  (∀ cs o, partAV EE 7 cs o = (takeE 4 (dropL o cs)).omap .agg) ∧
  (∀ H p x, storeV EE H 7 p x = storeN H 4 p x) ∧
  EE.flat 7 = none ∧
  kindOf EE 8 = .struct [(0, 2), (1, 3), (2, 4), (3, 6)] ∧
  sizeT EE 8 = 4 ∧
  bytesT EE 8 = 24 ∧
  zeroT EE 8 = some (.agg [.int .i64 0, .int .i64 0, .bool false, .int .u8 0]) ∧
  (∀ H b o, loadAV EE H 8 b o = (cellsAt H b o 4).omap .agg) ∧
  (∀ cs o, partAV EE 8 cs o = (takeE 4 (dropL o cs)).omap .agg) ∧
  (∀ H p x, storeV EE H 8 p x = storeN H 4 p x) ∧
  EE.flat 8 = none ∧
  kindOf EE 9 = .string ∧
  sizeT EE 9 = 1 ∧
  bytesT EE 9 = 16 ∧
  zeroT EE 9 = some (.str []) ∧
  (∀ H b o, loadAV EE H 9 b o = cellAt H b o) ∧
  (∀ cs o, partAV EE 9 cs o = getL cs o) ∧
  (∀ H p x, storeV EE H 9 p x = storeN H 1 p x) ∧
  EE.flat 9 = none ∧
  kindOf EE 10 = .string ∧
  sizeT EE 10 = 1 ∧
  bytesT EE 10 = 16 ∧
  zeroT EE 10 = some (.str []) ∧
  (∀ H b o, loadAV EE H 10 b o = cellAt H b o) ∧
  (∀ cs o, partAV EE 10 cs o = getL cs o) ∧
  (∀ H p x, storeV EE H 10 p x = storeN H 1 p x) ∧
  EE.flat 10 = none ∧
  kindOf EE 11 = .string ∧
  sizeT EE 11 = 1 ∧
  bytesT EE 11 = 16 ∧
  zeroT EE 11 = some (.str []) ∧
  (∀ H b o, loadAV EE H 11 b o = cellAt H b o) ∧
  (∀ cs o, partAV EE 11 cs o = getL cs o) ∧
  (∀ H p x, storeV EE H 11 p x = storeN H 1 p x) ∧
  EE.flat 11 = none ∧
  kindOf EE 12 = .int .u64 ∧
  sizeT EE 12 = 1 ∧
  bytesT EE 12 = 8 ∧
  zeroT EE 12 = some (.int .u64 0) ∧
  (∀ H b o, loadAV EE H 12 b o = cellAt H b o) ∧
  (∀ cs o, partAV EE 12 cs o = getL cs o) ∧
  (∀ H p x, storeV EE H 12 p x = storeN H 1 p x) ∧
  EE.flat 12 = some (false, 1) ∧
  kindOf EE 13 = .struct [(0, 9), (1, 12)] ∧
  sizeT EE 13 = 2 ∧
  bytesT EE 13 = 24 ∧
  zeroT EE 13 = some (.agg [.str [], .int .u64 0]) ∧
  (∀ H b o, loadAV EE H 13 b o = (cellsAt H b o 2).omap .agg) ∧
  (∀ cs o, partAV EE 13 cs o = (takeE 2 (dropL o cs)).omap .agg) ∧
  (∀ H p x, storeV EE H 13 p x = storeN H 2 p x) ∧
  EE.flat 13 = none ∧
  kindOf EE 14 = .struct [(0, 9), (1, 12)] ∧
  sizeT EE 14 = 2 ∧
  bytesT EE 14 = 24 ∧
  zeroT EE 14 = some (.agg [.str [], .int .u64 0]) ∧
  (∀ H b o, loadAV EE H 14 b o = (cellsAt H b o 2).omap .agg) ∧
  (∀ cs o, partAV EE 14 cs o = (takeE 2 (dropL o cs)).omap .agg) ∧
  (∀ H p x, storeV EE H 14 p x = storeN H 2 p x) ∧
  EE.flat 14 = none ∧
  kindOf EE 15 = .ptr 40 ∧
  sizeT EE 15 = 1 ∧
  bytesT EE 15 = 8 ∧
  zeroT EE 15 = some (.nilp) ∧
  (∀ H b o, loadAV EE H 15 b o = cellAt H b o) ∧
  (∀ cs o, partAV EE 15 cs o = getL cs o) ∧
  (∀ H p x, storeV EE H 15 p x = storeN H 1 p x) ∧
  EE.flat 15 = none ∧
  kindOf EE 16 = .ptr 43 ∧
  sizeT EE 16 = 1 ∧
  bytesT EE 16 = 8 ∧
  zeroT EE 16 = some (.nilp) ∧
  (∀ H b o, loadAV EE H 16 b o = cellAt H b o) ∧
  (∀ cs o, partAV EE 16 cs o = getL cs o) ∧
  (∀ H p x, storeV EE H 16 p x = storeN H 1 p x) ∧
  EE.flat 16 = none ∧
  kindOf EE 17 = .ptr 53 ∧
  sizeT EE 17 = 1 ∧
  bytesT EE 17 = 8 ∧
  zeroT EE 17 = some (.nilp) ∧
  (∀ H b o, loadAV EE H 17 b o = cellAt H b o) ∧
  (∀ cs o, partAV EE 17 cs o = getL cs o) ∧
  (∀ H p x, storeV EE H 17 p x = storeN H 1 p x) ∧
  EE.flat 17 = none ∧
  kindOf EE 18 = .struct [(0, 17)] ∧
  sizeT EE 18 = 1 ∧
  bytesT EE 18 = 8 ∧
  zeroT EE 18 = some (.agg [.nilp]) ∧
  (∀ H b o, loadAV EE H 18 b o = (cellsAt H b o 1).omap .agg) ∧
  (∀ cs o, partAV EE 18 cs o = (takeE 1 (dropL o cs)).omap .agg) ∧
  (∀ H p x, storeV EE H 18 p x = storeN H 1 p x) ∧
  EE.flat 18 = none ∧
  kindOf EE 19 = .struct [(0, 17)] ∧
  sizeT EE 19 = 1 ∧
  bytesT EE 19 = 8 ∧
  zeroT EE 19 = some (.agg [.nilp]) ∧
  (∀ H b o, loadAV EE H 19 b o = (cellsAt H b o 1).omap .agg) ∧
  (∀ cs o, partAV EE 19 cs o = (takeE 1 (dropL o cs)).omap .agg) ∧
  (∀ H p x, storeV EE H 19 p x = storeN H 1 p x) ∧
  EE.flat 19 = none ∧
  kindOf EE 20 = .iface ∧
  sizeT EE 20 = 1 ∧
  bytesT EE 20 = 16 ∧
  zeroT EE 20 = some (.nili) ∧
  (∀ H b o, loadAV EE H 20 b o = cellAt H b o) ∧
  (∀ cs o, partAV EE 20 cs o = getL cs o) ∧
  (∀ H p x, storeV EE H 20 p x = storeN H 1 p x) ∧
  EE.flat 20 = none ∧
  kindOf EE 21 = .int .i32 ∧
  sizeT EE 21 = 1 ∧
  bytesT EE 21 = 4 ∧
  zeroT EE 21 = some (.int .i32 0) ∧
  (∀ H b o, loadAV EE H 21 b o = cellAt H b o) ∧
  (∀ cs o, partAV EE 21 cs o = getL cs o) ∧
  (∀ H p x, storeV EE H 21 p x = storeN H 1 p x) ∧
  EE.flat 21 = some (false, 1) ∧
  kindOf EE 22 = .slice 3 ∧
  sizeT EE 22 = 1 ∧
  bytesT EE 22 = 24 ∧
  zeroT EE 22 = some (.nils) ∧
  (∀ H b o, loadAV EE H 22 b o = cellAt H b o) ∧
  (∀ cs o, partAV EE 22 cs o = getL cs o) ∧
  (∀ H p x, storeV EE H 22 p x = storeN H 1 p x) ∧
  EE.flat 22 = none ∧
  kindOf EE 23 = .slice 36 ∧
  sizeT EE 23 = 1 ∧
  bytesT EE 23 = 24 ∧
  zeroT EE 23 = some (.nils) ∧
  (∀ H b o, loadAV EE H 23 b o = cellAt H b o) ∧
  (∀ cs o, partAV EE 23 cs o = getL cs o) ∧
  (∀ H p x, storeV EE H 23 p x = storeN H 1 p x) ∧
  EE.flat 23 = none ∧
  kindOf EE 24 = .func ∧
  sizeT EE 24 = 1 ∧
  bytesT EE 24 = 8 ∧
  zeroT EE 24 = some (.nilf) ∧
  (∀ H b o, loadAV EE H 24 b o = cellAt H b o) ∧
  (∀ cs o, partAV EE 24 cs o = getL cs o) ∧
  (∀ H p x, storeV EE H 24 p x = storeN H 1 p x) ∧
  EE.flat 24 = none ∧
  kindOf EE 25 = .func ∧
  sizeT EE 25 = 1 ∧
  bytesT EE 25 = 8 ∧
  zeroT EE 25 = some (.nilf) ∧
  (∀ H b o, loadAV EE H 25 b o = cellAt H b o) ∧
  (∀ cs o, partAV EE 25 cs o = getL cs o) ∧
  (∀ H p x, storeV EE H 25 p x = storeN H 1 p x) ∧
  EE.flat 25 = none ∧
  kindOf EE 26 = .func ∧
  sizeT EE 26 = 1 ∧
  bytesT EE 26 = 8 ∧
  zeroT EE 26 = some (.nilf) ∧
  (∀ H b o, loadAV EE H 26 b o = cellAt H b o) ∧
  (∀ cs o, partAV EE 26 cs o = getL cs o) ∧
  (∀ H p x, storeV EE H 26 p x = storeN H 1 p x) ∧
  EE.flat 26 = none ∧
  kindOf EE 27 = .func ∧
  sizeT EE 27 = 1 ∧
  bytesT EE 27 = 8 ∧
  zeroT EE 27 = some (.nilf) ∧
  (∀ H b o, loadAV EE H 27 b o = cellAt H b o) ∧
  (∀ cs o, partAV EE 27 cs o = getL cs o) ∧
  (∀ H p x, storeV EE H 27 p x = storeN H 1 p x) ∧
  EE.flat 27 = none ∧
  kindOf EE 28 = .func ∧
  sizeT EE 28 = 1 ∧
  bytesT EE 28 = 8 ∧
  zeroT EE 28 = some (.nilf) ∧
  (∀ H b o, loadAV EE H 28 b o = cellAt H b o) ∧
  (∀ cs o, partAV EE 28 cs o = getL cs o) ∧
  (∀ H p x, storeV EE H 28 p x = storeN H 1 p x) ∧
  EE.flat 28 = none ∧
  kindOf EE 29 = .func ∧
  sizeT EE 29 = 1 ∧
  bytesT EE 29 = 8 ∧
  zeroT EE 29 = some (.nilf) ∧
  (∀ H b o, loadAV EE H 29 b o = cellAt H b o) ∧
  (∀ cs o, partAV EE 29 cs o = getL cs o) ∧
  (∀ H p x, storeV EE H 29 p x = storeN H 1 p x) ∧
  EE.flat 29 = none ∧
  kindOf EE 30 = .func ∧
  sizeT EE 30 = 1 ∧
  bytesT EE 30 = 8 ∧
  zeroT EE 30 = some (.nilf) ∧
  (∀ H b o, loadAV EE H 30 b o = cellAt H b o) ∧
  (∀ cs o, partAV EE 30 cs o = getL cs o) ∧
  (∀ H p x, storeV EE H 30 p x = storeN H 1 p x) ∧
  EE.flat 30 = none ∧
  kindOf EE 31 = .slice 5 ∧
  sizeT EE 31 = 1 ∧
  bytesT EE 31 = 24 ∧
  zeroT EE 31 = some (.nils) ∧
  (∀ H b o, loadAV EE H 31 b o = cellAt H b o) ∧
  (∀ cs o, partAV EE 31 cs o = getL cs o) ∧
  (∀ H p x, storeV EE H 31 p x = storeN H 1 p x) ∧
  EE.flat 31 = none ∧
  kindOf EE 32 = .func ∧
  sizeT EE 32 = 1 ∧
  bytesT EE 32 = 8 ∧
  zeroT EE 32 = some (.nilf) ∧
  (∀ H b o, loadAV EE H 32 b o = cellAt H b o) ∧
  (∀ cs o, partAV EE 32 cs o = getL cs o) ∧
  (∀ H p x, storeV EE H 32 p x = storeN H 1 p x) ∧
  EE.flat 32 = none ∧
  kindOf EE 33 = .slice 34 ∧
  sizeT EE 33 = 1 ∧
  bytesT EE 33 = 24 ∧
  zeroT EE 33 = some (.nils) ∧
  (∀ H b o, loadAV EE H 33 b o = cellAt H b o) ∧
  (∀ cs o, partAV EE 33 cs o = getL cs o) ∧
  (∀ H p x, storeV EE H 33 p x = storeN H 1 p x) ∧
  EE.flat 33 = none ∧
  kindOf EE 34 = .int .u16 ∧
  sizeT EE 34 = 1 ∧
  bytesT EE 34 = 2 ∧
  zeroT EE 34 = some (.int .u16 0) ∧
  (∀ H b o, loadAV EE H 34 b o = cellAt H b o) ∧
  (∀ cs o, partAV EE 34 cs o = getL cs o) ∧
  (∀ H p x, storeV EE H 34 p x = storeN H 1 p x) ∧
  EE.flat 34 = some (false, 1) ∧
  kindOf EE 35 = .struct [(0, 3), (1, 3)] ∧
  sizeT EE 35 = 2 ∧
  bytesT EE 35 = 16 ∧
  zeroT EE 35 = some (.agg [.int .i64 0, .int .i64 0]) ∧
  (∀ H b o, loadAV EE H 35 b o = (cellsAt H b o 2).omap .agg) ∧
  (∀ cs o, partAV EE 35 cs o = (takeE 2 (dropL o cs)).omap .agg) ∧
  (∀ H p x, storeV EE H 35 p x = storeN H 2 p x) ∧
  EE.flat 35 = some (false, 2) ∧
  kindOf EE 36 = .struct [(0, 3), (1, 3)] ∧
  sizeT EE 36 = 2 ∧
  bytesT EE 36 = 16 ∧
  zeroT EE 36 = some (.agg [.int .i64 0, .int .i64 0]) ∧
  (∀ H b o, loadAV EE H 36 b o = (cellsAt H b o 2).omap .agg) ∧
  (∀ cs o, partAV EE 36 cs o = (takeE 2 (dropL o cs)).omap .agg) ∧
  (∀ H p x, storeV EE H 36 p x = storeN H 2 p x) ∧
  EE.flat 36 = some (false, 2) ∧
  kindOf EE 37 = .func ∧
  sizeT EE 37 = 1 ∧
  bytesT EE 37 = 8 ∧
  zeroT EE 37 = some (.nilf) ∧
  (∀ H b o, loadAV EE H 37 b o = cellAt H b o) ∧
  (∀ cs o, partAV EE 37 cs o = getL cs o) ∧
  (∀ H p x, storeV EE H 37 p x = storeN H 1 p x) ∧
  EE.flat 37 = none ∧
  kindOf EE 38 = .func ∧
  sizeT EE 38 = 1 ∧
  bytesT EE 38 = 8 ∧
  zeroT EE 38 = some (.nilf) ∧
  (∀ H b o, loadAV EE H 38 b o = cellAt H b o) ∧
  (∀ cs o, partAV EE 38 cs o = getL cs o) ∧
  (∀ H p x, storeV EE H 38 p x = storeN H 1 p x) ∧
  EE.flat 38 = none ∧
  kindOf EE 39 = .struct [(0, 17), (1, 17), (2, 17), (3, 9)] ∧
  sizeT EE 39 = 4 ∧
  bytesT EE 39 = 40 ∧
  zeroT EE 39 = some (.agg [.nilp, .nilp, .nilp, .str []]) ∧
  (∀ H b o, loadAV EE H 39 b o = (cellsAt H b o 4).omap .agg) ∧
  (∀ cs o, partAV EE 39 cs o = (takeE 4 (dropL o cs)).omap .agg) ∧
  (∀ H p x, storeV EE H 39 p x = storeN H 4 p x) ∧
  EE.flat 39 = none ∧
  kindOf EE 40 = .struct [(0, 17), (1, 17), (2, 17), (3, 9)] ∧
  sizeT EE 40 = 4 ∧
  bytesT EE 40 = 40 ∧
  zeroT EE 40 = some (.agg [.nilp, .nilp, .nilp, .str []]) ∧
  (∀ H b o, loadAV EE H 40 b o = (cellsAt H b o 4).omap .agg) ∧
  (∀ cs o, partAV EE 40 cs o = (takeE 4 (dropL o cs)).omap .agg) ∧
  (∀ H p x, storeV EE H 40 p x = storeN H 4 p x) ∧
  EE.flat 40 = none ∧
  kindOf EE 41 = .array 0 16 ∧
  sizeT EE 41 = 0 ∧
  bytesT EE 41 = 0 ∧
  zeroT EE 41 = some (.agg []) ∧
  (∀ H b o, loadAV EE H 41 b o = (cellsAt H b o 0).omap .agg) ∧
  (∀ cs o, partAV EE 41 cs o = (takeE 0 (dropL o cs)).omap .agg) ∧
  (∀ H p x, storeV EE H 41 p x = storeN H 0 p x) ∧
  EE.flat 41 = none ∧
  kindOf EE 42 = .struct [(0, 41)] ∧
  sizeT EE 42 = 0 ∧
  bytesT EE 42 = 0 ∧
  zeroT EE 42 = some (.agg []) ∧
  (∀ H b o, loadAV EE H 42 b o = (cellsAt H b o 0).omap .agg) ∧
  (∀ cs o, partAV EE 42 cs o = (takeE 0 (dropL o cs)).omap .agg) ∧
  (∀ H p x, storeV EE H 42 p x = storeN H 0 p x) ∧
  EE.flat 42 = none ∧
  kindOf EE 43 = .struct [(0, 41)] ∧
  sizeT EE 43 = 0 ∧
  bytesT EE 43 = 0 ∧
  zeroT EE 43 = some (.agg []) ∧
  (∀ H b o, loadAV EE H 43 b o = (cellsAt H b o 0).omap .agg) ∧
  (∀ cs o, partAV EE 43 cs o = (takeE 0 (dropL o cs)).omap .agg) ∧
  (∀ H p x, storeV EE H 43 p x = storeN H 0 p x) ∧
  EE.flat 43 = none ∧
  kindOf EE 44 = .func ∧
  sizeT EE 44 = 1 ∧
  bytesT EE 44 = 8 ∧
  zeroT EE 44 = some (.nilf) ∧
  (∀ H b o, loadAV EE H 44 b o = cellAt H b o) ∧
  (∀ cs o, partAV EE 44 cs o = getL cs o) ∧
  (∀ H p x, storeV EE H 44 p x = storeN H 1 p x) ∧
  EE.flat 44 = none ∧
  kindOf EE 45 = .int .u32 ∧
  sizeT EE 45 = 1 ∧
  bytesT EE 45 = 4 ∧
  zeroT EE 45 = some (.int .u32 0) ∧
  (∀ H b o, loadAV EE H 45 b o = cellAt H b o) ∧
  (∀ cs o, partAV EE 45 cs o = getL cs o) ∧
  (∀ H p x, storeV EE H 45 p x = storeN H 1 p x) ∧
  EE.flat 45 = some (false, 1) ∧
  kindOf EE 46 = .int .u8 ∧
  sizeT EE 46 = 1 ∧
  bytesT EE 46 = 1 ∧
  zeroT EE 46 = some (.int .u8 0) ∧
  (∀ H b o, loadAV EE H 46 b o = cellAt H b o) ∧
  (∀ cs o, partAV EE 46 cs o = getL cs o) ∧
  (∀ H p x, storeV EE H 46 p x = storeN H 1 p x) ∧
  EE.flat 46 = some (false, 1) ∧
  kindOf EE 47 = .int .u8 ∧
  sizeT EE 47 = 1 ∧
  bytesT EE 47 = 1 ∧
  zeroT EE 47 = some (.int .u8 0) ∧
  (∀ H b o, loadAV EE H 47 b o = cellAt H b o) ∧
  (∀ cs o, partAV EE 47 cs o = getL cs o) ∧
  (∀ H p x, storeV EE H 47 p x = storeN H 1 p x) ∧
  EE.flat 47 = some (false, 1) ∧
  kindOf EE 48 = .func ∧
  sizeT EE 48 = 1 ∧
  bytesT EE 48 = 8 ∧
  zeroT EE 48 = some (.nilf) ∧
  (∀ H b o, loadAV EE H 48 b o = cellAt H b o) ∧
  (∀ cs o, partAV EE 48 cs o = getL cs o) ∧
  (∀ H p x, storeV EE H 48 p x = storeN H 1 p x) ∧
  EE.flat 48 = none ∧
  kindOf EE 49 = .ptr 5 ∧
  sizeT EE 49 = 1 ∧
  bytesT EE 49 = 8 ∧
  zeroT EE 49 = some (.nilp) ∧
  (∀ H b o, loadAV EE H 49 b o = cellAt H b o) ∧
  (∀ cs o, partAV EE 49 cs o = getL cs o) ∧
  (∀ H p x, storeV EE H 49 p x = storeN H 1 p x) ∧
  EE.flat 49 = none ∧
  kindOf EE 50 = .int .i32 ∧
  sizeT EE 50 = 1 ∧
  bytesT EE 50 = 4 ∧
  zeroT EE 50 = some (.int .i32 0) ∧
  (∀ H b o, loadAV EE H 50 b o = cellAt H b o) ∧
  (∀ cs o, partAV EE 50 cs o = getL cs o) ∧
  (∀ H p x, storeV EE H 50 p x = storeN H 1 p x) ∧
  EE.flat 50 = some (false, 1) ∧
  kindOf EE 51 = .int .i32 ∧
  sizeT EE 51 = 1 ∧
  bytesT EE 51 = 4 ∧
  zeroT EE 51 = some (.int .i32 0) ∧
  (∀ H b o, loadAV EE H 51 b o = cellAt H b o) ∧
  (∀ cs o, partAV EE 51 cs o = getL cs o) ∧
  (∀ H p x, storeV EE H 51 p x = storeN H 1 p x) ∧
  EE.flat 51 = some (false, 1) ∧
  kindOf EE 52 = .struct [(0, 12), (1, 12), (2, 45), (3, 46), (4, 5), (5, 5), (6, 47), (7, 48), (8, 49), (9, 50), (10, 51)] ∧
  sizeT EE 52 = 11 ∧
  bytesT EE 52 = 48 ∧
  zeroT EE 52 = some (.agg [.int .u64 0, .int .u64 0, .int .u32 0, .int .u8 0, .int .u8 0, .int .u8 0, .int .u8 0, .nilf, .nilp, .int .i32 0, .int .i32 0]) ∧
  (∀ H b o, loadAV EE H 52 b o = (cellsAt H b o 11).omap .agg) ∧
  (∀ cs o, partAV EE 52 cs o = (takeE 11 (dropL o cs)).omap .agg) ∧
  (∀ H p x, storeV EE H 52 p x = storeN H 11 p x) ∧
  EE.flat 52 = none ∧
  kindOf EE 53 = .struct [(0, 12), (1, 12), (2, 45), (3, 46), (4, 5), (5, 5), (6, 47), (7, 48), (8, 49), (9, 50), (10, 51)] ∧
  sizeT EE 53 = 11 ∧
  bytesT EE 53 = 48 ∧
  zeroT EE 53 = some (.agg [.int .u64 0, .int .u64 0, .int .u32 0, .int .u8 0, .int .u8 0, .int .u8 0, .int .u8 0, .nilf, .nilp, .int .i32 0, .int .i32 0]) ∧
  (∀ H b o, loadAV EE H 53 b o = (cellsAt H b o 11).omap .agg) ∧
  (∀ cs o, partAV EE 53 cs o = (takeE 11 (dropL o cs)).omap .agg) ∧
  (∀ H p x, storeV EE H 53 p x = storeN H 11 p x) ∧
  EE.flat 53 = none :=
  ⟨trivial,
   by kernel_rfl,
   by kernel_rfl,
   by kernel_rfl,
   by kernel_rfl,
   load_one (by kernel_rfl),
   part_one (by kernel_rfl),
   store_n (by kernel_rfl),
   by kernel_rfl,
   by kernel_rfl,
   by kernel_rfl,
   by kernel_rfl,
   by kernel_rfl,
   load_one (by kernel_rfl),
   part_one (by kernel_rfl),
   store_n (by kernel_rfl),
   by kernel_rfl,
   by kernel_rfl,
   by kernel_rfl,
   by kernel_rfl,
   by kernel_rfl,
   load_one (by kernel_rfl),
   part_one (by kernel_rfl),
   store_n (by kernel_rfl),
   by kernel_rfl,
   by kernel_rfl,
   by kernel_rfl,
   by kernel_rfl,
   by kernel_rfl,
   load_one (by kernel_rfl),
   part_one (by kernel_rfl),
   store_n (by kernel_rfl),
   by kernel_rfl,
   by kernel_rfl,
   by kernel_rfl,
   by kernel_rfl,
   by kernel_rfl,
   load_one (by kernel_rfl),
   part_one (by kernel_rfl),
   store_n (by kernel_rfl),
   by kernel_rfl,
   by kernel_rfl,
   by kernel_rfl,
   by kernel_rfl,
   by kernel_rfl,
   load_one (by kernel_rfl),
   part_one (by kernel_rfl),
   store_n (by kernel_rfl),
   by kernel_rfl,
   by kernel_rfl,
   by kernel_rfl,
   by kernel_rfl,
   by kernel_rfl,
   load_agg (by kernel_rfl),
   part_agg (by kernel_rfl),
   store_n (by kernel_rfl),
   by kernel_rfl,
   by kernel_rfl,
   by kernel_rfl,
   by kernel_rfl,
   by kernel_rfl,
   load_agg (by kernel_rfl),
   part_agg (by kernel_rfl),
   store_n (by kernel_rfl),
   by kernel_rfl,
   by kernel_rfl,
   by kernel_rfl,
   by kernel_rfl,
   by kernel_rfl,
   load_one (by kernel_rfl),
   part_one (by kernel_rfl),
   store_n (by kernel_rfl),
   by kernel_rfl,
   by kernel_rfl,
   by kernel_rfl,
   by kernel_rfl,
   by kernel_rfl,
   load_one (by kernel_rfl),
   part_one (by kernel_rfl),
   store_n (by kernel_rfl),
   by kernel_rfl,
   by kernel_rfl,
   by kernel_rfl,
   by kernel_rfl,
   by kernel_rfl,
   load_one (by kernel_rfl),
   part_one (by kernel_rfl),
   store_n (by kernel_rfl),
   by kernel_rfl,
   by kernel_rfl,
   by kernel_rfl,
   by kernel_rfl,
   by kernel_rfl,
   load_one (by kernel_rfl),
   part_one (by kernel_rfl),
   store_n (by kernel_rfl),
   by kernel_rfl,
   by kernel_rfl,
   by kernel_rfl,
   by kernel_rfl,
   by kernel_rfl,
   load_agg (by kernel_rfl),
   part_agg (by kernel_rfl),
   store_n (by kernel_rfl),
   by kernel_rfl,
   by kernel_rfl,
   by kernel_rfl,
   by kernel_rfl,
   by kernel_rfl,
   load_agg (by kernel_rfl),
   part_agg (by kernel_rfl),
   store_n (by kernel_rfl),
   by kernel_rfl,
   by kernel_rfl,
   by kernel_rfl,
   by kernel_rfl,
   by kernel_rfl,
   load_one (by kernel_rfl),
   part_one (by kernel_rfl),
   store_n (by kernel_rfl),
   by kernel_rfl,
   by kernel_rfl,
   by kernel_rfl,
   by kernel_rfl,
   by kernel_rfl,
   load_one (by kernel_rfl),
   part_one (by kernel_rfl),
   store_n (by kernel_rfl),
   by kernel_rfl,
   by kernel_rfl,
   by kernel_rfl,
   by kernel_rfl,
   by kernel_rfl,
   load_one (by kernel_rfl),
   part_one (by kernel_rfl),
   store_n (by kernel_rfl),
   by kernel_rfl,
   by kernel_rfl,
   by kernel_rfl,
   by kernel_rfl,
   by kernel_rfl,
   load_agg (by kernel_rfl),
   part_agg (by kernel_rfl),
   store_n (by kernel_rfl),
   by kernel_rfl,
   by kernel_rfl,
   by kernel_rfl,
   by kernel_rfl,
   by kernel_rfl,
   load_agg (by kernel_rfl),
   part_agg (by kernel_rfl),
   store_n (by kernel_rfl),
   by kernel_rfl,
   by kernel_rfl,
   by kernel_rfl,
   by kernel_rfl,
   by kernel_rfl,
   load_one (by kernel_rfl),
   part_one (by kernel_rfl),
   store_n (by kernel_rfl),
   by kernel_rfl,
   by kernel_rfl,
   by kernel_rfl,
   by kernel_rfl,
   by kernel_rfl,
   load_one (by kernel_rfl),
   part_one (by kernel_rfl),
   store_n (by kernel_rfl),
   by kernel_rfl,
   by kernel_rfl,
   by kernel_rfl,
   by kernel_rfl,
   by kernel_rfl,
   load_one (by kernel_rfl),
   part_one (by kernel_rfl),
   store_n (by kernel_rfl),
   by kernel_rfl,
   by kernel_rfl,
   by kernel_rfl,
   by kernel_rfl,
   by kernel_rfl,
   load_one (by kernel_rfl),
   part_one (by kernel_rfl),
   store_n (by kernel_rfl),
   by kernel_rfl,
   by kernel_rfl,
   by kernel_rfl,
   by kernel_rfl,
   by kernel_rfl,
   load_one (by kernel_rfl),
   part_one (by kernel_rfl),
   store_n (by kernel_rfl),
   by kernel_rfl,
   by kernel_rfl,
   by kernel_rfl,
   by kernel_rfl,
   by kernel_rfl,
   load_one (by kernel_rfl),
   part_one (by kernel_rfl),
   store_n (by kernel_rfl),
   by kernel_rfl,
   by kernel_rfl,
   by kernel_rfl,
   by kernel_rfl,
   by kernel_rfl,
   load_one (by kernel_rfl),
   part_one (by kernel_rfl),
   store_n (by kernel_rfl),
   by kernel_rfl,
   by kernel_rfl,
   by kernel_rfl,
   by kernel_rfl,
   by kernel_rfl,
   load_one (by kernel_rfl),
   part_one (by kernel_rfl),
   store_n (by kernel_rfl),
   by kernel_rfl,
   by kernel_rfl,
   by kernel_rfl,
   by kernel_rfl,
   by kernel_rfl,
   load_one (by kernel_rfl),
   part_one (by kernel_rfl),
   store_n (by kernel_rfl),
   by kernel_rfl,
   by kernel_rfl,
   by kernel_rfl,
   by kernel_rfl,
   by kernel_rfl,
   load_one (by kernel_rfl),
   part_one (by kernel_rfl),
   store_n (by kernel_rfl),
   by kernel_rfl,
   by kernel_rfl,
   by kernel_rfl,
   by kernel_rfl,
   by kernel_rfl,
   load_one (by kernel_rfl),
   part_one (by kernel_rfl),
   store_n (by kernel_rfl),
   by kernel_rfl,
   by kernel_rfl,
   by kernel_rfl,
   by kernel_rfl,
   by kernel_rfl,
   load_one (by kernel_rfl),
   part_one (by kernel_rfl),
   store_n (by kernel_rfl),
   by kernel_rfl,
   by kernel_rfl,
   by kernel_rfl,
   by kernel_rfl,
   by kernel_rfl,
   load_one (by kernel_rfl),
   part_one (by kernel_rfl),
   store_n (by kernel_rfl),
   by kernel_rfl,
   by kernel_rfl,
   by kernel_rfl,
   by kernel_rfl,
   by kernel_rfl,
   load_one (by kernel_rfl),
   part_one (by kernel_rfl),
   store_n (by kernel_rfl),
   by kernel_rfl,
   by kernel_rfl,
   by kernel_rfl,
   by kernel_rfl,
   by kernel_rfl,
   load_one (by kernel_rfl),
   part_one (by kernel_rfl),
   store_n (by kernel_rfl),
   by kernel_rfl,
   by kernel_rfl,
   by kernel_rfl,
   by kernel_rfl,
   by kernel_rfl,
   load_agg (by kernel_rfl),
   part_agg (by kernel_rfl),
   store_n (by kernel_rfl),
   by kernel_rfl,
   by kernel_rfl,
   by kernel_rfl,
   by kernel_rfl,
   by kernel_rfl,
   load_agg (by kernel_rfl),
   part_agg (by kernel_rfl),
   store_n (by kernel_rfl),
   by kernel_rfl,
   by kernel_rfl,
   by kernel_rfl,
   by kernel_rfl,
   by kernel_rfl,
   load_one (by kernel_rfl),
   part_one (by kernel_rfl),
   store_n (by kernel_rfl),
   by kernel_rfl,
   by kernel_rfl,
   by kernel_rfl,
   by kernel_rfl,
   by kernel_rfl,
   load_one (by kernel_rfl),
   part_one (by kernel_rfl),
   store_n (by kernel_rfl),
   by kernel_rfl,
   by kernel_rfl,
   by kernel_rfl,
   by kernel_rfl,
   by kernel_rfl,
   load_agg (by kernel_rfl),
   part_agg (by kernel_rfl),
   store_n (by kernel_rfl),
   by kernel_rfl,
   by kernel_rfl,
   by kernel_rfl,
   by kernel_rfl,
   by kernel_rfl,
   load_agg (by kernel_rfl),
   part_agg (by kernel_rfl),
   store_n (by kernel_rfl),
   by kernel_rfl,
   by kernel_rfl,
   by kernel_rfl,
   by kernel_rfl,
   by kernel_rfl,
   load_agg (by kernel_rfl),
   part_agg (by kernel_rfl),
   store_n (by kernel_rfl),
   by kernel_rfl,
   by kernel_rfl,
   by kernel_rfl,
   by kernel_rfl,
   by kernel_rfl,
   load_agg (by kernel_rfl),
   part_agg (by kernel_rfl),
   store_n (by kernel_rfl),
   by kernel_rfl,
   by kernel_rfl,
   by kernel_rfl,
   by kernel_rfl,
   by kernel_rfl,
   load_agg (by kernel_rfl),
   part_agg (by kernel_rfl),
   store_n (by kernel_rfl),
   by kernel_rfl,
   by kernel_rfl,
   by kernel_rfl,
   by kernel_rfl,
   by kernel_rfl,
   load_one (by kernel_rfl),
   part_one (by kernel_rfl),
   store_n (by kernel_rfl),
   by kernel_rfl,
   by kernel_rfl,
   by kernel_rfl,
   by kernel_rfl,
   by kernel_rfl,
   load_one (by kernel_rfl),
   part_one (by kernel_rfl),
   store_n (by kernel_rfl),
   by kernel_rfl,
   by kernel_rfl,
   by kernel_rfl,
   by kernel_rfl,
   by kernel_rfl,
   load_one (by kernel_rfl),
   part_one (by kernel_rfl),
   store_n (by kernel_rfl),
   by kernel_rfl,
   by kernel_rfl,
   by kernel_rfl,
   by kernel_rfl,
   by kernel_rfl,
   load_one (by kernel_rfl),
   part_one (by kernel_rfl),
   store_n (by kernel_rfl),
   by kernel_rfl,
   by kernel_rfl,
   by kernel_rfl,
   by kernel_rfl,
   by kernel_rfl,
   load_one (by kernel_rfl),
   part_one (by kernel_rfl),
   store_n (by kernel_rfl),
   by kernel_rfl,
   by kernel_rfl,
   by kernel_rfl,
   by kernel_rfl,
   by kernel_rfl,
   load_one (by kernel_rfl),
   part_one (by kernel_rfl),
   store_n (by kernel_rfl),
   by kernel_rfl,
   by kernel_rfl,
   by kernel_rfl,
   by kernel_rfl,
   by kernel_rfl,
   load_one (by kernel_rfl),
   part_one (by kernel_rfl),
   store_n (by kernel_rfl),
   by kernel_rfl,
   by kernel_rfl,
   by kernel_rfl,
   by kernel_rfl,
   by kernel_rfl,
   load_one (by kernel_rfl),
   part_one (by kernel_rfl),
   store_n (by kernel_rfl),
   by kernel_rfl,
   by kernel_rfl,
   by kernel_rfl,
   by kernel_rfl,
   by kernel_rfl,
   load_agg (by kernel_rfl),
   part_agg (by kernel_rfl),
   store_n (by kernel_rfl),
   by kernel_rfl,
   by kernel_rfl,
   by kernel_rfl,
   by kernel_rfl,
   by kernel_rfl,
   load_agg (by kernel_rfl),
   part_agg (by kernel_rfl),
   store_n (by kernel_rfl),
   by kernel_rfl⟩
theorem baseOk : EnvOk (envOf Go.Proofs.Try.prog) Go.Proofs.Try.prog := envOk_of (by kernel_rfl) (by kernel_rfl) (Checked.mixed Go.Proofs.Try.checked)
end
end Go.Ev
