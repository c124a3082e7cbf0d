/-
  What the program says of its types, and that it is one of which the evaluator may speak. No conditions.
-/
import Derived.Test.YtjpmmbbdmodjdaaGreatEvF
import Derived.Test.YtjpmmbbdmodjdaaGreatChecked
import Derived.KernelRfl
import Derived.Eval
namespace Go.Ev
noncomputable section
def wk (f : FuncId) : Bool := f == 15
def EE : Env := envV Go.Proofs.Tryz.prog wk
set_option maxRecDepth 100000
theorem tyE : True ∧
  kindOf EE 1 = .func ∧
  sizeT EE 1 = 1 ∧
  bytesT EE 1 = 8 ∧
  zeroT EE 1 = some (.nilf) ∧
  (∀ H b o, loadAV EE H 1 b o = cellAt H b o) ∧
  (∀ cs o, partAV EE 1 cs o = getL cs o) ∧
  EE.flat 1 = none ∧
  kindOf EE 2 = .int .i64 ∧
  sizeT EE 2 = 1 ∧
  bytesT EE 2 = 8 ∧
  zeroT EE 2 = some (.int .i64 0) ∧
  (∀ H b o, loadAV EE H 2 b o = cellAt H b o) ∧
  (∀ cs o, partAV EE 2 cs o = getL cs o) ∧
  EE.flat 2 = some (false, 1) ∧
  kindOf EE 3 = .int .i64 ∧
  sizeT EE 3 = 1 ∧
  bytesT EE 3 = 8 ∧
  zeroT EE 3 = some (.int .i64 0) ∧
  (∀ H b o, loadAV EE H 3 b o = cellAt H b o) ∧
  (∀ cs o, partAV EE 3 cs o = getL cs o) ∧
  EE.flat 3 = some (false, 1) ∧
  kindOf EE 4 = .bool ∧
  sizeT EE 4 = 1 ∧
  bytesT EE 4 = 1 ∧
  zeroT EE 4 = some (.bool false) ∧
  (∀ H b o, loadAV EE H 4 b o = cellAt H b o) ∧
  (∀ cs o, partAV EE 4 cs o = getL cs o) ∧
  EE.flat 4 = some (true, 1) ∧
  kindOf EE 5 = .int .u8 ∧
  sizeT EE 5 = 1 ∧
  bytesT EE 5 = 1 ∧
  zeroT EE 5 = some (.int .u8 0) ∧
  (∀ H b o, loadAV EE H 5 b o = cellAt H b o) ∧
  (∀ cs o, partAV EE 5 cs o = getL cs o) ∧
  EE.flat 5 = some (false, 1) ∧
  kindOf EE 6 = .int .u8 ∧
  sizeT EE 6 = 1 ∧
  bytesT EE 6 = 1 ∧
  zeroT EE 6 = some (.int .u8 0) ∧
  (∀ H b o, loadAV EE H 6 b o = cellAt H b o) ∧
  (∀ cs o, partAV EE 6 cs o = getL cs o) ∧
  EE.flat 6 = some (false, 1) ∧
  kindOf EE 7 = .struct [(0, 2), (1, 3), (2, 4), (3, 6)] ∧
  sizeT EE 7 = 4 ∧
  bytesT EE 7 = 24 ∧
  zeroT EE 7 = some (.agg [.int .i64 0, .int .i64 0, .bool false, .int .u8 0]) ∧
  (∀ H b o, loadAV EE H 7 b o = (cellsAt H b o 4).omap .agg) ∧
  (∀ cs o, partAV EE 7 cs o = (takeE 4 (dropL o cs)).omap .agg) ∧
  EE.flat 7 = none ∧
  kindOf EE 8 = .struct [(0, 2), (1, 3), (2, 4), (3, 6)] ∧
  sizeT EE 8 = 4 ∧
  bytesT EE 8 = 24 ∧
  zeroT EE 8 = some (.agg [.int .i64 0, .int .i64 0, .bool false, .int .u8 0]) ∧
  (∀ H b o, loadAV EE H 8 b o = (cellsAt H b o 4).omap .agg) ∧
  (∀ cs o, partAV EE 8 cs o = (takeE 4 (dropL o cs)).omap .agg) ∧
  EE.flat 8 = none ∧
  kindOf EE 9 = .string ∧
  sizeT EE 9 = 1 ∧
  bytesT EE 9 = 16 ∧
  zeroT EE 9 = some (.str []) ∧
  (∀ H b o, loadAV EE H 9 b o = cellAt H b o) ∧
  (∀ cs o, partAV EE 9 cs o = getL cs o) ∧
  EE.flat 9 = none ∧
  kindOf EE 10 = .string ∧
  sizeT EE 10 = 1 ∧
  bytesT EE 10 = 16 ∧
  zeroT EE 10 = some (.str []) ∧
  (∀ H b o, loadAV EE H 10 b o = cellAt H b o) ∧
  (∀ cs o, partAV EE 10 cs o = getL cs o) ∧
  EE.flat 10 = none ∧
  kindOf EE 11 = .string ∧
  sizeT EE 11 = 1 ∧
  bytesT EE 11 = 16 ∧
  zeroT EE 11 = some (.str []) ∧
  (∀ H b o, loadAV EE H 11 b o = cellAt H b o) ∧
  (∀ cs o, partAV EE 11 cs o = getL cs o) ∧
  EE.flat 11 = none ∧
  kindOf EE 12 = .int .u64 ∧
  sizeT EE 12 = 1 ∧
  bytesT EE 12 = 8 ∧
  zeroT EE 12 = some (.int .u64 0) ∧
  (∀ H b o, loadAV EE H 12 b o = cellAt H b o) ∧
  (∀ cs o, partAV EE 12 cs o = getL cs o) ∧
  EE.flat 12 = some (false, 1) ∧
  kindOf EE 13 = .struct [(0, 9), (1, 12)] ∧
  sizeT EE 13 = 2 ∧
  bytesT EE 13 = 24 ∧
  zeroT EE 13 = some (.agg [.str [], .int .u64 0]) ∧
  (∀ H b o, loadAV EE H 13 b o = (cellsAt H b o 2).omap .agg) ∧
  (∀ cs o, partAV EE 13 cs o = (takeE 2 (dropL o cs)).omap .agg) ∧
  EE.flat 13 = none ∧
  kindOf EE 14 = .struct [(0, 9), (1, 12)] ∧
  sizeT EE 14 = 2 ∧
  bytesT EE 14 = 24 ∧
  zeroT EE 14 = some (.agg [.str [], .int .u64 0]) ∧
  (∀ H b o, loadAV EE H 14 b o = (cellsAt H b o 2).omap .agg) ∧
  (∀ cs o, partAV EE 14 cs o = (takeE 2 (dropL o cs)).omap .agg) ∧
  EE.flat 14 = none ∧
  kindOf EE 15 = .ptr 328 ∧
  sizeT EE 15 = 1 ∧
  bytesT EE 15 = 8 ∧
  zeroT EE 15 = some (.nilp) ∧
  (∀ H b o, loadAV EE H 15 b o = cellAt H b o) ∧
  (∀ cs o, partAV EE 15 cs o = getL cs o) ∧
  EE.flat 15 = none ∧
  kindOf EE 16 = .ptr 331 ∧
  sizeT EE 16 = 1 ∧
  bytesT EE 16 = 8 ∧
  zeroT EE 16 = some (.nilp) ∧
  (∀ H b o, loadAV EE H 16 b o = cellAt H b o) ∧
  (∀ cs o, partAV EE 16 cs o = getL cs o) ∧
  EE.flat 16 = none ∧
  kindOf EE 17 = .ptr 339 ∧
  sizeT EE 17 = 1 ∧
  bytesT EE 17 = 8 ∧
  zeroT EE 17 = some (.nilp) ∧
  (∀ H b o, loadAV EE H 17 b o = cellAt H b o) ∧
  (∀ cs o, partAV EE 17 cs o = getL cs o) ∧
  EE.flat 17 = none ∧
  kindOf EE 18 = .struct [(0, 17)] ∧
  sizeT EE 18 = 1 ∧
  bytesT EE 18 = 8 ∧
  zeroT EE 18 = some (.agg [.nilp]) ∧
  (∀ H b o, loadAV EE H 18 b o = (cellsAt H b o 1).omap .agg) ∧
  (∀ cs o, partAV EE 18 cs o = (takeE 1 (dropL o cs)).omap .agg) ∧
  EE.flat 18 = none ∧
  kindOf EE 19 = .struct [(0, 17)] ∧
  sizeT EE 19 = 1 ∧
  bytesT EE 19 = 8 ∧
  zeroT EE 19 = some (.agg [.nilp]) ∧
  (∀ H b o, loadAV EE H 19 b o = (cellsAt H b o 1).omap .agg) ∧
  (∀ cs o, partAV EE 19 cs o = (takeE 1 (dropL o cs)).omap .agg) ∧
  EE.flat 19 = none ∧
  kindOf EE 20 = .iface ∧
  sizeT EE 20 = 1 ∧
  bytesT EE 20 = 16 ∧
  zeroT EE 20 = some (.nili) ∧
  (∀ H b o, loadAV EE H 20 b o = cellAt H b o) ∧
  (∀ cs o, partAV EE 20 cs o = getL cs o) ∧
  EE.flat 20 = none ∧
  kindOf EE 21 = .int .i32 ∧
  sizeT EE 21 = 1 ∧
  bytesT EE 21 = 4 ∧
  zeroT EE 21 = some (.int .i32 0) ∧
  (∀ H b o, loadAV EE H 21 b o = cellAt H b o) ∧
  (∀ cs o, partAV EE 21 cs o = getL cs o) ∧
  EE.flat 21 = some (false, 1) ∧
  kindOf EE 22 = .slice 3 ∧
  sizeT EE 22 = 1 ∧
  bytesT EE 22 = 24 ∧
  zeroT EE 22 = some (.nils) ∧
  (∀ H b o, loadAV EE H 22 b o = cellAt H b o) ∧
  (∀ cs o, partAV EE 22 cs o = getL cs o) ∧
  EE.flat 22 = none ∧
  kindOf EE 23 = .func ∧
  sizeT EE 23 = 1 ∧
  bytesT EE 23 = 8 ∧
  zeroT EE 23 = some (.nilf) ∧
  (∀ H b o, loadAV EE H 23 b o = cellAt H b o) ∧
  (∀ cs o, partAV EE 23 cs o = getL cs o) ∧
  EE.flat 23 = none ∧
  kindOf EE 24 = .func ∧
  sizeT EE 24 = 1 ∧
  bytesT EE 24 = 8 ∧
  zeroT EE 24 = some (.nilf) ∧
  (∀ H b o, loadAV EE H 24 b o = cellAt H b o) ∧
  (∀ cs o, partAV EE 24 cs o = getL cs o) ∧
  EE.flat 24 = none ∧
  kindOf EE 25 = .func ∧
  sizeT EE 25 = 1 ∧
  bytesT EE 25 = 8 ∧
  zeroT EE 25 = some (.nilf) ∧
  (∀ H b o, loadAV EE H 25 b o = cellAt H b o) ∧
  (∀ cs o, partAV EE 25 cs o = getL cs o) ∧
  EE.flat 25 = none ∧
  kindOf EE 26 = .int .i64 ∧
  sizeT EE 26 = 1 ∧
  bytesT EE 26 = 8 ∧
  zeroT EE 26 = some (.int .i64 0) ∧
  (∀ H b o, loadAV EE H 26 b o = cellAt H b o) ∧
  (∀ cs o, partAV EE 26 cs o = getL cs o) ∧
  EE.flat 26 = some (false, 1) ∧
  kindOf EE 27 = .func ∧
  sizeT EE 27 = 1 ∧
  bytesT EE 27 = 8 ∧
  zeroT EE 27 = some (.nilf) ∧
  (∀ H b o, loadAV EE H 27 b o = cellAt H b o) ∧
  (∀ cs o, partAV EE 27 cs o = getL cs o) ∧
  EE.flat 27 = none ∧
  kindOf EE 28 = .func ∧
  sizeT EE 28 = 1 ∧
  bytesT EE 28 = 8 ∧
  zeroT EE 28 = some (.nilf) ∧
  (∀ H b o, loadAV EE H 28 b o = cellAt H b o) ∧
  (∀ cs o, partAV EE 28 cs o = getL cs o) ∧
  EE.flat 28 = none ∧
  kindOf EE 30 = .func ∧
  sizeT EE 30 = 1 ∧
  bytesT EE 30 = 8 ∧
  zeroT EE 30 = some (.nilf) ∧
  (∀ H b o, loadAV EE H 30 b o = cellAt H b o) ∧
  (∀ cs o, partAV EE 30 cs o = getL cs o) ∧
  EE.flat 30 = none ∧
  kindOf EE 31 = .func ∧
  sizeT EE 31 = 1 ∧
  bytesT EE 31 = 8 ∧
  zeroT EE 31 = some (.nilf) ∧
  (∀ H b o, loadAV EE H 31 b o = cellAt H b o) ∧
  (∀ cs o, partAV EE 31 cs o = getL cs o) ∧
  EE.flat 31 = none ∧
  kindOf EE 32 = .func ∧
  sizeT EE 32 = 1 ∧
  bytesT EE 32 = 8 ∧
  zeroT EE 32 = some (.nilf) ∧
  (∀ H b o, loadAV EE H 32 b o = cellAt H b o) ∧
  (∀ cs o, partAV EE 32 cs o = getL cs o) ∧
  EE.flat 32 = none ∧
  kindOf EE 33 = .array 64 5 ∧
  sizeT EE 33 = 64 ∧
  bytesT EE 33 = 64 ∧
  zeroT EE 33 = some (.agg (List.replicate 64 (.int .u8 0))) ∧
  (∀ H b o, loadAV EE H 33 b o = (cellsAt H b o 64).omap .agg) ∧
  (∀ cs o, partAV EE 33 cs o = (takeE 64 (dropL o cs)).omap .agg) ∧
  EE.flat 33 = some (false, 64) ∧
  kindOf EE 34 = .array 64 5 ∧
  sizeT EE 34 = 64 ∧
  bytesT EE 34 = 64 ∧
  zeroT EE 34 = some (.agg (List.replicate 64 (.int .u8 0))) ∧
  (∀ H b o, loadAV EE H 34 b o = (cellsAt H b o 64).omap .agg) ∧
  (∀ cs o, partAV EE 34 cs o = (takeE 64 (dropL o cs)).omap .agg) ∧
  EE.flat 34 = some (false, 64) ∧
  kindOf EE 36 = .func ∧
  sizeT EE 36 = 1 ∧
  bytesT EE 36 = 8 ∧
  zeroT EE 36 = some (.nilf) ∧
  (∀ H b o, loadAV EE H 36 b o = cellAt H b o) ∧
  (∀ cs o, partAV EE 36 cs o = getL cs o) ∧
  EE.flat 36 = none ∧
  kindOf EE 37 = .func ∧
  sizeT EE 37 = 1 ∧
  bytesT EE 37 = 8 ∧
  zeroT EE 37 = some (.nilf) ∧
  (∀ H b o, loadAV EE H 37 b o = cellAt H b o) ∧
  (∀ cs o, partAV EE 37 cs o = getL cs o) ∧
  EE.flat 37 = none ∧
  kindOf EE 38 = .func ∧
  sizeT EE 38 = 1 ∧
  bytesT EE 38 = 8 ∧
  zeroT EE 38 = some (.nilf) ∧
  (∀ H b o, loadAV EE H 38 b o = cellAt H b o) ∧
  (∀ cs o, partAV EE 38 cs o = getL cs o) ∧
  EE.flat 38 = none ∧
  kindOf EE 39 = .func ∧
  sizeT EE 39 = 1 ∧
  bytesT EE 39 = 8 ∧
  zeroT EE 39 = some (.nilf) ∧
  (∀ H b o, loadAV EE H 39 b o = cellAt H b o) ∧
  (∀ cs o, partAV EE 39 cs o = getL cs o) ∧
  EE.flat 39 = none ∧
  kindOf EE 40 = .func ∧
  sizeT EE 40 = 1 ∧
  bytesT EE 40 = 8 ∧
  zeroT EE 40 = some (.nilf) ∧
  (∀ H b o, loadAV EE H 40 b o = cellAt H b o) ∧
  (∀ cs o, partAV EE 40 cs o = getL cs o) ∧
  EE.flat 40 = none ∧
  kindOf EE 41 = .func ∧
  sizeT EE 41 = 1 ∧
  bytesT EE 41 = 8 ∧
  zeroT EE 41 = some (.nilf) ∧
  (∀ H b o, loadAV EE H 41 b o = cellAt H b o) ∧
  (∀ cs o, partAV EE 41 cs o = getL cs o) ∧
  EE.flat 41 = none ∧
  kindOf EE 42 = .slice 108 ∧
  sizeT EE 42 = 1 ∧
  bytesT EE 42 = 24 ∧
  zeroT EE 42 = some (.nils) ∧
  (∀ H b o, loadAV EE H 42 b o = cellAt H b o) ∧
  (∀ cs o, partAV EE 42 cs o = getL cs o) ∧
  EE.flat 42 = none ∧
  kindOf EE 44 = .func ∧
  sizeT EE 44 = 1 ∧
  bytesT EE 44 = 8 ∧
  zeroT EE 44 = some (.nilf) ∧
  (∀ H b o, loadAV EE H 44 b o = cellAt H b o) ∧
  (∀ cs o, partAV EE 44 cs o = getL cs o) ∧
  EE.flat 44 = none ∧
  kindOf EE 45 = .slice 65 ∧
  sizeT EE 45 = 1 ∧
  bytesT EE 45 = 24 ∧
  zeroT EE 45 = some (.nils) ∧
  (∀ H b o, loadAV EE H 45 b o = cellAt H b o) ∧
  (∀ cs o, partAV EE 45 cs o = getL cs o) ∧
  EE.flat 45 = none ∧
  kindOf EE 46 = .struct [(0, 3), (1, 3), (2, 42)] ∧
  sizeT EE 46 = 3 ∧
  bytesT EE 46 = 40 ∧
  zeroT EE 46 = some (.agg [.int .i64 0, .int .i64 0, .nils]) ∧
  (∀ H b o, loadAV EE H 46 b o = (cellsAt H b o 3).omap .agg) ∧
  (∀ cs o, partAV EE 46 cs o = (takeE 3 (dropL o cs)).omap .agg) ∧
  EE.flat 46 = none ∧
  kindOf EE 47 = .struct [(0, 3), (1, 3), (2, 42)] ∧
  sizeT EE 47 = 3 ∧
  bytesT EE 47 = 40 ∧
  zeroT EE 47 = some (.agg [.int .i64 0, .int .i64 0, .nils]) ∧
  (∀ H b o, loadAV EE H 47 b o = (cellsAt H b o 3).omap .agg) ∧
  (∀ cs o, partAV EE 47 cs o = (takeE 3 (dropL o cs)).omap .agg) ∧
  EE.flat 47 = none ∧
  kindOf EE 48 = .struct [(0, 22), (1, 45), (2, 3), (3, 47)] ∧
  sizeT EE 48 = 6 ∧
  bytesT EE 48 = 96 ∧
  zeroT EE 48 = some (.agg [.nils, .nils, .int .i64 0, .int .i64 0, .int .i64 0, .nils]) ∧
  (∀ H b o, loadAV EE H 48 b o = (cellsAt H b o 6).omap .agg) ∧
  (∀ cs o, partAV EE 48 cs o = (takeE 6 (dropL o cs)).omap .agg) ∧
  EE.flat 48 = none ∧
  kindOf EE 49 = .struct [(0, 22), (1, 45), (2, 3), (3, 47)] ∧
  sizeT EE 49 = 6 ∧
  bytesT EE 49 = 96 ∧
  zeroT EE 49 = some (.agg [.nils, .nils, .int .i64 0, .int .i64 0, .int .i64 0, .nils]) ∧
  (∀ H b o, loadAV EE H 49 b o = (cellsAt H b o 6).omap .agg) ∧
  (∀ cs o, partAV EE 49 cs o = (takeE 6 (dropL o cs)).omap .agg) ∧
  EE.flat 49 = none ∧
  kindOf EE 50 = .ptr 133 ∧
  sizeT EE 50 = 1 ∧
  bytesT EE 50 = 8 ∧
  zeroT EE 50 = some (.nilp) ∧
  (∀ H b o, loadAV EE H 50 b o = cellAt H b o) ∧
  (∀ cs o, partAV EE 50 cs o = getL cs o) ∧
  EE.flat 50 = none ∧
  kindOf EE 51 = .ptr 120 ∧
  sizeT EE 51 = 1 ∧
  bytesT EE 51 = 8 ∧
  zeroT EE 51 = some (.nilp) ∧
  (∀ H b o, loadAV EE H 51 b o = cellAt H b o) ∧
  (∀ cs o, partAV EE 51 cs o = getL cs o) ∧
  EE.flat 51 = none ∧
  kindOf EE 52 = .ptr 175 ∧
  sizeT EE 52 = 1 ∧
  bytesT EE 52 = 8 ∧
  zeroT EE 52 = some (.nilp) ∧
  (∀ H b o, loadAV EE H 52 b o = cellAt H b o) ∧
  (∀ cs o, partAV EE 52 cs o = getL cs o) ∧
  EE.flat 52 = none ∧
  kindOf EE 54 = .func ∧
  sizeT EE 54 = 1 ∧
  bytesT EE 54 = 8 ∧
  zeroT EE 54 = some (.nilf) ∧
  (∀ H b o, loadAV EE H 54 b o = cellAt H b o) ∧
  (∀ cs o, partAV EE 54 cs o = getL cs o) ∧
  EE.flat 54 = none ∧
  kindOf EE 55 = .struct [(0, 3), (1, 3), (2, 3), (3, 3), (4, 3)] ∧
  sizeT EE 55 = 5 ∧
  bytesT EE 55 = 40 ∧
  zeroT EE 55 = some (.agg [.int .i64 0, .int .i64 0, .int .i64 0, .int .i64 0, .int .i64 0]) ∧
  (∀ H b o, loadAV EE H 55 b o = (cellsAt H b o 5).omap .agg) ∧
  (∀ cs o, partAV EE 55 cs o = (takeE 5 (dropL o cs)).omap .agg) ∧
  EE.flat 55 = some (false, 5) ∧
  kindOf EE 56 = .struct [(0, 3), (1, 3), (2, 3), (3, 3), (4, 3)] ∧
  sizeT EE 56 = 5 ∧
  bytesT EE 56 = 40 ∧
  zeroT EE 56 = some (.agg [.int .i64 0, .int .i64 0, .int .i64 0, .int .i64 0, .int .i64 0]) ∧
  (∀ H b o, loadAV EE H 56 b o = (cellsAt H b o 5).omap .agg) ∧
  (∀ cs o, partAV EE 56 cs o = (takeE 5 (dropL o cs)).omap .agg) ∧
  EE.flat 56 = some (false, 5) ∧
  kindOf EE 57 = .slice 5 ∧
  sizeT EE 57 = 1 ∧
  bytesT EE 57 = 24 ∧
  zeroT EE 57 = some (.nils) ∧
  (∀ H b o, loadAV EE H 57 b o = cellAt H b o) ∧
  (∀ cs o, partAV EE 57 cs o = getL cs o) ∧
  EE.flat 57 = none ∧
  kindOf EE 58 = .slice 93 ∧
  sizeT EE 58 = 1 ∧
  bytesT EE 58 = 24 ∧
  zeroT EE 58 = some (.nils) ∧
  (∀ H b o, loadAV EE H 58 b o = cellAt H b o) ∧
  (∀ cs o, partAV EE 58 cs o = getL cs o) ∧
  EE.flat 58 = none ∧
  kindOf EE 59 = .struct [(0, 56), (5, 57), (6, 58), (7, 45)] ∧
  sizeT EE 59 = 8 ∧
  bytesT EE 59 = 112 ∧
  zeroT EE 59 = some (.agg [.int .i64 0, .int .i64 0, .int .i64 0, .int .i64 0, .int .i64 0, .nils, .nils, .nils]) ∧
  (∀ H b o, loadAV EE H 59 b o = (cellsAt H b o 8).omap .agg) ∧
  (∀ cs o, partAV EE 59 cs o = (takeE 8 (dropL o cs)).omap .agg) ∧
  EE.flat 59 = none ∧
  kindOf EE 60 = .struct [(0, 56), (5, 57), (6, 58), (7, 45)] ∧
  sizeT EE 60 = 8 ∧
  bytesT EE 60 = 112 ∧
  zeroT EE 60 = some (.agg [.int .i64 0, .int .i64 0, .int .i64 0, .int .i64 0, .int .i64 0, .nils, .nils, .nils]) ∧
  (∀ H b o, loadAV EE H 60 b o = (cellsAt H b o 8).omap .agg) ∧
  (∀ cs o, partAV EE 60 cs o = (takeE 8 (dropL o cs)).omap .agg) ∧
  EE.flat 60 = none ∧
  kindOf EE 61 = .func ∧
  sizeT EE 61 = 1 ∧
  bytesT EE 61 = 8 ∧
  zeroT EE 61 = some (.nilf) ∧
  (∀ H b o, loadAV EE H 61 b o = cellAt H b o) ∧
  (∀ cs o, partAV EE 61 cs o = getL cs o) ∧
  EE.flat 61 = none ∧
  kindOf EE 62 = .func ∧
  sizeT EE 62 = 1 ∧
  bytesT EE 62 = 8 ∧
  zeroT EE 62 = some (.nilf) ∧
  (∀ H b o, loadAV EE H 62 b o = cellAt H b o) ∧
  (∀ cs o, partAV EE 62 cs o = getL cs o) ∧
  EE.flat 62 = none ∧
  kindOf EE 63 = .func ∧
  sizeT EE 63 = 1 ∧
  bytesT EE 63 = 8 ∧
  zeroT EE 63 = some (.nilf) ∧
  (∀ H b o, loadAV EE H 63 b o = cellAt H b o) ∧
  (∀ cs o, partAV EE 63 cs o = getL cs o) ∧
  EE.flat 63 = none ∧
  kindOf EE 64 = .struct [(0, 3), (1, 57), (2, 42)] ∧
  sizeT EE 64 = 3 ∧
  bytesT EE 64 = 56 ∧
  zeroT EE 64 = some (.agg [.int .i64 0, .nils, .nils]) ∧
  (∀ H b o, loadAV EE H 64 b o = (cellsAt H b o 3).omap .agg) ∧
  (∀ cs o, partAV EE 64 cs o = (takeE 3 (dropL o cs)).omap .agg) ∧
  EE.flat 64 = none ∧
  kindOf EE 65 = .struct [(0, 3), (1, 57), (2, 42)] ∧
  sizeT EE 65 = 3 ∧
  bytesT EE 65 = 56 ∧
  zeroT EE 65 = some (.agg [.int .i64 0, .nils, .nils]) ∧
  (∀ H b o, loadAV EE H 65 b o = (cellsAt H b o 3).omap .agg) ∧
  (∀ cs o, partAV EE 65 cs o = (takeE 3 (dropL o cs)).omap .agg) ∧
  EE.flat 65 = none ∧
  kindOf EE 67 = .func ∧
  sizeT EE 67 = 1 ∧
  bytesT EE 67 = 8 ∧
  zeroT EE 67 = some (.nilf) ∧
  (∀ H b o, loadAV EE H 67 b o = cellAt H b o) ∧
  (∀ cs o, partAV EE 67 cs o = getL cs o) ∧
  EE.flat 67 = none ∧
  kindOf EE 68 = .func ∧
  sizeT EE 68 = 1 ∧
  bytesT EE 68 = 8 ∧
  zeroT EE 68 = some (.nilf) ∧
  (∀ H b o, loadAV EE H 68 b o = cellAt H b o) ∧
  (∀ cs o, partAV EE 68 cs o = getL cs o) ∧
  EE.flat 68 = none ∧
  kindOf EE 70 = .ptr 136 ∧
  sizeT EE 70 = 1 ∧
  bytesT EE 70 = 8 ∧
  zeroT EE 70 = some (.nilp) ∧
  (∀ H b o, loadAV EE H 70 b o = cellAt H b o) ∧
  (∀ cs o, partAV EE 70 cs o = getL cs o) ∧
  EE.flat 70 = none ∧
  kindOf EE 71 = .func ∧
  sizeT EE 71 = 1 ∧
  bytesT EE 71 = 8 ∧
  zeroT EE 71 = some (.nilf) ∧
  (∀ H b o, loadAV EE H 71 b o = cellAt H b o) ∧
  (∀ cs o, partAV EE 71 cs o = getL cs o) ∧
  EE.flat 71 = none ∧
  kindOf EE 72 = .func ∧
  sizeT EE 72 = 1 ∧
  bytesT EE 72 = 8 ∧
  zeroT EE 72 = some (.nilf) ∧
  (∀ H b o, loadAV EE H 72 b o = cellAt H b o) ∧
  (∀ cs o, partAV EE 72 cs o = getL cs o) ∧
  EE.flat 72 = none ∧
  kindOf EE 74 = .func ∧
  sizeT EE 74 = 1 ∧
  bytesT EE 74 = 8 ∧
  zeroT EE 74 = some (.nilf) ∧
  (∀ H b o, loadAV EE H 74 b o = cellAt H b o) ∧
  (∀ cs o, partAV EE 74 cs o = getL cs o) ∧
  EE.flat 74 = none ∧
  kindOf EE 75 = .func ∧
  sizeT EE 75 = 1 ∧
  bytesT EE 75 = 8 ∧
  zeroT EE 75 = some (.nilf) ∧
  (∀ H b o, loadAV EE H 75 b o = cellAt H b o) ∧
  (∀ cs o, partAV EE 75 cs o = getL cs o) ∧
  EE.flat 75 = none ∧
  kindOf EE 76 = .func ∧
  sizeT EE 76 = 1 ∧
  bytesT EE 76 = 8 ∧
  zeroT EE 76 = some (.nilf) ∧
  (∀ H b o, loadAV EE H 76 b o = cellAt H b o) ∧
  (∀ cs o, partAV EE 76 cs o = getL cs o) ∧
  EE.flat 76 = none ∧
  kindOf EE 77 = .func ∧
  sizeT EE 77 = 1 ∧
  bytesT EE 77 = 8 ∧
  zeroT EE 77 = some (.nilf) ∧
  (∀ H b o, loadAV EE H 77 b o = cellAt H b o) ∧
  (∀ cs o, partAV EE 77 cs o = getL cs o) ∧
  EE.flat 77 = none ∧
  kindOf EE 78 = .func ∧
  sizeT EE 78 = 1 ∧
  bytesT EE 78 = 8 ∧
  zeroT EE 78 = some (.nilf) ∧
  (∀ H b o, loadAV EE H 78 b o = cellAt H b o) ∧
  (∀ cs o, partAV EE 78 cs o = getL cs o) ∧
  EE.flat 78 = none ∧
  kindOf EE 79 = .func ∧
  sizeT EE 79 = 1 ∧
  bytesT EE 79 = 8 ∧
  zeroT EE 79 = some (.nilf) ∧
  (∀ H b o, loadAV EE H 79 b o = cellAt H b o) ∧
  (∀ cs o, partAV EE 79 cs o = getL cs o) ∧
  EE.flat 79 = none ∧
  kindOf EE 80 = .func ∧
  sizeT EE 80 = 1 ∧
  bytesT EE 80 = 8 ∧
  zeroT EE 80 = some (.nilf) ∧
  (∀ H b o, loadAV EE H 80 b o = cellAt H b o) ∧
  (∀ cs o, partAV EE 80 cs o = getL cs o) ∧
  EE.flat 80 = none ∧
  kindOf EE 82 = .func ∧
  sizeT EE 82 = 1 ∧
  bytesT EE 82 = 8 ∧
  zeroT EE 82 = some (.nilf) ∧
  (∀ H b o, loadAV EE H 82 b o = cellAt H b o) ∧
  (∀ cs o, partAV EE 82 cs o = getL cs o) ∧
  EE.flat 82 = none ∧
  kindOf EE 83 = .func ∧
  sizeT EE 83 = 1 ∧
  bytesT EE 83 = 8 ∧
  zeroT EE 83 = some (.nilf) ∧
  (∀ H b o, loadAV EE H 83 b o = cellAt H b o) ∧
  (∀ cs o, partAV EE 83 cs o = getL cs o) ∧
  EE.flat 83 = none ∧
  kindOf EE 84 = .ptr 65 ∧
  sizeT EE 84 = 1 ∧
  bytesT EE 84 = 8 ∧
  zeroT EE 84 = some (.nilp) ∧
  (∀ H b o, loadAV EE H 84 b o = cellAt H b o) ∧
  (∀ cs o, partAV EE 84 cs o = getL cs o) ∧
  EE.flat 84 = none ∧
  kindOf EE 85 = .func ∧
  sizeT EE 85 = 1 ∧
  bytesT EE 85 = 8 ∧
  zeroT EE 85 = some (.nilf) ∧
  (∀ H b o, loadAV EE H 85 b o = cellAt H b o) ∧
  (∀ cs o, partAV EE 85 cs o = getL cs o) ∧
  EE.flat 85 = none ∧
  kindOf EE 86 = .func ∧
  sizeT EE 86 = 1 ∧
  bytesT EE 86 = 8 ∧
  zeroT EE 86 = some (.nilf) ∧
  (∀ H b o, loadAV EE H 86 b o = cellAt H b o) ∧
  (∀ cs o, partAV EE 86 cs o = getL cs o) ∧
  EE.flat 86 = none ∧
  kindOf EE 87 = .func ∧
  sizeT EE 87 = 1 ∧
  bytesT EE 87 = 8 ∧
  zeroT EE 87 = some (.nilf) ∧
  (∀ H b o, loadAV EE H 87 b o = cellAt H b o) ∧
  (∀ cs o, partAV EE 87 cs o = getL cs o) ∧
  EE.flat 87 = none ∧
  kindOf EE 88 = .func ∧
  sizeT EE 88 = 1 ∧
  bytesT EE 88 = 8 ∧
  zeroT EE 88 = some (.nilf) ∧
  (∀ H b o, loadAV EE H 88 b o = cellAt H b o) ∧
  (∀ cs o, partAV EE 88 cs o = getL cs o) ∧
  EE.flat 88 = none ∧
  kindOf EE 89 = .func ∧
  sizeT EE 89 = 1 ∧
  bytesT EE 89 = 8 ∧
  zeroT EE 89 = some (.nilf) ∧
  (∀ H b o, loadAV EE H 89 b o = cellAt H b o) ∧
  (∀ cs o, partAV EE 89 cs o = getL cs o) ∧
  EE.flat 89 = none ∧
  kindOf EE 90 = .func ∧
  sizeT EE 90 = 1 ∧
  bytesT EE 90 = 8 ∧
  zeroT EE 90 = some (.nilf) ∧
  (∀ H b o, loadAV EE H 90 b o = cellAt H b o) ∧
  (∀ cs o, partAV EE 90 cs o = getL cs o) ∧
  EE.flat 90 = none :=
  ⟨trivial,
   by kernel_rfl,
   by kernel_rfl,
   by kernel_rfl,
   by kernel_rfl,
   load_one (by kernel_rfl),
   part_one (by kernel_rfl),
   by kernel_rfl,
   by kernel_rfl,
   by kernel_rfl,
   by kernel_rfl,
   by kernel_rfl,
   load_one (by kernel_rfl),
   part_one (by kernel_rfl),
   by kernel_rfl,
   by kernel_rfl,
   by kernel_rfl,
   by kernel_rfl,
   by kernel_rfl,
   load_one (by kernel_rfl),
   part_one (by kernel_rfl),
   by kernel_rfl,
   by kernel_rfl,
   by kernel_rfl,
   by kernel_rfl,
   by kernel_rfl,
   load_one (by kernel_rfl),
   part_one (by kernel_rfl),
   by kernel_rfl,
   by kernel_rfl,
   by kernel_rfl,
   by kernel_rfl,
   by kernel_rfl,
   load_one (by kernel_rfl),
   part_one (by kernel_rfl),
   by kernel_rfl,
   by kernel_rfl,
   by kernel_rfl,
   by kernel_rfl,
   by kernel_rfl,
   load_one (by kernel_rfl),
   part_one (by kernel_rfl),
   by kernel_rfl,
   by kernel_rfl,
   by kernel_rfl,
   by kernel_rfl,
   by kernel_rfl,
   load_agg (by kernel_rfl),
   part_agg (by kernel_rfl),
   by kernel_rfl,
   by kernel_rfl,
   by kernel_rfl,
   by kernel_rfl,
   by kernel_rfl,
   load_agg (by kernel_rfl),
   part_agg (by kernel_rfl),
   by kernel_rfl,
   by kernel_rfl,
   by kernel_rfl,
   by kernel_rfl,
   by kernel_rfl,
   load_one (by kernel_rfl),
   part_one (by kernel_rfl),
   by kernel_rfl,
   by kernel_rfl,
   by kernel_rfl,
   by kernel_rfl,
   by kernel_rfl,
   load_one (by kernel_rfl),
   part_one (by kernel_rfl),
   by kernel_rfl,
   by kernel_rfl,
   by kernel_rfl,
   by kernel_rfl,
   by kernel_rfl,
   load_one (by kernel_rfl),
   part_one (by kernel_rfl),
   by kernel_rfl,
   by kernel_rfl,
   by kernel_rfl,
   by kernel_rfl,
   by kernel_rfl,
   load_one (by kernel_rfl),
   part_one (by kernel_rfl),
   by kernel_rfl,
   by kernel_rfl,
   by kernel_rfl,
   by kernel_rfl,
   by kernel_rfl,
   load_agg (by kernel_rfl),
   part_agg (by kernel_rfl),
   by kernel_rfl,
   by kernel_rfl,
   by kernel_rfl,
   by kernel_rfl,
   by kernel_rfl,
   load_agg (by kernel_rfl),
   part_agg (by kernel_rfl),
   by kernel_rfl,
   by kernel_rfl,
   by kernel_rfl,
   by kernel_rfl,
   by kernel_rfl,
   load_one (by kernel_rfl),
   part_one (by kernel_rfl),
   by kernel_rfl,
   by kernel_rfl,
   by kernel_rfl,
   by kernel_rfl,
   by kernel_rfl,
   load_one (by kernel_rfl),
   part_one (by kernel_rfl),
   by kernel_rfl,
   by kernel_rfl,
   by kernel_rfl,
   by kernel_rfl,
   by kernel_rfl,
   load_one (by kernel_rfl),
   part_one (by kernel_rfl),
   by kernel_rfl,
   by kernel_rfl,
   by kernel_rfl,
   by kernel_rfl,
   by kernel_rfl,
   load_agg (by kernel_rfl),
   part_agg (by kernel_rfl),
   by kernel_rfl,
   by kernel_rfl,
   by kernel_rfl,
   by kernel_rfl,
   by kernel_rfl,
   load_agg (by kernel_rfl),
   part_agg (by kernel_rfl),
   by kernel_rfl,
   by kernel_rfl,
   by kernel_rfl,
   by kernel_rfl,
   by kernel_rfl,
   load_one (by kernel_rfl),
   part_one (by kernel_rfl),
   by kernel_rfl,
   by kernel_rfl,
   by kernel_rfl,
   by kernel_rfl,
   by kernel_rfl,
   load_one (by kernel_rfl),
   part_one (by kernel_rfl),
   by kernel_rfl,
   by kernel_rfl,
   by kernel_rfl,
   by kernel_rfl,
   by kernel_rfl,
   load_one (by kernel_rfl),
   part_one (by kernel_rfl),
   by kernel_rfl,
   by kernel_rfl,
   by kernel_rfl,
   by kernel_rfl,
   by kernel_rfl,
   load_one (by kernel_rfl),
   part_one (by kernel_rfl),
   by kernel_rfl,
   by kernel_rfl,
   by kernel_rfl,
   by kernel_rfl,
   by kernel_rfl,
   load_one (by kernel_rfl),
   part_one (by kernel_rfl),
   by kernel_rfl,
   by kernel_rfl,
   by kernel_rfl,
   by kernel_rfl,
   by kernel_rfl,
   load_one (by kernel_rfl),
   part_one (by kernel_rfl),
   by kernel_rfl,
   by kernel_rfl,
   by kernel_rfl,
   by kernel_rfl,
   by kernel_rfl,
   load_one (by kernel_rfl),
   part_one (by kernel_rfl),
   by kernel_rfl,
   by kernel_rfl,
   by kernel_rfl,
   by kernel_rfl,
   by kernel_rfl,
   load_one (by kernel_rfl),
   part_one (by kernel_rfl),
   by kernel_rfl,
   by kernel_rfl,
   by kernel_rfl,
   by kernel_rfl,
   by kernel_rfl,
   load_one (by kernel_rfl),
   part_one (by kernel_rfl),
   by kernel_rfl,
   by kernel_rfl,
   by kernel_rfl,
   by kernel_rfl,
   by kernel_rfl,
   load_one (by kernel_rfl),
   part_one (by kernel_rfl),
   by kernel_rfl,
   by kernel_rfl,
   by kernel_rfl,
   by kernel_rfl,
   by kernel_rfl,
   load_one (by kernel_rfl),
   part_one (by kernel_rfl),
   by kernel_rfl,
   by kernel_rfl,
   by kernel_rfl,
   by kernel_rfl,
   by kernel_rfl,
   load_one (by kernel_rfl),
   part_one (by kernel_rfl),
   by kernel_rfl,
   by kernel_rfl,
   by kernel_rfl,
   by kernel_rfl,
   by kernel_rfl,
   load_agg (by kernel_rfl),
   part_agg (by kernel_rfl),
   by kernel_rfl,
   by kernel_rfl,
   by kernel_rfl,
   by kernel_rfl,
   by kernel_rfl,
   load_agg (by kernel_rfl),
   part_agg (by kernel_rfl),
   by kernel_rfl,
   by kernel_rfl,
   by kernel_rfl,
   by kernel_rfl,
   by kernel_rfl,
   load_one (by kernel_rfl),
   part_one (by kernel_rfl),
   by kernel_rfl,
   by kernel_rfl,
   by kernel_rfl,
   by kernel_rfl,
   by kernel_rfl,
   load_one (by kernel_rfl),
   part_one (by kernel_rfl),
   by kernel_rfl,
   by kernel_rfl,
   by kernel_rfl,
   by kernel_rfl,
   by kernel_rfl,
   load_one (by kernel_rfl),
   part_one (by kernel_rfl),
   by kernel_rfl,
   by kernel_rfl,
   by kernel_rfl,
   by kernel_rfl,
   by kernel_rfl,
   load_one (by kernel_rfl),
   part_one (by kernel_rfl),
   by kernel_rfl,
   by kernel_rfl,
   by kernel_rfl,
   by kernel_rfl,
   by kernel_rfl,
   load_one (by kernel_rfl),
   part_one (by kernel_rfl),
   by kernel_rfl,
   by kernel_rfl,
   by kernel_rfl,
   by kernel_rfl,
   by kernel_rfl,
   load_one (by kernel_rfl),
   part_one (by kernel_rfl),
   by kernel_rfl,
   by kernel_rfl,
   by kernel_rfl,
   by kernel_rfl,
   by kernel_rfl,
   load_one (by kernel_rfl),
   part_one (by kernel_rfl),
   by kernel_rfl,
   by kernel_rfl,
   by kernel_rfl,
   by kernel_rfl,
   by kernel_rfl,
   load_one (by kernel_rfl),
   part_one (by kernel_rfl),
   by kernel_rfl,
   by kernel_rfl,
   by kernel_rfl,
   by kernel_rfl,
   by kernel_rfl,
   load_one (by kernel_rfl),
   part_one (by kernel_rfl),
   by kernel_rfl,
   by kernel_rfl,
   by kernel_rfl,
   by kernel_rfl,
   by kernel_rfl,
   load_agg (by kernel_rfl),
   part_agg (by kernel_rfl),
   by kernel_rfl,
   by kernel_rfl,
   by kernel_rfl,
   by kernel_rfl,
   by kernel_rfl,
   load_agg (by kernel_rfl),
   part_agg (by kernel_rfl),
   by kernel_rfl,
   by kernel_rfl,
   by kernel_rfl,
   by kernel_rfl,
   by kernel_rfl,
   load_agg (by kernel_rfl),
   part_agg (by kernel_rfl),
   by kernel_rfl,
   by kernel_rfl,
   by kernel_rfl,
   by kernel_rfl,
   by kernel_rfl,
   load_agg (by kernel_rfl),
   part_agg (by kernel_rfl),
   by kernel_rfl,
   by kernel_rfl,
   by kernel_rfl,
   by kernel_rfl,
   by kernel_rfl,
   load_one (by kernel_rfl),
   part_one (by kernel_rfl),
   by kernel_rfl,
   by kernel_rfl,
   by kernel_rfl,
   by kernel_rfl,
   by kernel_rfl,
   load_one (by kernel_rfl),
   part_one (by kernel_rfl),
   by kernel_rfl,
   by kernel_rfl,
   by kernel_rfl,
   by kernel_rfl,
   by kernel_rfl,
   load_one (by kernel_rfl),
   part_one (by kernel_rfl),
   by kernel_rfl,
   by kernel_rfl,
   by kernel_rfl,
   by kernel_rfl,
   by kernel_rfl,
   load_one (by kernel_rfl),
   part_one (by kernel_rfl),
   by kernel_rfl,
   by kernel_rfl,
   by kernel_rfl,
   by kernel_rfl,
   by kernel_rfl,
   load_agg (by kernel_rfl),
   part_agg (by kernel_rfl),
   by kernel_rfl,
   by kernel_rfl,
   by kernel_rfl,
   by kernel_rfl,
   by kernel_rfl,
   load_agg (by kernel_rfl),
   part_agg (by kernel_rfl),
   by kernel_rfl,
   by kernel_rfl,
   by kernel_rfl,
   by kernel_rfl,
   by kernel_rfl,
   load_one (by kernel_rfl),
   part_one (by kernel_rfl),
   by kernel_rfl,
   by kernel_rfl,
   by kernel_rfl,
   by kernel_rfl,
   by kernel_rfl,
   load_one (by kernel_rfl),
   part_one (by kernel_rfl),
   by kernel_rfl,
   by kernel_rfl,
   by kernel_rfl,
   by kernel_rfl,
   by kernel_rfl,
   load_agg (by kernel_rfl),
   part_agg (by kernel_rfl),
   by kernel_rfl,
   by kernel_rfl,
   by kernel_rfl,
   by kernel_rfl,
   by kernel_rfl,
   load_agg (by kernel_rfl),
   part_agg (by kernel_rfl),
   by kernel_rfl,
   by kernel_rfl,
   by kernel_rfl,
   by kernel_rfl,
   by kernel_rfl,
   load_one (by kernel_rfl),
   part_one (by kernel_rfl),
   by kernel_rfl,
   by kernel_rfl,
   by kernel_rfl,
   by kernel_rfl,
   by kernel_rfl,
   load_one (by kernel_rfl),
   part_one (by kernel_rfl),
   by kernel_rfl,
   by kernel_rfl,
   by kernel_rfl,
   by kernel_rfl,
   by kernel_rfl,
   load_one (by kernel_rfl),
   part_one (by kernel_rfl),
   by kernel_rfl,
   by kernel_rfl,
   by kernel_rfl,
   by kernel_rfl,
   by kernel_rfl,
   load_agg (by kernel_rfl),
   part_agg (by kernel_rfl),
   by kernel_rfl,
   by kernel_rfl,
   by kernel_rfl,
   by kernel_rfl,
   by kernel_rfl,
   load_agg (by kernel_rfl),
   part_agg (by kernel_rfl),
   by kernel_rfl,
   by kernel_rfl,
   by kernel_rfl,
   by kernel_rfl,
   by kernel_rfl,
   load_one (by kernel_rfl),
   part_one (by kernel_rfl),
   by kernel_rfl,
   by kernel_rfl,
   by kernel_rfl,
   by kernel_rfl,
   by kernel_rfl,
   load_one (by kernel_rfl),
   part_one (by kernel_rfl),
   by kernel_rfl,
   by kernel_rfl,
   by kernel_rfl,
   by kernel_rfl,
   by kernel_rfl,
   load_one (by kernel_rfl),
   part_one (by kernel_rfl),
   by kernel_rfl,
   by kernel_rfl,
   by kernel_rfl,
   by kernel_rfl,
   by kernel_rfl,
   load_one (by kernel_rfl),
   part_one (by kernel_rfl),
   by kernel_rfl,
   by kernel_rfl,
   by kernel_rfl,
   by kernel_rfl,
   by kernel_rfl,
   load_one (by kernel_rfl),
   part_one (by kernel_rfl),
   by kernel_rfl,
   by kernel_rfl,
   by kernel_rfl,
   by kernel_rfl,
   by kernel_rfl,
   load_one (by kernel_rfl),
   part_one (by kernel_rfl),
   by kernel_rfl,
   by kernel_rfl,
   by kernel_rfl,
   by kernel_rfl,
   by kernel_rfl,
   load_one (by kernel_rfl),
   part_one (by kernel_rfl),
   by kernel_rfl,
   by kernel_rfl,
   by kernel_rfl,
   by kernel_rfl,
   by kernel_rfl,
   load_one (by kernel_rfl),
   part_one (by kernel_rfl),
   by kernel_rfl,
   by kernel_rfl,
   by kernel_rfl,
   by kernel_rfl,
   by kernel_rfl,
   load_one (by kernel_rfl),
   part_one (by kernel_rfl),
   by kernel_rfl,
   by kernel_rfl,
   by kernel_rfl,
   by kernel_rfl,
   by kernel_rfl,
   load_one (by kernel_rfl),
   part_one (by kernel_rfl),
   by kernel_rfl,
   by kernel_rfl,
   by kernel_rfl,
   by kernel_rfl,
   by kernel_rfl,
   load_one (by kernel_rfl),
   part_one (by kernel_rfl),
   by kernel_rfl,
   by kernel_rfl,
   by kernel_rfl,
   by kernel_rfl,
   by kernel_rfl,
   load_one (by kernel_rfl),
   part_one (by kernel_rfl),
   by kernel_rfl,
   by kernel_rfl,
   by kernel_rfl,
   by kernel_rfl,
   by kernel_rfl,
   load_one (by kernel_rfl),
   part_one (by kernel_rfl),
   by kernel_rfl,
   by kernel_rfl,
   by kernel_rfl,
   by kernel_rfl,
   by kernel_rfl,
   load_one (by kernel_rfl),
   part_one (by kernel_rfl),
   by kernel_rfl,
   by kernel_rfl,
   by kernel_rfl,
   by kernel_rfl,
   by kernel_rfl,
   load_one (by kernel_rfl),
   part_one (by kernel_rfl),
   by kernel_rfl,
   by kernel_rfl,
   by kernel_rfl,
   by kernel_rfl,
   by kernel_rfl,
   load_one (by kernel_rfl),
   part_one (by kernel_rfl),
   by kernel_rfl,
   by kernel_rfl,
   by kernel_rfl,
   by kernel_rfl,
   by kernel_rfl,
   load_one (by kernel_rfl),
   part_one (by kernel_rfl),
   by kernel_rfl,
   by kernel_rfl,
   by kernel_rfl,
   by kernel_rfl,
   by kernel_rfl,
   load_one (by kernel_rfl),
   part_one (by kernel_rfl),
   by kernel_rfl,
   by kernel_rfl,
   by kernel_rfl,
   by kernel_rfl,
   by kernel_rfl,
   load_one (by kernel_rfl),
   part_one (by kernel_rfl),
   by kernel_rfl,
   by kernel_rfl,
   by kernel_rfl,
   by kernel_rfl,
   by kernel_rfl,
   load_one (by kernel_rfl),
   part_one (by kernel_rfl),
   by kernel_rfl,
   by kernel_rfl,
   by kernel_rfl,
   by kernel_rfl,
   by kernel_rfl,
   load_one (by kernel_rfl),
   part_one (by kernel_rfl),
   by kernel_rfl⟩
theorem baseOk : EnvOk (envOf Go.Proofs.Tryz.prog) Go.Proofs.Tryz.prog := envOk_of (by kernel_rfl) (by kernel_rfl) (Checked.mixed Go.Proofs.Tryz.checked)
end
end Go.Ev
