/-
  What the program says of its types, for the walks. No conditions.
-/
import Derived.Test.YtajekleknljggaaEvJ
import Derived.Test.YtajekleknljggaaProg
import Derived.KernelRfl
set_option linter.unusedVariables false
set_option linter.unusedSimpArgs false
namespace Go.Ev
noncomputable section
def wk (f : FuncId) : Bool := f == 9
def E1 : Env := envV Go.Proofs.Try.prog wk
def EE : Env := env2 E1
theorem zE : ZeroOk E1 := zeroOk_of _ _
abbrev Call (f : AV) (xs : List AV) (H : Hp) (K : AV -> Hp -> Prop) : Prop := WCall2 E1 f xs H K
theorem callEE {f : AV} {xs : List AV} {H : Hp} {K : AV -> Hp -> Prop} : callJ EE f xs H K = Call f xs H K := rfl
attribute [go_sem] callEE krange
theorem enterE {f : FuncId} {fn : Func} {c : Code} {a1 a2 xs : List AV} {H : Hp} {K : AV -> Hp -> Prop} {N : Nat} {l : List ResultVar} (hw : wk f = false) (hf : E1.fn f = some fn) (hb : fn.body = some c) (hN : fn.ntmps = N) (hr : fn.results = l.toArray)
 (hl : Nat.ble (appL a1 (appL xs a2)).length N = true) (hro : resOk N l = true) (h : WF H -> wpC EE f N (FULL N) c ⟨⟨.nil, argG (appL a1 (appL xs a2)) 0 .nil⟩, H⟩ (KO EE H l K)) : Call (.func f a1 a2) xs H K := enter3 zE hw hf hb hN hr hl hro h
theorem loopE {fid : FuncId} {N : Nat} {c : Code} {K : Ex -> St -> Prop} {G : TL} {H : Hp} (D : Nat) (hD : dstM (dsts c) = D) (I : Nat -> TL -> Hp -> Prop) (m : Nat) (h0 : I m G H)
 (hI : ∀ m G' H', (∀ j, Nat.testBit D j = false -> G'.get j = G.get j) -> I m G' H' -> wpC EE fid N (FULL N) c ⟨⟨.nil, G'⟩, H'⟩ (KRd I m K)) : wpLoop (wpC EE fid N (FULL N) c) ⟨⟨.nil, G⟩, H⟩ K := wloop2 D hD I m h0 hI
theorem yieldE {fid : FuncId} {N M : Nat} {l : Nat} {T : Tm} {ps : List Tmp} {a b : Code} {st : LoopState} {pd : Option Code} {xs : List AV} {H : Hp} {K : AV -> Hp -> Prop} (hl : H.m.get l = some (.loop fid T N M ps a b st pd))
 (h : oP (setParams N M ps T xs) fun T' => wpC EE fid N M a ⟨T', H⟩ (KMid EE fid N M b l K)) : Call (.yield l) xs H K := wcall2_yield rfl zE hl h
theorem drawE {N M : Nat} {ops : List Oper} {s : St} {K : St -> Prop} (hS : okS EE ops = true) (hl : loose EE ops = []) (h : wpOps EE N M ops ops s K) : drawJ EE N M ops s K := draw_of hS hl h
theorem drawX {N M : Nat} {ops : List Oper} {s : St} {K : St -> Prop} (cl : List Nat) (hS : okS EE ops = true) (hc : codesX EE ops = cl) (h9 : cl.all (fun c => !(Nat.beq c 9)) = true) (hne : (loose EE ops).isEmpty = false) (h : wpX EE N M s.H.next ops ops cl s K) : drawJ EE N M ops s K := draw_X hS hc h9 hne h
theorem drawE2 {N M : Nat} {ops : List Oper} {s : St} {K : St -> Prop} {p : Nat × Nat} {l : List (Nat × Nat)} (hS : okS EE ops = true) (hl : loose EE ops = p :: l) (h : wpTr2 EE N M ops ops s [] fun tr => looseAll EE M ops tr (p :: l) /\ K (lastS tr s)) : drawJ EE N M ops s K := draw_of2 hS hl h
set_option maxRecDepth 100000
theorem ty3k : kindOf EE 3 = .int .i64 := by kernel_rfl
theorem ty3s : sizeT EE 3 = 1 := by kernel_rfl
theorem ty3z : zeroT EE 3 = some (.int .i64 0) := by kernel_rfl
theorem ty3L : ∀ H b o, loadAV EE H 3 b o = cellAt H b o := load_one (by kernel_rfl)
theorem ty3p : ∀ cs o, partAV EE 3 cs o = getL cs o := part_one (by kernel_rfl)
theorem ty3S : ∀ H p x, storeV EE H 3 p x = storeN H 1 p x := store_n (by kernel_rfl)
theorem ty3f : EE.flat 3 = some (false, 1) := by kernel_rfl
theorem ty3g : grows EE 3 = true := by kernel_rfl
theorem ty4k : kindOf EE 4 = .bool := by kernel_rfl
theorem ty4s : sizeT EE 4 = 1 := by kernel_rfl
theorem ty4b : bytesT EE 4 = 1 := by kernel_rfl
theorem ty4z : zeroT EE 4 = some (.bool false) := by kernel_rfl
theorem ty4L : ∀ H b o, loadAV EE H 4 b o = cellAt H b o := load_one (by kernel_rfl)
theorem ty4S : ∀ H p x, storeV EE H 4 p x = storeN H 1 p x := store_n (by kernel_rfl)
theorem ty4f : EE.flat 4 = some (true, 1) := by kernel_rfl
theorem ty5k : kindOf EE 5 = .int .u8 := by kernel_rfl
theorem ty5s : sizeT EE 5 = 1 := by kernel_rfl
theorem ty5b : bytesT EE 5 = 1 := by kernel_rfl
theorem ty5z : zeroT EE 5 = some (.int .u8 0) := by kernel_rfl
theorem ty5p : ∀ cs o, partAV EE 5 cs o = getL cs o := part_one (by kernel_rfl)
theorem ty5S : ∀ H p x, storeV EE H 5 p x = storeN H 1 p x := store_n (by kernel_rfl)
theorem ty5f : EE.flat 5 = some (false, 1) := by kernel_rfl
theorem ty5g : grows EE 5 = true := by kernel_rfl
theorem ty9k : kindOf EE 9 = .string := by kernel_rfl
theorem ty9f : EE.flat 9 = none := by kernel_rfl
theorem ty25k : kindOf EE 25 = .ptr 72 := by kernel_rfl
theorem ty25f : EE.flat 25 = none := by kernel_rfl
theorem ty26k : kindOf EE 26 = .int .i64 := by kernel_rfl
theorem ty26f : EE.flat 26 = some (false, 1) := by kernel_rfl
theorem ty32k : kindOf EE 32 = .slice 5 := by kernel_rfl
theorem ty32s : sizeT EE 32 = 1 := by kernel_rfl
theorem ty32z : zeroT EE 32 = some (.nils) := by kernel_rfl
theorem ty32L : ∀ H b o, loadAV EE H 32 b o = cellAt H b o := load_one (by kernel_rfl)
theorem ty32S : ∀ H p x, storeV EE H 32 p x = storeN H 1 p x := store_n (by kernel_rfl)
theorem ty32f : EE.flat 32 = none := by kernel_rfl
theorem ty34k : kindOf EE 34 = .struct [(0, 3), (1, 3), (2, 3), (3, 3), (4, 3), (5, 32)] := by kernel_rfl
theorem ty34z : zeroT EE 34 = some (.agg [.int .i64 0, .int .i64 0, .int .i64 0, .int .i64 0, .int .i64 0, .nils]) := by kernel_rfl
theorem ty42k : kindOf EE 42 = .slice 53 := by kernel_rfl
theorem ty42s : sizeT EE 42 = 1 := by kernel_rfl
theorem ty42L : ∀ H b o, loadAV EE H 42 b o = cellAt H b o := load_one (by kernel_rfl)
theorem ty42f : EE.flat 42 = none := by kernel_rfl
theorem ty44k : kindOf EE 44 = .slice 56 := by kernel_rfl
theorem ty48k : kindOf EE 48 = .slice 3 := by kernel_rfl
theorem ty48z : zeroT EE 48 = some (.nils) := by kernel_rfl
theorem ty48L : ∀ H b o, loadAV EE H 48 b o = cellAt H b o := load_one (by kernel_rfl)
theorem ty48S : ∀ H p x, storeV EE H 48 p x = storeN H 1 p x := store_n (by kernel_rfl)
theorem ty51k : kindOf EE 51 = .array 16 4 := by kernel_rfl
theorem ty51z : zeroT EE 51 = some (.agg (List.replicate 16 (.bool false))) := by kernel_rfl
theorem ty51L : ∀ H b o, loadAV EE H 51 b o = (cellsAt H b o 16).omap .agg := load_agg (by kernel_rfl)
theorem ty51f : EE.flat 51 = some (true, 16) := by kernel_rfl
theorem ty53k : kindOf EE 53 = .array 64 5 := by kernel_rfl
theorem ty53s : sizeT EE 53 = 64 := by kernel_rfl
theorem ty53b : bytesT EE 53 = 64 := by kernel_rfl
theorem ty53z : zeroT EE 53 = some (.agg (List.replicate 64 (.int .u8 0))) := by kernel_rfl
theorem ty53L : ∀ H b o, loadAV EE H 53 b o = (cellsAt H b o 64).omap .agg := load_agg (by kernel_rfl)
theorem ty53p : ∀ cs o, partAV EE 53 cs o = (takeE 64 (dropL o cs)).omap .agg := part_agg (by kernel_rfl)
theorem ty53S : ∀ H p x, storeV EE H 53 p x = storeN H 64 p x := store_n (by kernel_rfl)
theorem ty53f : EE.flat 53 = some (false, 64) := by kernel_rfl
theorem ty53g : grows EE 53 = true := by kernel_rfl
theorem ty54k : kindOf EE 54 = .slice 4 := by kernel_rfl
theorem ty54s : sizeT EE 54 = 1 := by kernel_rfl
theorem ty54L : ∀ H b o, loadAV EE H 54 b o = cellAt H b o := load_one (by kernel_rfl)
theorem ty58k : kindOf EE 58 = .slice 32 := by kernel_rfl
theorem ty60k : kindOf EE 60 = .array 2 32 := by kernel_rfl
theorem ty62k : kindOf EE 62 = .slice 68 := by kernel_rfl
theorem ty62s : sizeT EE 62 = 1 := by kernel_rfl
theorem ty62L : ∀ H b o, loadAV EE H 62 b o = cellAt H b o := load_one (by kernel_rfl)
theorem ty62S : ∀ H p x, storeV EE H 62 p x = storeN H 1 p x := store_n (by kernel_rfl)
theorem ty64k : kindOf EE 64 = .struct [(0, 3), (1, 3), (2, 3), (3, 62)] := by kernel_rfl
theorem ty64s : sizeT EE 64 = 4 := by kernel_rfl
theorem ty64z : zeroT EE 64 = some (.agg [.int .i64 0, .int .i64 0, .int .i64 0, .nils]) := by kernel_rfl
theorem ty64L : ∀ H b o, loadAV EE H 64 b o = (cellsAt H b o 4).omap .agg := load_agg (by kernel_rfl)
theorem ty64S : ∀ H p x, storeV EE H 64 p x = storeN H 4 p x := store_n (by kernel_rfl)
theorem ty68k : kindOf EE 68 = .struct [(0, 3), (1, 3), (2, 4), (3, 32)] := by kernel_rfl
theorem ty68s : sizeT EE 68 = 4 := by kernel_rfl
theorem ty68z : zeroT EE 68 = some (.agg [.int .i64 0, .int .i64 0, .bool false, .nils]) := by kernel_rfl
theorem ty68L : ∀ H b o, loadAV EE H 68 b o = (cellsAt H b o 4).omap .agg := load_agg (by kernel_rfl)
theorem ty68p : ∀ cs o, partAV EE 68 cs o = (takeE 4 (dropL o cs)).omap .agg := part_agg (by kernel_rfl)
theorem ty68S : ∀ H p x, storeV EE H 68 p x = storeN H 4 p x := store_n (by kernel_rfl)
theorem ty68g : grows EE 68 = true := by kernel_rfl
theorem ty70k : kindOf EE 70 = .slice 95 := by kernel_rfl
theorem ty70s : sizeT EE 70 = 1 := by kernel_rfl
theorem ty70L : ∀ H b o, loadAV EE H 70 b o = cellAt H b o := load_one (by kernel_rfl)
theorem ty70S : ∀ H p x, storeV EE H 70 p x = storeN H 1 p x := store_n (by kernel_rfl)
theorem ty72k : kindOf EE 72 = .struct [(0, 42), (1, 70), (2, 3)] := by kernel_rfl
theorem ty72z : zeroT EE 72 = some (.agg [.nils, .nils, .int .i64 0]) := by kernel_rfl
theorem ty95k : kindOf EE 95 = .struct [(0, 3), (1, 42), (2, 54)] := by kernel_rfl
theorem ty95s : sizeT EE 95 = 3 := by kernel_rfl
theorem ty95z : zeroT EE 95 = some (.agg [.int .i64 0, .nils, .nils]) := by kernel_rfl
theorem ty95L : ∀ H b o, loadAV EE H 95 b o = (cellsAt H b o 3).omap .agg := load_agg (by kernel_rfl)
theorem ty95S : ∀ H p x, storeV EE H 95 p x = storeN H 3 p x := store_n (by kernel_rfl)
theorem ty95g : grows EE 95 = true := by kernel_rfl
theorem ty98k : kindOf EE 98 = .ptr 120 := by kernel_rfl
theorem ty98s : sizeT EE 98 = 1 := by kernel_rfl
theorem ty98L : ∀ H b o, loadAV EE H 98 b o = cellAt H b o := load_one (by kernel_rfl)
theorem ty98f : EE.flat 98 = none := by kernel_rfl
theorem ty101k : kindOf EE 101 = .struct [(0, 98), (1, 32), (2, 64)] := by kernel_rfl
theorem ty101z : zeroT EE 101 = some (.agg [.nilp, .nils, .int .i64 0, .int .i64 0, .int .i64 0, .nils]) := by kernel_rfl
theorem ty116k : kindOf EE 116 = .int .u64 := by kernel_rfl
theorem ty116L : ∀ H b o, loadAV EE H 116 b o = cellAt H b o := load_one (by kernel_rfl)
theorem ty116S : ∀ H p x, storeV EE H 116 p x = storeN H 1 p x := store_n (by kernel_rfl)
theorem ty116f : EE.flat 116 = some (false, 1) := by kernel_rfl
theorem ty120k : kindOf EE 120 = .struct [(0, 32)] := by kernel_rfl
theorem ty120z : zeroT EE 120 = some (.agg [.nils]) := by kernel_rfl
theorem ty135k : kindOf EE 135 = .slice 138 := by kernel_rfl
theorem ty138k : kindOf EE 138 = .struct [(0, 3), (1, 3)] := by kernel_rfl
theorem ty138s : sizeT EE 138 = 2 := by kernel_rfl
theorem ty138z : zeroT EE 138 = some (.agg [.int .i64 0, .int .i64 0]) := by kernel_rfl
theorem ty138p : ∀ cs o, partAV EE 138 cs o = (takeE 2 (dropL o cs)).omap .agg := part_agg (by kernel_rfl)
theorem ty138S : ∀ H p x, storeV EE H 138 p x = storeN H 2 p x := store_n (by kernel_rfl)
theorem ty138g : grows EE 138 = true := by kernel_rfl
theorem ty142k : kindOf EE 142 = .int .u64 := by kernel_rfl
attribute [go_sem] ty3k ty3s ty3z ty3L ty3p ty3S ty3f ty4k ty4s ty4b ty4z ty4L ty4S ty4f ty5k ty5s ty5b ty5z ty5p ty5S ty5f ty9k ty9f ty25k ty25f ty26k ty26f ty32k ty32s ty32z ty32L ty32S ty32f ty34k ty34z ty42k ty42s ty42L ty42f ty44k ty48k ty48z ty48L ty48S ty51k ty51z ty51L ty51f ty53k ty53s ty53b ty53z ty53L ty53p ty53S ty53f ty54k ty54s ty54L ty58k ty60k ty62k ty62s ty62L ty62S ty64k ty64s ty64z ty64L ty64S ty68k ty68s ty68z ty68L ty68p ty68S ty70k ty70s ty70L ty70S ty72k ty72z ty95k ty95s ty95z ty95L ty95S ty98k ty98s ty98L ty98f ty101k ty101z ty116k ty116L ty116S ty116f ty120k ty120z ty135k ty138k ty138s ty138z ty138p ty138S ty142k
theorem ob32 {N M : Nat} {d : Option Tmp} {t : TypeId} {p : String} {a : Array Edge} {g : Option (Nat × Bool)} {s : St} {K : St -> Prop} {n : Nat} {ps : List (Nat × Operand)} (hn : n * sizeT EE 5 ≤ 16777216) : wpOp EE N M ⟨d, .buildSlice 32 n ps.toArray, t, p, a, g⟩ s K = oP ((zeroT EE 5).obind fun z => (fillParts M (fun i => some (Nat.mul i (sizeT EE 5), sizeT EE 5)) s.T ps (repL n z.cells)).omap fun l => (Blk.cells l 5 true true, fun b : Nat => AV.slice b 0 n (.ex n))) (KNew N M s.T d s.H K) := w_buildSlice ty32k hn
theorem ob42 {N M : Nat} {d : Option Tmp} {t : TypeId} {p : String} {a : Array Edge} {g : Option (Nat × Bool)} {s : St} {K : St -> Prop} {n : Nat} {ps : List (Nat × Operand)} (hn : n * sizeT EE 53 ≤ 16777216) : wpOp EE N M ⟨d, .buildSlice 42 n ps.toArray, t, p, a, g⟩ s K = oP ((zeroT EE 53).obind fun z => (fillParts M (fun i => some (Nat.mul i (sizeT EE 53), sizeT EE 53)) s.T ps (repL n z.cells)).omap fun l => (Blk.cells l 53 true true, fun b : Nat => AV.slice b 0 n (.ex n))) (KNew N M s.T d s.H K) := w_buildSlice ty42k hn
theorem ob44 {N M : Nat} {d : Option Tmp} {t : TypeId} {p : String} {a : Array Edge} {g : Option (Nat × Bool)} {s : St} {K : St -> Prop} {n : Nat} {ps : List (Nat × Operand)} (hn : n * sizeT EE 56 ≤ 16777216) : wpOp EE N M ⟨d, .buildSlice 44 n ps.toArray, t, p, a, g⟩ s K = oP ((zeroT EE 56).obind fun z => (fillParts M (fun i => some (Nat.mul i (sizeT EE 56), sizeT EE 56)) s.T ps (repL n z.cells)).omap fun l => (Blk.cells l 56 true true, fun b : Nat => AV.slice b 0 n (.ex n))) (KNew N M s.T d s.H K) := w_buildSlice ty44k hn
theorem ob48 {N M : Nat} {d : Option Tmp} {t : TypeId} {p : String} {a : Array Edge} {g : Option (Nat × Bool)} {s : St} {K : St -> Prop} {n : Nat} {ps : List (Nat × Operand)} (hn : n * sizeT EE 3 ≤ 16777216) : wpOp EE N M ⟨d, .buildSlice 48 n ps.toArray, t, p, a, g⟩ s K = oP ((zeroT EE 3).obind fun z => (fillParts M (fun i => some (Nat.mul i (sizeT EE 3), sizeT EE 3)) s.T ps (repL n z.cells)).omap fun l => (Blk.cells l 3 true true, fun b : Nat => AV.slice b 0 n (.ex n))) (KNew N M s.T d s.H K) := w_buildSlice ty48k hn
theorem ob58 {N M : Nat} {d : Option Tmp} {t : TypeId} {p : String} {a : Array Edge} {g : Option (Nat × Bool)} {s : St} {K : St -> Prop} {n : Nat} {ps : List (Nat × Operand)} (hn : n * sizeT EE 32 ≤ 16777216) : wpOp EE N M ⟨d, .buildSlice 58 n ps.toArray, t, p, a, g⟩ s K = oP ((zeroT EE 32).obind fun z => (fillParts M (fun i => some (Nat.mul i (sizeT EE 32), sizeT EE 32)) s.T ps (repL n z.cells)).omap fun l => (Blk.cells l 32 true true, fun b : Nat => AV.slice b 0 n (.ex n))) (KNew N M s.T d s.H K) := w_buildSlice ty58k hn
theorem ob62 {N M : Nat} {d : Option Tmp} {t : TypeId} {p : String} {a : Array Edge} {g : Option (Nat × Bool)} {s : St} {K : St -> Prop} {n : Nat} {ps : List (Nat × Operand)} (hn : n * sizeT EE 68 ≤ 16777216) : wpOp EE N M ⟨d, .buildSlice 62 n ps.toArray, t, p, a, g⟩ s K = oP ((zeroT EE 68).obind fun z => (fillParts M (fun i => some (Nat.mul i (sizeT EE 68), sizeT EE 68)) s.T ps (repL n z.cells)).omap fun l => (Blk.cells l 68 true true, fun b : Nat => AV.slice b 0 n (.ex n))) (KNew N M s.T d s.H K) := w_buildSlice ty62k hn
theorem ob70 {N M : Nat} {d : Option Tmp} {t : TypeId} {p : String} {a : Array Edge} {g : Option (Nat × Bool)} {s : St} {K : St -> Prop} {n : Nat} {ps : List (Nat × Operand)} (hn : n * sizeT EE 95 ≤ 16777216) : wpOp EE N M ⟨d, .buildSlice 70 n ps.toArray, t, p, a, g⟩ s K = oP ((zeroT EE 95).obind fun z => (fillParts M (fun i => some (Nat.mul i (sizeT EE 95), sizeT EE 95)) s.T ps (repL n z.cells)).omap fun l => (Blk.cells l 95 true true, fun b : Nat => AV.slice b 0 n (.ex n))) (KNew N M s.T d s.H K) := w_buildSlice ty70k hn
theorem ob135 {N M : Nat} {d : Option Tmp} {t : TypeId} {p : String} {a : Array Edge} {g : Option (Nat × Bool)} {s : St} {K : St -> Prop} {n : Nat} {ps : List (Nat × Operand)} (hn : n * sizeT EE 138 ≤ 16777216) : wpOp EE N M ⟨d, .buildSlice 135 n ps.toArray, t, p, a, g⟩ s K = oP ((zeroT EE 138).obind fun z => (fillParts M (fun i => some (Nat.mul i (sizeT EE 138), sizeT EE 138)) s.T ps (repL n z.cells)).omap fun l => (Blk.cells l 138 true true, fun b : Nat => AV.slice b 0 n (.ex n))) (KNew N M s.T d s.H K) := w_buildSlice ty135k hn
theorem om32 {N M : Nat} {d : Option Tmp} {t : TypeId} {p : String} {a : Array Edge} {g : Option (Nat × Bool)} {s : St} {K : St -> Prop} {l c : Operand} : wpOp EE N M ⟨d, .makeSlice 32 l c, t, p, a, g⟩ s K = oP ((zeroT EE 5).obind fun z => (evO M l s.T).obind fun l => (evO M c s.T).obind fun c => (natOf l).obind fun l => (natOf c).obind fun c => bc (Nat.ble l c && (Nat.ble c 1048576 && Nat.ble (bytesT EE 5) 1048576)) (some (Blk.cells (repL c z.cells) 5 true true, fun b : Nat => AV.slice b 0 l (.ex c))) none) (KNew N M s.T d s.H K) := w_makeSlice ty32k
theorem om42 {N M : Nat} {d : Option Tmp} {t : TypeId} {p : String} {a : Array Edge} {g : Option (Nat × Bool)} {s : St} {K : St -> Prop} {l c : Operand} : wpOp EE N M ⟨d, .makeSlice 42 l c, t, p, a, g⟩ s K = oP ((zeroT EE 53).obind fun z => (evO M l s.T).obind fun l => (evO M c s.T).obind fun c => (natOf l).obind fun l => (natOf c).obind fun c => bc (Nat.ble l c && (Nat.ble c 1048576 && Nat.ble (bytesT EE 53) 1048576)) (some (Blk.cells (repL c z.cells) 53 true true, fun b : Nat => AV.slice b 0 l (.ex c))) none) (KNew N M s.T d s.H K) := w_makeSlice ty42k
theorem om54 {N M : Nat} {d : Option Tmp} {t : TypeId} {p : String} {a : Array Edge} {g : Option (Nat × Bool)} {s : St} {K : St -> Prop} {l c : Operand} : wpOp EE N M ⟨d, .makeSlice 54 l c, t, p, a, g⟩ s K = oP ((zeroT EE 4).obind fun z => (evO M l s.T).obind fun l => (evO M c s.T).obind fun c => (natOf l).obind fun l => (natOf c).obind fun c => bc (Nat.ble l c && (Nat.ble c 1048576 && Nat.ble (bytesT EE 4) 1048576)) (some (Blk.cells (repL c z.cells) 4 true true, fun b : Nat => AV.slice b 0 l (.ex c))) none) (KNew N M s.T d s.H K) := w_makeSlice ty54k
theorem oa32_32 {H : Hp} {u x : AV} : bltEff .append EE H [u, x] [32, 32] = (srcCells EE H 5 x).obind fun p => evAppend EE H 5 u p.1 p.2 := appArgs_def ty32k ty32k
theorem oa42_42 {H : Hp} {u x : AV} : bltEff .append EE H [u, x] [42, 42] = (srcCells EE H 53 x).obind fun p => evAppend EE H 53 u p.1 p.2 := appArgs_def ty42k ty42k
theorem oa44_44 {H : Hp} {u x : AV} : bltEff .append EE H [u, x] [44, 44] = (srcCells EE H 56 x).obind fun p => evAppend EE H 56 u p.1 p.2 := appArgs_def ty44k ty44k
theorem oa48_48 {H : Hp} {u x : AV} : bltEff .append EE H [u, x] [48, 48] = (srcCells EE H 3 x).obind fun p => evAppend EE H 3 u p.1 p.2 := appArgs_def ty48k ty48k
theorem oa58_58 {H : Hp} {u x : AV} : bltEff .append EE H [u, x] [58, 58] = (srcCells EE H 32 x).obind fun p => evAppend EE H 32 u p.1 p.2 := appArgs_def ty58k ty58k
theorem oa62_62 {H : Hp} {u x : AV} : bltEff .append EE H [u, x] [62, 62] = (srcCells EE H 68 x).obind fun p => evAppend EE H 68 u p.1 p.2 := appArgs_def ty62k ty62k
theorem oa70_70 {H : Hp} {u x : AV} : bltEff .append EE H [u, x] [70, 70] = (srcCells EE H 95 x).obind fun p => evAppend EE H 95 u p.1 p.2 := appArgs_def ty70k ty70k
theorem oa135_135 {H : Hp} {u x : AV} : bltEff .append EE H [u, x] [135, 135] = (srcCells EE H 138 x).obind fun p => evAppend EE H 138 u p.1 p.2 := appArgs_def ty135k ty135k
theorem oc32_32 {H : Hp} {u x : AV} : bltEff .copy EE H [u, x] [32, 32] = (srcCells EE H 5 x).obind fun p => copyTo EE H 5 u p := copyArgs_def ty32k
theorem ol42 {H : Hp} {u : AV} : bltEff .clear EE H [u] [42] = clearTo EE H 53 u := clearArgs_def ty42k
theorem ol48 {H : Hp} {u : AV} : bltEff .clear EE H [u] [48] = clearTo EE H 3 u := clearArgs_def ty48k
theorem ol70 {H : Hp} {u : AV} : bltEff .clear EE H [u] [70] = clearTo EE H 95 u := clearArgs_def ty70k
theorem ov3_116 {N M : Nat} {d : Option Tmp} {t : TypeId} {p : String} {a : Array Edge} {g : Option (Nat × Bool)} {s : St} {K : St -> Prop} {x : Operand} : wpOp EE N M ⟨d, .convert 3 116 x, t, p, a, g⟩ s K = oP ((evO M x s.T).obind (convI (.int .i64) (.int .u64))) (KPutV N M s.T d s.H K) := w_conv_int ty3k ty116k
theorem ov3_142 {N M : Nat} {d : Option Tmp} {t : TypeId} {p : String} {a : Array Edge} {g : Option (Nat × Bool)} {s : St} {K : St -> Prop} {x : Operand} : wpOp EE N M ⟨d, .convert 3 142 x, t, p, a, g⟩ s K = oP ((evO M x s.T).obind (convI (.int .i64) (.int .u64))) (KPutV N M s.T d s.H K) := w_conv_int ty3k ty142k
theorem ov5_3 {N M : Nat} {d : Option Tmp} {t : TypeId} {p : String} {a : Array Edge} {g : Option (Nat × Bool)} {s : St} {K : St -> Prop} {x : Operand} : wpOp EE N M ⟨d, .convert 5 3 x, t, p, a, g⟩ s K = oP ((evO M x s.T).obind (convI (.int .u8) (.int .i64))) (KPutV N M s.T d s.H K) := w_conv_int ty5k ty3k
theorem ov5_116 {N M : Nat} {d : Option Tmp} {t : TypeId} {p : String} {a : Array Edge} {g : Option (Nat × Bool)} {s : St} {K : St -> Prop} {x : Operand} : wpOp EE N M ⟨d, .convert 5 116 x, t, p, a, g⟩ s K = oP ((evO M x s.T).obind (convI (.int .u8) (.int .u64))) (KPutV N M s.T d s.H K) := w_conv_int ty5k ty116k
theorem ov32_9 {N M : Nat} {d : Option Tmp} {t : TypeId} {p : String} {a : Array Edge} {g : Option (Nat × Bool)} {s : St} {K : St -> Prop} {x : Operand} : wpOp EE N M ⟨d, .convert 32 9 x, t, p, a, g⟩ s K = oP ((evO M x s.T).obind (strOf s.H)) (KPutV N M s.T d s.H K) := w_conv_bs ty32k (by rw [ty5k]; rfl) ty9k
theorem ov32_32 {N M : Nat} {d : Option Tmp} {t : TypeId} {p : String} {a : Array Edge} {g : Option (Nat × Bool)} {s : St} {K : St -> Prop} {x : Operand} : wpOp EE N M ⟨d, .convert 32 32 x, t, p, a, g⟩ s K = oP ((evO M x s.T).obind (ownSlice 5 s.H)) (KPutV N M s.T d s.H K) := w_conv_own ty32k (by rw [ty5k]; rfl)
theorem ov116_3 {N M : Nat} {d : Option Tmp} {t : TypeId} {p : String} {a : Array Edge} {g : Option (Nat × Bool)} {s : St} {K : St -> Prop} {x : Operand} : wpOp EE N M ⟨d, .convert 116 3 x, t, p, a, g⟩ s K = oP ((evO M x s.T).obind (convI (.int .u64) (.int .i64))) (KPutV N M s.T d s.H K) := w_conv_int ty116k ty3k
theorem ov116_5 {N M : Nat} {d : Option Tmp} {t : TypeId} {p : String} {a : Array Edge} {g : Option (Nat × Bool)} {s : St} {K : St -> Prop} {x : Operand} : wpOp EE N M ⟨d, .convert 116 5 x, t, p, a, g⟩ s K = oP ((evO M x s.T).obind (convI (.int .u64) (.int .u8))) (KPutV N M s.T d s.H K) := w_conv_int ty116k ty5k
theorem oy53 {N M : Nat} {d : Option Tmp} {t : TypeId} {p : String} {a : Array Edge} {g : Option (Nat × Bool)} {s : St} {K : St -> Prop} {x : Operand} : wpOp EE N M ⟨d, .sliceToArrayPointer 53 x, t, p, a, g⟩ s K = oP ((evO M x s.T).obind (s2aV 64)) (KPutV N M s.T d s.H K) := w_s2ap ty53k
attribute [go_sem] ob32 ob42 ob44 ob48 ob58 ob62 ob70 ob135 om32 om42 om54 oa32_32 oa42_42 oa44_44 oa48_48 oa58_58 oa62_62 oa70_70 oa135_135 oc32_32 ol42 ol48 ol70 ov3_116 ov3_142 ov5_3 ov5_116 ov32_9 ov32_32 ov116_3 ov116_5 oy53
end
end Go.Ev
