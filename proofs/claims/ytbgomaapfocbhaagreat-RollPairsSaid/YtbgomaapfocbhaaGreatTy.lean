/-
  What the program says of its types, for the walks. No conditions.
-/
import Derived.Test.YtbgomaapfocbhaaGreatEvJ
import Derived.Test.YtbgomaapfocbhaaGreatProg
import Derived.KernelRfl
set_option linter.unusedVariables false
set_option linter.unusedSimpArgs false
namespace Go.Ev
noncomputable section
def wk (f : FuncId) : Bool := f == 5
def E1 : Env := envV Go.Proofs.Tryz.prog wk
def EE : Env := env2 E1
theorem zE : ZeroOk E1 := zeroOk_of _ _
/-- A call, at level two. -/
abbrev Call (f : AV) (xs : List AV) (H : Hp) (K : AV → Hp → Prop) : Prop := WCall2 E1 f xs H K
theorem callEE {f : AV} {xs : List AV} {H : Hp} {K : AV → Hp → Prop} : callJ EE f xs H K = Call f xs H K := rfl
attribute [go_sem] callEE krange
theorem enterE {f : FuncId} {fn : Func} {c : Code} {a1 a2 xs : List AV} {H : Hp} {K : AV → Hp → Prop} {N : Nat} {l : List ResultVar} (hw : wk f = false) (hf : E1.fn f = some fn) (hb : fn.body = some c) (hN : fn.ntmps = N) (hr : fn.results = l.toArray)
    (hl : Nat.ble (appL a1 (appL xs a2)).length N = true) (hro : resOk N l = true) (h : WF H → wpC EE f N (FULL N) c ⟨⟨.nil, argG (appL a1 (appL xs a2)) 0 .nil⟩, H⟩ (KO EE H l K)) : Call (.func f a1 a2) xs H K := enter3 zE hw hf hb hN hr hl hro h
theorem loopE {fid : FuncId} {N : Nat} {c : Code} {K : Ex → St → Prop} {G : TL} {H : Hp} (D : Nat) (hD : dstM (dsts c) = D) (I : Nat → TL → Hp → Prop) (m : Nat) (h0 : I m G H)
    (hI : ∀ m G' H', (∀ j, Nat.testBit D j = false → G'.get j = G.get j) → I m G' H' → wpC EE fid N (FULL N) c ⟨⟨.nil, G'⟩, H'⟩ (KRd I m K)) : wpLoop (wpC EE fid N (FULL N) c) ⟨⟨.nil, G⟩, H⟩ K := wloop2 D hD I m h0 hI
theorem yieldE {fid : FuncId} {N M : Nat} {l : Nat} {T : Tm} {ps : List Tmp} {a b : Code} {st : LoopState} {pd : Option Code} {xs : List AV} {H : Hp} {K : AV → Hp → Prop} (hl : H.m.get l = some (.loop fid T N M ps a b st pd))
    (h : oP (setParams N M ps T xs) fun T' => wpC EE fid N M a ⟨T', H⟩ (KMid EE fid N M b l K)) : Call (.yield l) xs H K := wcall2_yield rfl zE hl h
theorem drawE {N M : Nat} {ops : List Oper} {s : St} {K : St → Prop} (hS : okS EE ops = true) (hl : loose EE ops = []) (h : wpOps EE N M ops ops s K) : drawJ EE N M ops s K := draw_of hS hl h
theorem drawX {N M : Nat} {ops : List Oper} {s : St} {K : St → Prop} (cl : List Nat) (hS : okS EE ops = true) (hc : codesX EE ops = cl) (h9 : cl.all (fun c => !(Nat.beq c 9)) = true) (hne : (loose EE ops).isEmpty = false) (h : wpX EE N M s.H.next ops ops cl s K) : drawJ EE N M ops s K := draw_X hS hc h9 hne h
theorem drawE2 {N M : Nat} {ops : List Oper} {s : St} {K : St → Prop} {p : Nat × Nat} {l : List (Nat × Nat)} (hS : okS EE ops = true) (hl : loose EE ops = p :: l) (h : wpTr2 EE N M ops ops s [] fun tr => looseAll EE M ops tr (p :: l) ∧ K (lastS tr s)) : drawJ EE N M ops s K := draw_of2 hS hl h
set_option maxRecDepth 100000
theorem ty1k : kindOf EE 1 = .func := by kernel_rfl
theorem ty1s : sizeT EE 1 = 1 := by kernel_rfl
theorem ty1b : bytesT EE 1 = 8 := by kernel_rfl
theorem ty1z : zeroT EE 1 = some (.nilf) := by kernel_rfl
theorem ty1L : ∀ H b o, loadAV EE H 1 b o = cellAt H b o := load_one (by kernel_rfl)
theorem ty1p : ∀ cs o, partAV EE 1 cs o = getL cs o := part_one (by kernel_rfl)
theorem ty1S : ∀ H p x, storeV EE H 1 p x = storeN H 1 p x := store_n (by kernel_rfl)
theorem ty1f : EE.flat 1 = none := by kernel_rfl
theorem ty1g : grows EE 1 = true := by kernel_rfl
theorem ty2k : kindOf EE 2 = .int .i64 := by kernel_rfl
theorem ty2s : sizeT EE 2 = 1 := by kernel_rfl
theorem ty2b : bytesT EE 2 = 8 := by kernel_rfl
theorem ty2z : zeroT EE 2 = some (.int .i64 0) := by kernel_rfl
theorem ty2L : ∀ H b o, loadAV EE H 2 b o = cellAt H b o := load_one (by kernel_rfl)
theorem ty2p : ∀ cs o, partAV EE 2 cs o = getL cs o := part_one (by kernel_rfl)
theorem ty2S : ∀ H p x, storeV EE H 2 p x = storeN H 1 p x := store_n (by kernel_rfl)
theorem ty2f : EE.flat 2 = some (false, 1) := by kernel_rfl
theorem ty2g : grows EE 2 = true := by kernel_rfl
theorem ty3k : kindOf EE 3 = .int .i64 := by kernel_rfl
theorem ty3s : sizeT EE 3 = 1 := by kernel_rfl
theorem ty3b : bytesT EE 3 = 8 := by kernel_rfl
theorem ty3z : zeroT EE 3 = some (.int .i64 0) := by kernel_rfl
theorem ty3L : ∀ H b o, loadAV EE H 3 b o = cellAt H b o := load_one (by kernel_rfl)
theorem ty3p : ∀ cs o, partAV EE 3 cs o = getL cs o := part_one (by kernel_rfl)
theorem ty3S : ∀ H p x, storeV EE H 3 p x = storeN H 1 p x := store_n (by kernel_rfl)
theorem ty3f : EE.flat 3 = some (false, 1) := by kernel_rfl
theorem ty3g : grows EE 3 = true := by kernel_rfl
theorem ty4k : kindOf EE 4 = .bool := by kernel_rfl
theorem ty4s : sizeT EE 4 = 1 := by kernel_rfl
theorem ty4b : bytesT EE 4 = 1 := by kernel_rfl
theorem ty4z : zeroT EE 4 = some (.bool false) := by kernel_rfl
theorem ty4L : ∀ H b o, loadAV EE H 4 b o = cellAt H b o := load_one (by kernel_rfl)
theorem ty4p : ∀ cs o, partAV EE 4 cs o = getL cs o := part_one (by kernel_rfl)
theorem ty4S : ∀ H p x, storeV EE H 4 p x = storeN H 1 p x := store_n (by kernel_rfl)
theorem ty4f : EE.flat 4 = some (true, 1) := by kernel_rfl
theorem ty4g : grows EE 4 = true := by kernel_rfl
theorem ty5k : kindOf EE 5 = .int .u8 := by kernel_rfl
theorem ty5s : sizeT EE 5 = 1 := by kernel_rfl
theorem ty5b : bytesT EE 5 = 1 := by kernel_rfl
theorem ty5z : zeroT EE 5 = some (.int .u8 0) := by kernel_rfl
theorem ty5L : ∀ H b o, loadAV EE H 5 b o = cellAt H b o := load_one (by kernel_rfl)
theorem ty5p : ∀ cs o, partAV EE 5 cs o = getL cs o := part_one (by kernel_rfl)
theorem ty5S : ∀ H p x, storeV EE H 5 p x = storeN H 1 p x := store_n (by kernel_rfl)
theorem ty5f : EE.flat 5 = some (false, 1) := by kernel_rfl
theorem ty5g : grows EE 5 = true := by kernel_rfl
theorem ty6k : kindOf EE 6 = .int .u8 := by kernel_rfl
theorem ty6s : sizeT EE 6 = 1 := by kernel_rfl
theorem ty6b : bytesT EE 6 = 1 := by kernel_rfl
theorem ty6z : zeroT EE 6 = some (.int .u8 0) := by kernel_rfl
theorem ty6L : ∀ H b o, loadAV EE H 6 b o = cellAt H b o := load_one (by kernel_rfl)
theorem ty6p : ∀ cs o, partAV EE 6 cs o = getL cs o := part_one (by kernel_rfl)
theorem ty6S : ∀ H p x, storeV EE H 6 p x = storeN H 1 p x := store_n (by kernel_rfl)
theorem ty6f : EE.flat 6 = some (false, 1) := by kernel_rfl
theorem ty6g : grows EE 6 = true := by kernel_rfl
theorem ty22k : kindOf EE 22 = .slice 3 := by kernel_rfl
theorem ty22s : sizeT EE 22 = 1 := by kernel_rfl
theorem ty22b : bytesT EE 22 = 24 := by kernel_rfl
theorem ty22z : zeroT EE 22 = some (.nils) := by kernel_rfl
theorem ty22L : ∀ H b o, loadAV EE H 22 b o = cellAt H b o := load_one (by kernel_rfl)
theorem ty22p : ∀ cs o, partAV EE 22 cs o = getL cs o := part_one (by kernel_rfl)
theorem ty22S : ∀ H p x, storeV EE H 22 p x = storeN H 1 p x := store_n (by kernel_rfl)
theorem ty22f : EE.flat 22 = none := by kernel_rfl
theorem ty22g : grows EE 22 = true := by kernel_rfl
theorem ty23k : kindOf EE 23 = .slice 43 := by kernel_rfl
theorem ty23s : sizeT EE 23 = 1 := by kernel_rfl
theorem ty23b : bytesT EE 23 = 24 := by kernel_rfl
theorem ty23z : zeroT EE 23 = some (.nils) := by kernel_rfl
theorem ty23L : ∀ H b o, loadAV EE H 23 b o = cellAt H b o := load_one (by kernel_rfl)
theorem ty23p : ∀ cs o, partAV EE 23 cs o = getL cs o := part_one (by kernel_rfl)
theorem ty23S : ∀ H p x, storeV EE H 23 p x = storeN H 1 p x := store_n (by kernel_rfl)
theorem ty23f : EE.flat 23 = none := by kernel_rfl
theorem ty23g : grows EE 23 = true := by kernel_rfl
theorem ty24k : kindOf EE 24 = .slice 71 := by kernel_rfl
theorem ty24s : sizeT EE 24 = 1 := by kernel_rfl
theorem ty24b : bytesT EE 24 = 24 := by kernel_rfl
theorem ty24z : zeroT EE 24 = some (.nils) := by kernel_rfl
theorem ty24L : ∀ H b o, loadAV EE H 24 b o = cellAt H b o := load_one (by kernel_rfl)
theorem ty24p : ∀ cs o, partAV EE 24 cs o = getL cs o := part_one (by kernel_rfl)
theorem ty24S : ∀ H p x, storeV EE H 24 p x = storeN H 1 p x := store_n (by kernel_rfl)
theorem ty24f : EE.flat 24 = none := by kernel_rfl
theorem ty24g : grows EE 24 = true := by kernel_rfl
theorem ty26k : kindOf EE 26 = .struct [(0, 3), (1, 3), (2, 24)] := by kernel_rfl
theorem ty26s : sizeT EE 26 = 3 := by kernel_rfl
theorem ty26b : bytesT EE 26 = 40 := by kernel_rfl
theorem ty26z : zeroT EE 26 = some (.agg [.int .i64 0, .int .i64 0, .nils]) := by kernel_rfl
theorem ty26L : ∀ H b o, loadAV EE H 26 b o = (cellsAt H b o 3).omap .agg := load_agg (by kernel_rfl)
theorem ty26p : ∀ cs o, partAV EE 26 cs o = (takeE 3 (dropL o cs)).omap .agg := part_agg (by kernel_rfl)
theorem ty26S : ∀ H p x, storeV EE H 26 p x = storeN H 3 p x := store_n (by kernel_rfl)
theorem ty26f : EE.flat 26 = none := by kernel_rfl
theorem ty26g : grows EE 26 = true := by kernel_rfl
theorem ty28k : kindOf EE 28 = .struct [(0, 22), (1, 23), (2, 3), (3, 26)] := by kernel_rfl
theorem ty28s : sizeT EE 28 = 6 := by kernel_rfl
theorem ty28b : bytesT EE 28 = 96 := by kernel_rfl
theorem ty28z : zeroT EE 28 = some (.agg [.nils, .nils, .int .i64 0, .int .i64 0, .int .i64 0, .nils]) := by kernel_rfl
theorem ty28L : ∀ H b o, loadAV EE H 28 b o = (cellsAt H b o 6).omap .agg := load_agg (by kernel_rfl)
theorem ty28p : ∀ cs o, partAV EE 28 cs o = (takeE 6 (dropL o cs)).omap .agg := part_agg (by kernel_rfl)
theorem ty28S : ∀ H p x, storeV EE H 28 p x = storeN H 6 p x := store_n (by kernel_rfl)
theorem ty28f : EE.flat 28 = none := by kernel_rfl
theorem ty28g : grows EE 28 = true := by kernel_rfl
theorem ty36k : kindOf EE 36 = .struct [(0, 24), (1, 22), (2, 3)] := by kernel_rfl
theorem ty36s : sizeT EE 36 = 3 := by kernel_rfl
theorem ty36b : bytesT EE 36 = 56 := by kernel_rfl
theorem ty36z : zeroT EE 36 = some (.agg [.nils, .nils, .int .i64 0]) := by kernel_rfl
theorem ty36L : ∀ H b o, loadAV EE H 36 b o = (cellsAt H b o 3).omap .agg := load_agg (by kernel_rfl)
theorem ty36p : ∀ cs o, partAV EE 36 cs o = (takeE 3 (dropL o cs)).omap .agg := part_agg (by kernel_rfl)
theorem ty36S : ∀ H p x, storeV EE H 36 p x = storeN H 3 p x := store_n (by kernel_rfl)
theorem ty36f : EE.flat 36 = none := by kernel_rfl
theorem ty36g : grows EE 36 = true := by kernel_rfl
theorem ty41k : kindOf EE 41 = .slice 5 := by kernel_rfl
theorem ty41s : sizeT EE 41 = 1 := by kernel_rfl
theorem ty41b : bytesT EE 41 = 24 := by kernel_rfl
theorem ty41z : zeroT EE 41 = some (.nils) := by kernel_rfl
theorem ty41L : ∀ H b o, loadAV EE H 41 b o = cellAt H b o := load_one (by kernel_rfl)
theorem ty41p : ∀ cs o, partAV EE 41 cs o = getL cs o := part_one (by kernel_rfl)
theorem ty41S : ∀ H p x, storeV EE H 41 p x = storeN H 1 p x := store_n (by kernel_rfl)
theorem ty41f : EE.flat 41 = none := by kernel_rfl
theorem ty41g : grows EE 41 = true := by kernel_rfl
theorem ty43k : kindOf EE 43 = .struct [(0, 3), (1, 41), (2, 24)] := by kernel_rfl
theorem ty43s : sizeT EE 43 = 3 := by kernel_rfl
theorem ty43b : bytesT EE 43 = 56 := by kernel_rfl
theorem ty43z : zeroT EE 43 = some (.agg [.int .i64 0, .nils, .nils]) := by kernel_rfl
theorem ty43L : ∀ H b o, loadAV EE H 43 b o = (cellsAt H b o 3).omap .agg := load_agg (by kernel_rfl)
theorem ty43p : ∀ cs o, partAV EE 43 cs o = (takeE 3 (dropL o cs)).omap .agg := part_agg (by kernel_rfl)
theorem ty43S : ∀ H p x, storeV EE H 43 p x = storeN H 3 p x := store_n (by kernel_rfl)
theorem ty43f : EE.flat 43 = none := by kernel_rfl
theorem ty43g : grows EE 43 = true := by kernel_rfl
theorem ty66k : kindOf EE 66 = .func := by kernel_rfl
theorem ty66s : sizeT EE 66 = 1 := by kernel_rfl
theorem ty66b : bytesT EE 66 = 8 := by kernel_rfl
theorem ty66z : zeroT EE 66 = some (.nilf) := by kernel_rfl
theorem ty66L : ∀ H b o, loadAV EE H 66 b o = cellAt H b o := load_one (by kernel_rfl)
theorem ty66p : ∀ cs o, partAV EE 66 cs o = getL cs o := part_one (by kernel_rfl)
theorem ty66S : ∀ H p x, storeV EE H 66 p x = storeN H 1 p x := store_n (by kernel_rfl)
theorem ty66f : EE.flat 66 = none := by kernel_rfl
theorem ty66g : grows EE 66 = true := by kernel_rfl
theorem ty71k : kindOf EE 71 = .struct [(0, 3), (1, 3)] := by kernel_rfl
theorem ty71s : sizeT EE 71 = 2 := by kernel_rfl
theorem ty71b : bytesT EE 71 = 16 := by kernel_rfl
theorem ty71z : zeroT EE 71 = some (.agg [.int .i64 0, .int .i64 0]) := by kernel_rfl
theorem ty71L : ∀ H b o, loadAV EE H 71 b o = (cellsAt H b o 2).omap .agg := load_agg (by kernel_rfl)
theorem ty71p : ∀ cs o, partAV EE 71 cs o = (takeE 2 (dropL o cs)).omap .agg := part_agg (by kernel_rfl)
theorem ty71S : ∀ H p x, storeV EE H 71 p x = storeN H 2 p x := store_n (by kernel_rfl)
theorem ty71f : EE.flat 71 = some (false, 2) := by kernel_rfl
theorem ty71g : grows EE 71 = true := by kernel_rfl
theorem ty74k : kindOf EE 74 = .struct [(0, 3), (1, 4)] := by kernel_rfl
theorem ty74s : sizeT EE 74 = 2 := by kernel_rfl
theorem ty74b : bytesT EE 74 = 16 := by kernel_rfl
theorem ty74z : zeroT EE 74 = some (.agg [.int .i64 0, .bool false]) := by kernel_rfl
theorem ty74L : ∀ H b o, loadAV EE H 74 b o = (cellsAt H b o 2).omap .agg := load_agg (by kernel_rfl)
theorem ty74p : ∀ cs o, partAV EE 74 cs o = (takeE 2 (dropL o cs)).omap .agg := part_agg (by kernel_rfl)
theorem ty74S : ∀ H p x, storeV EE H 74 p x = storeN H 2 p x := store_n (by kernel_rfl)
theorem ty74f : EE.flat 74 = none := by kernel_rfl
theorem ty74g : grows EE 74 = true := by kernel_rfl
theorem ty104k : kindOf EE 104 = .func := by kernel_rfl
theorem ty104s : sizeT EE 104 = 1 := by kernel_rfl
theorem ty104b : bytesT EE 104 = 8 := by kernel_rfl
theorem ty104z : zeroT EE 104 = some (.nilf) := by kernel_rfl
theorem ty104L : ∀ H b o, loadAV EE H 104 b o = cellAt H b o := load_one (by kernel_rfl)
theorem ty104p : ∀ cs o, partAV EE 104 cs o = getL cs o := part_one (by kernel_rfl)
theorem ty104S : ∀ H p x, storeV EE H 104 p x = storeN H 1 p x := store_n (by kernel_rfl)
theorem ty104f : EE.flat 104 = none := by kernel_rfl
theorem ty104g : grows EE 104 = true := by kernel_rfl
theorem ty111k : kindOf EE 111 = .func := by kernel_rfl
theorem ty111s : sizeT EE 111 = 1 := by kernel_rfl
theorem ty111b : bytesT EE 111 = 8 := by kernel_rfl
theorem ty111z : zeroT EE 111 = some (.nilf) := by kernel_rfl
theorem ty111L : ∀ H b o, loadAV EE H 111 b o = cellAt H b o := load_one (by kernel_rfl)
theorem ty111p : ∀ cs o, partAV EE 111 cs o = getL cs o := part_one (by kernel_rfl)
theorem ty111S : ∀ H p x, storeV EE H 111 p x = storeN H 1 p x := store_n (by kernel_rfl)
theorem ty111f : EE.flat 111 = none := by kernel_rfl
theorem ty111g : grows EE 111 = true := by kernel_rfl
theorem ty176k : kindOf EE 176 = .func := by kernel_rfl
theorem ty176s : sizeT EE 176 = 1 := by kernel_rfl
theorem ty176b : bytesT EE 176 = 8 := by kernel_rfl
theorem ty176z : zeroT EE 176 = some (.nilf) := by kernel_rfl
theorem ty176L : ∀ H b o, loadAV EE H 176 b o = cellAt H b o := load_one (by kernel_rfl)
theorem ty176p : ∀ cs o, partAV EE 176 cs o = getL cs o := part_one (by kernel_rfl)
theorem ty176S : ∀ H p x, storeV EE H 176 p x = storeN H 1 p x := store_n (by kernel_rfl)
theorem ty176f : EE.flat 176 = none := by kernel_rfl
theorem ty176g : grows EE 176 = true := by kernel_rfl
theorem ty177k : kindOf EE 177 = .int .u64 := by kernel_rfl
theorem ty177s : sizeT EE 177 = 1 := by kernel_rfl
theorem ty177b : bytesT EE 177 = 8 := by kernel_rfl
theorem ty177z : zeroT EE 177 = some (.int .u64 0) := by kernel_rfl
theorem ty177L : ∀ H b o, loadAV EE H 177 b o = cellAt H b o := load_one (by kernel_rfl)
theorem ty177p : ∀ cs o, partAV EE 177 cs o = getL cs o := part_one (by kernel_rfl)
theorem ty177S : ∀ H p x, storeV EE H 177 p x = storeN H 1 p x := store_n (by kernel_rfl)
theorem ty177f : EE.flat 177 = some (false, 1) := by kernel_rfl
theorem ty177g : grows EE 177 = true := by kernel_rfl
theorem ty237k : kindOf EE 237 = .func := by kernel_rfl
theorem ty237s : sizeT EE 237 = 1 := by kernel_rfl
theorem ty237b : bytesT EE 237 = 8 := by kernel_rfl
theorem ty237z : zeroT EE 237 = some (.nilf) := by kernel_rfl
theorem ty237L : ∀ H b o, loadAV EE H 237 b o = cellAt H b o := load_one (by kernel_rfl)
theorem ty237p : ∀ cs o, partAV EE 237 cs o = getL cs o := part_one (by kernel_rfl)
theorem ty237S : ∀ H p x, storeV EE H 237 p x = storeN H 1 p x := store_n (by kernel_rfl)
theorem ty237f : EE.flat 237 = none := by kernel_rfl
theorem ty237g : grows EE 237 = true := by kernel_rfl
attribute [go_sem] ty1k ty1s ty1b ty1z ty1L ty1p ty1S ty1f ty2k ty2s ty2b ty2z ty2L ty2p ty2S ty2f ty3k ty3s ty3b ty3z ty3L ty3p ty3S ty3f ty4k ty4s ty4b ty4z ty4L ty4p ty4S ty4f ty5k ty5s ty5b ty5z ty5L ty5p ty5S ty5f ty6k ty6s ty6b ty6z ty6L ty6p ty6S ty6f ty22k ty22s ty22b ty22z ty22L ty22p ty22S ty22f ty23k ty23s ty23b ty23z ty23L ty23p ty23S ty23f ty24k ty24s ty24b ty24z ty24L ty24p ty24S ty24f ty26k ty26s ty26b ty26z ty26L ty26p ty26S ty26f ty28k ty28s ty28b ty28z ty28L ty28p ty28S ty28f ty36k ty36s ty36b ty36z ty36L ty36p ty36S ty36f ty41k ty41s ty41b ty41z ty41L ty41p ty41S ty41f ty43k ty43s ty43b ty43z ty43L ty43p ty43S ty43f ty66k ty66s ty66b ty66z ty66L ty66p ty66S ty66f ty71k ty71s ty71b ty71z ty71L ty71p ty71S ty71f ty74k ty74s ty74b ty74z ty74L ty74p ty74S ty74f ty104k ty104s ty104b ty104z ty104L ty104p ty104S ty104f ty111k ty111s ty111b ty111z ty111L ty111p ty111S ty111f ty176k ty176s ty176b ty176z ty176L ty176p ty176S ty176f ty177k ty177s ty177b ty177z ty177L ty177p ty177S ty177f ty237k ty237s ty237b ty237z ty237L ty237p ty237S ty237f
theorem ob22 {N M : Nat} {d : Option Tmp} {t : TypeId} {p : String} {a : Array Edge} {g : Option (Nat × Bool)} {s : St} {K : St → Prop} {n : Nat} {ps : List (Nat × Operand)} (hn : n * sizeT EE 3 ≤ 16777216) : wpOp EE N M ⟨d, .buildSlice 22 n ps.toArray, t, p, a, g⟩ s K = oP ((zeroT EE 3).obind fun z => (fillParts M (fun i => some (Nat.mul i (sizeT EE 3), sizeT EE 3)) s.T ps (repL n z.cells)).omap fun l => (Blk.cells l 3 true true, fun b : Nat => AV.slice b 0 n (.ex n))) (KNew N M s.T d s.H K) := w_buildSlice ty22k hn
theorem ob23 {N M : Nat} {d : Option Tmp} {t : TypeId} {p : String} {a : Array Edge} {g : Option (Nat × Bool)} {s : St} {K : St → Prop} {n : Nat} {ps : List (Nat × Operand)} (hn : n * sizeT EE 43 ≤ 16777216) : wpOp EE N M ⟨d, .buildSlice 23 n ps.toArray, t, p, a, g⟩ s K = oP ((zeroT EE 43).obind fun z => (fillParts M (fun i => some (Nat.mul i (sizeT EE 43), sizeT EE 43)) s.T ps (repL n z.cells)).omap fun l => (Blk.cells l 43 true true, fun b : Nat => AV.slice b 0 n (.ex n))) (KNew N M s.T d s.H K) := w_buildSlice ty23k hn
theorem ob24 {N M : Nat} {d : Option Tmp} {t : TypeId} {p : String} {a : Array Edge} {g : Option (Nat × Bool)} {s : St} {K : St → Prop} {n : Nat} {ps : List (Nat × Operand)} (hn : n * sizeT EE 71 ≤ 16777216) : wpOp EE N M ⟨d, .buildSlice 24 n ps.toArray, t, p, a, g⟩ s K = oP ((zeroT EE 71).obind fun z => (fillParts M (fun i => some (Nat.mul i (sizeT EE 71), sizeT EE 71)) s.T ps (repL n z.cells)).omap fun l => (Blk.cells l 71 true true, fun b : Nat => AV.slice b 0 n (.ex n))) (KNew N M s.T d s.H K) := w_buildSlice ty24k hn
theorem ob41 {N M : Nat} {d : Option Tmp} {t : TypeId} {p : String} {a : Array Edge} {g : Option (Nat × Bool)} {s : St} {K : St → Prop} {n : Nat} {ps : List (Nat × Operand)} (hn : n * sizeT EE 5 ≤ 16777216) : wpOp EE N M ⟨d, .buildSlice 41 n ps.toArray, t, p, a, g⟩ s K = oP ((zeroT EE 5).obind fun z => (fillParts M (fun i => some (Nat.mul i (sizeT EE 5), sizeT EE 5)) s.T ps (repL n z.cells)).omap fun l => (Blk.cells l 5 true true, fun b : Nat => AV.slice b 0 n (.ex n))) (KNew N M s.T d s.H K) := w_buildSlice ty41k hn
theorem oa22_22 {H : Hp} {u x : AV} : bltEff .append EE H [u, x] [22, 22] = (srcCells EE H 3 x).obind fun p => evAppend EE H 3 u p.1 p.2 := appArgs_def ty22k ty22k
theorem oa23_23 {H : Hp} {u x : AV} : bltEff .append EE H [u, x] [23, 23] = (srcCells EE H 43 x).obind fun p => evAppend EE H 43 u p.1 p.2 := appArgs_def ty23k ty23k
theorem oa24_24 {H : Hp} {u x : AV} : bltEff .append EE H [u, x] [24, 24] = (srcCells EE H 71 x).obind fun p => evAppend EE H 71 u p.1 p.2 := appArgs_def ty24k ty24k
theorem oa41_41 {H : Hp} {u x : AV} : bltEff .append EE H [u, x] [41, 41] = (srcCells EE H 5 x).obind fun p => evAppend EE H 5 u p.1 p.2 := appArgs_def ty41k ty41k
theorem ov3_177 {N M : Nat} {d : Option Tmp} {t : TypeId} {p : String} {a : Array Edge} {g : Option (Nat × Bool)} {s : St} {K : St → Prop} {x : Operand} : wpOp EE N M ⟨d, .convert 3 177 x, t, p, a, g⟩ s K = oP ((evO M x s.T).obind (convI (.int .i64) (.int .u64))) (KPutV N M s.T d s.H K) := w_conv_int ty3k ty177k
attribute [go_sem] ob22 ob23 ob24 ob41 oa22_22 oa23_23 oa24_24 oa41_41 ov3_177
end
end Go.Ev
