/-
  What the program says of its types, for the walks of the functions that are summed up. No conditions.
-/
import Derived.Test.YtkbfagkgiogllaaGreatEvJ
import Derived.Test.YtkbfagkgiogllaaGreatProg
import Derived.KernelRfl
set_option linter.unusedVariables false
set_option linter.unusedSimpArgs false
namespace Go.Ev.Sm
noncomputable section
def wk (f : FuncId) : Bool := false
def E1 : Env := envV Go.Proofs.Tryz.prog wk
def EE : Env := env2 E1
theorem zE : ZeroOk E1 := zeroOk_of _ _
/-- A call, at level two. -/
abbrev Call (f : AV) (xs : List AV) (H : Hp) (K : AV → Hp → Prop) : Prop := WCall2 E1 f xs H K
theorem callEE {f : AV} {xs : List AV} {H : Hp} {K : AV → Hp → Prop} : callJ EE f xs H K = Call f xs H K := rfl
attribute [go_sem] callEE krange
theorem enterE {f : FuncId} {fn : Func} {c : Code} {a1 a2 xs : List AV} {H : Hp} {K : AV → Hp → Prop} {N : Nat} {l : List ResultVar} (hw : wk f = false) (hf : E1.fn f = some fn) (hb : fn.body = some c) (hN : fn.ntmps = N) (hr : fn.results = l.toArray)
    (hl : Nat.ble (appL a1 (appL xs a2)).length N = true) (hro : resOk N l = true) (h : WF H → wpC EE f N (FULL N) c ⟨⟨.nil, argG (appL a1 (appL xs a2)) 0 .nil⟩, H⟩ (KO EE H l K)) : Call (.func f a1 a2) xs H K := enter3 zE hw hf hb hN hr hl hro h
theorem loopE {fid : FuncId} {N : Nat} {c : Code} {K : Ex → St → Prop} {G : TL} {H : Hp} (D : Nat) (hD : dstM (dsts c) = D) (I : Nat → TL → Hp → Prop) (m : Nat) (h0 : I m G H)
    (hI : ∀ m G' H', (∀ j, Nat.testBit D j = false → G'.get j = G.get j) → I m G' H' → wpC EE fid N (FULL N) c ⟨⟨.nil, G'⟩, H'⟩ (KRd I m K)) : wpLoop (wpC EE fid N (FULL N) c) ⟨⟨.nil, G⟩, H⟩ K := wloop2 D hD I m h0 hI
theorem yieldE {fid : FuncId} {N M : Nat} {l : Nat} {T : Tm} {ps : List Tmp} {a b : Code} {st : LoopState} {pd : Option Code} {xs : List AV} {H : Hp} {K : AV → Hp → Prop} (hl : H.m.get l = some (.loop fid T N M ps a b st pd))
    (h : oP (setParams N M ps T xs) fun T' => wpC EE fid N M a ⟨T', H⟩ (KMid EE fid N M b l K)) : Call (.yield l) xs H K := wcall2_yield rfl zE hl h
theorem drawE {N M : Nat} {ops : List Oper} {s : St} {K : St → Prop} (hS : okS EE ops = true) (hl : loose EE ops = []) (h : wpOps EE N M ops ops s K) : drawJ EE N M ops s K := draw_of hS hl h
theorem drawX {N M : Nat} {ops : List Oper} {s : St} {K : St → Prop} (cl : List Nat) (hS : okS EE ops = true) (hc : codesX EE ops = cl) (h9 : cl.all (fun c => !(Nat.beq c 9)) = true) (hne : (loose EE ops).isEmpty = false) (h : wpX EE N M s.H.next ops ops cl s K) : drawJ EE N M ops s K := draw_X hS hc h9 hne h
theorem drawE2 {N M : Nat} {ops : List Oper} {s : St} {K : St → Prop} {p : Nat × Nat} {l : List (Nat × Nat)} (hS : okS EE ops = true) (hl : loose EE ops = p :: l) (h : wpTr2 EE N M ops ops s [] fun tr => looseAll EE M ops tr (p :: l) ∧ K (lastS tr s)) : drawJ EE N M ops s K := draw_of2 hS hl h
set_option maxRecDepth 100000
theorem ty1k : kindOf EE 1 = .func := by kernel_rfl
theorem ty1s : sizeT EE 1 = 1 := by kernel_rfl
theorem ty1b : bytesT EE 1 = 8 := by kernel_rfl
theorem ty1z : zeroT EE 1 = some (.nilf) := by kernel_rfl
theorem ty1L : ∀ H b o, loadAV EE H 1 b o = cellAt H b o := load_one (by kernel_rfl)
theorem ty1p : ∀ cs o, partAV EE 1 cs o = getL cs o := part_one (by kernel_rfl)
theorem ty1S : ∀ H p x, storeV EE H 1 p x = storeN H 1 p x := store_n (by kernel_rfl)
theorem ty1f : EE.flat 1 = none := by kernel_rfl
theorem ty1g : grows EE 1 = true := by kernel_rfl
theorem ty2k : kindOf EE 2 = .int .i64 := by kernel_rfl
theorem ty2s : sizeT EE 2 = 1 := by kernel_rfl
theorem ty2b : bytesT EE 2 = 8 := by kernel_rfl
theorem ty2z : zeroT EE 2 = some (.int .i64 0) := by kernel_rfl
theorem ty2L : ∀ H b o, loadAV EE H 2 b o = cellAt H b o := load_one (by kernel_rfl)
theorem ty2p : ∀ cs o, partAV EE 2 cs o = getL cs o := part_one (by kernel_rfl)
theorem ty2S : ∀ H p x, storeV EE H 2 p x = storeN H 1 p x := store_n (by kernel_rfl)
theorem ty2f : EE.flat 2 = some (false, 1) := by kernel_rfl
theorem ty2g : grows EE 2 = true := by kernel_rfl
theorem ty3k : kindOf EE 3 = .int .i64 := by kernel_rfl
theorem ty3s : sizeT EE 3 = 1 := by kernel_rfl
theorem ty3b : bytesT EE 3 = 8 := by kernel_rfl
theorem ty3z : zeroT EE 3 = some (.int .i64 0) := by kernel_rfl
theorem ty3L : ∀ H b o, loadAV EE H 3 b o = cellAt H b o := load_one (by kernel_rfl)
theorem ty3p : ∀ cs o, partAV EE 3 cs o = getL cs o := part_one (by kernel_rfl)
theorem ty3S : ∀ H p x, storeV EE H 3 p x = storeN H 1 p x := store_n (by kernel_rfl)
theorem ty3f : EE.flat 3 = some (false, 1) := by kernel_rfl
theorem ty3g : grows EE 3 = true := by kernel_rfl
theorem ty4k : kindOf EE 4 = .bool := by kernel_rfl
theorem ty4s : sizeT EE 4 = 1 := by kernel_rfl
theorem ty4b : bytesT EE 4 = 1 := by kernel_rfl
theorem ty4z : zeroT EE 4 = some (.bool false) := by kernel_rfl
theorem ty4L : ∀ H b o, loadAV EE H 4 b o = cellAt H b o := load_one (by kernel_rfl)
theorem ty4p : ∀ cs o, partAV EE 4 cs o = getL cs o := part_one (by kernel_rfl)
theorem ty4S : ∀ H p x, storeV EE H 4 p x = storeN H 1 p x := store_n (by kernel_rfl)
theorem ty4f : EE.flat 4 = some (true, 1) := by kernel_rfl
theorem ty4g : grows EE 4 = true := by kernel_rfl
theorem ty5k : kindOf EE 5 = .int .u8 := by kernel_rfl
theorem ty5s : sizeT EE 5 = 1 := by kernel_rfl
theorem ty5b : bytesT EE 5 = 1 := by kernel_rfl
theorem ty5z : zeroT EE 5 = some (.int .u8 0) := by kernel_rfl
theorem ty5L : ∀ H b o, loadAV EE H 5 b o = cellAt H b o := load_one (by kernel_rfl)
theorem ty5p : ∀ cs o, partAV EE 5 cs o = getL cs o := part_one (by kernel_rfl)
theorem ty5S : ∀ H p x, storeV EE H 5 p x = storeN H 1 p x := store_n (by kernel_rfl)
theorem ty5f : EE.flat 5 = some (false, 1) := by kernel_rfl
theorem ty5g : grows EE 5 = true := by kernel_rfl
theorem ty6k : kindOf EE 6 = .int .u8 := by kernel_rfl
theorem ty6s : sizeT EE 6 = 1 := by kernel_rfl
theorem ty6b : bytesT EE 6 = 1 := by kernel_rfl
theorem ty6z : zeroT EE 6 = some (.int .u8 0) := by kernel_rfl
theorem ty6L : ∀ H b o, loadAV EE H 6 b o = cellAt H b o := load_one (by kernel_rfl)
theorem ty6p : ∀ cs o, partAV EE 6 cs o = getL cs o := part_one (by kernel_rfl)
theorem ty6S : ∀ H p x, storeV EE H 6 p x = storeN H 1 p x := store_n (by kernel_rfl)
theorem ty6f : EE.flat 6 = some (false, 1) := by kernel_rfl
theorem ty6g : grows EE 6 = true := by kernel_rfl
theorem ty34k : kindOf EE 34 = .slice 5 := by kernel_rfl
theorem ty34s : sizeT EE 34 = 1 := by kernel_rfl
theorem ty34b : bytesT EE 34 = 24 := by kernel_rfl
theorem ty34z : zeroT EE 34 = some (.nils) := by kernel_rfl
theorem ty34L : ∀ H b o, loadAV EE H 34 b o = cellAt H b o := load_one (by kernel_rfl)
theorem ty34p : ∀ cs o, partAV EE 34 cs o = getL cs o := part_one (by kernel_rfl)
theorem ty34S : ∀ H p x, storeV EE H 34 p x = storeN H 1 p x := store_n (by kernel_rfl)
theorem ty34f : EE.flat 34 = none := by kernel_rfl
theorem ty34g : grows EE 34 = true := by kernel_rfl
theorem ty78k : kindOf EE 78 = .slice 150 := by kernel_rfl
theorem ty78s : sizeT EE 78 = 1 := by kernel_rfl
theorem ty78b : bytesT EE 78 = 24 := by kernel_rfl
theorem ty78z : zeroT EE 78 = some (.nils) := by kernel_rfl
theorem ty78L : ∀ H b o, loadAV EE H 78 b o = cellAt H b o := load_one (by kernel_rfl)
theorem ty78p : ∀ cs o, partAV EE 78 cs o = getL cs o := part_one (by kernel_rfl)
theorem ty78S : ∀ H p x, storeV EE H 78 p x = storeN H 1 p x := store_n (by kernel_rfl)
theorem ty78f : EE.flat 78 = none := by kernel_rfl
theorem ty78g : grows EE 78 = true := by kernel_rfl
theorem ty150k : kindOf EE 150 = .struct [(0, 3), (1, 3)] := by kernel_rfl
theorem ty150s : sizeT EE 150 = 2 := by kernel_rfl
theorem ty150b : bytesT EE 150 = 16 := by kernel_rfl
theorem ty150z : zeroT EE 150 = some (.agg [.int .i64 0, .int .i64 0]) := by kernel_rfl
theorem ty150L : ∀ H b o, loadAV EE H 150 b o = (cellsAt H b o 2).omap .agg := load_agg (by kernel_rfl)
theorem ty150p : ∀ cs o, partAV EE 150 cs o = (takeE 2 (dropL o cs)).omap .agg := part_agg (by kernel_rfl)
theorem ty150S : ∀ H p x, storeV EE H 150 p x = storeN H 2 p x := store_n (by kernel_rfl)
theorem ty150f : EE.flat 150 = some (false, 2) := by kernel_rfl
theorem ty150g : grows EE 150 = true := by kernel_rfl
theorem ty221k : kindOf EE 221 = .int .u64 := by kernel_rfl
theorem ty221s : sizeT EE 221 = 1 := by kernel_rfl
theorem ty221b : bytesT EE 221 = 8 := by kernel_rfl
theorem ty221z : zeroT EE 221 = some (.int .u64 0) := by kernel_rfl
theorem ty221L : ∀ H b o, loadAV EE H 221 b o = cellAt H b o := load_one (by kernel_rfl)
theorem ty221p : ∀ cs o, partAV EE 221 cs o = getL cs o := part_one (by kernel_rfl)
theorem ty221S : ∀ H p x, storeV EE H 221 p x = storeN H 1 p x := store_n (by kernel_rfl)
theorem ty221f : EE.flat 221 = some (false, 1) := by kernel_rfl
theorem ty221g : grows EE 221 = true := by kernel_rfl
theorem ty310k : kindOf EE 310 = .func := by kernel_rfl
theorem ty310s : sizeT EE 310 = 1 := by kernel_rfl
theorem ty310b : bytesT EE 310 = 8 := by kernel_rfl
theorem ty310z : zeroT EE 310 = some (.nilf) := by kernel_rfl
theorem ty310L : ∀ H b o, loadAV EE H 310 b o = cellAt H b o := load_one (by kernel_rfl)
theorem ty310p : ∀ cs o, partAV EE 310 cs o = getL cs o := part_one (by kernel_rfl)
theorem ty310S : ∀ H p x, storeV EE H 310 p x = storeN H 1 p x := store_n (by kernel_rfl)
theorem ty310f : EE.flat 310 = none := by kernel_rfl
theorem ty310g : grows EE 310 = true := by kernel_rfl
theorem ty314k : kindOf EE 314 = .func := by kernel_rfl
theorem ty314s : sizeT EE 314 = 1 := by kernel_rfl
theorem ty314b : bytesT EE 314 = 8 := by kernel_rfl
theorem ty314z : zeroT EE 314 = some (.nilf) := by kernel_rfl
theorem ty314L : ∀ H b o, loadAV EE H 314 b o = cellAt H b o := load_one (by kernel_rfl)
theorem ty314p : ∀ cs o, partAV EE 314 cs o = getL cs o := part_one (by kernel_rfl)
theorem ty314S : ∀ H p x, storeV EE H 314 p x = storeN H 1 p x := store_n (by kernel_rfl)
theorem ty314f : EE.flat 314 = none := by kernel_rfl
theorem ty314g : grows EE 314 = true := by kernel_rfl
attribute [go_sem] ty1k ty1s ty1b ty1z ty1L ty1p ty1S ty1f ty2k ty2s ty2b ty2z ty2L ty2p ty2S ty2f ty3k ty3s ty3b ty3z ty3L ty3p ty3S ty3f ty4k ty4s ty4b ty4z ty4L ty4p ty4S ty4f ty5k ty5s ty5b ty5z ty5L ty5p ty5S ty5f ty6k ty6s ty6b ty6z ty6L ty6p ty6S ty6f ty34k ty34s ty34b ty34z ty34L ty34p ty34S ty34f ty78k ty78s ty78b ty78z ty78L ty78p ty78S ty78f ty150k ty150s ty150b ty150z ty150L ty150p ty150S ty150f ty221k ty221s ty221b ty221z ty221L ty221p ty221S ty221f ty310k ty310s ty310b ty310z ty310L ty310p ty310S ty310f ty314k ty314s ty314b ty314z ty314L ty314p ty314S ty314f
theorem ob34 {N M : Nat} {d : Option Tmp} {t : TypeId} {p : String} {a : Array Edge} {g : Option (Nat × Bool)} {s : St} {K : St → Prop} {n : Nat} {ps : List (Nat × Operand)} (hn : n * sizeT EE 5 ≤ 16777216) : wpOp EE N M ⟨d, .buildSlice 34 n ps.toArray, t, p, a, g⟩ s K = oP ((zeroT EE 5).obind fun z => (fillParts M (fun i => some (Nat.mul i (sizeT EE 5), sizeT EE 5)) s.T ps (repL n z.cells)).omap fun l => (Blk.cells l 5 true true, fun b : Nat => AV.slice b 0 n (.ex n))) (KNew N M s.T d s.H K) := w_buildSlice ty34k hn
theorem ob78 {N M : Nat} {d : Option Tmp} {t : TypeId} {p : String} {a : Array Edge} {g : Option (Nat × Bool)} {s : St} {K : St → Prop} {n : Nat} {ps : List (Nat × Operand)} (hn : n * sizeT EE 150 ≤ 16777216) : wpOp EE N M ⟨d, .buildSlice 78 n ps.toArray, t, p, a, g⟩ s K = oP ((zeroT EE 150).obind fun z => (fillParts M (fun i => some (Nat.mul i (sizeT EE 150), sizeT EE 150)) s.T ps (repL n z.cells)).omap fun l => (Blk.cells l 150 true true, fun b : Nat => AV.slice b 0 n (.ex n))) (KNew N M s.T d s.H K) := w_buildSlice ty78k hn
theorem oa34_34 {H : Hp} {u x : AV} : bltEff .append EE H [u, x] [34, 34] = (srcCells EE H 5 x).obind fun p => evAppend EE H 5 u p.1 p.2 := appArgs_def ty34k ty34k
theorem oa78_78 {H : Hp} {u x : AV} : bltEff .append EE H [u, x] [78, 78] = (srcCells EE H 150 x).obind fun p => evAppend EE H 150 u p.1 p.2 := appArgs_def ty78k ty78k
theorem oc78_78 {H : Hp} {u x : AV} : bltEff .copy EE H [u, x] [78, 78] = (srcCells EE H 150 x).obind fun p => copyTo EE H 150 u p := copyArgs_def ty78k
theorem ov5_221 {N M : Nat} {d : Option Tmp} {t : TypeId} {p : String} {a : Array Edge} {g : Option (Nat × Bool)} {s : St} {K : St → Prop} {x : Operand} : wpOp EE N M ⟨d, .convert 5 221 x, t, p, a, g⟩ s K = oP ((evO M x s.T).obind (convI (.int .u8) (.int .u64))) (KPutV N M s.T d s.H K) := w_conv_int ty5k ty221k
theorem ov221_5 {N M : Nat} {d : Option Tmp} {t : TypeId} {p : String} {a : Array Edge} {g : Option (Nat × Bool)} {s : St} {K : St → Prop} {x : Operand} : wpOp EE N M ⟨d, .convert 221 5 x, t, p, a, g⟩ s K = oP ((evO M x s.T).obind (convI (.int .u64) (.int .u8))) (KPutV N M s.T d s.H K) := w_conv_int ty221k ty5k
attribute [go_sem] ob34 ob78 oa34_34 oa78_78 oc78_78 ov5_221 ov221_5
end
end Go.Ev.Sm
