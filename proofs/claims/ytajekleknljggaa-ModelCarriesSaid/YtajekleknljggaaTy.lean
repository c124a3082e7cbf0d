/-
  What the program says of its types, for the walks. No conditions.
-/
import Derived.Test.YtajekleknljggaaEvJ
import Derived.Test.YtajekleknljggaaProg
import Derived.KernelRfl
set_option linter.unusedVariables false
set_option linter.unusedSimpArgs false
namespace Go.az
noncomputable section
def dP (f:FuncId):Bool:=f==9
def bE:Env:=g_ Go.Proofs.Try.prog dP
def aq:Env:=b0 bE
theorem Ml:ly bE:=Qv _ _
abbrev Call (f:I) (xs:List I) (H:aa) (K:I -> aa -> Prop):Prop:=fi bE f xs H K
theorem W7 {f:I} {xs:List I} {H:aa} {K:I -> aa -> Prop}:mo aq f xs H K=Call f xs H K:=rfl
attribute [go_sem] W7 Wx
theorem bR {f:FuncId} {fn:Func} {c:Code} {bI bN xs:List I} {H:aa} {K:I -> aa -> Prop} {N:Nat} {l:List ResultVar} (hw:dP f=false) (ao:bE.fn f=some fn) (U:fn.body=some c) (b4:fn.ntmps=N) (af:fn.results=l.toArray)
 (ah:Nat.ble (cb bI (cb xs bN)).length N=true) (jd:Du N l=true) (h:WF H -> ds aq f N (c8 N) c ⟨⟨.nil,mA (cb bI (cb xs bN)) 0 .nil⟩,H⟩ (A1 aq H l K)):Call (.func f bI bN) xs H K:=Wv Ml hw ao U b4 af ah jd h
theorem gw {fid:FuncId} {N:Nat} {c:Code} {K:bu -> an -> Prop} {G:ca} {H:aa} (D:Nat) (hr:z4 (k2 c)=D) (cX:Nat -> ca -> aa -> Prop) (m:Nat) (aD:cX m G H)
 (c':∀m gg H',(∀j,Nat.testBit D j=false -> gg.get j=G.get j) -> cX m gg H' -> ds aq fid N (c8 N) c ⟨⟨.nil,gg⟩,H'⟩ (xZ cX m K)):wN (ds aq fid N (c8 N) c) ⟨⟨.nil,G⟩,H⟩ K:=Wy D hr cX m aD c'
theorem zx {fid:FuncId} {N M:Nat} {l:Nat} {T:a'} {ps:List Tmp} {a b:Code} {st:LoopState} {se:Option Code} {xs:List I} {H:aa} {K:I -> aa -> Prop} (ah:H.m.get l=some (.loop fid T N M ps a b st se))
 (h:bl (jj N M ps T xs) fun T'=>ds aq fid N M a ⟨T',H⟩ (z3 aq fid N M b l K)):Call (.yield l) xs H K:=MW rfl Ml ah h
theorem iX {N M:Nat} {ops:List Oper} {s:an} {K:an -> Prop} (h_:j2 aq ops=true) (ah:loose aq ops= []) (h:wpOps aq N M ops ops s K):kr aq N M ops s K:=Uz h_ ah h
theorem oP {N M:Nat} {ops:List Oper} {s:an} {K:an -> Prop} (gR:List Nat) (h_:j2 aq ops=true) (V:Ju aq ops=gR) (iq:gR.all (fun c=> !(Nat.beq c 9))=true) (bX:(loose aq ops).isEmpty=false) (h:iJ aq N M s.H.next ops ops gR s K):kr aq N M ops s K:=WK h_ V iq bX h
theorem afd {N M:Nat} {ops:List Oper} {s:an} {K:an -> Prop} {p:Nat × Nat} {l:List (Nat × Nat)} (h_:j2 aq ops=true) (ah:loose aq ops=p :: l) (h:gX aq N M ops ops s [] fun a_=>lq aq M ops a_ (p :: l) /\ K (g9 a_ s)):kr aq N M ops s K:=Sw h_ ah h
set_option maxRecDepth 100000
theorem uW:aU aq 3= .int .i64:=by kernel_rfl
theorem s7:au aq 3=1:=by kernel_rfl
theorem KB:cr aq 3=some (.int .i64 0):=by kernel_rfl
theorem acb:∀H b o,dw aq H 3 b o=cellAt H b o:=pN (by kernel_rfl)
theorem acd:∀H p x,gu aq H 3 p x=dW H 1 p x:=kj (by kernel_rfl)
theorem ace:aq.flat 3=some (false,1):=by kernel_rfl
theorem abP:jw aq 3=true:=by kernel_rfl
theorem acf:aU aq 4= .bool:=by kernel_rfl
theorem uO:au aq 4=1:=by kernel_rfl
theorem acg:iU aq 4=1:=by kernel_rfl
theorem ach:cr aq 4=some (.bool false):=by kernel_rfl
theorem aci:∀H b o,dw aq H 4 b o=cellAt H b o:=pN (by kernel_rfl)
theorem acj:∀H p x,gu aq H 4 p x=dW H 1 p x:=kj (by kernel_rfl)
theorem ack:aq.flat 4=some (true,1):=by kernel_rfl
theorem uY:aU aq 5= .int .u8:=by kernel_rfl
theorem e2:au aq 5=1:=by kernel_rfl
theorem Kr:iU aq 5=1:=by kernel_rfl
theorem z9:cr aq 5=some (.int .u8 0):=by kernel_rfl
theorem acl:∀cs o,ek aq 5 cs o=fy cs o:=H7 (by kernel_rfl)
theorem acm:aq.flat 5=some (false,1):=by kernel_rfl
theorem nT:jw aq 5=true:=by kernel_rfl
theorem KE:aU aq 9= .string:=by kernel_rfl
theorem acn:aq.flat 9=none:=by kernel_rfl
theorem YY:aU aq 22= .slice 34:=by kernel_rfl
theorem YZ:aU aq 25= .ptr 72:=by kernel_rfl
theorem Y0:aq.flat 25=none:=by kernel_rfl
theorem Y1:aU aq 26= .int .i64:=by kernel_rfl
theorem Y2:aq.flat 26=some (false,1):=by kernel_rfl
theorem Y3:aU aq 29= .ptr 46:=by kernel_rfl
theorem Y4:aq.flat 29=none:=by kernel_rfl
theorem i6:aU aq 32= .slice 5:=by kernel_rfl
theorem Y5:au aq 32=1:=by kernel_rfl
theorem Y6:cr aq 32=some (.aE):=by kernel_rfl
theorem Y7:∀H b o,dw aq H 32 b o=cellAt H b o:=pN (by kernel_rfl)
theorem Y8:∀cs o,ek aq 32 cs o=fy cs o:=H7 (by kernel_rfl)
theorem Y9:∀H p x,gu aq H 32 p x=dW H 1 p x:=kj (by kernel_rfl)
theorem Y_:aq.flat 32=none:=by kernel_rfl
theorem Y':aU aq 34= .struct [(0,3),(1,3),(2,3),(3,3),(4,3),(5,32)]:=by kernel_rfl
theorem Za:au aq 34=6:=by kernel_rfl
theorem Zb:cr aq 34=some (.agg [.int .i64 0,.int .i64 0,.int .i64 0,.int .i64 0,.int .i64 0,.aE]):=by kernel_rfl
theorem Zc:∀H b o,dw aq H 34 b o=(bA H b o 6).omap .agg:=sx (by kernel_rfl)
theorem Zd:∀cs o,ek aq 34 cs o=(cG 6 (co o cs)).omap .agg:=y5 (by kernel_rfl)
theorem Ze:∀H p x,gu aq H 34 p x=dW H 6 p x:=kj (by kernel_rfl)
theorem Zf:aU aq 38= .struct [(0,32),(1,3),(2,3)]:=by kernel_rfl
theorem Zg:cr aq 38=some (.agg [.aE,.int .i64 0,.int .i64 0]):=by kernel_rfl
theorem Zh:∀H b o,dw aq H 38 b o=(bA H b o 3).omap .agg:=sx (by kernel_rfl)
theorem Zi:∀H p x,gu aq H 38 p x=dW H 3 p x:=kj (by kernel_rfl)
theorem uN:aU aq 42= .slice 53:=by kernel_rfl
theorem Zj:au aq 42=1:=by kernel_rfl
theorem Zk:∀H b o,dw aq H 42 b o=cellAt H b o:=pN (by kernel_rfl)
theorem Zl:∀H p x,gu aq H 42 p x=dW H 1 p x:=kj (by kernel_rfl)
theorem Zm:aq.flat 42=none:=by kernel_rfl
theorem zQ:aU aq 44= .slice 56:=by kernel_rfl
theorem Zn:au aq 44=1:=by kernel_rfl
theorem Zo:∀H b o,dw aq H 44 b o=cellAt H b o:=pN (by kernel_rfl)
theorem Zp:∀H p x,gu aq H 44 p x=dW H 1 p x:=kj (by kernel_rfl)
theorem Zq:aU aq 46= .struct [(0,42),(1,44),(2,3)]:=by kernel_rfl
theorem Zr:cr aq 46=some (.agg [.aE,.aE,.int .i64 0]):=by kernel_rfl
theorem w8:aU aq 48= .slice 3:=by kernel_rfl
theorem Zs:aU aq 51= .array 16 4:=by kernel_rfl
theorem Zt:cr aq 51=some (.agg (List.replicate 16 (.bool false))):=by kernel_rfl
theorem J0:aU aq 53= .array 64 5:=by kernel_rfl
theorem sO:au aq 53=64:=by kernel_rfl
theorem Zu:iU aq 53=64:=by kernel_rfl
theorem JW:cr aq 53=some (.agg (List.replicate 64 (.int .u8 0))):=by kernel_rfl
theorem Zv:∀H b o,dw aq H 53 b o=(bA H b o 64).omap .agg:=sx (by kernel_rfl)
theorem Zw:∀cs o,ek aq 53 cs o=(cG 64 (co o cs)).omap .agg:=y5 (by kernel_rfl)
theorem Zx:∀H p x,gu aq H 53 p x=dW H 64 p x:=kj (by kernel_rfl)
theorem Zy:aq.flat 53=some (false,64):=by kernel_rfl
theorem Dh:jw aq 53=true:=by kernel_rfl
theorem J1:aU aq 54= .slice 4:=by kernel_rfl
theorem Zz:au aq 54=1:=by kernel_rfl
theorem ZA:∀H b o,dw aq H 54 b o=cellAt H b o:=pN (by kernel_rfl)
theorem ZB:aU aq 56= .struct [(0,3),(1,42),(2,54)]:=by kernel_rfl
theorem uD:au aq 56=3:=by kernel_rfl
theorem ZC:cr aq 56=some (.agg [.int .i64 0,.aE,.aE]):=by kernel_rfl
theorem Dg:jw aq 56=true:=by kernel_rfl
theorem zR:aU aq 58= .slice 32:=by kernel_rfl
theorem zS:aU aq 62= .slice 68:=by kernel_rfl
theorem ZD:au aq 62=1:=by kernel_rfl
theorem ZE:∀H b o,dw aq H 62 b o=cellAt H b o:=pN (by kernel_rfl)
theorem ZF:∀H p x,gu aq H 62 p x=dW H 1 p x:=kj (by kernel_rfl)
theorem ZG:aU aq 64= .struct [(0,3),(1,3),(2,3),(3,62)]:=by kernel_rfl
theorem ZH:au aq 64=4:=by kernel_rfl
theorem ZI:cr aq 64=some (.agg [.int .i64 0,.int .i64 0,.int .i64 0,.aE]):=by kernel_rfl
theorem ZJ:∀H b o,dw aq H 64 b o=(bA H b o 4).omap .agg:=sx (by kernel_rfl)
theorem ZK:∀H p x,gu aq H 64 p x=dW H 4 p x:=kj (by kernel_rfl)
theorem ZL:aU aq 68= .struct [(0,3),(1,3),(2,4),(3,32)]:=by kernel_rfl
theorem zO:au aq 68=4:=by kernel_rfl
theorem ZM:cr aq 68=some (.agg [.int .i64 0,.int .i64 0,.bool false,.aE]):=by kernel_rfl
theorem ZN:∀H b o,dw aq H 68 b o=(bA H b o 4).omap .agg:=sx (by kernel_rfl)
theorem ZO:∀cs o,ek aq 68 cs o=(cG 4 (co o cs)).omap .agg:=y5 (by kernel_rfl)
theorem ZP:∀H p x,gu aq H 68 p x=dW H 4 p x:=kj (by kernel_rfl)
theorem JX:jw aq 68=true:=by kernel_rfl
theorem w9:aU aq 70= .slice 95:=by kernel_rfl
theorem ZQ:au aq 70=1:=by kernel_rfl
theorem ZR:∀H b o,dw aq H 70 b o=cellAt H b o:=pN (by kernel_rfl)
theorem ZS:∀H p x,gu aq H 70 p x=dW H 1 p x:=kj (by kernel_rfl)
theorem ZT:aU aq 72= .struct [(0,42),(1,70),(2,3)]:=by kernel_rfl
theorem ZU:cr aq 72=some (.agg [.aE,.aE,.int .i64 0]):=by kernel_rfl
theorem ZV:aU aq 87= .struct [(0,64),(4,3)]:=by kernel_rfl
theorem ZW:cr aq 87=some (.agg [.int .i64 0,.int .i64 0,.int .i64 0,.aE,.int .i64 0]):=by kernel_rfl
theorem ZX:∀H b o,dw aq H 87 b o=(bA H b o 5).omap .agg:=sx (by kernel_rfl)
theorem ZY:∀H p x,gu aq H 87 p x=dW H 5 p x:=kj (by kernel_rfl)
theorem ZZ:aU aq 95= .struct [(0,3),(1,42),(2,54)]:=by kernel_rfl
theorem rx:au aq 95=3:=by kernel_rfl
theorem Z0:cr aq 95=some (.agg [.int .i64 0,.aE,.aE]):=by kernel_rfl
theorem Z1:∀H b o,dw aq H 95 b o=(bA H b o 3).omap .agg:=sx (by kernel_rfl)
theorem Z2:∀H p x,gu aq H 95 p x=dW H 3 p x:=kj (by kernel_rfl)
theorem JV:jw aq 95=true:=by kernel_rfl
theorem wT:aU aq 116= .int .u64:=by kernel_rfl
theorem W8:∀H b o,dw aq H 116 b o=cellAt H b o:=pN (by kernel_rfl)
theorem W9:∀H p x,gu aq H 116 p x=dW H 1 p x:=kj (by kernel_rfl)
theorem W_:aq.flat 116=some (false,1):=by kernel_rfl
theorem zz:aU aq 135= .slice 138:=by kernel_rfl
theorem W':aU aq 138= .struct [(0,3),(1,3)]:=by kernel_rfl
theorem Jx:au aq 138=2:=by kernel_rfl
theorem Xa:cr aq 138=some (.agg [.int .i64 0,.int .i64 0]):=by kernel_rfl
theorem Xb:∀cs o,ek aq 138 cs o=(cG 2 (co o cs)).omap .agg:=y5 (by kernel_rfl)
theorem Xc:∀H p x,gu aq H 138 p x=dW H 2 p x:=kj (by kernel_rfl)
theorem WV:jw aq 138=true:=by kernel_rfl
theorem JA:aU aq 142= .int .u64:=by kernel_rfl
attribute [go_sem] uW s7 KB acb acd ace acf uO acg ach aci acj ack uY e2 Kr z9 acl acm KE acn YY YZ Y0 Y1 Y2 Y3 Y4 i6 Y5 Y6 Y7 Y8 Y9 Y_ Y' Za Zb Zc Zd Ze Zf Zg Zh Zi uN Zj Zk Zl Zm zQ Zn Zo Zp Zq Zr w8 Zs Zt J0 sO Zu JW Zv Zw Zx Zy J1 Zz ZA ZB uD ZC zR zS ZD ZE ZF ZG ZH ZI ZJ ZK ZL zO ZM ZN ZO ZP w9 ZQ ZR ZS ZT ZU ZV ZW ZX ZY ZZ rx Z0 Z1 Z2 wT W8 W9 W_ zz W' Jx Xa Xb Xc JA
theorem aco {N M:Nat} {d:Option Tmp} {t:TypeId} {p:String} {a:Array Edge} {g:Option (Nat × Bool)} {s:an} {K:an -> Prop} {n:Nat} {ps:List (Nat × Operand)} (ar:n * au aq 5≤16777216):wpOp aq N M ⟨d,.buildSlice 32 n ps.toArray,t,p,a,g⟩ s K=bl ((cr aq 5).ac fun z=>(dV M (fun i=>some (Nat.mul i (au aq 5),au aq 5)) s.T ps (cR n z.cells)).omap fun l=>(bf.cells l 5 true true,fun b:Nat=>I.slice b 0 n (.ex n))) (ja N M s.T d s.H K):=oz i6 ar
theorem acp {N M:Nat} {d:Option Tmp} {t:TypeId} {p:String} {a:Array Edge} {g:Option (Nat × Bool)} {s:an} {K:an -> Prop} {n:Nat} {ps:List (Nat × Operand)} (ar:n * au aq 53≤16777216):wpOp aq N M ⟨d,.buildSlice 42 n ps.toArray,t,p,a,g⟩ s K=bl ((cr aq 53).ac fun z=>(dV M (fun i=>some (Nat.mul i (au aq 53),au aq 53)) s.T ps (cR n z.cells)).omap fun l=>(bf.cells l 53 true true,fun b:Nat=>I.slice b 0 n (.ex n))) (ja N M s.T d s.H K):=oz uN ar
theorem acq {N M:Nat} {d:Option Tmp} {t:TypeId} {p:String} {a:Array Edge} {g:Option (Nat × Bool)} {s:an} {K:an -> Prop} {n:Nat} {ps:List (Nat × Operand)} (ar:n * au aq 56≤16777216):wpOp aq N M ⟨d,.buildSlice 44 n ps.toArray,t,p,a,g⟩ s K=bl ((cr aq 56).ac fun z=>(dV M (fun i=>some (Nat.mul i (au aq 56),au aq 56)) s.T ps (cR n z.cells)).omap fun l=>(bf.cells l 56 true true,fun b:Nat=>I.slice b 0 n (.ex n))) (ja N M s.T d s.H K):=oz zQ ar
theorem acr {N M:Nat} {d:Option Tmp} {t:TypeId} {p:String} {a:Array Edge} {g:Option (Nat × Bool)} {s:an} {K:an -> Prop} {n:Nat} {ps:List (Nat × Operand)} (ar:n * au aq 3≤16777216):wpOp aq N M ⟨d,.buildSlice 48 n ps.toArray,t,p,a,g⟩ s K=bl ((cr aq 3).ac fun z=>(dV M (fun i=>some (Nat.mul i (au aq 3),au aq 3)) s.T ps (cR n z.cells)).omap fun l=>(bf.cells l 3 true true,fun b:Nat=>I.slice b 0 n (.ex n))) (ja N M s.T d s.H K):=oz w8 ar
theorem acs {N M:Nat} {d:Option Tmp} {t:TypeId} {p:String} {a:Array Edge} {g:Option (Nat × Bool)} {s:an} {K:an -> Prop} {n:Nat} {ps:List (Nat × Operand)} (ar:n * au aq 32≤16777216):wpOp aq N M ⟨d,.buildSlice 58 n ps.toArray,t,p,a,g⟩ s K=bl ((cr aq 32).ac fun z=>(dV M (fun i=>some (Nat.mul i (au aq 32),au aq 32)) s.T ps (cR n z.cells)).omap fun l=>(bf.cells l 32 true true,fun b:Nat=>I.slice b 0 n (.ex n))) (ja N M s.T d s.H K):=oz zR ar
theorem act {N M:Nat} {d:Option Tmp} {t:TypeId} {p:String} {a:Array Edge} {g:Option (Nat × Bool)} {s:an} {K:an -> Prop} {n:Nat} {ps:List (Nat × Operand)} (ar:n * au aq 68≤16777216):wpOp aq N M ⟨d,.buildSlice 62 n ps.toArray,t,p,a,g⟩ s K=bl ((cr aq 68).ac fun z=>(dV M (fun i=>some (Nat.mul i (au aq 68),au aq 68)) s.T ps (cR n z.cells)).omap fun l=>(bf.cells l 68 true true,fun b:Nat=>I.slice b 0 n (.ex n))) (ja N M s.T d s.H K):=oz zS ar
theorem acu {N M:Nat} {d:Option Tmp} {t:TypeId} {p:String} {a:Array Edge} {g:Option (Nat × Bool)} {s:an} {K:an -> Prop} {n:Nat} {ps:List (Nat × Operand)} (ar:n * au aq 95≤16777216):wpOp aq N M ⟨d,.buildSlice 70 n ps.toArray,t,p,a,g⟩ s K=bl ((cr aq 95).ac fun z=>(dV M (fun i=>some (Nat.mul i (au aq 95),au aq 95)) s.T ps (cR n z.cells)).omap fun l=>(bf.cells l 95 true true,fun b:Nat=>I.slice b 0 n (.ex n))) (ja N M s.T d s.H K):=oz w9 ar
theorem Z3 {N M:Nat} {d:Option Tmp} {t:TypeId} {p:String} {a:Array Edge} {g:Option (Nat × Bool)} {s:an} {K:an -> Prop} {n:Nat} {ps:List (Nat × Operand)} (ar:n * au aq 138≤16777216):wpOp aq N M ⟨d,.buildSlice 135 n ps.toArray,t,p,a,g⟩ s K=bl ((cr aq 138).ac fun z=>(dV M (fun i=>some (Nat.mul i (au aq 138),au aq 138)) s.T ps (cR n z.cells)).omap fun l=>(bf.cells l 138 true true,fun b:Nat=>I.slice b 0 n (.ex n))) (ja N M s.T d s.H K):=oz zz ar
theorem acv {N M:Nat} {d:Option Tmp} {t:TypeId} {p:String} {a:Array Edge} {g:Option (Nat × Bool)} {s:an} {K:an -> Prop} {l c:Operand}:wpOp aq N M ⟨d,.makeSlice 32 l c,t,p,a,g⟩ s K=bl ((cr aq 5).ac fun z=>(aK M l s.T).ac fun l=>(aK M c s.T).ac fun c=>(dH l).ac fun l=>(dH c).ac fun c=>ap (Nat.ble l c && (Nat.ble c 1048576 && Nat.ble (iU aq 5) 1048576)) (some (bf.cells (cR c z.cells) 5 true true,fun b:Nat=>I.slice b 0 l (.ex c))) none) (ja N M s.T d s.H K):=Bi i6
theorem acw {N M:Nat} {d:Option Tmp} {t:TypeId} {p:String} {a:Array Edge} {g:Option (Nat × Bool)} {s:an} {K:an -> Prop} {l c:Operand}:wpOp aq N M ⟨d,.makeSlice 42 l c,t,p,a,g⟩ s K=bl ((cr aq 53).ac fun z=>(aK M l s.T).ac fun l=>(aK M c s.T).ac fun c=>(dH l).ac fun l=>(dH c).ac fun c=>ap (Nat.ble l c && (Nat.ble c 1048576 && Nat.ble (iU aq 53) 1048576)) (some (bf.cells (cR c z.cells) 53 true true,fun b:Nat=>I.slice b 0 l (.ex c))) none) (ja N M s.T d s.H K):=Bi uN
theorem acx {N M:Nat} {d:Option Tmp} {t:TypeId} {p:String} {a:Array Edge} {g:Option (Nat × Bool)} {s:an} {K:an -> Prop} {l c:Operand}:wpOp aq N M ⟨d,.makeSlice 54 l c,t,p,a,g⟩ s K=bl ((cr aq 4).ac fun z=>(aK M l s.T).ac fun l=>(aK M c s.T).ac fun c=>(dH l).ac fun l=>(dH c).ac fun c=>ap (Nat.ble l c && (Nat.ble c 1048576 && Nat.ble (iU aq 4) 1048576)) (some (bf.cells (cR c z.cells) 4 true true,fun b:Nat=>I.slice b 0 l (.ex c))) none) (ja N M s.T d s.H K):=Bi J1
theorem U9 {H:aa} {u x:I}:fQ .append aq H [u,x] [32,32]=(fu aq H 5 x).ac fun p=>cJ aq H 5 u p.1 p.2:=mY i6 i6
theorem U_ {H:aa} {u x:I}:fQ .append aq H [u,x] [42,42]=(fu aq H 53 x).ac fun p=>cJ aq H 53 u p.1 p.2:=mY uN uN
theorem U' {H:aa} {u x:I}:fQ .append aq H [u,x] [44,44]=(fu aq H 56 x).ac fun p=>cJ aq H 56 u p.1 p.2:=mY zQ zQ
theorem Va {H:aa} {u x:I}:fQ .append aq H [u,x] [48,48]=(fu aq H 3 x).ac fun p=>cJ aq H 3 u p.1 p.2:=mY w8 w8
theorem Vb {H:aa} {u x:I}:fQ .append aq H [u,x] [58,58]=(fu aq H 32 x).ac fun p=>cJ aq H 32 u p.1 p.2:=mY zR zR
theorem Vc {H:aa} {u x:I}:fQ .append aq H [u,x] [62,62]=(fu aq H 68 x).ac fun p=>cJ aq H 68 u p.1 p.2:=mY zS zS
theorem Vd {H:aa} {u x:I}:fQ .append aq H [u,x] [70,70]=(fu aq H 95 x).ac fun p=>cJ aq H 95 u p.1 p.2:=mY w9 w9
theorem QY {H:aa} {u x:I}:fQ .append aq H [u,x] [135,135]=(fu aq H 138 x).ac fun p=>cJ aq H 138 u p.1 p.2:=mY zz zz
theorem Ve {H:aa} {u x:I}:fQ .copy aq H [u,x] [32,32]=(fu aq H 5 x).ac fun p=>uw aq H 5 u p:=MX i6
theorem acy {H:aa} {u:I}:fQ .clear aq H [u] [42]=ut aq H 53 u:=A_ uN
theorem acz {H:aa} {u:I}:fQ .clear aq H [u] [48]=ut aq H 3 u:=A_ w8
theorem acA {H:aa} {u:I}:fQ .clear aq H [u] [70]=ut aq H 95 u:=A_ w9
theorem Vf {N M:Nat} {d:Option Tmp} {t:TypeId} {p:String} {a:Array Edge} {g:Option (Nat × Bool)} {s:an} {K:an -> Prop} {x:Operand}:wpOp aq N M ⟨d,.convert 3 116 x,t,p,a,g⟩ s K=bl ((aK M x s.T).ac (kV (.int .i64) (.int .u64))) (e1 N M s.T d s.H K):=t7 uW wT
theorem Vg {N M:Nat} {d:Option Tmp} {t:TypeId} {p:String} {a:Array Edge} {g:Option (Nat × Bool)} {s:an} {K:an -> Prop} {x:Operand}:wpOp aq N M ⟨d,.convert 3 142 x,t,p,a,g⟩ s K=bl ((aK M x s.T).ac (kV (.int .i64) (.int .u64))) (e1 N M s.T d s.H K):=t7 uW JA
theorem Z4 {N M:Nat} {d:Option Tmp} {t:TypeId} {p:String} {a:Array Edge} {g:Option (Nat × Bool)} {s:an} {K:an -> Prop} {x:Operand}:wpOp aq N M ⟨d,.convert 5 3 x,t,p,a,g⟩ s K=bl ((aK M x s.T).ac (kV (.int .u8) (.int .i64))) (e1 N M s.T d s.H K):=t7 uY uW
theorem Vh {N M:Nat} {d:Option Tmp} {t:TypeId} {p:String} {a:Array Edge} {g:Option (Nat × Bool)} {s:an} {K:an -> Prop} {x:Operand}:wpOp aq N M ⟨d,.convert 5 116 x,t,p,a,g⟩ s K=bl ((aK M x s.T).ac (kV (.int .u8) (.int .u64))) (e1 N M s.T d s.H K):=t7 uY wT
theorem Xd {N M:Nat} {d:Option Tmp} {t:TypeId} {p:String} {a:Array Edge} {g:Option (Nat × Bool)} {s:an} {K:an -> Prop} {x:Operand}:wpOp aq N M ⟨d,.convert 32 9 x,t,p,a,g⟩ s K=bl ((aK M x s.T).ac (strOf s.H)) (e1 N M s.T d s.H K):=Qy i6 (by rw [uY]; rfl) KE
theorem Vi {N M:Nat} {d:Option Tmp} {t:TypeId} {p:String} {a:Array Edge} {g:Option (Nat × Bool)} {s:an} {K:an -> Prop} {x:Operand}:wpOp aq N M ⟨d,.convert 32 32 x,t,p,a,g⟩ s K=bl ((aK M x s.T).ac (jN 5 s.H)) (e1 N M s.T d s.H K):=OJ i6 (by rw [uY]; rfl)
theorem Vj {N M:Nat} {d:Option Tmp} {t:TypeId} {p:String} {a:Array Edge} {g:Option (Nat × Bool)} {s:an} {K:an -> Prop} {x:Operand}:wpOp aq N M ⟨d,.convert 116 3 x,t,p,a,g⟩ s K=bl ((aK M x s.T).ac (kV (.int .u64) (.int .i64))) (e1 N M s.T d s.H K):=t7 wT uW
theorem Vk {N M:Nat} {d:Option Tmp} {t:TypeId} {p:String} {a:Array Edge} {g:Option (Nat × Bool)} {s:an} {K:an -> Prop} {x:Operand}:wpOp aq N M ⟨d,.convert 116 5 x,t,p,a,g⟩ s K=bl ((aK M x s.T).ac (kV (.int .u64) (.int .u8))) (e1 N M s.T d s.H K):=t7 wT uY
theorem acB {N M:Nat} {d:Option Tmp} {t:TypeId} {p:String} {a:Array Edge} {g:Option (Nat × Bool)} {s:an} {K:an -> Prop} {x:Operand}:wpOp aq N M ⟨d,.sliceToArrayPointer 53 x,t,p,a,g⟩ s K=bl ((aK M x s.T).ac (k0 64)) (e1 N M s.T d s.H K):=VV J0
attribute [go_sem] aco acp acq acr acs act acu Z3 acv acw acx U9 U_ U' Va Vb Vc Vd QY Ve acy acz acA Vf Vg Z4 Vh Xd Vi Vj Vk acB
end
end Go.az
