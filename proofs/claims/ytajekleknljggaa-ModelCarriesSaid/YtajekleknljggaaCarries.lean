/-
  ModelCarries: whatever comes in, the statement is true, and nothing that was there has turned. No conditions.
-/
import Derived.Test.YtajekleknljggaaPF
import Derived.Test.YtajekleknljggaaW29
import Derived.Test.YtajekleknljggaaChecked
import Derived.Test.YtajekleknljggaaRows
import Derived.WalkKit
import Derived.ProofKit
import Derived.OpenShut
import Derived.Eval
set_option linter.unusedVariables false
set_option linter.unusedSimpArgs false
namespace Go.az
open Go.Proofs
noncomputable section
set_option maxRecDepth 100000
theorem Z5:bE.fn 31=some Try.f31:=by kernel_rfl
abbrev lX:=bq × I × I
def jc (z:lX):I:= .agg [.int .i64 z.1.id,z.2.1,z.2.2]
theorem G0 (z:lX):(jc z).cells= [.int .i64 z.1.id,z.2.1,z.2.2]:=rfl
theorem Iw {zs:List lX}:∀x∈zs.map jc,x.cells.length=3:=fun x R=>by
 obtain ⟨y,_,rfl⟩:=List.mem_map.1 R; rfl
def jT (H:aa) (aA:I) (zs:List lX):Prop:=
 (zs= [] /\ (aA= .aE∨∃b,aA= .slice b 0 0 (.ex 0) /\ b < H.next /\ H.m.get b=some (.cells [] 56 true true)))∨∃b N cy,aA= .slice b 0 zs.length (.rest 0 3 N) /\ H.m.get b=some (.cells (a3 (zs.map jc) ++ cy) 56 false true) /\ zs.length * 3 + cy.length=N * 3 /\ b < H.next /\ br (a3 (zs.map jc) ++ cy)=true
structure dN (H:aa) (p:Nat) (bs:List (List UInt8)) (zs:List lX) (next:Int) (bv aA:I):Prop where
 m:H.m.get p=some (.cells [bv,aA,.int .i64 next] 46 true true)
 lt:p < H.next
 b:cz H 0 53 64 bv bs.length (a3 (bs.map bL))
 s:jT H aA zs
 w:∀z∈zs,cz H 0 4 1 z.2.2 z.1.w.length (a3 (z.1.w.map et))
 v:∀z∈zs,cz H 0 53 64 z.2.1 z.1.bs.length (a3 (z.1.bs.map bL))
 lj:∀(i j:Nat) (ad:i < zs.length) (ax:j < zs.length),i≠j -> aY zs[i].2.2≠aY zs[j].2.2
 vy:∀z∈zs,aY z.2.1≠aY bv
 bg:∀x∈bs,x.length=64
 fo:∀z∈zs,z.1.w.length=bs.length /\ z.1.bs.length=bs.length /\ ∀x∈z.1.bs,x.length=64
 n:0 < bs.length /\ bs.length≤64
 k:zs.length≤8
def gd (p:Nat) (bv aA:I) (zs:List lX) (c:Nat):Prop:=c=p∨c=aY bv∨(aA≠ .aE /\ c=aY aA)∨∃z∈zs,c=aY z.2.1∨c=aY z.2.2
section
variable {H:aa} {p:Nat} {bs:List (List UInt8)} {zs:List lX} {next:Int} {bv aA:I}
theorem jT.len (h:jT H aA zs) {ty:TypeId}:hh (.slice ty) aq aA=some (.int .i64 (zs.length:Int)):=by
 rcases h with ⟨rfl,rfl | ⟨b,rfl,_⟩⟩ | ⟨b,N,cy,rfl,_⟩ <;> rfl
theorem jT.one (h:jT H aA zs):b2 aA=true:=by
 rcases h with ⟨rfl,rfl | ⟨b,rfl,_⟩⟩ | ⟨b,N,cy,rfl,_⟩ <;> rfl
theorem jT.idx (h:jT H aA zs) {i:Nat} (ad:i < zs.length):e9 (.slice 56) aq aA i=some (.ptr (aY aA) (i * 3)):=by
 rcases h with ⟨rfl,_⟩ | ⟨b,N,cy,rfl,_⟩
 ·
  cases ad
 ·
  show ap (Nat.blt i zs.length) (some (I.ptr b (Nat.add 0 (Nat.mul i (au aq 56))))) none=_
  rw [(cZ _ _).2 ad,show au aq 56=3 from uD]
  show some (I.ptr b (0 + i * 3))=_
  rw [Nat.zero_add]; rfl
theorem jT.cells (h:jT H aA zs) {i:Nat} (ad:i < zs.length):bA H (aY aA) (i * 3) 3=some [.int .i64 zs[i].1.id,zs[i].2.1,zs[i].2.2]:=by
 rcases h with ⟨rfl,_⟩ | ⟨b,N,cy,rfl,U,_⟩
 ·
  cases ad
 ·
  show bA H b (i * 3) 3=_
  rw [(a2 U).2.2.1]
  show cG 3 (co (i * 3) (a3 (zs.map jc) ++ cy))=_
  obtain ⟨ah,Ea⟩:=fv (Iw (zs:=zs))
  rw [List.length_map] at ah
  have b5:i < (zs.map jc).length:=by rw [List.length_map]; exact ad
  have V:a3 ((zs.map jc).drop i)= [.int .i64 zs[i].1.id,zs[i].2.1,zs[i].2.2] ++ a3 ((zs.map jc).drop (i + 1)):=by
   rw [List.drop_eq_getElem_cons b5,List.getElem_map,hL,List.flatMap_cons,<- hL,G0]
  rw [dz,fL,if_pos (by rw [List.length_drop,List.length_append]; omega),List.drop_append_of_le_length (by omega),List.take_append_of_le_length (by rw [List.length_drop]; omega),(Ea i).1,V]; rfl
theorem jT.ty (h:jT H aA zs):aA= .aE∨∃cs x,H.m.get (aY aA)=some (.cells cs 56 x true) /\ aY aA < H.next:=by
 rcases h with ⟨_,h | ⟨b,rfl,J,O⟩⟩ | ⟨b,N,cy,rfl,O,ag,aP,_⟩
 ·
  exact .inl h
 ·
  exact .inr ⟨_,_,O,J⟩
 ·
  exact .inr ⟨_,_,O,aP⟩
theorem jT.a_ (h:jT H aA zs) {H':aa} (ar:H.next≤H'.next) (a4:aA= .aE∨H'.m.get (aY aA)=H.m.get (aY aA)):jT H' aA zs:=by
 rcases h with ⟨aD,h | ⟨b,rfl,J,O⟩⟩ | ⟨b,N,cy,rfl,O,ag,aP,bH⟩
 ·
  exact .inl ⟨aD,.inl h⟩
 ·
  exact .inl ⟨aD,.inr ⟨b,rfl,Nat.lt_of_lt_of_le J ar,(a4.resolve_left (fun h=>(by cases h))).trans O⟩⟩
 ·
  exact .inr ⟨b,N,cy,rfl,(a4.resolve_left (fun h=>(by cases h))).trans O,ag,Nat.lt_of_lt_of_le aP ar,bH⟩
theorem dN.jx (h:dN H p bs zs next bv aA) {z:lX} (ai:z∈zs):0 < z.1.w.length:=by rw [(h.fo z ai).1]; exact h.n.1
theorem dN.zT (h:dN H p bs zs next bv aA) {z:lX} (ai:z∈zs):0 < z.1.bs.length:=by rw [(h.fo z ai).2.1]; exact h.n.1
theorem dN.ri (h:dN H p bs zs next bv aA) {c:Nat} (V:gd p bv aA zs c):c < H.next:=by
 rcases V with rfl | rfl | ⟨ar,rfl⟩ | ⟨z,ai,rfl | rfl⟩
 ·
  exact h.lt
 ·
  obtain ⟨_,_,ah,_⟩:=h.b.ty h.n.1; exact ah
 ·
  rcases h.s.ty with aQ | ⟨_,_,_,ah⟩
  ·
   exact absurd aQ ar
  ·
   exact ah
 ·
  obtain ⟨_,_,ah,_⟩:=(h.v z ai).ty (h.zT ai); exact ah
 ·
  obtain ⟨_,_,ah,_⟩:=(h.w z ai).ty (h.jx ai); exact ah
theorem dN.KF (h:dN H p bs zs next bv aA) {H':aa} (ar:H.next≤H'.next) (a4:∀c,c < H.next -> gd p bv aA zs c -> H'.m.get c=H.m.get c):dN H' p bs zs next bv aA:=by
 have qd:∀c,gd p bv aA zs c -> H'.m.get c=H.m.get c:=fun c V=>a4 c (h.ri V) V
 refine ⟨(qd _ (.inl rfl)).trans h.m,Nat.lt_of_lt_of_le h.lt ar,h.b.a_ ar (.inr (qd _ (.inr (.inl rfl)))),h.s.a_ ar ?_,fun z ai=>(h.w z ai).a_ ar (.inr (qd _ (.inr (.inr (.inr ⟨z,ai,.inr rfl⟩))))),fun z ai=>(h.v z ai).a_ ar (.inr (qd _ (.inr (.inr (.inr ⟨z,ai,.inl rfl⟩))))),h.lj,h.vy,h.bg,h.fo,h.n,h.k⟩
 by_cases aG:aA= .aE
 ·
  exact .inl aG
 ·
  exact .inr (qd _ (.inr (.inr (.inl ⟨aG,rfl⟩))))
theorem dN.b3 (h:dN H p bs zs next bv aA) {H':aa} (ao:Fr H H'):dN H' p bs zs next bv aA:=h.KF ao.nx fun c V _=>ao.get c V
theorem dN.w_ (h:dN H p bs zs next bv aA) {ty:TypeId} {i:Nat} (ad:i < bs.length):e9 (.slice ty) aq bv i=some (.ptr (aY bv) (i * au aq ty)):=by
 have:=h.b.ks.idx (E:=aq) (e:=ty) ad
 obtain ⟨_,_,_,aD,_⟩:=h.b.ty h.n.1
 rw [aD,Nat.zero_add] at this
 exact this
theorem dN.qe (h:dN H p bs zs next bv aA) {c e:Nat} {cs:List I} {x w:Bool} (V:H.m.get c=some (.cells cs e x w)) (he:Nat.beq e 56=false):aA= .aE∨c≠aY aA:=by
 rcases h.s.ty with aQ | ⟨cs,x,aQ,_⟩
 ·
  exact .inl aQ
 ·
  exact .inr (gv V aQ he)
theorem wC {l:List (List UInt8)} (h:∀x∈l,x.length=64):(a3 (l.map bL)).length=l.length * 64:=by
 rw [(fv (kc h)).1,List.length_map]
theorem Jc (l:List Bool):(a3 (l.map et)).length=l.length:=by
 rw [(fv (sz:=1) fun x R=>by obtain ⟨y,aj,rfl⟩:=List.mem_map.1 R; rfl).1,List.length_map,Nat.mul_one]
theorem dN.zU (h:dN H p bs zs next bv aA) {bs':List (List UInt8)} (ah:bs'.length=bs.length) (U:∀x∈bs',x.length=64) {x:Bool} (R:H.m.get (aY bv)=some (.cells (a3 (bs.map bL)) 53 x true)):
 dN (aN H (aY bv) (.cells (a3 (bs'.map bL)) 53 x true)) p bs' zs next bv aA:=by
 refine ⟨(cY (gv h.m R rfl)).trans h.m,h.lt,?_,h.s.a_ (Nat.le_refl _) ?_,fun z ai=>(h.w z ai).ed (.inr ?_),fun z ai=>(h.v z ai).ed (.inr (h.vy z ai).symm),h.lj,h.vy,U,fun z ai=> ?_,by rw [ah]; exact h.n,h.k⟩
 ·
  have:=h.b.pr h.n.1 (cs':=a3 (bs'.map bL)) (by rw [wC U,wC h.bg,ah]) R
  rw [ah]; exact this
 ·
  exact (h.qe R rfl).imp id fun aQ=>cY aQ.symm
 ·
  obtain ⟨y,aj,_⟩:=(h.w z ai).ty (h.jx ai)
  exact gv R aj rfl
 ·
  rw [ah]; exact h.fo z ai
theorem dN.xa (h:dN H p bs zs next bv aA) {j:Nat} (ax:j < zs.length) {w':List Bool} (ah:w'.length=zs[j].1.w.length) {x:Bool} (R:H.m.get (aY zs[j].2.2)=some (.cells (a3 (zs[j].1.w.map et)) 4 x true)):
 dN (aN H (aY zs[j].2.2) (.cells (a3 (w'.map et)) 4 x true)) p bs (zs.set j ({ zs[j].1 with w:=w'},zs[j].2)) next bv aA:=by
 have jW:=List.getElem_mem ax
 have o4:(zs.set j ({ zs[j].1 with w:=w'},zs[j].2)).map jc=zs.map jc:=by
  rw [List.map_set,show jc ({ zs[j].1 with w:=w'},zs[j].2)=(zs.map jc)[j]'(by rw [List.length_map]; exact ax) by rw [List.getElem_map]; rfl,List.set_getElem_self]
 have kY:∀z∈zs.set j ({ zs[j].1 with w:=w'},zs[j].2),z=({ zs[j].1 with w:=w'},zs[j].2)∨∃i,∃ad:i < zs.length,i≠j /\ z=zs[i]:=by
  intro z ai
  obtain ⟨i,ad,rfl⟩:=List.getElem_of_mem ai
  rw [List.length_set] at ad
  by_cases cL:i=j
  ·
   subst cL; exact .inl (by rw [List.getElem_set_self])
  ·
   exact .inr ⟨i,ad,cL,by rw [List.getElem_set_ne (Ne.symm cL)]⟩
 have bk:∀i (ad:i < (zs.set j ({ zs[j].1 with w:=w'},zs[j].2)).length),(zs.set j ({ zs[j].1 with w:=w'},zs[j].2))[i].2=(zs[i]'(by rw [List.length_set] at ad; exact ad)).2:=fun i ad=>by
  by_cases cL:i=j
  ·
   subst cL; rw [List.getElem_set_self]
  ·
   rw [List.getElem_set_ne (Ne.symm cL)]
 refine ⟨(cY (gv h.m R rfl)).trans h.m,h.lt,h.b.ed (.inr ?_),?_,fun z ai=> ?_,fun z ai=> ?_,fun a b ae U ge=> ?_,fun z ai=> ?_,h.bg,fun z ai=> ?_,h.n,by rw [List.length_set]; exact h.k⟩
 ·
  obtain ⟨y,aj,_⟩:=h.b.ty h.n.1
  exact gv R aj rfl
 ·
  have J:=h.s.a_ (H':=aN H (aY zs[j].2.2) (.cells (a3 (w'.map et)) 4 x true)) (Nat.le_refl _) ((h.qe R rfl).imp id fun aQ=>cY aQ.symm)
  rcases J with ⟨J,_⟩ | ⟨b,N,cy,J,O,ag,aP,bH⟩
  ·
   rw [J] at ax; cases ax
  ·
   exact .inr ⟨b,N,cy,by rw [List.length_set]; exact J,by rw [o4]; exact O,by rw [List.length_set]; exact ag,aP,by rw [o4]; exact bH⟩
 ·
  rcases kY z ai with rfl | ⟨i,ad,cL,rfl⟩
  ·
   have:=(h.w _ jW).pr (h.jx jW) (cs':=a3 (w'.map et)) (by rw [Jc,Jc,ah]) R
   show cz _ 0 4 1 zs[j].2.2 w'.length _
   rw [ah]; exact this
  ·
   exact (h.w _ (List.getElem_mem ad)).ed (.inr (h.lj j i ax ad (Ne.symm cL)))
 ·
  have aC:∀vz∈zs,cz (aN H (aY zs[j].2.2) (.cells (a3 (w'.map et)) 4 x true)) 0 53 64 vz.2.1 vz.1.bs.length (a3 (vz.1.bs.map bL)):=fun vz qf=>(h.v vz qf).ed (.inr (by
   obtain ⟨y,aj,_⟩:=(h.v vz qf).ty (h.zT qf)
   exact gv R aj rfl))
  rcases kY z ai with rfl | ⟨i,ad,cL,rfl⟩
  ·
   exact aC zs[j] jW
  ·
   exact aC _ (List.getElem_mem ad)
 ·
  rw [bk a ae,bk b U]; exact h.lj a b _ _ ge
 ·
  rcases kY z ai with rfl | ⟨i,ad,cL,rfl⟩
  ·
   exact h.vy zs[j] jW
  ·
   exact h.vy _ (List.getElem_mem ad)
 ·
  rcases kY z ai with rfl | ⟨i,ad,cL,rfl⟩
  ·
   have:=h.fo _ jW
   exact ⟨ah.trans this.1,this.2⟩
  ·
   exact h.fo _ (List.getElem_mem ad)
theorem S3 {j:Nat} (ax:j < zs.length) {s':bq}:gd p bv aA (zs.set j (s',zs[j].2))=gd p bv aA zs:=by
 funext c
 have:(∃z∈zs.set j (s',zs[j].2),c=aY z.2.1∨c=aY z.2.2)=∃z∈zs,c=aY z.2.1∨c=aY z.2.2:=by
  refine propext ⟨?_,?_⟩
  ·
   rintro ⟨z,ai,h⟩
   rcases List.mem_or_eq_of_mem_set ai with ai | rfl
   ·
    exact ⟨z,ai,h⟩
   ·
    exact ⟨_,List.getElem_mem ax,h⟩
  ·
   rintro ⟨z,ai,h⟩
   obtain ⟨i,ad,rfl⟩:=List.getElem_of_mem ai
   by_cases cL:i=j
   ·
    subst cL
    exact ⟨_,List.mem_set ad _,h⟩
   ·
    refine ⟨zs[i],?_,h⟩
    have:=List.getElem_mem (l:=zs.set j (s',zs[j].2)) (n:=i) (by rw [List.length_set]; exact ad)
    rwa [List.getElem_set_ne (Ne.symm cL)] at this
 unfold gd
 rw [this]
theorem dN.CT (h:dN H p bs zs next bv aA) {i:Nat} (ad:i < bs.length) {b:List UInt8} (U:b.length=64):
 ∃H',bT H (aY bv) (i * 64) (b.map aI)=some H' /\ dN H' p (bs.set i b) zs next bv aA /\ cO H H' (gd p bv aA zs) (gd p bv aA zs):=by
 obtain ⟨x,R,_⟩:=h.b.ty h.n.1
 refine ⟨aN H (aY bv) (.cells (a3 ((bs.set i b).map bL)) 53 x true),?_,h.zU (by rw [List.length_set]) (fun y aj=> ?_) R,(cO.refl _ _).set (.inr (.inl rfl)) _⟩
 ·
  have dl:br (b.map aI)=true:=by rw [<- eY]; exact jl b
  have ah:=wC h.bg
  rw [g4,R]
  show hi H (aY bv) (i * 64) (b.map aI) (.cells (a3 (bs.map bL)) 53 x true)=_
  have hle:(i + 1) * 64≤bs.length * 64:=Nat.mul_le_mul_right _ ad
  rw [hM,dl,yY (by rw [List.length_map,ah,U]; omega),List.length_map,U,List.map_set,F2 (by rw [List.length_map]; exact ad) (kc h.bg)]
  rfl
 ·
  rcases List.mem_or_eq_of_mem_set aj with aj | rfl
  ·
   exact h.bg y aj
  ·
   exact U
theorem dN.wU (h:dN H p bs zs next bv aA) {i k:Nat} (ad:i < zs.length) (ab:k < bs.length):cellAt H (aY zs[i].2.2) k=some (.bool (zs[i].1.w[k]'(by rw [(h.fo _ (List.getElem_mem ad)).1]; exact ab))):=by
 have n0:k < zs[i].1.w.length:=by rw [(h.fo _ (List.getElem_mem ad)).1]; exact ab
 obtain ⟨x,R,_⟩:=(h.w _ (List.getElem_mem ad)).ty (h.jx (List.getElem_mem ad))
 rw [lo,R]
 show rj k (.cells (a3 (zs[i].1.w.map et)) 4 x true)=_
 rw [pO,uj,ke,List.getElem?_map,List.getElem?_eq_getElem n0]; rfl
theorem dN.xb (h:dN H p bs zs next bv aA) {i k:Nat} (ad:i < zs.length) (ab:k < bs.length) {ty:TypeId} (xB:au aq ty=1):e9 (.slice ty) aq zs[i].2.2 k=some (.ptr (aY zs[i].2.2) k):=by
 have n0:k < zs[i].1.w.length:=by rw [(h.fo _ (List.getElem_mem ad)).1]; exact ab
 obtain ⟨x,R,_,aD,_⟩:=(h.w _ (List.getElem_mem ad)).ty (h.jx (List.getElem_mem ad))
 have:=(h.w _ (List.getElem_mem ad)).ks.idx (E:=aq) (e:=ty) n0
 rw [aD,Nat.zero_add,xB,Nat.mul_one] at this
 exact this
theorem dN.wV (h:dN H p bs zs next bv aA) {i:Nat} (ad:i < zs.length):cellAt H (aY aA) (i * 3 + 2)=some zs[i].2.2:=ln (j:=2) (h.s.cells ad) (by decide)
theorem dN.J2 (h:dN H p bs zs next bv aA) {j k:Nat} (ax:j < zs.length) (ab:k < bs.length):
 ∃z,bT H (aY zs[j].2.2) k [.bool true]=some (aN H (aY zs[j].2.2) z) /\ dN (aN H (aY zs[j].2.2) z) p bs (zs.set j ({ zs[j].1 with w:=zs[j].1.w.set k true},zs[j].2)) next bv aA:=by
 have hw:=(h.fo _ (List.getElem_mem ax)).1
 obtain ⟨x,R,_⟩:=(h.w _ (List.getElem_mem ax)).ty (h.jx (List.getElem_mem ax))
 refine ⟨.cells (a3 ((zs[j].1.w.set k true).map et)) 4 x true,?_,h.xa ax (by rw [List.length_set]) R⟩
 rw [g4,R]
 show hi H _ k [.bool true] (.cells (a3 (zs[j].1.w.map et)) 4 x true)=_
 rw [hM,uj,kP (by rw [List.length_map]; omega),uj,List.map_set]; rfl
theorem dN.has (h:dN H p bs zs next bv aA) {b:Int} {K:I -> aa -> Prop} (ab:K (.bool (decide (0≤b /\ b < bs.length))) H):Call (.func 31 [] []) [.ptr p 0,.int .i64 b] H K:=by
 refine bR (N:=16) rfl Z5 rfl rfl rfl rfl rfl fun bC=> ?_
 have ah:=h.b.ks.len (E:=aq) (e:=53)
 by_cases aD:0≤b
 ·
  by_cases J:b < bs.length
  ·
   rw [decide_eq_true (show 0≤b /\ b < bs.length from ⟨aD,J⟩)] at ab
   simp (disch:=(refine am ?_; decide)) only [go_sem,a2 h.m,ah,aD,J]
   exact .inl ab
  ·
   rw [decide_eq_false (show ¬(0≤b /\ b < bs.length) from fun h=>J h.2)] at ab
   simp (disch:=(refine am ?_; decide)) only [go_sem,a2 h.m,ah,aD,J]
   exact .inl ab
 ·
  rw [decide_eq_false (show ¬(0≤b /\ b < bs.length) from fun h=>aD h.1)] at ab
  simp (disch:=(refine am ?_; first | assumption | decide | omega | (simp only [aT,aW] <;> omega) | with_unfolding_all exact a6 rfl | with_unfolding_all exact a7 rfl)) only [go_sem,a2 h.m,ah,aD]
  exact .inl ab
end
end
end Go.az
namespace Go.az
open Go.Proofs
noncomputable section
set_option maxRecDepth 100000
theorem Z6:bE.fn 32=some Try.f32:=by kernel_rfl
theorem Z7:bE.fn 33=some Try.f33:=by kernel_rfl
theorem Z8:bE.fn 11=some Try.f11:=by kernel_rfl
def gy (H:aa) (p:Nat) (m:cu) (F:Nat -> Prop):Prop:=∃zs bv aA,dN H p m.bs zs m.next bv aA /\ zs.map (·.1)=m.aL /\ F=gd p bv aA zs
theorem gy.b3 {H H':aa} {p:Nat} {m:cu} {F:Nat -> Prop} (h:gy H p m F) (ao:Fr H H'):gy H' p m F:=by
 obtain ⟨zs,bv,aA,J,O,ag⟩:=h
 exact ⟨zs,bv,aA,J.b3 ao,O,ag⟩
theorem gy.lt {H:aa} {p:Nat} {m:cu} {F:Nat -> Prop} (h:gy H p m F) {c:Nat} (V:F c):c < H.next:=by
 obtain ⟨zs,bv,aA,J,O,rfl⟩:=h
 exact J.ri V
theorem Xe {bs:List (List UInt8)} (h:∀x∈bs,x.length=64) {i:Nat} (ad:i < bs.length):((a3 (bs.map bL)).drop (i * 64)).take 64=bs[i].map aI:=by
 obtain ⟨ah,Ea⟩:=fv (kc h)
 have b5:i < (bs.map bL).length:=by rw [List.length_map]; exact ad
 have V:a3 ((bs.map bL).drop i)=bs[i].map aI ++ a3 ((bs.map bL).drop (i + 1)):=by
  rw [List.drop_eq_getElem_cons b5,List.getElem_map,hL,List.flatMap_cons,<- hL,qY]
 rw [(Ea i).1,V,List.take_append_of_le_length (by rw [List.length_map,h _ (List.getElem_mem ad)]; exact Nat.le_refl _),List.take_of_length_le (by rw [List.length_map,h _ (List.getElem_mem ad)]; exact Nat.le_refl _)]
set_option maxHeartbeats 1000000 in
theorem S4 {H:aa} {p:Nat} {m:cu} {F:Nat -> Prop} {i:Int} {b:List UInt8} {K:I -> aa -> Prop} (h:gy H p m F) (U:b.length=64) (J:¬hasB m i -> K (.int .i64 1) H)
 (O:hasB m i -> ∀H',gy H' p { m with bs:=m.bs.set i.toNat b,aL:=hY m.aL i.toNat} F -> cO H H' F F -> K (.int .i64 0) H'):Call (.func 32 [] []) [.ptr p 0,.int .i64 i,bL b] H K:=by
 obtain ⟨zs,bv,aA,h,ee,rfl⟩:=h
 unfold bL
 refine bR (N:=37) rfl Z6 rfl rfl rfl rfl rfl fun bC=> ?_
 have f0:Fr H (aS H (.cells (b.map aI) 53 true true)).2:=Fr.alloc _ _
 have jX:dN (aS H (.cells (b.map aI) 53 true true)).2 p m.bs zs m.next bv aA:=h.b3 f0
 have eu:cO H (aS H (.cells (b.map aI) 53 true true)).2 (gd p bv aA zs) (gd p bv aA zs):=cO.fr f0
 have kw:bA (aS H (.cells (b.map aI) 53 true true)).2 H.next 0 64=some (b.map aI):=by
  rw [(a2 (H:=(aS H (.cells (b.map aI) 53 true true)).2) eP).2.2.1]
  show cG 64 (co 0 (b.map aI))=_
  rw [dz,fL,List.drop_zero,if_pos (by rw [List.length_map,U]; exact Nat.le_refl _),List.take_of_length_le (by rw [List.length_map,U]; exact Nat.le_refl _)]
 simp (disch:=(refine am ?_; decide)) only [go_sem]
 generalize (aS H (.cells (b.map aI) 53 true true)).2=H1 at f0 jX eu kw ⊢
 refine jX.has ?_
 by_cases c:0≤i /\ i < m.bs.length
 ·
  have O:=O c
  obtain ⟨i,rfl⟩:=Int.eq_ofNat_of_zero_le c.1
  have ad:i < m.bs.length:=by omega
  rw [decide_eq_true c]
  simp (disch:=(refine am ?_; decide)) only [go_sem]
  refine iX (by kernel_rfl) (by kernel_rfl) ?_
  obtain ⟨ay,p3,lK,iM⟩:=jX.CT ad U
  have cq:dW H1 64 (.ptr (aY bv) (i * 64)) (.agg (b.map aI))=some (.undef,ay):=by
   show ap (Nat.beq (bJ (b.map aI)) 64) ((bT _ (aY bv) (i * 64) (b.map aI)).omap fun H=>(I.undef,H)) none=_
   rw [eQ,List.length_map,U,p3]; rfl
  have u:=eu.trans iM
  have g':=lK.s.len (ty:=56)
  simp (disch:=(refine am ?_; decide)) only [go_sem,a2 jX.m,kw,jX.w_ ad,cq]
  by_cases ai:zs.length=0
  ·
   have qf:zs= []:=List.eq_nil_of_length_eq_zero ai
   have fA:¬(0:Int) < (zs.length:Int):=by omega
   have Z9:m.aL= []:=by rw [<- ee,qf]; rfl
   simp (disch:=(refine am ?_; decide)) only [go_sem,a2 lK.m,g',fA]
   exact .inl (O ay ⟨zs,bv,aA,lK,by rw [ee,Z9]; rfl,rfl⟩ u)
  ·
   have fA:(0:Int) < (zs.length:Int):=by omega
   have ax:zs.length - 1 < zs.length:=by omega
   have jW:=List.getElem_mem ax
   obtain ⟨z,Ac,ag⟩:=lK.J2 ax (k:=i) (by rw [List.length_set]; exact ad)
   have kE:=u.set (.inr (.inr (.inr ⟨_,jW,.inr rfl⟩))) z
   have dE:bG .i64 ((zs.length:Int) - 1)=((zs.length - 1:Nat):Int):=by rw [wrap_i64 (by have:=h.k; omega) (by have:=h.k; omega)]; omega
   have Ad:=lK.xb ax (k:=i) (by rw [List.length_set]; exact ad) uO
   simp (disch:=(refine am ?_; decide)) only [go_sem,a2 lK.m,g',fA,dE,lK.s.idx ax,lK.wV ax,Ad,Ac]
   refine .inl (O _ ⟨_,bv,aA,ag,?_,(S3 ax).symm⟩ kE)
   show _=hY m.aL i
   unfold hY
   rw [<- ee,List.length_map,List.getElem?_map,List.getElem?_eq_getElem ax,List.map_set]; rfl
 ·
  rw [decide_eq_false c]
  simp (disch:=(refine am ?_; decide)) only [go_sem]
  exact .inr (.inl ⟨f0,_,b_.hj rfl,J c⟩)
theorem Gy (n:Nat):cR n (List.replicate 64 (I.int .u8 0))=a3 ((bO n).map bL):=by rw [q9,G1]
theorem Xf {H:aa} {n:Int} {K:I -> aa -> Prop} (J:¬(1≤n /\ n≤64) -> K (.tuple [.cA,.int .i64 1]) H)
 (O:∀k:Nat,n=k -> 1≤k -> k≤64 -> ∀H' bv,dN H' (H.next + 1) (bO k) [] 1 bv .aE -> Fr H H' -> H.next≤aY bv -> K (.tuple [.ptr (H.next + 1) 0,.int .i64 0]) H'):Call (.func 11 [] []) [.int .i64 n] H K:=by
 refine bR (N:=14) rfl Z8 rfl rfl rfl rfl rfl fun bC=> ?_
 by_cases b1:n < 1
 ·
  simp (disch:=(refine am ?_; decide)) only [go_sem,b1]
  exact .inl (J (by omega))
 by_cases bV:64 < n
 ·
  simp (disch:=(refine am ?_; decide)) only [go_sem,b1,bV]
  exact .inl (J (by omega))
 obtain ⟨k,rfl⟩:=Int.eq_ofNat_of_zero_le (show 0≤n by omega)
 have sV:Nat.ble (Nat.mul k 64) 16777216=true:=de.2 (by show k * 64≤_; omega)
 have wW:Nat.ble k 1048576=true:=de.2 (by omega)
 have oY:=Gy k
 have gf:(bO k).length=k:=List.length_replicate
 simp (disch:=(refine am ?_; first | assumption | decide | omega | (simp only [aT,aW] <;> omega) | with_unfolding_all exact a6 rfl | with_unfolding_all exact a7 rfl)) only [go_sem,b1,bV,oY,wW,Bool.true_and]
 refine .inl (O k rfl (by omega) (by omega) _ (.slice H.next 0 k (.ex k)) ?_ ((Fr.alloc _ _).trans (Fr.alloc _ _)) (Nat.le_refl _))
 have kx:((aS (aS H (.cells (a3 ((bO k).map bL)) 53 true true)).2 (.cells [.slice H.next 0 k (.ex k),.aE,.int .i64 1] 46 true true)).2).m.get H.next=some (.cells (a3 ((bO k).map bL)) 53 true true):=(hK (by simp only [aT]; omega)).trans eP
 have dq:∀y∈bO k,y.length=64:=fun y aj=>by unfold bO at aj; rw [List.eq_of_mem_replicate aj,List.length_replicate]
 exact ⟨eP,Nat.lt_succ_self _,⟨by rw [(fv (kc dq)).1,List.length_map],.inr ⟨H.next,true,Nat.zero_le _,by simp only [aT]; omega,by rw [gf]; rfl,kx⟩⟩,.inl ⟨rfl,.inl rfl⟩,fun z ai=>(by cases ai),fun z ai=>(by cases ai),fun i j ad=>absurd ad (Nat.not_lt_zero _),fun z ai=>(by cases ai),dq,fun z ai=>(by cases ai),⟨by omega,by omega⟩,Nat.zero_le _⟩
end
end Go.az
namespace Go.az
open Go.Proofs
noncomputable section
set_option maxRecDepth 100000
theorem O7 (l:List I) (x:I):a3 (l ++ [x])=a3 l ++ x.cells:=by
 rw [v_,hL [x],List.flatMap_cons]; simp
theorem jT.push {H:aa} {aA:I} {zs:List lX} {z:lX} (h:jT H aA zs) (J:b2 z.2.1=true) (O:b2 z.2.2=true) (ab:zs.length≤8):
 ∃db H',cJ aq H 56 aA 1 [.int .i64 z.1.id,z.2.1,z.2.2]=some (db,H') /\ jT H' db (zs ++ [z]) /\ H.next≤H'.next /\ (∀c,c < H.next -> (aA= .aE∨c≠aY aA) -> H'.m.get c=H.m.get c) /\ ((aA≠ .aE /\ aY db=aY aA)∨H.next≤aY db) /\ db≠ .aE:=by
 have dl:br [I.int .i64 z.1.id,z.2.1,z.2.2]=true:=by rw [eb,eb,eb,J,O]; rfl
 have jY:a3 ((zs ++ [z]).map jc)=a3 (zs.map jc) ++ [.int .i64 z.1.id,z.2.1,z.2.2]:=by rw [List.map_append,List.map_singleton,O7,G0]
 have ah:(a3 (zs.map jc)).length=zs.length * 3:=by rw [(fv Iw).1,List.length_map]
 rcases h with ⟨rfl,rfl | ⟨b,rfl,aF,U⟩⟩ | ⟨b,N,cy,rfl,U,b4,aF,ao⟩
 ·
  refine ⟨_,_,Cq (E:=aq) (e:=56) (sz:=3) (n:=1) Dg uD (by decide) (by decide),.inr ⟨H.next,1,[],rfl,?_,rfl,Nat.lt_succ_self _,?_⟩,Nat.le_succ _,fun c V _=>hK (Nat.ne_of_lt V),.inr (Nat.le_refl _),fun h=>(by cases h)⟩
  ·
   rw [List.append_nil]; exact eP
  ·
   rw [List.append_nil]; exact dl
 ·
  refine ⟨_,_,Ix (E:=aq) (b:=b) (e:=56) (sz:=3) (m:=1) (new:= [.int .i64 z.1.id,z.2.1,z.2.2]) (by decide) (by decide) uD Dg,.inr ⟨H.next,1,[],rfl,?_,rfl,Nat.lt_succ_self _,?_⟩,Nat.le_succ _,fun c V _=>hK (Nat.ne_of_lt V),.inr (Nat.le_refl _),fun h=>(by cases h)⟩
  ·
   rw [List.append_nil]; exact eP
  ·
   rw [List.append_nil]; exact dl
 ·
  by_cases k3:zs.length + 1≤N
  ·
   have ax:3≤cy.length:=by omega
   refine ⟨_,_,CU U uD (by decide) (by decide) rfl dl k3 (by rw [List.length_append,ah]; exact b4),.inr ⟨b,N,cy.drop 3,by rw [List.length_append]; rfl,?_,by rw [List.length_append,List.length_drop,List.length_singleton]; omega,aF,?_⟩,Nat.le_refl _,fun c V ar=>cY (ar.resolve_left (fun h=>(by cases h))),.inl ⟨fun h=>(by cases h),rfl⟩,fun h=>(by cases h)⟩
   ·
    have e:(a3 (zs.map jc) ++ cy).take (zs.length * 3) ++ ([I.int .i64 z.1.id,z.2.1,z.2.2] ++ (a3 (zs.map jc) ++ cy).drop (zs.length * 3 + 3))=a3 ((zs ++ [z]).map jc) ++ cy.drop 3:=by
     rw [jY,List.take_append_of_le_length (by omega),List.take_of_length_le (by omega),List.drop_append,ah,List.drop_of_length_le (by omega),List.nil_append,show zs.length * 3 + 3 - zs.length * 3=3 by omega,List.append_assoc]
    rw [<- e]; exact gj
   ·
    rw [jY]
    obtain ⟨f1,f2⟩:=ny.1 ao
    have f3:br (cy.drop 3)=true:=(ny (l:=cy.take 3).1 (by rw [List.take_append_drop]; exact f2)).2
    exact ny.2 ⟨ny.2 ⟨f1,dl⟩,f3⟩
  ·
   have ax:cy= []:=List.eq_nil_of_length_eq_zero (by omega)
   subst ax
   have Eb:N=zs.length:=by simp at b4; omega
   subst Eb
   rw [List.append_nil] at U ao
   have aC:cz H 0 56 3 (.slice b 0 zs.length (.rest 0 3 zs.length)) zs.length (a3 (zs.map jc)):=⟨ah,.inr ⟨b,false,Nat.zero_le _,aF,rfl,U⟩⟩
   obtain ⟨H',J,O,_,aP,bH⟩:=aC.append (m:=1) uD (by decide) (by decide) rfl dl (oy Dg (by omega)) (Nat.zero_le _)
   refine ⟨_,H',J,?_,by omega,fun c V ar=>bH c ar V,.inr (Nat.le_refl _),fun h=>(by cases h)⟩
   rcases O.2 with ⟨h,_⟩ | ⟨cv,x,_,d7,ak,dx⟩
   ·
    cases h
   ·
    cases x
    ·
     cases ak
     exact .inr ⟨H.next,zs.length + 1,[],by rw [List.length_append]; rfl,by rw [List.append_nil,jY]; exact dx,by rw [List.length_append]; rfl,d7,by rw [List.append_nil,jY]; exact ny.2 ⟨ao,dl⟩⟩
    ·
     cases ak
theorem dN.Z_ {H:aa} {p:Nat} {bs:List (List UInt8)} {zs:List lX} {next:Int} {bv aA:I} (h:dN H p bs zs next bv aA):fu aq H 53 bv=some (bs.length,a3 (bs.map bL)):=by
 have ar:=h.n
 rcases h.b.2 with ⟨_,aD⟩ | ⟨b,y,_,aF,Ae,U⟩
 ·
  omega
 ·
  subst Ae
  have ah:=wC h.bg
  show (bA H b 0 (bs.length * au aq 53)).omap (fun l=>(bs.length,l))=_
  rw [sO,(a2 U).2.2.1,lF (by omega)]
  show (cG _ (co 0 _)).omap _=_
  rw [dz,fL,List.drop_zero,if_pos (by rw [ah]; exact Nat.le_refl _),List.take_of_length_le (by rw [ah]; exact Nat.le_refl _)]; rfl
set_option maxHeartbeats 1000000 in
theorem Jd {H:aa} {p:Nat} {m:cu} {F:Nat -> Prop} {id:Int} {K:I -> aa -> Prop} (h:gy H p m F) (ai:m.aL.length < 8) (ky: -9223372036854775808≤id /\ id < 9223372036854775807)
 (ab:∀H' e6,gy H' p ⟨m.bs,m.aL ++ [⟨id,m.bs,List.replicate m.bs.length false⟩],id + 1⟩ e6 -> cO H H' F e6 -> K (.tuple []) H'):Call (.func 33 [] []) [.ptr p 0,.int .i64 id] H K:=by
 obtain ⟨zs,bv,aA,h,ee,rfl⟩:=h
 have gf:zs.length < 8:=by rw [<- ee,List.length_map] at ai; exact ai
 have ar:=h.n
 refine bR (N:=32) rfl Z7 rfl rfl rfl rfl rfl fun bC=> ?_
 simp (disch:=assumption) only [go_sem]
 refine oP [0,0,0,0,4,0,0,0,0,0,0,2,0,0,0,5,0,0,0,0,0,0,0,0] (by kernel_rfl) (by kernel_rfl) rfl (by kernel_rfl) ?_
 have c1:=h.m
 have aF:=h.lt
 have c5:=h.b.ks.len (E:=aq) (e:=53)
 obtain ⟨c2,H1,ae,KG,fX⟩:=HD (E:=aq) (H:=H) (l:=m.bs.map bL) sO (by decide) Dh (by rw [List.length_map]; omega) (kc h.bg) (yR m.bs)
 rw [List.length_map] at ae
 have f1:=fX.fr
 have s_:=(h.b3 (Fr.alloc H (.cells [] 53 true true))).Z_
 have gP:=(f1.get _ aF).trans c1
 have dE:b2 c2=true:=fX.own.one
 obtain ⟨x,R,Z',jA,rQ⟩:=h.b.ty ar.1
 have rR:=fX.own
 rw [List.length_map] at rR
 have oY:cR m.bs.length (I.bool false).cells=List.replicate m.bs.length (.bool false):=by
  show cR m.bs.length [.bool false]=_
  rw [q9,List.flatten_replicate_singleton]
 have sV:Nat.ble m.bs.length 1048576=true:=de.2 (by omega)
 obtain ⟨ay,k4⟩:∃X,X=(aS H1 (.cells (List.replicate m.bs.length (.bool false)) 4 true true)).2:=⟨_,rfl⟩
 have f2:Fr H1 ay:=by rw [k4]; exact Fr.alloc _ _
 have oo:ay.next=H1.next + 1:=by rw [k4]; rfl
 have cn:ay.m.get H1.next=some (.cells (List.replicate m.bs.length (.bool false)) 4 true true):=by rw [k4]; exact eP
 obtain ⟨dT,Ec⟩:∃X,X=(aS ay (.cells [.int .i64 id,c2,.slice H1.next 0 m.bs.length (.ex m.bs.length)] 56 true true)).2:=⟨_,rfl⟩
 have f23:Fr ay dT:=by rw [Ec]; exact Fr.alloc _ _
 have f3:Fr H dT:=(f1.trans f2).trans f23
 have ag:=h.b3 f3
 obtain ⟨db,c_,oQ,Ed,pt,fb,rS,nc⟩:=ag.s.push (z:=((⟨id,m.bs,List.replicate m.bs.length false⟩:bq),c2,.slice H1.next 0 m.bs.length (.ex m.bs.length))) dE rfl h.k
 have CV:cJ aq dT 56 aA 1 [.int .i64 id,c2,.slice H1.next 0 m.bs.length (.ex m.bs.length)]=some (db,c_):=oQ
 have yg:c_.m.get p=some (.cells [bv,aA,.int .i64 m.next] 46 true true):=(fb p ag.lt (ag.qe ag.m rfl)).trans ag.m
 have xC:=Ed.one
 have KH:(aN c_ p (.cells [bv,db,.int .i64 m.next] 46 true true)).m.get p=some (.cells [bv,db,.int .i64 m.next] 46 true true):=gj
 have cq:dW c_ 1 (.ptr p 1) db=some (.undef,aN c_ p (.cells [bv,db,.int .i64 m.next] 46 true true)):=by
  rw [l8 (eo xC),g4,yg]
  show (hi c_ p 1 [db] (.cells [bv,aA,.int .i64 m.next] 46 true true)).omap _=_
  have ao:br [db]=true:=by rw [eb,xC]; rfl
  rw [hM,ao,kP (by show 1 < 3; decide)]; rfl
 simp (disch:=(refine am ?_; first | assumption | decide | omega | (simp only [aT,aW] <;> omega) | with_unfolding_all exact a6 rfl | with_unfolding_all exact a7 rfl)) only [go_sem,a2 c1,c1,s_,ae,a2 gP,gP,c5,oY,sV,Bool.true_and,dE,eo dE,yZ (eo dE)]
 rw [<- k4,<- Ec]
 simp (disch:=(refine am ?_; first | assumption | decide | omega | (simp only [aT,aW] <;> omega) | with_unfolding_all exact a6 rfl | with_unfolding_all exact a7 rfl)) only [go_sem,CV,cq,a2 KH,KH,wrap_i64]
 refine ⟨KG,?_⟩
 generalize rT:bf.cells [bv,db,.int .i64 m.next] 46 true true=lY
 have a_:∀c,c < dT.next -> (aA= .aE∨c≠aY aA) -> c≠p -> (aN (aN c_ p lY) p (.cells [bv,db,.int .i64 (id + 1)] 46 true true)).m.get c=dT.m.get c:=fun c J O ag=>by
  rw [cY ag,cY ag]; exact fb c J O
 have fT:dT.next≤(aN (aN c_ p lY) p (.cells [bv,db,.int .i64 (id + 1)] 46 true true)).next:=pt
 have DC:=ag.lt
 have pu:dT.next=ay.next + 1:=by rw [Ec]; rfl
 have bW:dT.m.get H1.next=_:=(f23.get _ (by omega)).trans cn
 have xD:cz dT 0 4 1 (.slice H1.next 0 m.bs.length (.ex m.bs.length)) (List.replicate m.bs.length false).length (a3 ((List.replicate m.bs.length false).map et)):=by
  rw [G2,List.length_replicate]
  exact ⟨by rw [List.length_replicate,Nat.mul_one],.inr ⟨H1.next,true,Nat.zero_le _,by omega,rfl,bW⟩⟩
 have Ee:cz dT 0 53 64 c2 m.bs.length (a3 (m.bs.map bL)):=((rR.b3 f2).b3 f23).mono (Nat.zero_le _)
 obtain ⟨fY,aeG,KI,afw,rfl,_⟩:=rR.2.resolve_left (fun h=>by omega)
 have rU:=f1.nx
 have old:∀c,gd p bv aA zs c -> c < H.next:=fun c V=>h.ri V
 have nd:p≠aY db:=by
  rcases Ed.ty with aQ | ⟨_,_,aQ,_⟩
  ·
   exact absurd aQ nc
  ·
   exact gv yg aQ rfl
 have DD:dN (aN (aN c_ p lY) p (.cells [bv,db,.int .i64 (id + 1)] 46 true true)) p m.bs (zs ++ [((⟨id,m.bs,List.replicate m.bs.length false⟩:bq),.slice fY 0 m.bs.length (if aeG then .ex m.bs.length else .rest 0 64 m.bs.length),.slice H1.next 0 m.bs.length (.ex m.bs.length))]) (id + 1) bv db:=by
  refine ⟨gj,Nat.lt_of_lt_of_le DC fT,ag.b.a_ fT (.inr ?_),(Ed.a_ (H':=aN c_ p lY) (Nat.le_refl _) (.inr (cY nd.symm))).a_ (Nat.le_refl _) (.inr (cY nd.symm)),fun z ai=> ?_,fun z ai=> ?_,fun i j ad ax cL=> ?_,fun z ai=> ?_,h.bg,fun z ai=> ?_,ar,by rw [List.length_append]; exact gf⟩
  ·
   obtain ⟨y,aj,mr,_⟩:=ag.b.ty ar.1
   exact a_ _ mr (ag.qe aj rfl) (gv aj ag.m rfl)
  ·
   rcases List.mem_append.1 ai with ai | ai
   ·
    obtain ⟨y,aj,mr,_⟩:=(ag.w z ai).ty (ag.jx ai)
    exact (ag.w z ai).a_ fT (.inr (a_ _ mr (ag.qe aj rfl) (gv aj ag.m rfl)))
   ·
    rw [List.mem_singleton] at ai
    subst ai
    exact xD.a_ fT (.inr (a_ _ (by show H1.next < _; omega) (ag.qe bW rfl) (gv bW ag.m rfl)))
  ·
   rcases List.mem_append.1 ai with ai | ai
   ·
    obtain ⟨y,aj,mr,_⟩:=(ag.v z ai).ty (ag.zT ai)
    exact (ag.v z ai).a_ fT (.inr (a_ _ mr (ag.qe aj rfl) (gv aj ag.m rfl)))
   ·
    rw [List.mem_singleton] at ai
    subst ai
    obtain ⟨y,aj,mr,_⟩:=Ee.ty ar.1
    exact Ee.a_ fT (.inr (a_ _ mr (ag.qe aj rfl) (gv aj ag.m rfl)))
  ·
   have L2:∀i (ad:i < zs.length),aY zs[i].2.2 < H.next:=fun i ad=>old _ (.inr (.inr (.inr ⟨_,List.getElem_mem ad,.inr rfl⟩)))
   rw [List.length_append,List.length_singleton] at ad ax
   by_cases J:i < zs.length
   ·
    rw [List.getElem_append_left J]
    by_cases O:j < zs.length
    ·
     rw [List.getElem_append_left O]; exact h.lj i j J O cL
    ·
     rw [List.getElem_append_right (by omega),List.getElem_singleton]
     exact Nat.ne_of_lt (Nat.lt_of_lt_of_le (L2 i J) rU)
   ·
    rw [List.getElem_append_right (by omega),List.getElem_singleton]
    have O:j < zs.length:=by omega
    rw [List.getElem_append_left O]
    exact Nat.ne_of_gt (Nat.lt_of_lt_of_le (L2 j O) rU)
  ·
   rcases List.mem_append.1 ai with ai | ai
   ·
    exact h.vy z ai
   ·
    rw [List.mem_singleton] at ai
    subst ai
    exact Nat.ne_of_gt (Nat.lt_of_lt_of_le (old _ (.inr (.inl rfl))) KI)
  ·
   rcases List.mem_append.1 ai with ai | ai
   ·
    exact h.fo z ai
   ·
    rw [List.mem_singleton] at ai
    subst ai
    exact ⟨List.length_replicate,rfl,h.bg⟩
 refine .inl (ab _ _ ⟨_,bv,db,DD,by rw [List.map_append,ee]; rfl,rfl⟩ ⟨?_,fun c V ao=> ?_,fun c V=> ?_⟩)
 ·
  exact Nat.le_trans f3.nx fT
 ·
  have rV:c≠p:=fun aQ=>ao (.inl aQ)
  have cB:aA= .aE∨c≠aY aA:=by
   by_cases aG:aA= .aE
   ·
    exact .inl aG
   ·
    exact .inr fun aQ=>ao (.inr (.inr (.inl ⟨aG,aQ⟩)))
  rw [a_ c (Nat.lt_of_lt_of_le V f3.nx) cB rV]; exact f3.get c V
 ·
  rcases V with V | V | ⟨o5,V⟩ | ⟨z,ai,V⟩
  ·
   exact .inl (.inl V)
  ·
   exact .inl (.inr (.inl V))
  ·
   rcases rS with ⟨J,O⟩ | J
   ·
    exact .inl (.inr (.inr (.inl ⟨J,V.trans O⟩)))
   ·
    exact .inr (V ▸ Nat.le_trans f3.nx J)
  ·
   rcases List.mem_append.1 ai with ai | ai
   ·
    exact .inl (.inr (.inr (.inr ⟨z,ai,V⟩)))
   ·
    rw [List.mem_singleton] at ai
    subst ai
    rcases V with V | V
    ·
     exact .inr (V ▸ KI)
    ·
     exact .inr (V ▸ rU)
end
end Go.az
namespace Go.az
open Go.Proofs
noncomputable section
set_option maxRecDepth 100000
theorem aaa:bE.fn 38=some Try.f38:=by kernel_rfl
theorem dN.J3 {H H':aa} {p:Nat} {bs bs':List (List UInt8)} {zs:List lX} {next:Int} {bv bv' aA:I} (h:dN H p bs zs next bv aA) (ao:Fr H H') (aC:cz H' H.next 53 64 bv' bs'.length (a3 (bs'.map bL))) (ah:bs'.length=bs.length) (dq:∀x∈bs',x.length=64):
 dN (aN H' p (.cells [bv',aA,.int .i64 next] 46 true true)) p bs' zs next bv' aA /\ cO H (aN H' p (.cells [bv',aA,.int .i64 next] 46 true true)) (gd p bv aA zs) (gd p bv' aA zs):=by
 have J:=h.b3 ao
 have mC:H.next≤aY bv':=by
  rcases aC.2 with ⟨_,aD⟩ | ⟨b,x,O,_,rfl,_⟩
  ·
   have:=h.n.1; omega
  ·
   exact O
 refine ⟨⟨gj,J.lt,aC.ed (.inr fun e=> ?_) |>.mono (Nat.zero_le _),J.s.a_ (Nat.le_refl _) ((J.qe J.m rfl).imp id fun aQ=>cY aQ.symm),fun z ai=>(J.w z ai).ed (.inr ?_),fun z ai=>(J.v z ai).ed (.inr ?_),h.lj,fun z ai=> ?_,dq,fun z ai=>by rw [ah]; exact h.fo z ai,by rw [ah]; exact h.n,h.k⟩,⟨ao.nx,fun c V ar=> ?_,fun c V=> ?_⟩⟩
 ·
  rw [<- e] at mC; exact absurd h.lt (by omega)
 ·
  obtain ⟨y,aj,_⟩:=(J.w z ai).ty (J.jx ai); exact gv J.m aj rfl
 ·
  obtain ⟨y,aj,_⟩:=(J.v z ai).ty (J.zT ai); exact gv J.m aj rfl
 ·
  have:aY z.2.1 < H.next:=h.ri (.inr (.inr (.inr ⟨z,ai,.inl rfl⟩)))
  omega
 ·
  rw [cY fun e=>ar (.inl e)]; exact ao.get c V
 ·
  rcases V with V | V | V | V
  ·
   exact .inl (.inl V)
  ·
   exact .inr (V ▸ mC)
  ·
   exact .inl (.inr (.inr (.inl V)))
  ·
   exact .inl (.inr (.inr (.inr V)))
theorem Gf (st:kF) (r:Rec) (k:Nat):(h' st r k).1.length=st.1.length:=by
 induction k with
 | zero=>rfl
 | succ k aH=>show ((h' st r k).1.set _ _).length=_; rw [List.length_set,aH]
theorem Gg (st:kF) (rs:List Rec) (k:Nat):(iu st rs k).1.length=st.1.length:=by
 induction k with
 | zero=>rfl
 | succ k aH=>show (h' _ _ _).1.length=_; rw [Gf,aH]
theorem NG (st:kF) (rs:List Rec) (k:Nat):(iu st rs k).2.length=st.2.length:=by
 have:=congrArg List.length (Gh st rs k)
 unfold dM at this
 rwa [List.length_map,List.length_map] at this
def uP (aL:List bq):Bool:=match aL[aL.length - 1]? with
 | some z=>decide (0≤hZ (fun b=>b) z.w)
 | none=>false
theorem G3 {aL:List bq} {want:Int}:wX aL want= !(decide ((want= -1 /\ 0 < aL.length)∨(want≠ -1 /\ ∀z,aL[aL.length - 1]? =some z -> z.id≠want)) || uP aL):=by
 unfold wX uP
 cases h:aL[aL.length - 1]? with
 | none=>
  have aD:aL.length=0:=by
   have:=List.getElem?_eq_none_iff.1 h
   omega
  by_cases c:want= -1
  ·
   subst c; simp [aD]
  ·
   simp [c,aD]
 | some z=>
  have aD:0 < aL.length:=by
   have:=(List.getElem?_eq_some_iff.1 h).1
   omega
  by_cases c:want= -1
  ·
   subst c; simp [aD]
  ·
   simp only [c,false_and,false_or,ne_eq,not_false_eq_true,true_and,decide_true,Bool.true_and,Option.some.injEq,forall_eq',Bool.not_or]
   by_cases bV:z.id=want <;> simp [bV]
theorem KJ {w:List Bool} (h:∀k,k < w.length -> w.getD k false=false):decide (0≤hZ (fun b=>b) w)=false:=by
 rw [Cr fun j ax=>by have:=h j ax; rwa [d6 ax] at this]; rfl
theorem acC {w:List Bool} {k:Nat} (ab:k < w.length) (h:w.getD k false=true):decide (0≤hZ (fun b=>b) w)=true:=by
 refine decide_eq_true ?_
 rcases vT (fun b:Bool=>b) w with ⟨_,O⟩ | ⟨i,ad,O,_⟩
 ·
  rw [d6 ab] at h
  exact absurd h (by have:=O k ab; simpa using this)
 ·
  rw [O]; omega
end
end Go.az
namespace Go.az
open Go.Proofs
noncomputable section
set_option maxRecDepth 100000
set_option maxHeartbeats 1000000 in
theorem O8 {H:aa} {p:Nat} {m:cu} {F:Nat -> Prop} {w:List UInt8} {K:I -> aa -> Prop} (h:gy H p m F) (hw:w.length≤140737488351232) (aD:(eq w).1=0)
 (he:ma w m.bs.length m.aL m.next≠0 -> ∀H',gy H' p m F -> cO H H' F F -> K (.int .i64 (ma w m.bs.length m.aL m.next)) H')
 (ab:ma w m.bs.length m.aL m.next=0 -> ∀H' e6,gy H' p ⟨(lw w m.bs m.aL).1,(lw w m.bs m.aL).2 ++ [⟨(eq w).2.id,(lw w m.bs m.aL).1,List.replicate m.bs.length false⟩],(eq w).2.id + 1⟩ e6 -> cO H H' F e6 -> K (.int .i64 0) H'):Call (.func 38 [] []) [.ptr p 0,pY (eq w).2] H K:=by
 obtain ⟨zs,bv,aA,bo,ee,rfl⟩:=h
 have ar:=bo.n
 have acD:=bo.k
 have aF:=bo.lt
 have hC:=HE hw aD
 have gf:m.aL.length=zs.length:=by rw [<- ee,List.length_map]
 unfold ma at he ab
 rw [if_neg (fun h=>h aD),G3,gf] at he ab
 unfold lw at ab
 generalize (eq w).2=s at hC he ab ⊢
 obtain ⟨d8,gQ⟩:=hC.b
 unfold pY
 refine bR (N:=139) rfl aaa rfl rfl rfl rfl rfl fun bC=> ?_
 have f1:Fr H (aS H (.cells [.int .i64 s.blocks,.int .i64 s.base,.int .i64 s.id,.aJ 4 (s.aV.map hO)] 64 true true)).2:=Fr.alloc _ _
 have J:=bo.b3 f1
 have eu:cO H (aS H (.cells [.int .i64 s.blocks,.int .i64 s.base,.int .i64 s.id,.aJ 4 (s.aV.map hO)] 64 true true)).2 (gd p bv aA zs) (gd p bv aA zs):=cO.fr f1
 have b6:(aS H (.cells [.int .i64 s.blocks,.int .i64 s.base,.int .i64 s.id,.aJ 4 (s.aV.map hO)] 64 true true)).2.m.get H.next=_:=eP
 have vA:H.next < (aS H (.cells [.int .i64 s.blocks,.int .i64 s.base,.int .i64 s.id,.aJ 4 (s.aV.map hO)] 64 true true)).2.next:=Nat.lt_succ_self _
 have f5:¬gd p bv aA zs H.next:=fun ao=>Nat.lt_irrefl _ (bo.ri ao)
 have g':=J.s.len (ty:=56)
 have c5:=J.b.ks.len (E:=aq) (e:=53)
 simp (disch:=(refine am ?_; decide)) only [go_sem,a2 J.m,g']
 refine iX (by kernel_rfl) (by kernel_rfl) ?_
 generalize (aS H (.cells [.int .i64 s.blocks,.int .i64 s.base,.int .i64 s.id,.aJ 4 (s.aV.map hO)] 64 true true)).2=H1 at f1 J eu b6 vA ⊢
 have same:∀H',gy H' p m (gd p bv aA zs) -> gy H' p m (gd p bv aA zs):=fun _ h=>h
 have mD:gy H1 p m (gd p bv aA zs):=⟨zs,bv,aA,J,ee,rfl⟩
 by_cases b1:s.blocks≠(m.bs.length:Int)
 ·
  rw [if_pos b1] at he
  simp (disch:=(refine am ?_; decide)) only [go_sem,a2 b6,a2 J.m,c5,b1]
  exact .inl (he (by decide) _ mD eu)
 rw [if_neg b1] at he ab
 have hD:s.blocks=(m.bs.length:Int):=Decidable.not_not.1 b1
 simp (disch:=(refine am ?_; decide)) only [go_sem,a2 b6,a2 J.m,c5,b1]
 refine iX (by kernel_rfl) (by kernel_rfl) ?_
 obtain ⟨DE,Di⟩:∃b:Bool,b=uP m.aL:=⟨_,rfl⟩
 rw [<- Di] at he ab
 have Dj:∀b:Bool,b=decide ((s.base= -1 /\ 0 < zs.length)∨(s.base≠ -1 /\ ∀z,m.aL[zs.length - 1]? =some z -> z.id≠s.base)) -> (b || DE)=true -> K (.int .i64 24) H1:=fun b U h=>by
  rw [<- U,h,if_pos (show (!true)=false from rfl)] at he
  exact he (by decide) _ mD eu
 have ky:∀ax:zs.length - 1 < zs.length,cellAt H1 (aY aA) ((zs.length - 1) * 3)=some (.int .i64 zs[zs.length - 1].1.id):=fun ax=>ln (j:=0) (J.s.cells ax) (by decide)
 have f':∀ax:zs.length - 1 < zs.length,m.aL[zs.length - 1]? =some zs[zs.length - 1].1:=fun ax=>by rw [<- ee,List.getElem?_map,List.getElem?_eq_getElem ax]; rfl
 have dE:0 < zs.length -> bG .i64 ((zs.length:Int) - 1)=((zs.length - 1:Nat):Int):=fun h=>by rw [wrap_i64 (by omega) (by omega)]; omega
 by_cases bV:zs.length=0
 case' pos=>
  have uZ:(zs.length:Int)=0:=by omega
  have xE:¬(0:Int) < (zs.length:Int):=by omega
  by_cases c6:s.base= -1
  case neg=>
   simp (disch:=(refine am ?_; decide)) only [go_sem,a2 b6,eq_true uZ,c6]
   exact .inl (Dj _ rfl (by rw [decide_eq_true (.inr ⟨c6,fun z ai=>by rw [List.getElem?_eq_none (by omega)] at ai; cases ai⟩)]; rfl))
  case' pos=>
   have nf:decide ((s.base= -1 /\ 0 < zs.length)∨(s.base≠ -1 /\ ∀z,m.aL[zs.length - 1]? =some z -> z.id≠s.base))=false:=decide_eq_false fun h=>h.elim (fun h=>by omega) fun h=>h.1 c6
   simp (disch:=(refine am ?_; first | assumption | decide | omega | (simp only [aT,aW] <;> omega) | with_unfolding_all exact a6 rfl | with_unfolding_all exact a7 rfl)) only [go_sem,a2 b6,eq_true uZ,xE,c6]
 case' neg=>
  have uZ:¬(zs.length:Int)=0:=by omega
  have xE:(0:Int) < (zs.length:Int):=by omega
  have ax:zs.length - 1 < zs.length:=by omega
  by_cases c6:s.base= -1
  case pos=>
   simp (disch:=(refine am ?_; first | assumption | decide | omega | (simp only [aT,aW] <;> omega) | with_unfolding_all exact a6 rfl | with_unfolding_all exact a7 rfl)) only [go_sem,a2 b6,uZ,xE,c6]
   exact .inl (Dj _ rfl (by rw [decide_eq_true (.inl ⟨c6,by omega⟩)]; rfl))
  case' neg=>
   by_cases d9:zs[zs.length - 1].1.id=s.base
   case neg=>
    simp (disch:=(refine am ?_; first | assumption | decide | omega | (simp only [aT,aW] <;> omega) | with_unfolding_all exact a6 rfl | with_unfolding_all exact a7 rfl)) only [go_sem,a2 b6,a2 J.m,dE (by omega),J.s.idx ax,ky ax,uZ,xE,c6,d9]
    exact .inl (Dj _ rfl (by rw [decide_eq_true (.inr ⟨c6,fun z ai=>by rw [f' ax] at ai; cases ai; exact d9⟩)]; rfl))
   case' pos=>
    have nf:decide ((s.base= -1 /\ 0 < zs.length)∨(s.base≠ -1 /\ ∀z,m.aL[zs.length - 1]? =some z -> z.id≠s.base))=false:=decide_eq_false fun h=>h.elim (fun h=>c6 h.1) fun h=>h.2 _ (f' ax) d9
    simp (disch:=(refine am ?_; first | assumption | decide | omega | (simp only [aT,aW] <;> omega) | with_unfolding_all exact a6 rfl | with_unfolding_all exact a7 rfl)) only [go_sem,a2 b6,a2 J.m,dE (by omega),J.s.idx ax,ky ax,uZ,xE,c6,d9]
 all_goals
  rw [nf,Bool.false_or] at he ab
  refine gw 604462891792916077871184 (by kernel_rfl) (fun r G H'=>H'=H1 /\ ∃k:Nat,k≤m.bs.length /\ r=m.bs.length - k /\ G.get 6=some (.int .i64 (k:Int)) /\ ∀ax:zs.length - 1 < zs.length,∀j,j < k -> zs[zs.length - 1].1.w.getD j false=false) m.bs.length ⟨rfl,0,Nat.zero_le _,(Nat.sub_zero _).symm,(by simp (disch:=(refine am ?_; first | assumption | decide | omega | (simp only [aT,aW] <;> omega) | with_unfolding_all exact a6 rfl | with_unfolding_all exact a7 rfl)) only [go_sem]; first | done | rfl),fun _ j h=>absurd h (Nat.not_lt_zero _)⟩ ?_
  rintro r G H' aZ ⟨rfl,k,u0,rfl,dy,fU⟩
  have fin:(k=m.bs.length∨zs.length=0) -> DE=false:=fun k5=>by
   rw [Di]
   unfold uP
   by_cases ai:zs.length=0
   ·
    rw [List.getElem?_eq_none (by omega)]
   ·
    have ax:zs.length - 1 < zs.length:=by omega
    rw [gf,f' ax]
    refine KJ fun j Af=>fU ax j ?_
    rw [(bo.fo _ (List.getElem_mem ax)).1] at Af
    omega
  by_cases ef:k < m.bs.length
  case' pos=>
   have xc:(k:Int) < (m.bs.length:Int):=by omega
   by_cases ai:zs.length=0
   case' pos=>
    first
    | exact absurd ai bV
    | (
     have fA:¬(0:Int) < (zs.length:Int):=by omega
     have jB:=fin (.inr ai)
     simp (disch:=(refine am ?_; first | decide | omega)) only [go_sem,dy,aZ,a2 J.m,c5,xc,fA])
   case neg=>
    have fA:(0:Int) < (zs.length:Int):=by omega
    have ax:zs.length - 1 < zs.length:=by omega
    have n0:=(bo.fo _ (List.getElem_mem ax)).1
    have xF:=J.wU ax ef
    have KK:=J.xb ax ef uO
    cases U:zs[zs.length - 1].1.w[k] with
    | true=>
     rw [U] at xF
     have jB:DE=true:=by
      rw [Di]
      unfold uP
      rw [gf,f' ax]
      exact acC (k:=k) (by omega) (by rw [d6 (by omega),U])
     simp (disch:=(refine am ?_; first | decide | omega)) only [go_sem,dy,aZ,a2 J.m,c5,xc,fA,dE (by omega),J.s.idx ax,J.wV ax,KK,xF]
     rw [jB,if_pos (show (!true)=false from rfl)] at he
     exact .inl (he (by decide) _ mD eu)
    | false=>
     rw [U] at xF
     simp (disch:=(refine am ?_; first | decide | omega)) only [go_sem,dy,aZ,a2 J.m,c5,xc,fA,dE (by omega),J.s.idx ax,J.wV ax,KK,xF]
     refine ⟨_,by omega,k + 1,by omega,rfl,?_,fun _ j u1=> ?_⟩
     ·
      rw [wrap_i64 (by omega) (by omega)]; rfl
     ·
      by_cases aab:j=k
      ·
       subst aab; rw [d6 (by omega),U]
      ·
       exact fU ax j (by omega)
  case' neg=>
   have xc:¬(k:Int) < (m.bs.length:Int):=by omega
   have jB:=fin (.inl (by omega))
   simp (disch:=(refine am ?_; first | decide | omega)) only [go_sem,dy,aZ,a2 J.m,c5,xc]
  all_goals
   rw [jB,if_neg (by decide)] at he ab
   by_cases eL:8≤zs.length
   case pos=>
    first
    | (exfalso; omega)
    | (
     rw [if_pos eL] at he
     have Ef:(8:Int)≤(zs.length:Int):=by omega
     simp (disch:=(refine am ?_; first | assumption | decide | omega | (simp only [aT,aW] <;> omega) | with_unfolding_all exact a6 rfl | with_unfolding_all exact a7 rfl)) only [go_sem,true_imp_iff,false_imp_iff,and_true,true_and,Ef]
     exact .inl (he (by decide) _ mD eu))
   have Ef:¬(8:Int)≤(zs.length:Int):=by omega
   rw [if_neg eL] at he ab
   try simp (disch:=(refine am ?_; first | assumption | decide | omega | (simp only [aT,aW] <;> omega) | with_unfolding_all exact a6 rfl | with_unfolding_all exact a7 rfl)) only [go_sem,true_imp_iff,false_imp_iff,and_true,true_and,Ef]
   refine iX (by kernel_rfl) (by kernel_rfl) ?_
   by_cases iN:s.id < m.next
   case pos=>
    rw [if_pos iN] at he
    simp (disch:=(refine am ?_; first | assumption | decide | omega | (simp only [aT,aW] <;> omega) | with_unfolding_all exact a6 rfl | with_unfolding_all exact a7 rfl)) only [go_sem,dy,aZ,a2 b6,a2 J.m,iN]
    exact .inl (he (by decide) _ mD eu)
   rw [if_neg iN] at he ab
   have ab:=ab rfl
   first
   | (
    rw [if_pos c6] at ab
    have sV:Nat.ble (Nat.mul m.bs.length 64) 16777216=true:=de.2 (by show m.bs.length * 64≤_; omega)
    have wW:Nat.ble m.bs.length 1048576=true:=de.2 (by omega)
    have oY:=Gy m.bs.length
    have uQ:(bO m.bs.length).length=m.bs.length:=List.length_replicate
    have dq:∀y∈bO m.bs.length,y.length=64:=fun y aj=>by unfold bO at aj; rw [List.eq_of_mem_replicate aj,List.length_replicate]
    have Fv:Fr H' (aS H' (.cells (a3 ((bO m.bs.length).map bL)) 53 true true)).2:=Fr.alloc _ _
    obtain ⟨b4,qC⟩:=J.J3 (bs':=bO m.bs.length) (bv':= .slice H'.next 0 m.bs.length (.ex m.bs.length)) Fv ⟨by rw [(fv (kc dq)).1,List.length_map],.inr ⟨H'.next,true,Nat.le_refl _,Nat.lt_succ_self _,by rw [uQ]; rfl,eP⟩⟩ uQ dq
    have Eg:=(Fv.get _ J.lt).trans J.m
    have f52:¬gd p (.slice H'.next 0 m.bs.length (.ex m.bs.length)) aA zs H.next:=fun h=>(qC.new _ h).elim f5 fun h=>by omega
    have Eh:=(qC.old _ vA f5).trans b6
    have Ei:=Nat.lt_of_lt_of_le vA qC.nx
    have qC:=eu.trans qC
    have o6:gy _ p ⟨bO m.bs.length,m.aL,m.next⟩ _:=⟨zs,_,aA,b4,ee,rfl⟩
    simp (disch:=(refine am ?_; first | assumption | decide | omega | (simp only [aT,aW] <;> omega) | with_unfolding_all exact a6 rfl | with_unfolding_all exact a7 rfl)) only [go_sem,aZ,a2 b6,a2 J.m,c5,iN,c6,wW,oY,Bool.true_and,a2 Eg,Eg]
    generalize gd p (.slice H'.next 0 m.bs.length (.ex m.bs.length)) aA zs=np at f52 qC o6
    generalize (aN (aS H' (.cells (a3 ((bO m.bs.length).map bL)) 53 true true)).2 p (.cells [.slice H'.next 0 m.bs.length (.ex m.bs.length),aA,.int .i64 m.next] 46 true true))=ay at qC Eh Ei o6 ⊢
    generalize bO m.bs.length=lL at o6 ab uQ
    clear b4 Eg Fv oY dq)
   | (
    rw [if_neg c6] at ab
    obtain ⟨ay,k4⟩:∃X,X=H':=⟨_,rfl⟩
    obtain ⟨np,Ej⟩:∃X,X=gd p bv aA zs:=⟨_,rfl⟩
    obtain ⟨lL,jA⟩:∃X,X=m.bs:=⟨_,rfl⟩
    have uQ:lL.length=m.bs.length:=by rw [jA]
    have o6:gy ay p ⟨lL,m.aL,m.next⟩ np:=by rw [k4,Ej,jA]; exact mD
    have f52:¬np H.next:=by rw [Ej]; exact f5
    have Eh:ay.m.get H.next=some (.cells [.int .i64 s.blocks,.int .i64 s.base,.int .i64 s.id,.aJ 4 (s.aV.map hO)] 64 true true):=by rw [k4]; exact b6
    have Ei:H.next < ay.next:=by rw [k4]; exact vA
    have qC:cO H ay (gd p bv aA zs) np:=by rw [k4,Ej]; exact eu
    simp (disch:=(refine am ?_; decide)) only [go_sem,aZ,a2 b6,a2 J.m,iN,c6]
    have ab:∀(H':aa) (e6:Nat -> Prop),gy H' p ⟨(iu (lL,m.aL) s.aV s.aV.length).1,(iu (lL,m.aL) s.aV s.aV.length).2 ++ [⟨s.id,(iu (lL,m.aL) s.aV s.aV.length).1,List.replicate m.bs.length false⟩],s.id + 1⟩ e6 -> cO H H' (gd p bv aA zs) e6 -> K (.int .i64 0) H':=by rw [jA]; exact ab
    rw [<- k4])
   all_goals
    refine gw 43556142964612472723083720349769627862912 (by kernel_rfl) (fun r G H'=>∃i:Nat,i≤s.aV.length /\ r=s.aV.length - i /\ G.get 7=some (.int .i64 (i:Int)) /\ gy H' p ⟨(iu (lL,m.aL) s.aV i).1,(iu (lL,m.aL) s.aV i).2,m.next⟩ np /\ cO ay H' np np) s.aV.length ⟨0,Nat.zero_le _,(Nat.sub_zero _).symm,(by simp (disch:=(refine am ?_; first | assumption | decide | omega | (simp only [aT,aW] <;> omega) | with_unfolding_all exact a6 rfl | with_unfolding_all exact a7 rfl)) only [go_sem]; first | done | rfl),o6,cO.refl _ _⟩ ?_
    rintro r gg dT ta ⟨i,ad,rfl,dO,kz,kE⟩
    have KL:=(kE.old _ Ei f52).trans Eh
    have Ek:=hC.n
    by_cases aF:i < s.aV.length
    ·
     obtain ⟨hq,jJ,tG⟩:=hC.r _ (List.getElem_mem aF)
     obtain ⟨vB,aeH,aeI,aeJ⟩:=BF hq
     have Dk:iu (lL,m.aL) s.aV (i + 1)=h' (iu (lL,m.aL) s.aV i) s.aV[i] s.aV[i].aX.toNat:=by
      show h' _ (s.aV.getD i _) _=_
      rw [d6 aF]
     have El:(iu (lL,m.aL) s.aV i).1.length=m.bs.length:=by rw [Gg]; exact uQ
     generalize iu (lL,m.aL) s.aV i=st at kz Dk El
     obtain ⟨q,aB⟩:∃q,s.aV[i]=q:=⟨_,rfl⟩
     rw [aB] at hq jJ tG vB aeH aeI aeJ Dk
     have d7:(i:Int) < (s.aV.length:Int):=by omega
     simp (disch:=(refine am ?_; first | assumption | decide | omega)) only [go_sem,dO,ta,aZ,a2 KL,List.length_map,d7,fh,aB,v']
     have f8:¬np dT.next:=fun h=>Nat.lt_irrefl _ (kz.lt h)
     have pv:Fr dT (aN (aS dT (.cells [.int .i64 0,.int .i64 0,.bool false,.aE] 68 true true)).2 dT.next (.cells [.int .i64 q.fr,.int .i64 q.aX,.bool q.zs,.aJ 1 (q.data.map aI)] 68 true true)):=(Fr.alloc _ _).set (Nat.le_refl _) _
     have KM:=kz.b3 pv
     have L3:=kE.trans (cO.fr (F:=np) pv)
     have em:(aN (aS dT (.cells [.int .i64 0,.int .i64 0,.bool false,.aE] 68 true true)).2 dT.next (.cells [.int .i64 q.fr,.int .i64 q.aX,.bool q.zs,.aJ 1 (q.data.map aI)] 68 true true)).m.get dT.next=_:=gj
     have Fw:dT.next < (aN (aS dT (.cells [.int .i64 0,.int .i64 0,.bool false,.aE] 68 true true)).2 dT.next (.cells [.int .i64 q.fr,.int .i64 q.aX,.bool q.zs,.aJ 1 (q.data.map aI)] 68 true true)).next:=Nat.lt_succ_self _
     generalize aN (aS dT (.cells [.int .i64 0,.int .i64 0,.bool false,.aE] 68 true true)).2 dT.next (.cells [.int .i64 q.fr,.int .i64 q.aX,.bool q.zs,.aJ 1 (q.data.map aI)] 68 true true)=X at KM L3 em Fw ⊢
     refine gw 43556137773583264788484321220770001847808 (by kernel_rfl) (fun r G H'=>∃j:Nat,j≤q.aX.toNat /\ r=q.aX.toNat - j /\ G.get 9=some (.int .i64 (j:Int)) /\ gy H' p ⟨(h' st q j).1,(h' st q j).2,m.next⟩ np /\ cO X H' np np) q.aX.toNat ⟨0,Nat.zero_le _,(Nat.sub_zero _).symm,(by simp (disch:=(refine am ?_; first | assumption | decide | omega | (simp only [aT,aW] <;> omega) | with_unfolding_all exact a6 rfl | with_unfolding_all exact a7 rfl)) only [go_sem]; first | done | rfl),KM,cO.refl _ _⟩ ?_
     rintro r kG c_ fV ⟨j,ax,rfl,lZ,u2,qD⟩
     have rW:=(qD.old _ Fw f8).trans em
     have KN:=Nat.lt_of_lt_of_le Fw qD.nx
     by_cases mu:j < q.aX.toNat
     ·
      have qg:(j:Int) < q.aX:=by omega
      obtain ⟨DF,lM⟩:=NH hq qg
      have Ag:bG .i64 (q.fr + (j:Int))=((q.fr.toNat + j:Nat):Int):=by rw [wrap_i64 (by omega) (by omega)]; omega
      have k3:q.fr.toNat + j < (h' st q j).1.length:=by rw [Gf]; omega
      have J4:∀ {HB:aa},HB.m.get c_.next=some (.cells ((hy q j).map aI) 53 true true) -> bA HB c_.next 0 64=some ((hy q j).map aI):=fun h=>by
       rw [(a2 h).2.2.1]
       show cG 64 (co 0 ((hy q j).map aI))=_
       rw [dz,fL,List.drop_zero,if_pos (by rw [List.length_map,DF]; exact Nat.le_refl _),List.take_of_length_le (by rw [List.length_map,DF]; exact Nat.le_refl _)]
      obtain ⟨aeK,xG⟩:∃b,q.zs=b:=⟨_,rfl⟩
      cases aeK
      case' false=>
       obtain ⟨iB,jC⟩:=lM xG
       have Em:hy q j=(q.data.drop (j * 64)).take 64:=by unfold hy; rw [xG]; rfl
       rw [xG] at rW
       have acE:bG .i64 ((j:Int) * 64)=((j * 64:Nat):Int):=by rw [wrap_i64 (by omega) (by omega)]; omega
       have aac:dp (.slice 5) aq (.aJ 1 (q.data.map aI)) (some (.int .i64 ((j * 64:Nat):Int))) none none=some (.aJ 1 ((q.data.drop (j * 64)).map aI)):=by
        rw [BG (j * 64) (by rw [List.length_map]; omega) e2.symm,List.map_drop]
       have aad:=(gY.aJ (H:=(aS c_ (.cells (List.replicate 64 (.int .u8 0)) 53 true true)).2) (l:=q.data.drop (j * 64))).2 _ (Fr.refl _)
       have rV:=S5 (H:=(aS c_ (.cells (List.replicate 64 (.int .u8 0)) 53 true true)).2) (c:=c_.next) (l:=q.data.drop (j * 64)) eP iB
       rw [<- Em] at rV
       simp (disch:=(refine am ?_; first | assumption | decide | omega | (simp only [aT,aW] <;> omega) | with_unfolding_all exact a6 rfl | with_unfolding_all exact a7 rfl)) only [go_sem,lZ,fV,ta,aZ,a2 rW,qg]
       refine iX (by kernel_rfl) (by kernel_rfl) ?_
       have iO:Fr c_ (aN (aS c_ (.cells (List.replicate 64 (.int .u8 0)) 53 true true)).2 c_.next (.cells ((hy q j).map aI) 53 true true)):=(Fr.alloc _ _).set (Nat.le_refl _) _
       have kw:=J4 (HB:=aN (aS c_ (.cells (List.replicate 64 (.int .u8 0)) 53 true true)).2 c_.next (.cells ((hy q j).map aI) 53 true true)) gj
       have En:=(iO.get _ KN).trans rW
       simp (disch:=(refine am ?_; first | decide | omega)) only [go_sem,lZ,fV,ta,aZ,Cs,a2 rW,acE,aac,aad,rV,a2 En,Ag,kw]
       generalize (aN (aS c_ (.cells (List.replicate 64 (.int .u8 0)) 53 true true)).2 c_.next (.cells ((hy q j).map aI) 53 true true))=HB at iO ⊢
      case' true=>
       have Em:hy q j=List.replicate 64 0:=by unfold hy; rw [xG]; rfl
       rw [xG] at rW
       have iO:Fr c_ (aS c_ (.cells (List.replicate 64 (.int .u8 0)) 53 true true)).2:=Fr.alloc _ _
       have kw:=J4 (HB:=(aS c_ (.cells (List.replicate 64 (.int .u8 0)) 53 true true)).2) (by rw [Em]; exact eP)
       have En:=(iO.get _ KN).trans rW
       simp (disch:=(refine am ?_; decide)) only [go_sem,lZ,fV,ta,aZ,a2 rW,qg,a2 En,Ag,kw]
       generalize (aS c_ (.cells (List.replicate 64 (.int .u8 0)) 53 true true)).2=HB at iO ⊢
      all_goals
       refine S4 (u2.b3 iO) DF (fun h=>absurd (show hasB _ _ from ⟨by omega,by show ((q.fr.toNat + j:Nat):Int) < ((h' st q j).1.length:Nat); omega⟩) h) fun _ fc acF pw=> ?_
       simp (disch:=(refine am ?_; first | assumption | decide | omega | (simp only [aT,aW] <;> omega) | with_unfolding_all exact a6 rfl | with_unfolding_all exact a7 rfl)) only [go_sem,lZ,fV,wrap_i64]
       exact ⟨_,by omega,j + 1,mu,rfl,rfl,acF,qD.trans ((cO.fr iO).trans pw)⟩
     ·
      obtain rfl:j=q.aX.toNat:=by omega
      have qg:¬((q.aX.toNat:Nat):Int) < q.aX:=by omega
      simp (disch:=(refine am ?_; first | assumption | decide | omega | (simp only [aT,aW] <;> omega) | with_unfolding_all exact a6 rfl | with_unfolding_all exact a7 rfl)) only [go_sem,lZ,fV,dO,ta,a2 rW,qg,wrap_i64]
      rw [<- Dk] at u2
      exact ⟨_,by omega,i + 1,aF,rfl,rfl,u2,L3.trans qD⟩
    ·
     obtain rfl:i=s.aV.length:=by omega
     have d7:¬(s.aV.length:Int) < (s.aV.length:Int):=by omega
     obtain ⟨i1,i2⟩:=hC.i
     simp (disch:=(refine am ?_; decide)) only [go_sem,dO,ta,aZ,a2 KL,List.length_map,d7]
     refine Jd kz (by show (iu (lL,m.aL) s.aV s.aV.length).2.length < 8; rw [NG]; show m.aL.length < 8; omega) ⟨by omega,by omega⟩ fun c_ aeL u2 qD=> ?_
     rw [show (iu (lL,m.aL) s.aV s.aV.length).1.length=m.bs.length by rw [Gg]; exact uQ] at u2
     simp (disch:=(refine am ?_; first | assumption | decide | omega | (simp only [aT,aW] <;> omega) | with_unfolding_all exact a6 rfl | with_unfolding_all exact a7 rfl)) only [go_sem,ta,aZ]
     exact .inl (ab c_ aeL u2 (qC.trans (kE.trans qD)))
end
end Go.az
namespace Go.az
open Go.Proofs
noncomputable section
set_option maxRecDepth 100000
theorem J5:bE.fn 13=some Try.f13:=by kernel_rfl
def p4 (v:I) (o:Out):Prop:=∃b,v= .agg [b,.int .i64 o.2.1,.int .i64 o.2.2] /\ (b= .aJ 1 (o.1.map aI)∨(b= .aE /\ o.1= []))
theorem p4.bad (e:Int):p4 (.agg [.aE,.int .i64 0,.int .i64 e]) (bad e):=⟨.aE,rfl,.inr ⟨rfl,rfl⟩⟩
theorem J6 {H H1:aa} {l:List I} (h:(aS (aS H (.cells l 34 true true)).2 (.cells [.aE,.int .i64 0,.int .i64 0] 38 true true)).2=H1):Fr H H1 /\ H1.m.get H.next=some (.cells l 34 true true) /\ H1.m.get (H.next + 1)=some (.cells [.aE,.int .i64 0,.int .i64 0] 38 true true) /\ H1.next=H.next + 2:=by
 subst h
 exact ⟨(Fr.alloc _ _).trans (Fr.alloc _ _),(hK (by simp only [aT]; omega)).trans eP,eP,rfl⟩
theorem gy.ed {H:aa} {p:Nat} {m:cu} {F:Nat -> Prop} (h:gy H p m F) {c:Nat} (V:¬F c) (z:bf):gy (aN H c z) p m F:=by
 obtain ⟨zs,bv,aA,bo,ee,rfl⟩:=h
 exact ⟨zs,bv,aA,bo.KF (Nat.le_refl _) fun b8 _ b7=>cY fun e=>V (e ▸ b7),ee,rfl⟩
theorem cO.ed {H H':aa} {F e6:Nat -> Prop} (h:cO H H' F e6) {c:Nat} (V:H.next≤c) (z:bf):cO H (aN H' c z) F e6:=
 ⟨h.nx,fun a ae ao=>(cY fun e=>by omega).trans (h.old a ae ao),h.new⟩
section
variable {H:aa} {p:Nat} {m:cu} {F:Nat -> Prop} {bg sz id eB:Int} {dv:I} {K:I -> aa -> Prop}
theorem Xg (h:gy H p m F) (eR:b2 dv=true) (ar:1≤m.next /\ m.next≤1000001) (ab:∀v H' e6,p4 v (lB m).1 -> gy H' p (lB m).2 e6 -> cO H H' F e6 -> K v H'):
 Call (.func 13 [] []) [.ptr p 0,.agg [.int .i64 5,.int .i64 bg,.int .i64 sz,.int .i64 id,.int .i64 eB,dv]] H K:=by
 obtain ⟨zs,bv,aA,bo,ee,rfl⟩:=h
 have g':m.aL.length=zs.length:=by rw [<- ee,List.length_map]
 refine bR (N:=195) rfl J5 rfl rfl rfl rfl rfl fun bC=> ?_
 simp (disch:=(refine am ?_; first | assumption | decide | omega | (simp only [aT,aW] <;> omega) | with_unfolding_all exact a6 rfl | with_unfolding_all exact a7 rfl)) only [go_sem,eR,eo eR]
 generalize e7:(aS (aS H (.cells _ 34 true true)).2 (.cells _ 38 true true)).2=H1
 obtain ⟨iO,aeM,tH,AQ⟩:=J6 e7
 have J:=bo.b3 iO
 have eu:cO H H1 (gd p bv aA zs) (gd p bv aA zs):=cO.fr iO
 have mD:gy H1 p m (gd p bv aA zs):=⟨zs,bv,aA,J,ee,rfl⟩
 clear e7
 have af:¬gd p bv aA zs (H.next + 1):=fun h=>absurd (bo.ri h) (by omega)
 have gf:=J.s.len (ty:=56)
 unfold lB at ab
 by_cases c:8≤m.aL.length∨1000000 < m.next
 ·
  rw [if_pos c] at ab
  by_cases b1:8≤m.aL.length
  ·
   have hD:(8:Int)≤(zs.length:Int):=by omega
   simp (disch:=(refine am ?_; decide)) only [go_sem,a2 J.m,gf,hD,a2 tH]
   exact .inl (ab _ _ _ (p4.bad 3) (mD.ed af _) (eu.ed (by omega) _))
  ·
   have hD:¬(8:Int)≤(zs.length:Int):=by omega
   have bV:(1000000:Int) < m.next:=by omega
   simp (disch:=(refine am ?_; decide)) only [go_sem,a2 J.m,gf,hD,bV,a2 tH]
   exact .inl (ab _ _ _ (p4.bad 3) (mD.ed af _) (eu.ed (by omega) _))
 ·
  rw [if_neg c] at ab
  have hD:¬(8:Int)≤(zs.length:Int):=by omega
  have bV:¬(1000000:Int) < m.next:=by omega
  simp (disch:=(refine am ?_; first | assumption | decide | omega | (simp only [aT,aW] <;> omega) | with_unfolding_all exact a6 rfl | with_unfolding_all exact a7 rfl)) only [go_sem,a2 J.m,gf,hD,bV,a2 tH]
  refine Jd mD (by omega) ⟨by omega,by omega⟩ fun ay px o6 iM=> ?_
  have ck:=(iM.old _ (by omega) af).trans tH
  have eJ:¬px (H.next + 1):=fun h=>(iM.new _ h).elim af fun h=>by omega
  have aae:=o6
  obtain ⟨afx,afy,afz,ie,afh,afA⟩:=aae
  simp (disch:=(refine am ?_; first | decide | omega)) only [go_sem,a2 ie.m,a2 ck,wrap_i64,show m.next + 1 - 1=m.next by omega]
  exact .inl (ab _ _ _ ⟨.aE,rfl,.inr ⟨rfl,rfl⟩⟩ (o6.ed eJ _) ((eu.trans iM).ed (by omega) _))
theorem Vl {w:List UInt8} (h:gy H p m F) (hw:w.length≤140737488351232) (ab:∀v H' e6,p4 v (pP m w).1 -> gy H' p (pP m w).2 e6 -> cO H H' F e6 -> K v H'):
 Call (.func 13 [] []) [.ptr p 0,.agg [.int .i64 11,.int .i64 bg,.int .i64 sz,.int .i64 id,.int .i64 eB,.aJ 1 (w.map aI)]] H K:=by
 refine bR (N:=195) rfl J5 rfl rfl rfl rfl rfl fun bC=> ?_
 simp (disch:=(refine am ?_; first | decide | omega | (simp only [aT,aW] <;> omega) | assumption)) only [go_sem]
 generalize e7:(aS (aS H (.cells _ 34 true true)).2 (.cells _ 38 true true)).2=H1
 obtain ⟨iO,aeM,tH,AQ⟩:=J6 e7
 clear e7
 have mD:=h.b3 iO
 have eu:cO H H1 F F:=cO.fr iO
 have af:¬F (H.next + 1):=fun aQ=>absurd (h.lt aQ) (by omega)
 unfold pP at ab
 refine QZ hw ?_
 unfold J7
 have iC:ma w m.bs.length m.aL m.next=if (eq w).1≠0 then (eq w).1 else ma w m.bs.length m.aL m.next:=by
  unfold ma
  by_cases c:(eq w).1≠0
  ·
   rw [if_pos c,if_pos c]
  ·
   rw [if_neg c,if_neg c]
 have Y:∀ {ay:aa} {l l':List I},(aN (aS H1 (.cells l 87 true true)).2 H1.next (.cells l' 87 true true))=ay -> Fr H1 ay:=fun h=>by rw [<- h]; exact (Fr.alloc _ _).set (Nat.le_refl _) _
 by_cases c:(eq w).1≠0
 ·
  rw [if_pos c] at iC
  rw [iC,if_pos c] at ab
  simp (disch:=(refine am ?_; first | decide | omega)) only [go_sem,c,a2 tH]
  generalize qE:(aN (aS H1 (.cells _ 87 true true)).2 H1.next (.cells _ 87 true true))=ay
  exact .inl (ab _ _ _ (p4.bad _) ((mD.b3 (Y qE)).ed af _) ((eu.trans (cO.fr (Y qE))).ed (by omega) _))
 ·
  simp (disch:=(refine am ?_; first | decide | omega)) only [go_sem,c]
  generalize qE:(aN (aS H1 (.cells _ 87 true true)).2 H1.next (.cells _ 87 true true))=ay
  have tI:=Y qE
  have o6:=mD.b3 tI
  have iM:=eu.trans (cO.fr (F:=F) tI)
  have ck:=(tI.get _ (by omega)).trans tH
  have Ah:H1.next≤ay.next:=tI.1
  refine O8 o6 hw (Decidable.not_not.1 c) (fun dn dT kz kE=> ?_) (fun dn dT af7 kz kE=> ?_)
  ·
   rw [if_pos dn] at ab
   have kH:=(kE.old _ (by omega) af).trans ck
   simp (disch:=(refine am ?_; decide)) only [go_sem,a2 kH]
   exact .inl (ab _ _ _ (p4.bad _) (kz.ed af _) ((iM.trans kE).ed (by omega) _))
  ·
   rw [if_neg (fun h=>h dn)] at ab
   have kH:=(kE.old _ (by omega) af).trans ck
   simp (disch:=(refine am ?_; decide)) only [go_sem,a2 kH]
   exact .inl (ab _ _ _ (p4.bad 0) (kz.ed (fun h=>(kE.new _ h).elim af fun h=>by omega) _) ((iM.trans kE).ed (by omega) _))
end
end
end Go.az
namespace Go.az
open Go.Proofs
noncomputable section
set_option maxRecDepth 100000
theorem G4 {x:List UInt8} (h:zeros x=true) (R:x.length=64):x=List.replicate 64 0:=by
 unfold zeros at h
 rw [List.eq_replicate_iff]
 exact ⟨R,fun b U=>eq_of_beq (List.all_eq_true.1 h b U)⟩
def Ai (bs:List (List UInt8)) (rs:List Rec):Prop:=∀r∈rs,1≤r.aX /\ 0≤r.fr /\ (r.zs=false -> (r.data.length:Int)=r.aX * 64) /\ ∀j:Nat,(j:Int) < r.aX -> hy r j=bs.getD (r.fr.toNat + j) []
theorem HF {bs:List (List UInt8)} {n:Nat} {l:List Int} (ah:∀x∈l,0≤x /\ x < n) (ar:n≤1000) (U:bs.length=n) (dq:∀x∈bs,x.length=64) (af:l.Pairwise (· < ·)):∀k,k≤l.length -> Ai bs (mv bs l k)
 | 0,_=>fun r af=>(by cases af)
 | k + 1,ab=>by
  have aH:=HF ah ar U dq af k (by omega)
  have aZ:=Ct ah ar U dq af k (by omega)
  have aF:k < l.length:=by omega
  have R:=ah _ (List.getElem_mem aF)
  have dn:l.getD k 0=l[k]:=d6 aF
  unfold mv
  rw [dn]
  generalize mv bs l k=rs at aH aZ
  have c5:l[k].toNat < bs.length:=by omega
  have kZ:(bs.getD l[k].toNat []).length=64:=by rw [d6 c5]; exact dq _ (List.getElem_mem c5)
  obtain ⟨x,u3⟩:∃x,bs.getD l[k].toNat []=x:=⟨_,rfl⟩
  rw [u3] at kZ ⊢
  have new:Ai bs (rs ++ [⟨l[k],1,zeros x,if zeros x then [] else x⟩]):=fun r af=>by
   rcases List.mem_append.1 af with af | af
   ·
    exact aH r af
   ·
    rw [List.mem_singleton] at af
    subst af
    refine ⟨by show (1:Int)≤1; decide,R.1,fun ai=> ?_,fun j ax=> ?_⟩
    ·
     have ai:zeros x=false:=ai
     show ((if zeros x then [] else x).length:Int)=1 * 64
     rw [ai,if_neg (by decide),kZ]; rfl
    ·
     have ax:(j:Int) < 1:=ax
     obtain rfl:j=0:=by omega
     show hy ⟨l[k],1,zeros x,_⟩ 0=bs.getD (l[k].toNat + 0) []
     rw [Nat.add_zero,u3]
     unfold hy
     cases ai:zeros x with
     | true=>exact (G4 ai kZ).symm
     | false=>
      show (List.drop (0 * 64) x).take 64=x
      rw [Nat.zero_mul,List.drop_zero,List.take_of_length_le (by omega)]
  unfold gU
  cases o7:rs[rs.length - 1]? with
  | none=>exact new
  | some r=>
   obtain ⟨g1,iz⟩:=aZ.AR r o7
   have ax:rs.length - 1 < rs.length:=(List.getElem?_eq_some_iff.1 o7).1
   have n1:r∈rs:=List.mem_of_getElem? o7
   obtain ⟨i1,i2,i3,i4⟩:=aH r n1
   show Ai bs (if (!(!decide (jq l k)) && (r.zs==zeros x))=true then rs.set (rs.length - 1) { r with aX:=r.aX + 1,data:=r.data ++ (if zeros x then [] else x)} else rs ++ [⟨l[k],1,zeros x,if zeros x then [] else x⟩])
   rw [Bool.not_not]
   by_cases V:(decide (jq l k) && (r.zs==zeros x))=true
   ·
    rw [if_pos V]
    rw [Bool.and_eq_true,decide_eq_true_eq] at V
    obtain ⟨a4,ai⟩:=V
    have ai:zeros x=r.zs:=(eq_of_beq ai).symm
    have afB:l[k]=r.fr + r.aX:=by rw [iz,<- dn]; exact a4.2.2
    intro q aB
    rcases List.mem_or_eq_of_mem_set aB with aB | rfl
    ·
     exact aH q aB
    ·
     refine ⟨by show 1≤r.aX + 1; omega,i2,fun ig=> ?_,fun j ax=> ?_⟩
     ·
      have ig:r.zs=false:=ig
      show ((r.data ++ (if zeros x then [] else x)).length:Int)=(r.aX + 1) * 64
      have:=i3 ig
      rw [ai,ig,if_neg (by decide),List.length_append,kZ]
      omega
     ·
      have ax:(j:Int) < r.aX + 1:=ax
      show hy ⟨r.fr,r.aX + 1,r.zs,r.data ++ (if zeros x then [] else x)⟩ j=bs.getD (r.fr.toNat + j) []
      unfold hy
      cases xH:r.zs with
      | true=>
       rw [xH] at ai
       by_cases qg:(j:Int) < r.aX
       ·
        have:=i4 j qg
        unfold hy at this
        rw [xH] at this
        exact this
       ·
        rw [show r.fr.toNat + j=l[k].toNat by omega,u3]
        exact (G4 ai kZ).symm
      | false=>
       rw [xH] at ai
       have ag:=i3 xH
       rw [ai]
       show ((r.data ++ x).drop (j * 64)).take 64=_
       by_cases qg:(j:Int) < r.aX
       ·
        have:=i4 j qg
        unfold hy at this
        rw [xH] at this
        rw [List.drop_append_of_le_length (by omega),List.take_append_of_le_length (by rw [List.length_drop]; omega)]
        exact this
       ·
        rw [show r.fr.toNat + j=l[k].toNat by omega,u3,show j * 64=r.data.length by omega,List.drop_left,List.take_of_length_le (by omega)]
   ·
    rw [if_neg V]; exact new
theorem BX (l:List (List UInt8)) (i j:Nat) (v:List UInt8) (ad:i < l.length):(l.set i v).getD j []=if j=i then v else l.getD j []:=by
 rw [List.getD_eq_getElem?_getD,List.getElem?_set,List.getD_eq_getElem?_getD]
 by_cases h:i=j
 ·
  subst h
  rw [if_pos rfl,if_pos ad,if_pos rfl]; rfl
 ·
  rw [if_neg h,if_neg (fun e=>h e.symm)]
structure m7 (bs py:List (List UInt8)) (n:Nat) (i1:Int) (d8:List (List UInt8)) (mE:Nat -> Prop) (st:kF):Prop where
 l:st.1.length=n
 s:∃w,st.2= [⟨i1,d8,w⟩] /\ w.length=n /\ ∀x,x < n -> (w.getD x false=true↔mE x)
 y:∀x,x < n -> mE x -> st.1.getD x []=bs.getD x []
 o:∀x,x < n -> ¬mE x -> st.1.getD x []=py.getD x []
theorem m7.one {bs py:List (List UInt8)} {n:Nat} {i1:Int} {d8:List (List UInt8)} {mE:Nat -> Prop} {st:kF} (h:m7 bs py n i1 d8 mE st) {r:Rec} (aD:0≤r.fr) (ar:r.fr + r.aX≤n) (U:∀j:Nat,(j:Int) < r.aX -> hy r j=bs.getD (r.fr.toNat + j) []):
 ∀k:Nat,(k:Int)≤r.aX -> m7 bs py n i1 d8 (fun x=>mE x∨(r.fr.toNat≤x /\ x < r.fr.toNat + k)) (h' st r k)
 | 0,_=>⟨h.l,by
  obtain ⟨w,e,hw,V⟩:=h.s
  exact ⟨w,e,hw,fun x R=>(V x R).trans ⟨.inl,fun h=>h.elim id fun h=>by omega⟩⟩,fun x R V=>h.y x R (V.elim id fun h=>by omega),fun x R V=>h.o x R fun h=>V (.inl h)⟩
 | k + 1,ab=>by
  have aH:=m7.one h aD ar U k (by omega)
  obtain ⟨w,e,hw,V⟩:=aH.s
  have ah:=aH.l
  have k3:r.fr.toNat + k < n:=by omega
  have xI:=U k (by omega)
  unfold h'
  refine ⟨by show (List.set _ _ _).length=n; rw [List.length_set,ah],⟨w.set (r.fr.toNat + k) true,?_,by rw [List.length_set,hw],fun x R=> ?_⟩,fun x R o8=> ?_,fun x R o8=> ?_⟩
  ·
   show hY (h' st r k).2 (r.fr.toNat + k)=_
   rw [e]; rfl
  ·
   rw [sq _ _ _ (by omega),Bool.or_eq_true,decide_eq_true_eq,V x R]
   constructor
   ·
    rintro ((h | h) | h)
    ·
     exact .inl h
    ·
     exact .inr (by omega)
    ·
     exact .inr (by omega)
   ·
    rintro (h | h)
    ·
     exact .inl (.inl h)
    ·
     by_cases gN:x=r.fr.toNat + k
     ·
      exact .inr gN
     ·
      exact .inl (.inr (by omega))
  ·
   show ((h' st r k).1.set (r.fr.toNat + k) (hy r k)).getD x []=_
   rw [BX _ _ _ _ (by omega)]
   by_cases gN:x=r.fr.toNat + k
   ·
    rw [if_pos gN,xI,gN]
   ·
    rw [if_neg gN]
    exact aH.y x R (o8.elim .inl fun h=> .inr (by omega))
  ·
   show ((h' st r k).1.set (r.fr.toNat + k) (hy r k)).getD x []=_
   rw [BX _ _ _ _ (by omega),if_neg fun gN=>o8 (.inr (by omega))]
   exact aH.o x R fun h=>o8 (h.elim .inl fun h=> .inr (by omega))
theorem m7.pr {bs py:List (List UInt8)} {n:Nat} {i1:Int} {d8:List (List UInt8)} {mE J8:Nat -> Prop} {st:kF} (h:m7 bs py n i1 d8 mE st) (V:∀x,x < n -> (mE x↔J8 x)):m7 bs py n i1 d8 J8 st:=
 ⟨h.l,by
  obtain ⟨w,e,hw,O⟩:=h.s
  exact ⟨w,e,hw,fun x R=>(O x R).trans (V x R)⟩,fun x R aQ=>h.y x R ((V x R).2 aQ),fun x R aQ=>h.o x R fun O=>aQ ((V x R).1 O)⟩
theorem m7.all {bs py:List (List UInt8)} {n:Nat} {i1:Int} {d8:List (List UInt8)} {st:kF} (h:m7 bs py n i1 d8 (fun _=>False) st) {rs:List Rec} (af:∀r∈rs,0≤r.fr /\ r.fr + r.aX≤n) (U:Ai bs rs):
 ∀k,k≤rs.length -> m7 bs py n i1 d8 (fun x=>∃j r,j < k /\ rs[j]? =some r /\ r.fr≤(x:Int) /\ (x:Int) < r.fr + r.aX) (iu st rs k)
 | 0,_=>h.pr fun x _=>⟨fun h=>h.elim,fun ⟨j,r,h,_⟩=>absurd h (Nat.not_lt_zero _)⟩
 | k + 1,ab=>by
  have aH:=m7.all h af U k (by omega)
  have aF:k < rs.length:=by omega
  obtain ⟨bI,bN⟩:=af _ (List.getElem_mem aF)
  obtain ⟨afC,gQ,_,aeN⟩:=U _ (List.getElem_mem aF)
  unfold iu
  rw [d6 aF]
  refine (aH.one bI bN aeN rs[k].aX.toNat (by omega)).pr fun x R=> ?_
  constructor
  ·
   rintro (⟨j,r,J,O⟩ | ⟨J,O⟩)
   ·
    exact ⟨j,r,by omega,O⟩
   ·
    exact ⟨k,rs[k],by omega,List.getElem?_eq_getElem aF,by omega,by omega⟩
  ·
   rintro ⟨j,r,J,O,ag,aP⟩
   by_cases ax:j < k
   ·
    exact .inl ⟨j,r,ax,O,ag,aP⟩
   ·
    obtain rfl:j=k:=by omega
    rw [List.getElem?_eq_getElem aF] at O
    cases O
    exact .inr ⟨by omega,by omega⟩
structure tJ (m:cu) (n:Nat) (w:List Bool):Prop where
 ok:m.ok
 bg:m.bs.length=n
 aL:m.aL= [⟨1,bO n,w⟩]
 nx:m.next=2
 wl:w.length=n
 tK:∀x,x < n -> w.getD x false=false -> m.bs.getD x []=List.replicate 64 0
theorem tJ.wr {m:cu} {n:Nat} {w:List Bool} (h:tJ m n w) {b:Int} {d:List UInt8} (hC:(jZ m b d).2.ok):(jZ m b d=(bad 1,m))∨(0≤b /\ b < n /\ ∃bY,jZ m b d=(bad 0,bY) /\ tJ bY n (w.set b.toNat true)):=by
 unfold jZ at hC ⊢
 by_cases c:d.length=64 /\ hasB m b
 ·
  rw [if_pos c] at hC ⊢
  obtain ⟨_,b1,bV⟩:=c
  rw [h.bg] at bV
  have ah:=h.bg
  refine .inr ⟨b1,bV,_,rfl,hC,by show (List.set _ _ _).length=n; rw [List.length_set,h.bg],?_,h.nx,by rw [List.length_set,h.wl],fun x R hw=> ?_⟩
  ·
   show hY m.aL b.toNat=_
   rw [h.aL]; rfl
  ·
   rw [sq _ _ _ (by rw [h.wl]; omega),Bool.or_eq_false_iff,decide_eq_false_iff_not] at hw
   show (m.bs.set b.toNat d).getD x []=_
   rw [BX _ _ _ _ (by omega),if_neg hw.2]
   exact h.tK x R hw.1
 ·
  rw [if_neg c]; exact .inl rfl
theorem tJ.fin {m:cu} {n:Nat} {w:List Bool} (h:tJ m n w) (ar:1≤n /\ n≤16) (dq:∀x∈m.bs,x.length=64):
 ∃bY st q,gV m ⟨5,0,0,0,0,[]⟩=(([],2,0),bY) /\ bY.ok /\ bY.bs=m.bs /\ gV bY ⟨10,0,0,2,1,[]⟩=((gm st,0,0),bY) /\ (gm st).length≤600000 /\ gm st≠ [] /\
  pP ⟨bO n,[⟨1,bO n,List.replicate n false⟩],2⟩ (gm st)=(bad 0,q) /\ q.bs=m.bs /\ ∃z,q.aL[0]? =some z /\ z.w=w:=by
 have c5:=h.bg
 have hC:=wa (x:=⟨5,0,0,0,0,[]⟩) h.ok (by decide)
 have es:gV m ⟨5,0,0,0,0,[]⟩=(([],2,0),⟨m.bs,[⟨1,bO n,w⟩,⟨2,m.bs,List.replicate n false⟩],3⟩):=by
  show lB m=_
  unfold lB
  rw [if_neg (by rw [h.aL,h.nx]; show ¬(8≤1∨(1000000:Int) < 2); decide),h.nx,h.bg,h.aL]; rfl
 rw [es] at hC
 obtain ⟨bc,a9,bt,gC⟩:=BH [⟨1,bO n,w⟩,⟨2,m.bs,List.replicate n false⟩] 0 1 n
 obtain ⟨a8,bk⟩:=HG (s:=⟨2,m.bs,List.replicate n false⟩) (base:=1) (id:=2) ⟨ar.1,by omega⟩ c5 dq a9 bt bc (by decide) (.inr (by decide))
 obtain ⟨cg,cn,bW,fb⟩:=BY (s:=⟨2,m.bs,List.replicate n false⟩) (base:=1) (id:=2) ⟨ar.1,by omega⟩ c5 dq a9 bc (by decide) (.inr (by decide))
 obtain ⟨hq,jJ⟩:=vU (s:=⟨2,m.bs,List.replicate n false⟩) (base:=1) (id:=2) (n:=n) (by omega) bt a9 dq
 have Eo:=HF a9 (by omega) c5 dq bc _ (Nat.le_refl _)
 have e':(gk n 1 2 ⟨2,m.bs,List.replicate n false⟩ (iA [⟨1,bO n,w⟩,⟨2,m.bs,List.replicate n false⟩] 0 1 n)).aV=_:=Bq (bs:=m.bs) a9 (by omega) _ (Nat.le_refl _)
 rw [<- e'] at Eo
 have he:gV ⟨m.bs,[⟨1,bO n,w⟩,⟨2,m.bs,List.replicate n false⟩],3⟩ ⟨10,0,0,2,1,[]⟩=((gm (gk n 1 2 ⟨2,m.bs,List.replicate n false⟩ (iA [⟨1,bO n,w⟩,⟨2,m.bs,List.replicate n false⟩] 0 1 n)),0,0),⟨m.bs,[⟨1,bO n,w⟩,⟨2,m.bs,List.replicate n false⟩],3⟩):=by
  show (sC ⟨m.bs,[⟨1,bO n,w⟩,⟨2,m.bs,List.replicate n false⟩],3⟩ 1 2,_)=_
  have ex:oI m.bs.length [⟨1,bO n,w⟩,⟨2,m.bs,List.replicate n false⟩] 1 2=(gm (gk n 1 2 ⟨2,m.bs,List.replicate n false⟩ (iA [⟨1,bO n,w⟩,⟨2,m.bs,List.replicate n false⟩] 0 1 n)),0):=by
   unfold oI
   rw [show hl [⟨1,bO n,w⟩,⟨2,m.bs,List.replicate n false⟩] 2=1 from rfl,show hl [⟨1,bO n,w⟩,⟨2,m.bs,List.replicate n false⟩] 1=0 from rfl,if_neg (by decide),if_neg (by decide),h.bg]
   show nM (gk n 1 2 ⟨2,m.bs,List.replicate n false⟩ (sP [⟨1,bO n,w⟩,⟨2,m.bs,List.replicate n false⟩] ⟨2,m.bs,List.replicate n false⟩ n 1 0 1))=_
   have:sP [⟨1,bO n,w⟩,⟨2,m.bs,List.replicate n false⟩] ⟨2,m.bs,List.replicate n false⟩ n 1 0 1=iA [⟨1,bO n,w⟩,⟨2,m.bs,List.replicate n false⟩] 0 1 n:=if_neg (by decide)
   rw [this,a8]
  unfold sC
  rw [show (⟨m.bs,[⟨1,bO n,w⟩,⟨2,m.bs,List.replicate n false⟩],3⟩:cu).bs=m.bs from rfl,show (⟨m.bs,[⟨1,bO n,w⟩,⟨2,m.bs,List.replicate n false⟩],3⟩:cu).aL= [⟨1,bO n,w⟩,⟨2,m.bs,List.replicate n false⟩] from rfl,ex]
  rfl
 have Ep:∀x,rk [⟨1,bO n,w⟩,⟨2,m.bs,List.replicate n false⟩] 0 x (1 - Int.toNat 0)=w.getD x false:=fun x=>by
  show (decide ((0:Int) < 0) || w.getD x false)=_
  rw [decide_eq_false (by decide),Bool.false_or]
 generalize cq:gk n 1 2 ⟨2,m.bs,List.replicate n false⟩ (iA [⟨1,bO n,w⟩,⟨2,m.bs,List.replicate n false⟩] 0 1 n)=st at a8 bk cg cn bW fb hq jJ Eo he
 have kx:st.blocks=n:=by rw [<- cq]; rfl
 have jB:st.base=1:=by rw [<- cq]; rfl
 have rX:st.id=2:=by rw [<- cq]; rfl
 have Er:m7 m.bs (bO n) n 1 (bO n) (fun _=>False) (bO n,[⟨1,bO n,List.replicate n false⟩]):=⟨List.length_replicate,⟨_,rfl,List.length_replicate,fun x R=>⟨fun h=>(by rw [List.getD_eq_getElem?_getD,List.getElem?_replicate,if_pos R] at h; cases h),fun h=>h.elim⟩⟩,fun x _ h=>h.elim,fun x _ _=>rfl⟩
 have c':=Er.all (fun r af=>⟨(bW r af).2.1,(bW r af).2.2⟩) Eo _ (Nat.le_refl _)
 have mE:∀x,x < n -> ((∃j r,j < st.aV.length /\ st.aV[j]? =some r /\ r.fr≤(x:Int) /\ (x:Int) < r.fr + r.aX)↔w.getD x false=true):=fun x R=>by
  rw [<- Ep x]
  have J:=gC x
  have O:=fb x
  constructor
  ·
   rintro ⟨j,r,_,ax,ag,aP⟩
   exact (J.1 (O.1 ⟨r,List.mem_of_getElem? ax,ag,aP⟩)).2
  ·
   intro aM
   obtain ⟨r,af,ag,aP⟩:=O.2 (J.2 ⟨R,aM⟩)
   obtain ⟨j,ax,rfl⟩:=List.getElem_of_mem af
   exact ⟨j,_,ax,List.getElem?_eq_getElem ax,ag,aP⟩
 obtain ⟨w',aeO,o9,KO⟩:=c'.s
 have tc:w'=w:=by
  refine List.ext_getElem (o9.trans h.wl.symm) fun x J O=> ?_
  have:=(KO x (by omega)).trans (mE x (by omega))
  rw [d6 J,d6 O] at this
  cases a:w'[x] <;> cases b:w[x] <;> rw [a,b] at this <;> first | rfl | (have:=this.1 rfl; cases this) | (have:=this.2 rfl; cases this)
 have j0:(iu (bO n,[⟨1,bO n,List.replicate n false⟩]) st.aV st.aV.length).1=m.bs:=by
  refine List.ext_getElem (c'.l.trans c5.symm) fun x J O=> ?_
  have R:x < n:=by omega
  have c3:∀ {l:List (List UInt8)} (ah:x < l.length),l[x]=l.getD x []:=fun ah=>(d6 ah).symm
  rw [c3 J,c3 O]
  by_cases V:w.getD x false=true
  ·
   exact c'.y x R ((mE x R).2 V)
  ·
   rw [c'.o x R fun h=>V ((mE x R).1 h),h.tK x R (by simpa using V)]
   unfold bO
   rw [List.getD_eq_getElem?_getD,List.getElem?_replicate,if_pos R]; rfl
 have hlen:0 < (gm st).length:=by
  unfold gm
  rw [List.flatten_cons,List.length_append]
  unfold gJ
  rw [List.length_append,yS]
  omega
 refine ⟨_,st,⟨m.bs,[⟨1,bO n,w⟩] ++ [⟨2,m.bs,List.replicate n false⟩],3⟩,es,hC,rfl,he,?_,fun e=>by rw [e] at hlen; exact absurd hlen (Nat.lt_irrefl _),?_,rfl,_,rfl,rfl⟩
 ·
  have aD:=vY (fun r af=>(jJ r af).1) _ (Nat.le_refl st.aV.length)
  unfold gm
  rw [List.flatten_cons,List.flatten_cons,List.flatten_cons,List.flatten_nil,List.append_nil,List.length_append,List.length_append,eX]
  show _ + (1 + 8)≤_
  omega
 ·
  have acG:ma (gm st) (bO n).length [⟨1,bO n,List.replicate n false⟩] 2=0:=by
   unfold ma
   rw [bk,if_neg (fun h=>h rfl),kx,jB,rX,if_neg (fun h=>h (by unfold bO; rw [List.length_replicate]))]
   have U:wX [⟨1,bO n,List.replicate n false⟩] 1=true:=by
    rw [G3]
    have ae:uP [⟨1,bO n,List.replicate n false⟩]=false:=KJ fun k ab=>by
     rw [List.length_replicate] at ab
     rw [List.getD_eq_getElem?_getD,List.getElem?_replicate,if_pos ab]; rfl
    rw [ae,Bool.or_false,decide_eq_false fun h=>h.elim (fun h=>absurd h.1 (by decide)) fun h=>h.2 _ rfl rfl]; rfl
   rw [U,if_neg (by decide)]; rfl
  have aG:lw (gm st) (bO n) [⟨1,bO n,List.replicate n false⟩]=(m.bs,[⟨1,bO n,w⟩]):=by
   unfold lw
   rw [bk,jB,if_neg (by decide)]
   exact Prod.ext j0 (by rw [aeO,tc])
  unfold pP
  dsimp only
  rw [acG,if_neg (fun h=>h rfl),aG,bk,rX,show (bO n).length=n from List.length_replicate]; rfl
end
end Go.az
namespace Go.az
open Go.Proofs
noncomputable section
set_option maxRecDepth 100000
theorem acH:bE.fn 4=some Try.f4:=by kernel_rfl
theorem Je {b t:Nat} (bh:t < 16):e9 (.array 16 4) aq (.ptr b 0) t=some (.ptr b t):=by
 show ap (Nat.blt t 16) (some (I.ptr b (0 + t * au aq 4))) none=_
 rw [(cZ _ _).2 bh,uO,Nat.zero_add,Nat.mul_one]; rfl
theorem Vm {H:aa} {c b:Nat} {wr:List Bool} (a4:H.m.get c=some (.cells (wr.map et) 51 true true)) (U:b < wr.length):bT H c b [.bool true]=some (aN H c (.cells ((wr.set b true).map et) 51 true true)):=by
 rw [g4,a4]
 show hi H c b [.bool true] (.cells (wr.map et) 51 true true)=_
 rw [hM,kP (by rw [List.length_map]; exact U),List.map_set]; rfl
theorem O9 {H:aa} {x:k6} (R:x.data.length≤140737488351232):∃v ay dT,cJ aq (aS (aN (aS H (bf.cells [I.int .i64 0,.int .i64 0,.int .i64 0,.int .i64 0,.int .i64 0,.aE] 34 true true)).2 H.next (bf.cells [.int .i64 x.kind,.int .i64 x.block,.int .i64 x.size,.int .i64 x.id,.int .i64 x.base,.aJ 1 (x.data.map aI)] 34 true true)) (.cells [] 5 true true)).2 5 (.slice (H.next + 1) 0 0 (.ex 0)) x.data.length (a3 (x.data.map aI))=some (v,ay) /\
 dW ay 1 (.ptr H.next 5) v=some (.undef,dT) /\ dT.m.get H.next=some (.cells [.int .i64 x.kind,.int .i64 x.block,.int .i64 x.size,.int .i64 x.id,.int .i64 x.base,v] 34 true true) /\ b2 v=true /\ Fr H dT /\ j6 dT v x.data /\ H.next < dT.next:=by
 have il:Fr H (aN (aS H (bf.cells [I.int .i64 0,.int .i64 0,.int .i64 0,.int .i64 0,.int .i64 0,.aE] 34 true true)).2 H.next (bf.cells [.int .i64 x.kind,.int .i64 x.block,.int .i64 x.size,.int .i64 x.id,.int .i64 x.base,.aJ 1 (x.data.map aI)] 34 true true)):=(Fr.alloc _ _).set (Nat.le_refl _) _
 obtain ⟨v,ay,J,O,ag,aP⟩:=Vn (H:=aN (aS H (bf.cells [I.int .i64 0,.int .i64 0,.int .i64 0,.int .i64 0,.int .i64 0,.aE] 34 true true)).2 H.next (bf.cells [.int .i64 x.kind,.int .i64 x.block,.int .i64 x.size,.int .i64 x.id,.int .i64 x.base,.aJ 1 (x.data.map aI)] 34 true true)) R
 have a4:ay.m.get H.next=some (.cells [.int .i64 x.kind,.int .i64 x.block,.int .i64 x.size,.int .i64 x.id,.int .i64 x.base,.aJ 1 (x.data.map aI)] 34 true true):=by
  rw [O.2 H.next (Nat.lt_succ_self _)]; exact gj
 have aC:=ag.one
 refine ⟨v,ay,_,by rw [eY]; exact J,?_,gj,aC,(il.trans O).set (Nat.le_refl _) _,?_,Nat.lt_of_lt_of_le (Nat.lt_succ_self _) O.1⟩
 ·
  rw [l8 (eo aC),g4,a4]
  show (hi ay H.next 5 [v] (.cells [.int .i64 x.kind,.int .i64 x.block,.int .i64 x.size,.int .i64 x.id,.int .i64 x.base,.aJ 1 (x.data.map aI)] 34 true true)).omap _=_
  have ao:br [v]=true:=by rw [eb,aC]; rfl
  rw [hM,ao,kP (by show 5 < 6; decide)]; rfl
 ·
  rcases ag with rfl | ⟨b,z,rfl,U,aF⟩
  ·
   exact .inl rfl
  ·
   refine .inr ⟨b,z,rfl,?_,aF⟩
   rw [cY (aP H.next (Nat.lt_succ_self _) _ _ _ rfl)]; exact U
theorem dN.Vo {H:aa} {p:Nat} {bs:List (List UInt8)} {zs:List lX} {next:Int} {bv aA:I} (h:dN H p bs zs next bv aA) {i:Nat} (ad:i < bs.length):bA H (aY bv) (i * 64) 64=some (bs[i].map aI):=by
 obtain ⟨x,R,_⟩:=h.b.ty h.n.1
 have hle:(i + 1) * 64≤bs.length * 64:=Nat.mul_le_mul_right _ ad
 rw [(a2 R).2.2.1]
 show cG 64 (co (i * 64) (a3 (bs.map bL)))=_
 rw [dz,fL,if_pos (by rw [List.length_drop,wC h.bg]; omega),Xe h.bg ad]
set_option maxHeartbeats 4000000 in
theorem aaf {blocks:UInt8} {l:List k6} (ah:l.length < 9223372036854775807) (aw:∀x∈l,x.data.length≤140737488351232):Call (.func 4 [] []) [.int .u8 blocks.toNat,.aJ 6 (l.map sW)] mw fun v _=>v= .bool true:=by
 have afD:blocks.toNat < 256:=blocks.toNat_lt
 obtain ⟨n,ar⟩:∃n:Nat,n=1 + blocks.toNat % 16:=⟨_,rfl⟩
 have Es:1≤n /\ n≤16:=by omega
 have dE:bG .i64 ((blocks.toNat:Nat):Int)=(blocks.toNat:Nat):=wrap_i64 (by omega) (by omega)
 refine bR (N:=227) rfl acH rfl rfl rfl rfl rfl fun bC=> ?_
 have af:hg .rem .i64 ((blocks.toNat:Nat):Int) (.int .i64 16)=some (.int .i64 ((blocks.toNat % 16:Nat):Int)):=Xh blocks.toNat 16 (by decide)
 have k7:bG .i64 (1 + ((blocks.toNat % 16:Nat):Int))=(n:Int):=by rw [wrap_i64 (by omega) (by omega)]; omega
 simp (disch:=(refine am ?_; decide)) only [go_sem,dE,af,k7]
 refine Xi (fun h=>absurd h (by omega)) (fun k ab bc a9 H1 bv bo f1 Ae=> ?_)
 obtain rfl:k=n:=by omega
 simp (disch:=(refine am ?_; decide)) only [go_sem]
 refine Xj (by simpa using ah) (fun x R=>by have:=aw x R; omega) (fun b afe=> ?_)
 cases b with
 | false=>
  simp (disch:=(refine am ?_; decide)) only [go_sem]
  refine Gi rfl ?_
  simp (disch:=(refine am ?_; decide)) only [go_sem]
  exact .inl rfl
 | true=>
 simp (disch:=(refine am ?_; decide)) only [go_sem]
 have Aj:iD H1 (mw.next + 1) ⟨bO k,[],1⟩ (fE (mw.next + 1) bv .aE []):=⟨[],bv,.aE,bo,rfl,rfl⟩
 have Et:cu.ok ⟨bO k,[],1⟩:=⟨List.Pairwise.nil,fun x R=>(by cases R),⟨by show (1:Int)≤1; decide,by show (1:Int)≤1000001; decide⟩⟩
 have gf:(bO k).length=k:=List.length_replicate
 refine zV (x:=⟨5,0,0,0,0,[]⟩) (dv:= .aE) (by first | exact .inl rfl | exact .inr (.inl rfl) | exact .inr (.inr (.inl rfl)) | exact .inr (.inr (.inr (.inl rfl))) | exact .inr (.inr (.inr (.inr rfl)))) Aj Et rfl (fun h=>absurd h (by decide)) (by decide) fun v ay px ak ie iM=> ?_
 have a8:gV ⟨bO k,[],1⟩ ⟨5,0,0,0,0,[]⟩=(([],1,0),⟨bO k,[⟨1,bO k,List.replicate k false⟩],2⟩):=by
  show lB ⟨bO k,[],1⟩=_
  unfold lB
  rw [if_neg (by show ¬(8≤0∨(1000000:Int) < 1); decide)]
  show (([],1,0),(⟨bO k,[⟨1,bO k,List.replicate (bO k).length false⟩],2⟩:cu))=_
  rw [gf]
 have Eu:=wa (x:=⟨5,0,0,0,0,[]⟩) Et (by decide)
 rw [a8] at ak ie Eu
 obtain ⟨sb,rfl,jA⟩:=ak
 have aag:hh (.slice 5) aq sb=some (.int .i64 0):=by
  rcases jA with rfl | ⟨rfl,_⟩ <;> rfl
 simp (disch:=(refine am ?_; first | assumption | decide | omega | (simp only [aT,aW] <;> omega) | with_unfolding_all exact a6 rfl | with_unfolding_all exact a7 rfl)) only [go_sem,show (([],1,0):Out).2.2=0 from rfl,show (([],1,0):Out).2.1=1 from rfl]
 refine ie.blocks ?_
 simp (disch:=(refine am ?_; first | assumption | decide | omega | (simp only [aT,aW] <;> omega) | with_unfolding_all exact a6 rfl | with_unfolding_all exact a7 rfl)) only [go_sem,show (([],1,0):Out).2.2=0 from rfl,show (([],1,0):Out).2.1=1 from rfl,aag,List.length_map,gf]
 have Fx:tJ ⟨bO k,[⟨1,bO k,List.replicate k false⟩],2⟩ k (List.replicate k false):=⟨Eu,gf,rfl,rfl,List.length_replicate,fun x R _=>by
  show (bO k).getD x []=_
  unfold bO
  rw [List.getD_eq_getElem?_getD,List.getElem?_replicate,if_pos R]; rfl⟩
 have acI:¬px ay.next:=fun h=>absurd (ie.L4 h) (Nat.lt_irrefl _)
 have aeP:Fr ay (aS ay (.cells (List.replicate 16 (.bool false)) 51 true true)).2:=Fr.alloc _ _
 have aeQ:(aS ay (.cells (List.replicate 16 (.bool false)) 51 true true)).2.m.get ay.next=some (.cells ((List.replicate 16 false).map et) 51 true true):=eP
 have aeR:ay.next < (aS ay (.cells (List.replicate 16 (.bool false)) 51 true true)).2.next:=Nat.lt_succ_self _
 have acJ:=ie.b3 aeP
 have aah:∀x,x < 16 -> (List.replicate 16 false).getD x false=(List.replicate k false).getD x false:=fun x R=>by
  rw [List.getD_eq_getElem?_getD,List.getElem?_replicate,List.getD_eq_getElem?_getD,List.getElem?_replicate,if_pos R]
  by_cases h:x < k
  ·
   rw [if_pos h]
  ·
   rw [if_neg h]; rfl
 clear ie iM Aj bo f1 Et Eu
 generalize ay.next=lk at *
 refine gw 87112285931760245437698079887903487680512 (by kernel_rfl) (fun r G H'=>∃(i:Nat) (m:cu) (F:Nat -> Prop) (wr w:List Bool),i≤l.length /\ r=l.length - i /\ G.get 13=some (.int .i64 (i:Int)) /\ iD H' (mw.next + 1) m F /\ tJ m k w /\ wr.length=16 /\ (∀x,x < 16 -> wr.getD x false=w.getD x false) /\ ¬F lk /\ lk < H'.next /\ H'.m.get lk=some (.cells (wr.map et) 51 true true)) l.length
  ⟨0,_,px,List.replicate 16 false,_,Nat.zero_le _,(Nat.sub_zero _).symm,(by simp (disch:=(refine am ?_; first | assumption | decide | omega | (simp only [aT,aW] <;> omega) | with_unfolding_all exact a6 rfl | with_unfolding_all exact a7 rfl)) only [go_sem]; first | done | rfl),acJ,Fx,List.length_replicate,aah,acI,aeR,aeQ⟩ ?_
 rintro r G H' aZ ⟨i,m,F,wr,w,ad,rfl,u4,u5,l0,mF,tc,xd,u6,Ev⟩
 by_cases aF:i < l.length
 ·
  have o_:=aw _ (List.getElem_mem aF)
  obtain ⟨⟨kind,block,size,id,base,data⟩,R⟩:∃x,l[i]=x:=⟨_,rfl⟩
  rw [R] at o_
  have rY:lk≠H'.next:=Nat.ne_of_lt u6
  by_cases ab:kind=1∨kind=2∨kind=3
  case neg=>
   have hU:¬kind=1:=fun h=>ab (.inl h)
   have oo:¬kind=2:=fun h=>ab (.inr (.inl h))
   have pu:¬kind=3:=fun h=>ab (.inr (.inr h))
   simp (disch:=(refine am ?_; first | assumption | decide | omega)) only [go_sem,u4,aZ,List.length_map,fh,R,hU,oo,pu]
   refine ⟨_,by omega,i + 1,m,F,wr,w,aF,rfl,?_,u5.b3 ((Fr.alloc _ _).set (Nat.le_refl _) _),l0,mF,tc,xd,Ev⟩
   rw [wrap_i64 (by omega) (by omega)]; rfl
  have acK:¬F H'.next:=fun h=>absurd (u5.L4 h) (Nat.lt_irrefl _)
  rcases ab with rfl | rfl | rfl
  all_goals
   simp (disch:=(refine am ?_; first | assumption | decide | omega | (simp only [aT,aW] <;> omega) | assumption)) only [go_sem,u4,aZ,List.length_map,fh,R]
   obtain ⟨v,ay,c_,J,O,ag,aP,bH,eC,fd⟩:=O9 (H:=H') (x:=⟨_,block,size,id,base,data⟩) o_
   rw [J]
   simp (disch:=(refine am ?_; first | assumption | decide | omega | (simp only [aT,aW] <;> omega) | with_unfolding_all exact a6 rfl | with_unfolding_all exact a7 rfl)) only [go_sem,O,ag,eo aP,aP,aZ]
   refine zV (x:=⟨_,block,size,id,base,data⟩) (dv:=v) (by first | exact .inl rfl | exact .inr (.inl rfl) | exact .inr (.inr (.inl rfl)) | exact .inr (.inr (.inr (.inl rfl))) | exact .inr (.inr (.inr (.inr rfl)))) (u5.b3 bH) l0.ok aP (fun _=>eC) o_ fun pz fc vC ak pa pw=> ?_
   have b6:=(pw.old _ fd acK).trans ag
   have xJ:=(pw.old _ (Nat.lt_of_lt_of_le u6 bH.1) xd).trans ((bH.2 _ u6).trans Ev)
   have f85:¬vC lk:=fun h=>(pw.new _ h).elim xd fun h=>by have:=bH.1; omega
   have Ew:=Nat.lt_of_lt_of_le (Nat.lt_of_lt_of_le u6 bH.1) pw.nx
   have DG:=wa (x:=⟨_,block,size,id,base,data⟩) l0.ok o_
   obtain ⟨q,rfl,aB⟩:=ak
  ·
   by_cases dn:(gV m ⟨1,block,size,id,base,data⟩).1.2.2=0
   all_goals
    simp (disch:=(refine am ?_; first | assumption | decide | omega | (simp only [aT,aW] <;> omega) | with_unfolding_all exact a6 rfl | with_unfolding_all exact a7 rfl)) only [go_sem,aZ,u4,a2 b6,dn]
    refine ⟨_,by omega,i + 1,m,vC,wr,w,aF,rfl,?_,pa,l0,mF,tc,f85,Ew,xJ⟩
    rw [wrap_i64 (by omega) (by omega)]; rfl
  all_goals
   first
   | (
    obtain ⟨d,qh⟩:∃d,gV m ⟨2,block,size,id,base,data⟩=jZ m block d:=⟨data,rfl⟩
    rw [qh] at pa DG ⊢)
   | (
    obtain ⟨d,qh⟩:∃d,gV m ⟨3,block,size,id,base,data⟩=jZ m block d:=⟨List.replicate 64 0,rfl⟩
    rw [qh] at pa DG ⊢)
   rcases l0.wr DG with yh | ⟨b1,bV,bY,yh,acL⟩
   ·
    rw [yh]
    rw [yh] at pa
    simp (disch:=(refine am ?_; first | assumption | decide | omega | (simp only [aT,aW] <;> omega) | with_unfolding_all exact a6 rfl | with_unfolding_all exact a7 rfl)) only [go_sem,aZ,u4,a2 b6,show (bad 1).2.2=1 from rfl]
    refine ⟨_,by omega,i + 1,m,vC,wr,w,aF,rfl,?_,pa,l0,mF,tc,f85,Ew,xJ⟩
    rw [wrap_i64 (by omega) (by omega)]; rfl
   ·
    rw [yh]
    rw [yh] at pa
    obtain ⟨b,rfl⟩:=Int.eq_ofNat_of_zero_le b1
    have aai:b < 16:=by omega
    have cq:dW fc 1 (.ptr lk b) (.bool true)=some (.undef,aN fc lk (.cells ((wr.set b true).map et) 51 true true)):=by
     rw [l8 rfl,Vm xJ (by omega)]; rfl
    simp (disch:=(refine am ?_; first | assumption | decide)) only [go_sem,aZ,u4,a2 b6,show (bad 0).2.2=0 from rfl,Je aai,cq]
    refine ⟨_,by omega,i + 1,bY,vC,wr.set b true,w.set b true,aF,rfl,?_,pa.ed f85 _,acL,by rw [List.length_set]; exact mF,fun x R=> ?_,f85,Ew,rfl⟩
    ·
     rw [wrap_i64 (by omega) (by omega)]; rfl
    ·
     rw [sq _ _ _ (by omega),sq _ _ _ (by rw [l0.wl]; omega),tc x R]
 ·
  obtain rfl:i=l.length:=by omega
  simp (disch:=(refine am ?_; first | decide | omega)) only [go_sem,u4,aZ,List.length_map]
  obtain ⟨bY,st,q,fZ,acM,acN,Ak,pb,bX,himp,acO,z,qf,KP⟩:=l0.fin ⟨bc,Es.2⟩ u5.bg
  have dq:=u5.bg
  have c5:=l0.bg
  refine zV (x:=⟨5,0,0,0,0,[]⟩) (dv:= .aE) (by first | exact .inl rfl | exact .inr (.inl rfl) | exact .inr (.inr (.inl rfl)) | exact .inr (.inr (.inr (.inl rfl))) | exact .inr (.inr (.inr (.inr rfl)))) u5 l0.ok rfl (fun h=>absurd h (by decide)) (by decide) fun v fc vC ak pa pw=> ?_
  rw [fZ] at ak pa
  obtain ⟨mM,rfl,_⟩:=ak
  have xJ:=(pw.old _ u6 xd).trans Ev
  have f85:¬vC lk:=fun h=>(pw.new _ h).elim xd (fun h=>by omega)
  have KQ:=Nat.lt_of_lt_of_le u6 pw.nx
  simp (disch:=(refine am ?_; first | assumption | decide | omega | (simp only [aT,aW] <;> omega) | with_unfolding_all exact a6 rfl | with_unfolding_all exact a7 rfl)) only [go_sem,show (([],2,0):Out).2.2=0 from rfl,show (([],2,0):Out).2.1=2 from rfl,aZ]
  refine zV (x:=⟨10,0,0,2,1,[]⟩) (dv:= .aE) (by first | exact .inl rfl | exact .inr (.inl rfl) | exact .inr (.inr (.inl rfl)) | exact .inr (.inr (.inr (.inl rfl))) | exact .inr (.inr (.inr (.inr rfl)))) pa acM rfl (fun h=>absurd h (show ¬((10:Int)=2∨(10:Int)=11) by decide)) (by show 0≤_; decide) fun v nq af8 ak KR L5=> ?_
  rw [Ak] at ak KR
  obtain ⟨hq,rfl,aB⟩:=ak
  have KS:hq= .aJ 1 ((gm st).map aI):=aB.elim id fun h=>absurd h.2 bX
  subst KS
  have acP:=(L5.old _ KQ f85).trans xJ
  have KT:=Nat.lt_of_lt_of_le KQ L5.nx
  simp (disch:=(refine am ?_; first | assumption | decide | omega | (simp only [aT,aW] <;> omega) | with_unfolding_all exact a6 rfl | with_unfolding_all exact a7 rfl)) only [go_sem,show ((gm st,0,0):Out).2.2=0 from rfl,show ((gm st,0,0):Out).2.1=0 from rfl,aZ]
  refine KR.blocks ?_
  rw [acN]
  simp (disch:=(refine am ?_; decide)) only [go_sem,aZ]
  refine Xf (fun h=>absurd h (by omega)) (fun k' kA afE afF L6 acQ Al f7 afi=> ?_)
  obtain rfl:k=k':=by omega
  have acR:=(f7.2 _ KT).trans acP
  have KU:=Nat.lt_of_lt_of_le KT f7.1
  have aaj:lk < nq.next + 1:=by omega
  obtain ⟨qF,n2⟩:∃x,nq.next + 1=x:=⟨_,rfl⟩
  rw [n2] at Al aaj ⊢
  have J9:∀x∈bO k,x.length=64:=fun y aj=>by unfold bO at aj; rw [List.eq_of_mem_replicate aj,List.length_replicate]
  obtain ⟨c2,vD,ae,KG,fX⟩:=HD (E:=aq) (H:=L6) (l:=(bO k).map bL) sO (by decide) Dh (by rw [List.length_map]; omega) (kc J9) (yR (bO k))
  rw [List.length_map,gf] at ae
  have rR:=fX.own
  have dE:b2 c2=true:=rR.one
  rw [List.length_map] at rR
  obtain ⟨acS,af9⟩:=Al.J3 fX.fr rR rfl J9
  have aeS:=(fX.fr.get _ Al.lt).trans Al.m
  have cq:dW vD 1 (.ptr qF 0) c2=some (.undef,aN vD qF (.cells [c2,.aE,.int .i64 1] 46 true true)):=by
   rw [l8 (eo dE),g4,aeS]
   show (hi vD qF 0 [c2] (.cells [acQ,.aE,.int .i64 1] 46 true true)).omap _=_
   have ao:br [c2]=true:=by rw [eb,dE]; rfl
   rw [hM,ao,kP (by show 0 < 3; decide)]; rfl
  simp (disch:=(refine am ?_; first | assumption | decide | omega | (simp only [aT,aW] <;> omega) | with_unfolding_all exact a6 rfl | with_unfolding_all exact a7 rfl)) only [go_sem,aZ,c5,List.length_map,gf,ae,eo dE,dE,cq]
  have DH:gy _ qF ⟨bO k,[],1⟩ _:=⟨[],c2,.aE,acS,rfl,rfl⟩
  have f9:¬gd qF c2 .aE [] lk:=by
   have mC:=rR.2
   rintro (h | h | ⟨h,_⟩ | ⟨z,ai,_⟩)
   ·
    omega
   ·
    rcases mC with ⟨_,aD⟩ | ⟨b,x,O,_,rfl,_⟩
    ·
     omega
    ·
     have h:lk=b:=h
     omega
   ·
    exact h rfl
   ·
    cases ai
  have KV:(aN vD qF (.cells [c2,.aE,.int .i64 1] 46 true true)).m.get lk=_:=(cY (by omega)).trans ((fX.fr.get _ KU).trans acR)
  have Ex:lk < (aN vD qF (.cells [c2,.aE,.int .i64 1] 46 true true)).next:=Nat.lt_of_lt_of_le KU fX.fr.nx
  generalize aN vD qF (.cells [c2,.aE,.int .i64 1] 46 true true)=af_ at DH KV Ex ⊢
  generalize gd qF c2 .aE []=af' at DH f9
  refine Xg DH rfl ⟨Int.le_refl _,by show (1:Int)≤1000001; decide⟩ fun v afG acT ak J_ Ey=> ?_
  have acU:lB ⟨bO k,[],1⟩=(([],1,0),⟨bO k,[⟨1,bO k,List.replicate k false⟩],2⟩):=a8
  rw [acU] at J_
  have aak:=(Ey.old _ Ex f9).trans KV
  have J':=Nat.lt_of_lt_of_le Ex Ey.nx
  have f10:¬acT lk:=fun h=>(Ey.new _ h).elim f9 (fun h=>by omega)
  simp (disch:=(refine am ?_; first | assumption | decide | omega | (simp only [aT,aW] <;> omega) | with_unfolding_all exact a6 rfl | with_unfolding_all exact a7 rfl)) only [go_sem,aZ]
  refine Vl (w:=gm st) J_ (by omega) fun v Ez afH ak Ka KW=> ?_
  rw [himp] at ak Ka
  obtain ⟨jJ,rfl,rZ⟩:=ak
  have rZ:b2 jJ=true:=by rcases rZ with rfl | ⟨rfl,_⟩ <;> rfl
  have aal:=(KW.old _ J' f10).trans aak
  have aam:=Nat.lt_of_lt_of_le J' KW.nx
  obtain ⟨zs,afI,EA,pc,acV,_⟩:=Ka
  have rT:∃ai:0 < zs.length,zs[0].1=z:=by
   have aD:=qf
   rw [<- acV,List.getElem?_map] at aD
   cases zs with
   | nil=>cases aD
   | cons a zs=>exact ⟨Nat.succ_pos _,by injection aD⟩
  obtain ⟨ai,rT⟩:=rT
  simp (disch:=(refine am ?_; first | assumption | decide | omega | (simp only [aT,aW] <;> omega) | with_unfolding_all exact a6 rfl | with_unfolding_all exact a7 rfl)) only [go_sem,show (bad 0).2.2=0 from rfl,show (bad 0).2.1=0 from rfl,aZ,rZ,eo rZ]
  generalize qE:(aN (aS Ez (.cells _ 38 true true)).2 Ez.next (.cells _ 38 true true))=KX
  have tI:Fr Ez KX:=by rw [<- qE]; exact (Fr.alloc _ _).set (Nat.le_refl _) _
  have aan:=(tI.get _ aam).trans aal
  have pc:=pc.b3 tI
  rw [acO] at pc
  refine gw 107839786656048355707894698820406943848133244857957579035486640406544 (by kernel_rfl) (fun r G H'=>H'=KX /\ ∃j:Nat,j≤k /\ r=k - j /\ G.get 28=some (.int .i64 (j:Int))) k ⟨rfl,0,Nat.zero_le _,(Nat.sub_zero _).symm,(by simp (disch:=(refine am ?_; first | assumption | decide | omega | (simp only [aT,aW] <;> omega) | with_unfolding_all exact a6 rfl | with_unfolding_all exact a7 rfl)) only [go_sem]; first | done | rfl)⟩ ?_
  rintro r kG H' fV ⟨rfl,j,ax,rfl,EB⟩
  by_cases u1:j < k
  ·
   have aao:(j:Int) < (k:Int):=by omega
   have qi:j < m.bs.length:=by omega
   have n0:=l0.wl
   have Af:j < w.length:=by omega
   have pd:=pc.w_ (ty:=53) qi
   rw [sO] at pd
   have u7:=pc.Vo qi
   have Am:cG 64 (m.bs[j].map aI)=some (m.bs[j].map aI):=by rw [fL,if_pos (by rw [List.length_map,dq _ (List.getElem_mem qi)]; exact Nat.le_refl _),List.take_of_length_le (by rw [List.length_map,dq _ (List.getElem_mem qi)]; exact Nat.le_refl _)]
   have heq:oR (some (false,64)) (.agg (m.bs[j].map aI)) (.agg (m.bs[j].map aI))=some true:=by
    have e:m.bs[j].map aI=(m.bs[j].map fun c=>(c.toNat:Int)).map (.int .u8):=by rw [List.map_map]; rfl
    rw [e,NI (by rw [List.length_map]; exact dq _ (List.getElem_mem qi)) (by rw [List.length_map]; exact dq _ (List.getElem_mem qi)),decide_eq_true rfl]
   have i0:e9 (.slice 56) aq EA 0=some (.ptr (aY EA) 0):=by
    have:=pc.s.idx ai
    rwa [Nat.zero_mul] at this
   have s0:cellAt H' (aY EA) 2=some zs[0].2.2:=by
    have:=pc.wV ai
    rwa [Nat.zero_mul,Nat.zero_add] at this
   have aeT:=pc.xb ai qi uO
   have L7:=pc.wU ai qi
   have acW:zs[0].1.w[j]'(by rw [rT,KP]; exact Af)=w[j]:=by simp only [rT,KP]
   rw [acW] at L7
   have Ag:wr.getD j false=w[j]:=by rw [tc j (by omega),d6 Af]
   have tL:cellAt H' lk j=some (.bool w[j]):=by
    rw [lo,aan]
    show rj j (.cells (wr.map et) 51 true true)=_
    rw [pO,ke,List.getElem?_map,List.getElem?_eq_getElem (by omega),<- Ag,d6 (by omega)]; rfl
   simp (disch:=(refine am ?_; decide)) only [go_sem,EB,fV,aZ,aao]
   refine iX (by kernel_rfl) (by kernel_rfl) ?_
   simp (disch:=(refine am ?_; first | assumption | decide | omega | (simp only [aT,aW] <;> omega) | with_unfolding_all exact a6 rfl | with_unfolding_all exact a7 rfl)) only [go_sem,EB,fV,aZ,a2 pc.m,pd,u7,BI qi,Am,heq,show Int.toNat 0=0 from rfl,i0,s0,aeT,L7,Je (show j < 16 by omega),tL,beq_self_eq_true,bne_self_eq_false,Bool.not_true]
   refine ⟨_,by omega,j + 1,by omega,rfl,?_⟩
   rw [wrap_i64 (by omega) (by omega)]; rfl
  ·
   obtain rfl:j=k:=by omega
   simp (disch:=(refine am ?_; first | decide | omega)) only [go_sem,EB,fV,aZ]
   refine Gi rfl ?_
   simp (disch:=(refine am ?_; decide)) only [go_sem]
   exact .inl rfl
end
end Go.az
namespace Go.az
open Go.Proofs Go.RowKit Go.ChangeShapes Go.WideShapes Go.ChangeAt
noncomputable section
set_option maxRecDepth 100000
section
variable {H:Type} {enc:TypeId × Value -> H} {W:World}
theorem c6:Try.prog.cellsOf 3=1:=by kernel_rfl
theorem fp:Try.prog.cellsOf 5=1:=by kernel_rfl
theorem acX:Try.prog.cellsOf 32=1:=by kernel_rfl
theorem acY:Try.prog.cellsOf 34=6:=by kernel_rfl
theorem aeU:Try.prog.bytesOf 5=1:=by kernel_rfl
theorem acZ:Try.prog.bytesOf 34=64:=by kernel_rfl
noncomputable def iB (cs:List I):I:=match cs with | [c]=>c | _=> .undef
theorem O_:∀cs:List I,cs.length=1 -> br cs=true -> (iB cs).cells=cs
 | [c],_,h=>by
  have h:b2 c=true:=by
   rw [eb] at h
   revert h; cases b2 c <;> intro h <;> first | rfl | cases h
  exact eo h
@[reducible] noncomputable def xK (enc:TypeId × Value -> H) (W:World) (fuel:Nat) (t:TypeId) (cs:List Value):=DataW.trod enc Try.prog W 0 (fun _=>true) true fuel t cs
@[reducible] def vE (t:TypeId) (d:DataW H):Prop:=(d.weights Try.prog t).all (· ≤reachBytes)=true
theorem wD {fuel:Nat} {cs:List Value} {x:DataW H × List MemPlace} (h:xK enc W fuel 3 cs=some x):∃a:Int,cs= [.int .i64 a]:=by
 obtain ⟨m,rfl,_,_⟩:=DataW.trod_int Try.underlying3 h
 exact ⟨m,rfl⟩
theorem S6 {fuel:Nat} {cs:List Value} {x:DataW H × List MemPlace} (h:xK enc W fuel 5 cs=some x):∃c:UInt8,cs.map (ga W.heap.size)= [aI c]:=by
 obtain ⟨m,rfl,_,hw⟩:=DataW.trod_int Try.underlying5 h
 have hm:0≤m /\ m < 256:=by
  have:=hw
  simp [Lit.wf,IntKind.min,IntKind.max,IntKind.signed,IntKind.bits] at this
  omega
 refine ⟨UInt8.ofNat m.toNat,?_⟩
 show [I.int .u8 m]= [I.int .u8 _]
 have:(UInt8.ofNat m.toNat).toNat=m.toNat:=by
  simp; omega
 rw [this]
 congr 2; omega
theorem Q0 {fuel:Nat} {v:Value} {x:DataW H × List MemPlace} (h:xK enc W fuel 32 [v]=some x) (hw:vE 32 x.1):∃l:List UInt8,al false gn (i9 W) (.aJ 1 (l.map aI)) (ga W.heap.size v) /\ b2 (ga W.heap.size v)=true /\ a5 (my W.heap.size) (ga W.heap.size v)=some v /\ l.length≤140737488351232:=by
 obtain ⟨l,_,J,O,ag,_,bH⟩:=G5 (eA:=aI) (mk:=iB) (Inv:=fun _=>True) (Q:=fun _=>True) Try.underlying32 fp (by decide) O_ (fun fuel cs x ah R _=>by
  obtain ⟨a,ae⟩:=S6 R
  exact ⟨a,trivial,by rw [ae]; exact al.int,by rw [ae]; rfl⟩) h (fun _ _ _ _ _=>trivial)
 refine ⟨l,J,O,ag,?_⟩
 rcases bH with rfl | ⟨es,rs,R,ah⟩
 ·
  decide
 ·
  rw [R] at hw
  have:=(BZ Try.underlying32 hw).1
  rw [aeU,ah,Nat.mul_one] at this
  exact this
theorem Vp {fuel:Nat} {cs:List Value} {x:DataW H × List MemPlace} (ah:cs.length=6) (h:xK enc W fuel 34 cs=some x) (hw:vE 34 x.1):∃s:k6,s.data.length≤140737488351232 /\ al false gn (i9 W) (sW s) (.agg (cs.map (ga W.heap.size))) /\ br (cs.map (ga W.heap.size))=true:=by
 obtain ⟨xs,n,_,ac0,_,eS,ao⟩:=DataW.trod_struct Try.underlying34 h
 have eS:xs.length=6:=eS
 rw [ac0] at hw
 obtain ⟨v0,v1,v2,pA,v4,tM,rfl⟩:∃a b c d e f,cs= [a,b,c,d,e,f]:=by
  match cs,ah with
  | [a,b,c,d,e,f],_=>exact ⟨a,b,c,d,e,f,rfl⟩
 have a0:=ao 0 _ rfl
 have bI:=ao 1 _ rfl
 have bN:=ao 2 _ rfl
 have dG:=ao 3 _ rfl
 have gh:=ao 4 _ rfl
 have hH:=ao 5 _ rfl
 rw [List.getElem?_eq_getElem (by omega)] at a0 bI bN dG gh hH
 change DataW.trod enc Try.prog W 0 (fun _=>true) true n 3 (List.take (Try.prog.cellsOf 3) [v0,v1,v2,pA,v4,tM])=_ at a0
 change DataW.trod enc Try.prog W 0 (fun _=>true) true n 3 (List.take (Try.prog.cellsOf 3) [v1,v2,pA,v4,tM])=_ at bI
 change DataW.trod enc Try.prog W 0 (fun _=>true) true n 3 (List.take (Try.prog.cellsOf 3) [v2,pA,v4,tM])=_ at bN
 change DataW.trod enc Try.prog W 0 (fun _=>true) true n 3 (List.take (Try.prog.cellsOf 3) [pA,v4,tM])=_ at dG
 change DataW.trod enc Try.prog W 0 (fun _=>true) true n 3 (List.take (Try.prog.cellsOf 3) [v4,tM])=_ at gh
 change DataW.trod enc Try.prog W 0 (fun _=>true) true n 32 (List.take (Try.prog.cellsOf 32) [tM])=_ at hH
 rw [c6] at a0 bI bN dG gh
 rw [acX] at hH
 obtain ⟨c1,dn⟩:=wD a0
 obtain ⟨gP,a8⟩:=wD bI
 obtain ⟨fe,bk⟩:=wD bN
 obtain ⟨dU,c3⟩:=wD dG
 obtain ⟨sc,eD⟩:=wD gh
 simp at dn a8 bk c3 eD
 subst dn a8 bk c3 eD
 have ac1:vE 32 (xs[5]'(by omega)).1:=Iy (O' Try.underlying34 hw) 5 32 _ rfl (by rw [List.getElem?_map,List.getElem?_eq_getElem (by omega)]; rfl)
 obtain ⟨l,cf,AS,_,hle⟩:=Q0 hH ac1
 refine ⟨⟨c1,gP,fe,dU,sc,l⟩,hle,al.mf (av.cons.2 ⟨_,_,al.int,av.cons.2 ⟨_,_,al.int,av.cons.2 ⟨_,_,al.int,av.cons.2 ⟨_,_,al.int,av.cons.2 ⟨_,_,al.int,av.cons.2 ⟨_,_,cf,av.nil.2 rfl,rfl⟩,rfl⟩,rfl⟩,rfl⟩,rfl⟩,rfl⟩),?_⟩
 show br [_,_,_,_,_,ga W.heap.size tM]=true
 rw [eb,eb,eb,eb,eb,eb,AS]; rfl
theorem Iz {fuel:Nat} {v:Value} {x:DataW H × List MemPlace} (h:xK enc W fuel 22 [v]=some x) (hw:vE 22 x.1):∃l:List k6,(∀s∈l,s.data.length≤140737488351232) /\ al false gn (i9 W) (.aJ 6 (l.map sW)) (ga W.heap.size v) /\ a5 (my W.heap.size) (ga W.heap.size v)=some v /\ l.length < 9223372036854775807:=by
 obtain ⟨l,c',J,O,ag,_,bH⟩:=G5 (eA:=sW) (mk:= .agg) (Inv:=fun s:k6=>s.data.length≤140737488351232) (Q:=vE 34) Try.underlying22 acY (by decide) (fun _ _ _=>rfl) (fun fuel cs x ah R aB=>Vp ah R aB) h (fun es rs he d aw=>by
  rw [he] at hw
  exact (BZ Try.underlying22 hw).2 d aw)
 refine ⟨l,c',J,ag,?_⟩
 rcases bH with rfl | ⟨es,rs,R,ah⟩
 ·
  decide
 ·
  rw [R] at hw
  have:=(BZ Try.underlying22 hw).1
  rw [acZ,ah] at this
  have h:l.length * 64≤140737488351232:=this
  omega
theorem NJ {v:Value} {d:DataW H} {ps:List MemPlace} (h:DataW.Trod enc Try.prog W 0 (fun _=>true) true 22 v d ps) (hw:vE 22 d) (ak:∃base,Value.okWide Try.prog W .any base 22 v):
 ∃l:List k6,(∀s∈l,s.data.length≤140737488351232) /\ al false gn (i9 W) (.aJ 6 (l.map sW)) (ga W.heap.size v) /\ a5 (my W.heap.size) (ga W.heap.size v)=some v /\ l.length < 9223372036854775807:=by
 obtain ⟨base,ak⟩:=ak
 obtain ⟨fuel,h⟩:=h
 rcases ok_slice Try.underlying22 ak with rfl | ⟨b,o,len,cap,rfl,_,_⟩
 ·
  exact Iz h hw
 ·
  exact Iz h hw
theorem S7 {v:Value} {d:DataW H} {ps:List MemPlace} (h:DataW.Trod enc Try.prog W 0 (fun _=>true) true 5 v d ps) (ak:∃base,Value.okWide Try.prog W .any base 5 v):∃c:UInt8,v= .int .u8 c.toNat:=by
 obtain ⟨base,ak⟩:=ak
 obtain ⟨n,rfl,_,_,hw⟩:=open_int Try.underlying5 ak h
 have hm:0≤n /\ n < 256:=by
  simp [Lit.wf,IntKind.min,IntKind.max,IntKind.signed,IntKind.bits] at hw
  omega
 refine ⟨UInt8.ofNat n.toNat,?_⟩
 have:(UInt8.ofNat n.toNat).toNat=n.toNat:=by simp; omega
 rw [this]; congr 1; omega
end
end
end Go.az
namespace Go.Proofs.Ytajekleknljggaa.modelCarries
open Go.ChangeShapes Go.WideShapes Go.ChangeAt Go.RowKit Go.az
theorem own:ownKnob Try.prog.godebug=none:=by kernel_rfl
theorem laidOut:laidOutB Try.prog=true:=by kernel_rfl
theorem Vq:km (ib Try.prog) Try.prog:=Q1 (by kernel_rfl) (by kernel_rfl) (Checked.mixed Try.checked)
theorem Xk:km bE Try.prog:=S8 Vq fun f ao=>by
 obtain rfl:f=9:=by simpa [dP] using ao
 exact ⟨299,S9⟩
set_option maxRecDepth 100000 in
theorem lifted (os:Os) (started:os.Started) (H:Type) (enc:TypeId × Value -> H):
 ReturnsInHanded {} Try.checked os 4 .any (Rows.modelCarriesSpec.pre6 enc Try.prog Try.f4 Rows.modelCarriesRow.domain false) (Rows.modelCarriesSpec.post enc Try.prog Try.f4 false true false false):=by
 refine MZ (C:=Try.checked) started own (by kernel_rfl) Try.func4
  (ChangeSpec.witness6 (enc:=enc) (C:=Try.checked) false ⟨#[],#[.int .u8 0,.slice none 0 0],[]⟩ 12 (by kernel_rfl) (by kernel_rfl) (by kernel_rfl) (by kernel_rfl))
  (tb:=4) (by kernel_rfl) Try.underlying4 laidOut ?_ rfl ?_ ?_
 ·
  intro t bh
  have bh:t=5∨t=22:=by simpa [show Try.f4.params= #[5,22] from rfl] using bh
  rcases bh with rfl | rfl <;> exact ⟨by kernel_rfl,of_decide_eq_true (by kernel_rfl)⟩
 ·
  intro d_ aw
  match d_,aw with
  | [d0,d1],_=>rfl
 ·
  intro W args d_ ps fX zW u9
  have fX:DataW.TrodAll enc Try.prog W 0 (fun _=>true) true [5,22] args.toList d_ ps:=fX
  have u9:(DataW.weightsEach Try.prog [5,22] d_).all (· ≤reachBytes)=true:=u9
  obtain ⟨v0,afJ,d0,afK,Fy,mM,mm,rfl,rfl,aD,fF⟩:=trodAll_cons fX
  obtain ⟨v1,afL,d1,afM,fq,hq,rfl,rfl,rfl,J,cf⟩:=trodAll_cons fF
  obtain ⟨rfl,rfl,rfl⟩:=trodAll_nil cf
  obtain rfl:args= #[v0,v1]:=by cases args; simp_all
  obtain ⟨c,rfl⟩:=S7 aD (zW 0 5 v0 rfl rfl)
  obtain ⟨l,aw,R,o8,ah⟩:=NJ J (Iy u9 1 22 _ rfl rfl) (zW 1 22 v1 rfl rfl)
  refine Q2 Xk rfl (avs:= [.int .u8 c.toNat,ga W.heap.size v1]) ?_ (aap (av.cons.2 ⟨_,_,al.int,av.cons.2 ⟨_,_,R,av.nil.2 rfl,rfl⟩,rfl⟩) (aaf ah aw))
  exact eO.2 ⟨_,_,rfl,eO.2 ⟨_,_,o8,rfl,rfl⟩,rfl⟩
set_option maxHeartbeats 4000000 in
set_option maxRecDepth 100000 in
theorem closed:joinedFacts Try.pinned.checked.prog 4 Try.f4 Rows.modelCarriesSpec Rows.modelCarriesRow=true:=by
 unfold joinedFacts
 rw [Bool.and_eq_true,Bool.and_eq_true]
 repeat rw [Bool.and_eq_true]
 and_intros
 all_goals (as_aux_lemma=>kernel_rfl)
theorem aaq:Rows.modelCarriesRow.holds Try.pinned (OpenSpec.ofChange Rows.modelCarriesSpec):=
 OpenClaim.holds_of_wide 4 Try.f4 rfl rfl rfl rfl rfl rfl rfl ⟨rfl,rfl,rfl,rfl,rfl⟩ rfl rfl rfl rfl rfl (by kernel_rfl) Try.func4 closed
  (of_decide_eq_true (by kernel_rfl)) (by unfold Func.isWrapper; first | (rw [if_pos (by decide +kernel)]; kernel_rfl) | (rw [if_neg (by decide +kernel)]; exact ⟨rfl,rfl⟩))
  (fun os started H enc _=>lifted os started H enc)
theorem proved:Rows.ModelCarriesSaid:=aaq
#print axioms proved
end Go.Proofs.Ytajekleknljggaa.modelCarries
