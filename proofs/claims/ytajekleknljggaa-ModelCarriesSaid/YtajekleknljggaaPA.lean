/-
  Runs, bytes, sums, streams: what the program computes. No conditions.
-/
import Derived.Test.YtajekleknljggaaTy
set_option linter.unusedVariables false
set_option linter.unusedSimpArgs false
namespace Go.az
noncomputable section
section
variable {E:Env} {H:aa} {e sz m b:Nat}
theorem Ix {new:List I} (hm:0 < m) (ar:m≤1048576) (bm:au E e=sz) (a4:jw E e=true):cJ E H e (.slice b 0 0 (.ex 0)) m new=some (.slice H.next 0 m (.rest 0 sz m),(aS H (.cells new e false true)).2):=by
 have lT:Nat.beq m 0=false:=by rw [pT]; simp; omega
 unfold cJ
 rw [lT]
 show jr (.ex 0) E H e b 0 0 m new=_
 show ap (Nat.ble (0 + m) 0) _ ((bA H b 0 (0 * au E e)).ac fun old=>dA E H e (0 + m) (cb old new))=_
 rw [uq,show decide (0 + m≤0)=false by simp; omega,Nat.zero_mul,mW]
 show dA E H e (0 + m) new=_
 unfold dA
 rw [Nat.zero_add,oy a4 ar,bm]; rfl
theorem HD {l:List I} (aG:au E e=sz) (bU:0 < sz) (a4:jw E e=true) (U:l.length≤1048576) (V:∀x∈l,x.cells.length=sz) (ao:br (a3 l)=true):
 ∃w H1,cJ E (aS H (.cells [] e true true)).2 e (.slice H.next 0 0 (.ex 0)) l.length (a3 l)=some (w,H1) /\ Fr (aS H (.cells [] e true true)).2 H1 /\ Acc E H H1 e sz w l:=by
 have ae:=Acc.uV (E:=E) (Fr.refl H) aG bU a4
 by_cases aD:l= []
 ·
  subst aD
  exact ⟨_,_,ae.xo,Fr.refl _,ae⟩
 ·
  have bU:0 < l.length:=List.length_pos_iff.2 aD
  have hm:=Ix (H:=(aS H (.cells [] e true true)).2) (b:=H.next) (new:=a3 l) bU U aG a4
  have hlen:(a3 l).length=l.length * sz:=(fv V).1
  refine ⟨_,_,hm,Fr.alloc _ _,⟨(Fr.alloc H _).trans (Fr.alloc _ _),⟨hlen,.inr ⟨_,false,Nat.le_succ _,Nat.lt_succ_self _,rfl,eP⟩⟩,V,aG,ae.bU,a4⟩⟩
theorem cz.one {v:I} {n:Nat} {base:Nat} {cs:List I} (h:cz H base e sz v n cs):b2 v=true:=by
 rcases h.2 with ⟨rfl,_⟩ | ⟨b,x,_,_,rfl,_⟩ <;> rfl
theorem cz.move {v:I} {n base fG:Nat} {cs:List I} {H':aa} (h:cz H base e sz v n cs) (ar:H.next≤H'.next) (he:Nat.beq e fG=false) (hm:∀c y,H.m.get c=some y -> nb fG y=true -> c < H.next -> H'.m.get c=some y):cz H' base e sz v n cs:=by
 refine ⟨h.1,h.2.imp id ?_⟩
 rintro ⟨b,x,J,O,ag,aP⟩
 exact ⟨b,x,J,Nat.lt_of_lt_of_le O ar,ag,hm b _ aP (by show (!(Nat.beq e fG))=true; rw [he]; rfl) O⟩
end
end
end Go.az
namespace Go.az
noncomputable section
def hG (v:I):Prop:=∀(σ:bK) (H1:aa) (a:I),al false σ H1 v a -> al false gn H1 v a
theorem hG.plain {v:I} (h:iV v=true):hG v:=fun σ H1 a ae=>by
 rw [al.plain h] at ae ⊢; exact ae
theorem hG.LB {l:List I} (h:∀x∈l,hG x):∀ {σ:bK} {H1:aa} {r:List I},av false σ H1 l r -> av false gn H1 l r:=by
 induction l with
 | nil=>intro σ H1 r af; rw [av.nil] at af; subst af; exact av.nil.2 rfl
 | cons x l aH=>
  intro σ H1 r af
  obtain ⟨y,bi,J,O,rfl⟩:=av.cons.1 af
  exact av.cons.2 ⟨_,_,h x (by simp) _ _ _ J,aH (fun z ai=>h z (by simp [ai])) O,rfl⟩
theorem YI {σ:bK} {H:aa} {c:Nat} (h:ip σ H c):ip gn H c:=⟨fun b U=>(nomatch U),h.2.1,h.2.2⟩
theorem hG.agg {l:List I} (h:∀x∈l,hG x):hG (.agg l):=fun σ H1 a ae=>by
 obtain ⟨l',J,rfl⟩:=ae.agg
 exact al.mf (hG.LB h J)
theorem hG.aJ {sz:Nat} {l:List I} (bU:0 < sz) (h:∀x∈l,hG x):hG (.aJ sz l):=fun σ H1 a ae=>by
 by_cases ah:l= []
 ·
  subst ah
  rcases ae.nQ with ⟨hw,_⟩ | h | h | h
  ·
   cases hw
  ·
   exact al.fP (.inl h)
  ·
   exact al.fP (.inr (.inl h))
  ·
   exact al.fP (.inr (.inr h))
 ·
  rcases ae.mB ah with ⟨hw,_⟩ | ⟨c,o,k,l',rfl,aD,J,O,ag,aP,bH,eC⟩
  ·
   cases hw
  ·
   exact al.nD ah aD (YI J) O ag (hG.LB h aP) bH eC
theorem hG.map {α:Type} {f:α -> I} {l:List α} (h:∀a,hG (f a)):∀x∈l.map f,hG x:=by
 intro x R
 obtain ⟨a,_,rfl⟩:=List.mem_map.1 R
 exact h a
section
variable {E:Env} {H:aa}
theorem Acc.Jw {H0:aa} {e sz c:Nat} {v:I} {l:List I} {z:bf} (h:Acc E H0 H e sz v l) (ar:v= .aE∨c≠aY v) (oe:H0.next≤c):Acc E H0 (aN H c z) e sz v l:=by
 refine ⟨h.fr.set oe _,⟨h.own.1,h.own.2.imp id ?_⟩,h.el,h.bm,h.bU,h.a4⟩
 rintro ⟨b,x,J,O,rfl,aP⟩
 refine ⟨b,x,J,O,rfl,?_⟩
 rw [gH,if_neg]
 ·
  exact aP
 ·
  rintro rfl
  rcases ar with ar | ar
  ·
   cases ar
  ·
   exact ar rfl
theorem Acc.sep {H0:aa} {e sz c:Nat} {v:I} {l:List I} (h:Acc E H0 H e sz v l) (V:H.next≤c):v= .aE∨c≠aY v:=by
 rcases h.own.2 with ⟨rfl,_⟩ | ⟨b,x,_,aF,rfl,_⟩
 ·
  exact .inl rfl
 ·
  exact .inr (Nat.ne_of_gt (Nat.lt_of_lt_of_le aF V))
theorem Acc.QI {H0:aa} {e sz:Nat} {v:I} {l:List I} (h:Acc E H0 H e sz v l) (ar:l.length < 1048576) {new:List I} (ah:new.length=sz) (ao:br new=true):
 (jI E H e v new).next=H.next + 2 /\ ∀c,(v= .aE∨c≠aY v) -> c < H.next -> (jI E H e v new).m.get c=H.m.get c:=by
 have aQ:Acc E H0 (aS H (.cells new e true true)).2 e sz v l:=h.b3 (Fr.alloc H _)
 obtain ⟨H',J,_,_,aP,bH⟩:=aQ.own.append (m:=1) aQ.bm aQ.bU (by decide) (by rw [ah,Nat.one_mul]) ao (oy aQ.a4 ar) aQ.fr.nx
 have a8:jI E H e v new=H':=by unfold jI iI; rw [J]; rfl
 rw [a8]
 refine ⟨aP,fun c V aF=> ?_⟩
 rw [bH c V (Nat.lt_succ_of_lt aF),hK (Nat.ne_of_lt aF)]
end
end
end Go.az
namespace Go.az
open Go.Proofs
noncomputable section
set_option maxRecDepth 100000
theorem abe:bE.fn 82=some Try.f82:=by kernel_rfl
def abf (n:Int):I:= .int .i64 n
def s6 (p:Int × Int):I:= .agg (bk p)
def jq (l:List Int) (i:Nat):Prop:=0 < i /\ l.getD (i - 1) 0 < 4611686018427387904 /\ l.getD i 0=l.getD (i - 1) 0 + 1
instance (l:List Int) (i:Nat):Decidable (jq l i):=by unfold jq; infer_instance
def nS (acc:List (Int × Int)):List (Int × Int):=acc.set (acc.length - 1) ((acc.getD (acc.length - 1) (0,0)).1,(acc.getD (acc.length - 1) (0,0)).2 + 1)
def bP (l:List Int):Nat -> List (Int × Int)
 | 0=> []
 | i + 1=>if jq l i then nS (bP l i) else bP l i ++ [(l.getD i 0,1)]
theorem sE (l:List Int):∀i,(bP l i).length≤i /\ (0 < i -> 0 < (bP l i).length)
 | 0=>⟨Nat.le_refl _,fun h=>h⟩
 | i + 1=>by
  have aH:=sE l i
  unfold bP
  split
  ·
   rename_i h
   have:=aH.2 h.1
   unfold nS
   simp; omega
  ·
   simp; omega
theorem OP (n:Int):(abf n).cells= [.int .i64 n]:=rfl
attribute [go_sem] OP Nat.mul_one Nat.one_mul Nat.zero_mul
theorem zM {l:List Int} {i:Nat} (h:jq l i):bP l (i + 1)=nS (bP l i):=if_pos h
theorem zN {l:List Int} {i:Nat} (h:¬jq l i):bP l (i + 1)=bP l i ++ [(l.getD i 0,1)]:=if_neg h
theorem BU (l:List Int):∀i,∀p∈bP l i,1≤p.2 /\ p.2≤i
 | 0,p,h=>by simp [bP] at h
 | i + 1,p,h=>by
  have aH:=BU l i
  unfold bP at h
  split at h
  ·
   rename_i a4
   have ah:=(sE l i).2 a4.1
   unfold nS at h
   obtain ⟨j,ax,rfl⟩:=List.getElem_of_mem h
   rw [List.getElem_set]
   split
   ·
    have J:=aH _ (List.getElem_mem (show (bP l i).length - 1 < (bP l i).length by omega))
    rw [d6 (by omega)]
    simp only; omega
   ·
    have J:=aH _ (List.getElem_mem (show j < (bP l i).length by simpa using ax))
    omega
  ·
   rcases List.mem_append.1 h with h | h
   ·
    have:=aH p h; omega
   ·
    simp only [List.mem_singleton] at h; subst h; simp only; omega
end
end Go.az
namespace Go.az
open Go.Proofs
noncomputable section
set_option maxRecDepth 100000
attribute [go_sem] Nat.mul_one Nat.one_mul Nat.zero_mul
theorem xp:bE.fn 23=some Try.f23:=by kernel_rfl
theorem abg:bE.fn 39=some Try.f39:=by kernel_rfl
theorem rt:wO aq 5=true:=by kernel_rfl
theorem QJ (H1:aa) (c o:Nat) (k:dm) {K:I -> aa -> Prop} (ab:K (.slice H1.next 0 0 (.ex 0)) (aS H1 (.cells [] 5 true true)).2):ic bE (.func 23 [] []) [.slice c o 0 k] H1 K:=by
 refine enter (N:=8) rfl xp rfl rfl rfl rfl rfl ?_
 change ds bE _ _ _ _ _ _
 have bc:aU bE 32= .slice 5:=i6
 have a9:∀ {N M:Nat} {d:Option Tmp} {t:TypeId} {p:String} {a:Array Edge} {g:Option (Nat × Bool)} {s:an} {K:an -> Prop} {n:Nat} {ps:List (Nat × Operand)} (ar:n * au bE 5≤16777216),wpOp bE N M ⟨d,.buildSlice 32 n ps.toArray,t,p,a,g⟩ s K=bl ((cr bE 5).ac fun z=>(dV M (fun i=>some (Nat.mul i (au bE 5),au bE 5)) s.T ps (cR n z.cells)).omap fun l=>(bf.cells l 5 true true,fun b:Nat=>I.slice b 0 n (.ex n))) (ja N M s.T d s.H K):=fun ar=>oz bc ar
 have bt:au bE 5=1:=e2
 have gC:cr bE 5=some (.int .u8 0):=z9
 have kM:∀ {H:aa} {u x:I},fQ .append bE H [u,x] [32,32]=(fu bE H 5 x).ac fun p=>cJ bE H 5 u p.1 p.2:=mY i6 i6
 have sj:∀ {H:aa} {b:Nat},cJ bE H 5 (.slice b 0 0 (.ex 0)) 0 []=some (.slice b 0 0 (.ex 0),H):=rfl
 have tU:∀ {H:aa} {b o:Nat},bA H b o 0=some []:=mW
 simp (disch:=(refine am ?_; decide)) only [go_sem,bc,a9,bt,gC,kM,sj,tU]
 exact ab
theorem QK (H1:aa) (cm:Addr) {K:I -> aa -> Prop} (ab:K (.slice H1.next 0 0 (.ex 0)) (aS H1 (.cells [] 5 true true)).2):ic bE (.func 23 [] []) [.dY cm] H1 K:=by
 refine enter (N:=8) rfl xp rfl rfl rfl rfl rfl ?_
 change ds bE _ _ _ _ _ _
 have bc:aU bE 32= .slice 5:=i6
 have a9:∀ {N M:Nat} {d:Option Tmp} {t:TypeId} {p:String} {a:Array Edge} {g:Option (Nat × Bool)} {s:an} {K:an -> Prop} {n:Nat} {ps:List (Nat × Operand)} (ar:n * au bE 5≤16777216),wpOp bE N M ⟨d,.buildSlice 32 n ps.toArray,t,p,a,g⟩ s K=bl ((cr bE 5).ac fun z=>(dV M (fun i=>some (Nat.mul i (au bE 5),au bE 5)) s.T ps (cR n z.cells)).omap fun l=>(bf.cells l 5 true true,fun b:Nat=>I.slice b 0 n (.ex n))) (ja N M s.T d s.H K):=fun ar=>oz bc ar
 have bt:au bE 5=1:=e2
 have gC:cr bE 5=some (.int .u8 0):=z9
 have kM:∀ {H:aa} {u x:I},fQ .append bE H [u,x] [32,32]=(fu bE H 5 x).ac fun p=>cJ bE H 5 u p.1 p.2:=mY i6 i6
 have sj:∀ {H:aa} {b:Nat},cJ bE H 5 (.slice b 0 0 (.ex 0)) 0 []=some (.slice b 0 0 (.ex 0),H):=rfl
 have tU:∀ {H:aa} {b o:Nat},bA H b o 0=some []:=mW
 simp (disch:=(refine am ?_; first | assumption | decide | omega | (simp only [aT,aW] <;> omega) | with_unfolding_all exact a6 rfl | with_unfolding_all exact a7 rfl)) only [go_sem,bc,a9,bt,gC,kM,sj,tU]
 exact ab
theorem Ny {H:aa} {l:List I} {K:I -> aa -> Prop} (U:l.length≤140737488351232) (V:∀x∈l,x.cells.length=1) (ao:br (a3 l)=true) (ah:l≠ []) (ab:∀v H',Acc aq H H' 5 1 v l -> K v H'):Call (.func 23 [] []) [.aJ 1 l] H K:=by
 refine bR (N:=8) rfl xp rfl rfl rfl rfl rfl fun bC=> ?_
 cases l with
 | nil=>exact absurd rfl ah
 | cons y l=>
  have ae:=Acc.uV (E:=aq) (Fr.refl H) e2 (by decide) nT
  have hF:=(fv V).1
  have hm:=ae.zK rt (m:=(y :: l).length) (by simpa using U) (by simp) (a3 (y :: l)) (by rw [hF]) ao
  have aw:=ae.zj rt (m:=(y :: l).length) (by simpa using U) (by simp) (y :: l) rfl rfl V ao
  simp (disch:=(refine am ?_; decide)) only [go_sem,hm]
  exact .inl (ab _ _ aw)
theorem Nz {H:aa} {K:I -> aa -> Prop} (ab:K .aE H):Call (.func 23 [] []) [.aE] H K:=by
 refine bR (N:=8) rfl xp rfl rfl rfl rfl rfl fun bC=> ?_
 simp (disch:=(refine am ?_; decide)) only [go_sem]
 exact .inl ab
theorem UM {H:aa} {l:List I} {K:I -> aa -> Prop} (U:l.length≤140737488351232) (V:∀x∈l,x.cells.length=1) (ao:br (a3 l)=true) (aR:∀x∈l,iV x=true) (ab:K (.aJ 1 l) H) (ef:l= [] -> K .aE H):Call (.func 23 [] []) [.aJ 1 l] H K:=by
 by_cases ah:l= []
 ·
  subst ah
  exact OL (Nz (ef rfl)) (fun H1 c o k=>QJ H1 c o k ⟨rfl,rfl⟩) (fun H1 cm=>QK H1 cm ⟨rfl,rfl⟩) ab
 ·
  exact fi.out fun bC=>Ny U V ao ah fun v H' ae=>ae.q3 bC aR ab
theorem Gv {H:aa} {b o:Nat} {k:dm} {l:List I} {K:I -> aa -> Prop} (U:l.length≤140737488351232) (V:∀x∈l,x.cells.length=1) (ao:br (a3 l)=true) (hm:bA H b o (l.length * 1)=some (a3 l)) (aF:b < H.next) (ab:∀v H',Acc aq H H' 5 1 v l -> K v H'):Call (.func 23 [] []) [.slice b o l.length k] H K:=by
 refine bR (N:=8) rfl xp rfl rfl rfl rfl rfl fun bC=> ?_
 have ae:=Acc.uV (E:=aq) (Fr.refl H) e2 (by decide) nT
 have hF:=(fv V).1
 have gW:bA (aS H (.cells [] 5 true true)).2 b o (l.length * 1)=some (a3 l):=by rw [BD (Fr.alloc H _) aF]; exact hm
 try rw [Nat.mul_one] at gW
 by_cases ah:l= []
 ·
  subst ah
  have aD:=ae.xo
  simp (disch:=(refine am ?_; decide)) only [go_sem,aD,List.length_nil]
  exact .inl (ab _ _ ae)
 ·
  have bU:0 < l.length:=List.length_pos_iff.2 ah
  have hm:=ae.zK rt (m:=l.length) (by simpa using U) bU (a3 l) (by rw [hF]) ao
  have aw:=ae.zj rt (m:=l.length) (by simpa using U) bU l rfl rfl V ao
  simp (disch:=(refine am ?_; decide)) only [go_sem,gW,hm]
  exact .inl (ab _ _ aw)
theorem NA {H:aa} {b o:Nat} {k:dm} {l:List I} {K:I -> aa -> Prop} (U:l.length≤1048576) (V:∀x∈l,x.cells.length=64) (ao:br (a3 l)=true) (hm:bA H b o (l.length * 64)=some (a3 l)) (aF:b < H.next) (ab:∀v H',Acc aq H H' 53 64 v l -> K v H'):Call (.func 39 [] []) [.slice b o l.length k] H K:=by
 refine bR (N:=8) rfl abg rfl rfl rfl rfl rfl fun bC=> ?_
 have ae:=Acc.uV (E:=aq) (Fr.refl H) sO (by decide) Dh
 have hF:=(fv V).1
 have gW:bA (aS H (.cells [] 53 true true)).2 b o (l.length * 64)=some (a3 l):=by rw [BD (Fr.alloc H _) aF]; exact hm
 try rw [Nat.mul_one] at gW
 by_cases ah:l= []
 ·
  subst ah
  have aD:=ae.xo
  simp (disch:=(refine am ?_; decide)) only [go_sem,aD,List.length_nil]
  exact .inl (ab _ _ ae)
 ·
  have bU:0 < l.length:=List.length_pos_iff.2 ah
  have hm:=ae.many (m:=l.length) (by simpa using U) bU (a3 l) (by rw [hF]) ao
  have aw:=ae.Db (m:=l.length) (by simpa using U) bU l rfl rfl V ao
  simp (disch:=(refine am ?_; decide)) only [go_sem,gW,hm]
  exact .inl (ab _ _ aw)
end
end Go.az
namespace Go.az
open Go.Proofs
noncomputable section
set_option maxRecDepth 100000
theorem YJ:bE.fn 104=some Try.f104:=by kernel_rfl
theorem YK:bE.fn 101=some Try.f101:=by kernel_rfl
theorem abh:bE.fn 90=some Try.f90:=by kernel_rfl
theorem abi:bE.fn 72=some Try.f72:=by kernel_rfl
def aI (c:UInt8):I:= .int .u8 (c.toNat:Int)
theorem WO (c:UInt8):aI c= .int .u8 (c.toNat:Int):=rfl
attribute [go_sem] WO
theorem QL {H:aa} {io y:Nat} {xs:List UInt8} {K:I -> aa -> Prop} (cX:Nat -> aa -> Prop) (U:cellAt H io 0=some (.aJ 1 (xs.map aI))) (hlen:xs.length < 9223372036854775807) (aD:cX 0 H)
 (aG:∀i (ad:i < xs.length) H',cX i H' -> Call (.yield y) [aI xs[i]] H' fun v dF=>(v= .bool true /\ cX (i + 1) dF)∨(v= .bool false /\ K (.tuple []) dF)) (ar:∀H',cX xs.length H' -> K (.tuple []) H'):
 Call (.func 104 [] [.ptr io 0]) [.yield y] H K:=by
 refine bR (N:=16) rfl YJ rfl rfl rfl rfl rfl fun bC=> ?_
 simp (disch:=(refine am ?_; decide)) only [go_sem,U,List.length_map]
 refine gw 65424 (by kernel_rfl) (fun r G H'=>∃i:Nat,i≤xs.length /\ r=xs.length - i /\ G.get 7=some (.int .i64 i) /\ cX i H') xs.length ⟨0,Nat.zero_le _,rfl,rfl,aD⟩ ?_
 rintro r G H' aZ ⟨i,ad,rfl,dO,c'⟩
 by_cases aF:i < xs.length
 ·
  simp (disch:=(refine am ?_; first | assumption | decide | omega)) only [go_sem,dO,aZ,fh]
  refine (aG i aF H' c').mono ?_
  rintro v dF (⟨rfl,E6⟩ | ⟨rfl,ab⟩)
  ·
   simp (disch:=(refine am ?_; first | assumption | decide | omega | (simp only [aT,aW] <;> omega) | with_unfolding_all exact a6 rfl | with_unfolding_all exact a7 rfl)) only [go_sem,dO,aZ,wrap_i64]
   exact ⟨_,by omega,i + 1,aF,rfl,rfl,E6⟩
  ·
   simp (disch:=(refine am ?_; decide)) only [go_sem]
   exact .inl ab
 ·
  simp (disch:=(refine am ?_; first | decide | omega)) only [go_sem,dO,aZ]
  obtain rfl:i=xs.length:=by omega
  exact .inl (ar H' c')
theorem pF (n:Nat):bG .u64 (n:Int)=((n % 18446744073709551616:Nat):Int):=rfl
theorem Im {n:Nat} (h:n < 18446744073709551616):modn .u64 (n:Int)=n:=by
 show (n % 18446744073709551616)=n
 exact Nat.mod_eq_of_lt h
def zl (h:Nat) (c:UInt8):Nat:=((h ^^^ c.toNat) * 1099511628211) % 18446744073709551616
def oK (h:Nat) (l:List UInt8):Nat:=l.foldl zl h
def ei (l:List UInt8):Nat:=oK 14695981039346656037 l
theorem OQ (h:Nat) (c:UInt8):zl h c < 18446744073709551616:=Nat.mod_lt _ (by decide)
theorem yP {h:Nat} (aM:h < 18446744073709551616) (l:List UInt8):oK h l < 18446744073709551616:=by
 unfold oK
 induction l generalizing h with
 | nil=>exact aM
 | cons c l aH=>exact aH (OQ h c)
theorem In {h:Nat} (aM:h < 18446744073709551616) (c:UInt8):bG .u64 (bG .u64 (Int.ofNat (Nat.xor (modn .u64 (h:Int)) (modn .u64 (bG .u64 (c.toNat:Int))))) * 1099511628211)=(zl h c:Int):=by
 have V:c.toNat < 256:=c.toNat_lt
 have a8:bG .u64 (c.toNat:Int)=(c.toNat:Int):=by rw [pF,Nat.mod_eq_of_lt (by omega)]
 rw [a8,Im aM,Im (by omega)]
 have R:Nat.xor h c.toNat < 2 ^ 64:=Nat.xor_lt_two_pow aM (by omega)
 show bG .u64 (bG .u64 ((Nat.xor h c.toNat:Nat):Int) * 1099511628211)=_
 rw [pF,Nat.mod_eq_of_lt R]
 show bG .u64 (((Nat.xor h c.toNat * 1099511628211:Nat)):Int)=_
 rw [pF]; rfl
theorem Gc {h:Nat} {l:List UInt8} {i:Nat} (ad:i < l.length):oK h (l.take (i + 1))=zl (oK h (l.take i)) l[i]:=by
 unfold oK
 rw [List.take_add_one,List.getElem?_eq_getElem ad,List.foldl_append,Option.toList_some,List.foldl_cons,List.foldl_nil]
theorem UN {H:aa} {h:Nat} {l:List UInt8} {K:I -> aa -> Prop} (aM:h < 18446744073709551616) (ah:l.length < 9223372036854775807) (ab:K (.int .u64 (oK h l)) H):Call (.func 90 [] []) [.int .u64 h,.aJ 1 (l.map aI)] H K:=by
 refine bR (N:=15) rfl abh rfl rfl rfl rfl rfl fun bC=> ?_
 simp (disch:=(refine am ?_; decide)) only [go_sem]
 refine bR (N:=4) rfl YK rfl rfl rfl rfl rfl fun _=> ?_
 simp (disch:=(refine am ?_; decide)) only [go_sem]
 left
 simp (disch:=(refine am ?_; decide)) only [go_sem]
 generalize oi:bf.loop _ _ _ _ _ _ _ _ _=tV
 refine QL (fun i H'=>Fr H H' /\ H.next + 3≤H'.next /\ H'.m.get H.next=some (.cells [.int .u64 (oK h (l.take i))] 116 true true) /\ H'.m.get (H.next + 1 + 1)=some tV) (by simp (disch:=(refine am ?_; first | assumption | decide | omega | (simp only [aT,aW] <;> omega) | with_unfolding_all exact a6 rfl | with_unfolding_all exact a7 rfl)) only [go_sem]) ah ?_ ?_ ?_
 ·
  exact ⟨(((Fr.refl H).ce _).ce _).ce _,Nat.le_refl _,by simp (disch:=(refine am ?_; first | assumption | decide | omega | (simp only [aT,aW] <;> omega) | with_unfolding_all exact a6 rfl | with_unfolding_all exact a7 rfl)) only [go_sem]; rfl,by simp (disch:=(refine am ?_; first | assumption | decide | omega | (simp only [aT,aW] <;> omega) | with_unfolding_all exact a6 rfl | with_unfolding_all exact a7 rfl)) only [go_sem]⟩
 ·
  rintro i ad H' ⟨ao,ar,J,O⟩
  subst oi
  refine zx O ?_
  simp (disch:=(refine am ?_; first | decide | omega)) only [go_sem,a2 J,O]
  refine .inl ⟨((ao.set (by omega) _).set (by omega) _).set (by omega) _,ar,?_⟩
  have e:=In (yP aM (l.take i)) l[i]
  rw [Gc ad,<- e]
 ·
  rintro H' ⟨ao,ar,J,O⟩
  subst oi
  simp (disch:=(refine am ?_; first | decide | omega)) only [go_sem,a2 J,O]
  rw [List.take_length]
  exact .inr (.inl ⟨ao.set (by omega) _,_,b_.int,ab⟩)
theorem Cj {H:aa} {l:List UInt8} {K:I -> aa -> Prop} (ah:l.length < 9223372036854775807) (ab:K (.int .u64 (ei l)) H):Call (.func 72 [] []) [.aJ 1 (l.map aI)] H K:=by
 refine bR (N:=5) rfl abi rfl rfl rfl rfl rfl fun bC=> ?_
 simp (disch:=(refine am ?_; decide)) only [go_sem]
 refine UN (h:=14695981039346656037) (by decide) ah ?_
 simp (disch:=(refine am ?_; decide)) only [go_sem]
 exact .inl ab
end
end Go.az
namespace Go.az
open Go.Proofs
noncomputable section
set_option maxRecDepth 100000
theorem abj:bE.fn 97=some Try.f97:=by kernel_rfl
theorem YL:bE.fn 102=some Try.f102:=by kernel_rfl
theorem abk:bE.fn 81=some Try.f81:=by kernel_rfl
def leBytes (n:Nat):Nat -> List UInt8
 | 0=> []
 | k + 1=>UInt8.ofNat n :: leBytes (n / 256) k
theorem eX (n k:Nat):(leBytes n k).length=k:=by induction k generalizing n with
 | zero=>rfl
 | succ k aH=>show (leBytes (n / 256) k).length + 1=_; rw [aH]
theorem MY (n k:Nat):leBytes n (k + 1)=leBytes n k ++ [UInt8.ofNat (n / 256 ^ k)]:=by
 induction k generalizing n with
 | zero=>simp [leBytes]
 | succ k aH=>
  have e:n / 256 / 256 ^ k=n / 256 ^ (k + 1):=by rw [Nat.div_div_eq_div_mul,Nat.pow_succ,Nat.mul_comm]
  rw [show leBytes n (k + 1 + 1)=UInt8.ofNat n :: leBytes (n / 256) (k + 1) from rfl,aH,e]; rfl
theorem Dc {H:aa} {n:Nat} {k:Int} {K:I -> aa -> Prop} (ar:n < 18446744073709551616) (J:1≤k) (O:k≤16) (ab:K (.aJ 1 ((leBytes n k.toNat).map aI)) H):Call (.func 81 [] []) [.int .u64 n,.int .i64 k] H K:=by
 refine bR (N:=22) rfl abk rfl rfl rfl rfl rfl fun bC=> ?_
 simp (disch:=(refine am ?_; first | decide | omega)) only [go_sem]
 refine bR (N:=6) rfl abj rfl rfl rfl rfl rfl fun _=> ?_
 simp (disch:=(refine am ?_; decide)) only [go_sem]
 left
 simp (disch:=(refine am ?_; decide)) only [go_sem]
 refine bR (N:=15) rfl YL rfl rfl rfl rfl rfl fun hw=> ?_
 clear hw
 generalize oi:bf.loop _ _ _ _ _ _ _ _ _=tV
 simp (disch:=(refine am ?_; first | decide | (simp only [aT,aW] <;> omega) | assumption)) only [go_sem]
 refine gw 32736 (by kernel_rfl) (fun r G H'=>∃(i:Nat) (v:I),i≤k.toNat /\ r=k.toNat - i /\ G.get 5=some (.int .i64 i) /\ Acc aq H H' 5 1 v ((leBytes n i).map aI) /\ H.next + 4≤H'.next /\
  H'.m.get H.next=some (.cells [v] 32 true true) /\ H'.m.get (H.next + 1)=some (.cells [.int .u64 ((n / 256 ^ i:Nat):Int)] 116 true true) /\ H'.m.get (H.next + 1 + 1 + 1)=some tV) k.toNat ?_ ?_
 ·
  refine ⟨0,.aE,Nat.zero_le _,rfl,rfl,Acc.z5 ((((Fr.refl H).ce _).ce _).ce _ |>.ce _) e2 (by decide) nT,Nat.le_refl _,?_,?_,?_⟩
  ·
   simp (disch:=(refine am ?_; first | omega | (simp only [aT,aW] <;> omega) | assumption)) only [go_sem]
  ·
   simp (disch:=(refine am ?_; first | (simp only [aT,aW] <;> omega) | assumption)) only [go_sem,Nat.pow_zero,Nat.div_one]
  ·
   simp (disch:=(refine am ?_; first | (simp only [aT,aW] <;> omega) | assumption)) only [go_sem]
 rintro r G H' aZ ⟨i,v,ad,rfl,b6,aC,fT,c1,gP,dU⟩
 by_cases aF:i < k.toNat
 ·
  simp (disch:=(refine am ?_; first | decide | omega)) only [go_sem,b6,aZ,a2 gP]
  subst oi
  refine zx dU ?_
  have hlen:((leBytes n i).map aI).length < 1048576:=by rw [List.length_map,eX]; omega
  have fX:=fun z=>(aC.other (z:=z) dU rfl (by omega)).push hlen
  have A3:=fun (z:bf) (x:I) (R:b2 x=true)=>(aC.other (z:=z) dU rfl (by omega)).Ik hlen (new:= [x]) rfl (by rw [eb,R]; rfl)
  have ar:=fun z x R=>(A3 z x R).1
  have x3:=fun z x R (ai:nb 5 z=true)=>(A3 z x R).2 (H.next + 1 + 1 + 1) z (ua rfl) ai fT
  have vt:=fun z x R=>(A3 z x R).2 H.next _ ((cY (by omega)).trans c1) rfl (show H.next < H'.next by omega)
  have nf:=fun z x R=>(A3 z x R).2 (H.next + 1) _ ((cY (by omega)).trans gP) rfl (show H.next + 1 < H'.next by omega)
  simp (disch:=(refine am ?_; first | decide | omega | (simp only [aT,aW] <;> omega) | with_unfolding_all exact a6 rfl | with_unfolding_all exact a7 rfl)) only [go_sem,a2 c1,dU,fX,x3,vt,nf,b6,aZ,wrap_i64,I0 (ki:= .u64) (k':= .u64) (s:=8) rfl]
  have ae8:bG .u8 ((n / 256 ^ i:Nat):Int)=((UInt8.ofNat (n / 256 ^ i)).toNat:Int):=by rw [Nx]; simp
  have g0:b2 (.int .u8 (bG .u8 ((n / 256 ^ i:Nat):Int)))=true:=rfl
  refine ⟨_,by omega,i + 1,.slice (H'.next + 1) 0 ((List.map aI (leBytes n i)).length + 1) (.rest 0 1 ((List.map aI (leBytes n i)).length + 1)),aF,rfl,rfl,?_,?_,?_,?_⟩
  ·
   rw [MY,List.map_append]
   exact (((Acc.other ((aC.other dU rfl (by omega)).wS hlen (aI (UInt8.ofNat (n / 256 ^ i))) (by rw [ae8]; rfl) rfl rfl) (vt _ _ g0) rfl (Nat.le_refl _)).other ((cY (by omega)).trans (x3 _ _ g0 rfl)) rfl (by omega)).other ((cY (by omega)).trans ((cY (by omega)).trans (nf _ _ g0))) rfl (by omega))
  ·
   show _≤(jI _ _ _ _ _).next
   rw [ar _ _ g0]
   exact Nat.le_trans fT (Nat.le_add_right _ 2)
  ·
   rfl
  ·
   rw [show n / 256 ^ (i + 1)=n / 256 ^ i / 2 ^ 8 from by rw [Nat.pow_succ,Nat.div_div_eq_div_mul]]
 ·
  simp (disch:=(refine am ?_; first | decide | omega)) only [go_sem,b6,aZ]
  obtain rfl:i=k.toNat:=by omega
  subst oi
  refine .inl ?_
  simp (disch:=(refine am ?_; first | decide | omega)) only [go_sem,dU,a2 c1]
  exact (aC.other dU rfl (by omega)).q3 bC (kb fun _=>rfl) ab
end
end Go.az
namespace Go.az
open Go.Proofs
noncomputable section
set_option maxRecDepth 100000
def er:List UInt8 -> Nat
 | []=>0
 | c :: l=>c.toNat + 256 * er l
theorem OR (l:List UInt8) (c:UInt8):er (l ++ [c])=er l + 256 ^ l.length * c.toNat:=by
 induction l with
 | nil=>simp [er]
 | cons a l aH=>
  show a.toNat + 256 * er (l ++ [c])=a.toNat + 256 * er l + 256 ^ (l.length + 1) * c.toNat
  rw [aH,Nat.mul_add,Nat.pow_succ]
  have:256 * (256 ^ l.length * c.toNat)=256 ^ l.length * 256 * c.toNat:=by rw [<- Nat.mul_assoc,Nat.mul_comm 256]
  omega
theorem wp:∀l:List UInt8,er l < 256 ^ l.length
 | []=>by simp [er]
 | c :: l=>by
  have J:=wp l
  have O:=c.toNat_lt
  show c.toNat + 256 * er l < 256 ^ (l.length + 1)
  rw [Nat.pow_succ]; omega
theorem SI {H:aa} {l:List I} {K:I -> aa -> Prop} (U:l.length≤140737488351232) (V:∀x∈l,x.cells.length=1) (ao:br (a3 l)=true) (aR:∀x∈l,iV x=true) (ab:K (.aJ 1 l) H):Call (.func 23 [] []) [.aJ 1 l] H K:=by
 refine fi.out fun bC=>UM U V ao aR (.inl ab) ?_
 rintro rfl
 exact (Acc.nil (E:=aq) (e:=5) e2 (by decide) nT).q3 bC (by simp) ab
theorem jl:∀l:List UInt8,br (a3 (l.map aI))=true
 | []=>rfl
 | _ :: l=>jl l
theorem SJ {H:aa} {l:List UInt8} {K:I -> aa -> Prop} (U:l.length≤140737488351232) (ab:K (.aJ 1 (l.map aI)) H):Call (.func 23 [] []) [.aJ 1 (l.map aI)] H K:=by
 refine SI (by simpa using U) ?_ ?_ (kb fun _=>rfl) ab
 ·
  intro x R; obtain ⟨c,_,rfl⟩:=List.mem_map.1 R; rfl
 ·
  exact jl l
end
end Go.az
namespace Go.az
open Go.Proofs
noncomputable section
set_option maxRecDepth 100000
theorem abl:bE.fn 53=some Try.f53:=by kernel_rfl
theorem abm:bE.fn 77=some Try.f77:=by kernel_rfl
theorem abn:bE.fn 78=some Try.f78:=by kernel_rfl
theorem abo:bE.fn 92=some Try.f92:=by kernel_rfl
theorem abp:bE.fn 96=some Try.f96:=by kernel_rfl
theorem abq:bE.fn 80=some Try.f80:=by kernel_rfl
def zeros (l:List UInt8):Bool:=l.all (· ==0)
theorem WP (c:UInt8):(c.toNat:Int)=0↔c=0:=by
 constructor
 ·
  intro h
  have:c.toNat=0:=by omega
  exact UInt8.toNat_inj.1 this
 ·
  rintro rfl; rfl
theorem CO {H:aa} {l:List UInt8} {K:I -> aa -> Prop} (ah:l.length < 9223372036854775807) (ab:K (.bool (zeros l)) H):Call (.func 53 [] []) [.aJ 1 (l.map aI)] H K:=by
 refine bR (N:=6) rfl abl rfl rfl rfl rfl rfl fun bC=> ?_
 simp (disch:=(refine am ?_; decide)) only [go_sem]
 refine bR (N:=9) rfl abm rfl rfl rfl rfl rfl fun _=> ?_
 simp (disch:=(refine am ?_; decide)) only [go_sem]
 refine bR (N:=19) rfl abo rfl rfl rfl rfl rfl fun _=> ?_
 simp (disch:=(refine am ?_; decide)) only [go_sem,List.length_map]
 refine gw 524080 (by kernel_rfl) (fun r G H'=>∃i:Nat,i≤l.length /\ r=l.length - i /\ G.get 8=some (.int .i64 i) /\ zeros (l.take i)=true /\ H'=H) l.length ⟨0,Nat.zero_le _,rfl,rfl,rfl,rfl⟩ ?_
 rintro r G H' aZ ⟨i,ad,rfl,em,ai,rfl⟩
 by_cases aF:i < l.length
 ·
  simp (disch:=(refine am ?_; first | assumption | decide | omega)) only [go_sem,em,aZ,fh]
  refine bR (N:=5) rfl abn rfl rfl rfl rfl rfl fun _=> ?_
  simp (disch:=(refine am ?_; decide)) only [go_sem]
  refine .inl ?_
  have r0:zeros (l.take (i + 1))=(l[i]==0):=by
   have fA:(l.take i).all (· ==0)=true:=ai
   unfold zeros
   rw [List.take_add_one,List.getElem?_eq_getElem aF,Option.toList_some,List.all_append,fA,Bool.true_and,List.all_cons,List.all_nil,Bool.and_true]
  by_cases aD:l[i]=0
  ·
   rw [aD] at r0 ⊢
   simp (disch:=(refine am ?_; first | assumption | decide | omega | (simp only [aT,aW] <;> omega) | with_unfolding_all exact a6 rfl | with_unfolding_all exact a7 rfl)) only [go_sem,em,aZ,wrap_i64]
   exact ⟨_,by omega,i + 1,aF,rfl,rfl,by rw [r0]; rfl⟩
  ·
   have ve:¬(l[i].toNat:Int)=0:=fun h=>aD ((WP _).1 h)
   simp (disch:=(refine am ?_; first | assumption | decide | omega | (simp only [aT,aW] <;> omega) | with_unfolding_all exact a6 rfl | with_unfolding_all exact a7 rfl)) only [go_sem,em,aZ,wrap_i64]
   refine .inl ?_
   simp (disch:=(refine am ?_; first | decide | omega)) only [go_sem]
   refine .inl ?_
   simp (disch:=(refine am ?_; decide)) only [go_sem]
   have ao:zeros l=false:=by
    unfold zeros
    rw [List.all_eq_false]
    exact ⟨l[i],List.getElem_mem aF,by simpa using aD⟩
   rw [ao] at ab
   exact .inl ab
 ·
  simp (disch:=(refine am ?_; first | decide | omega)) only [go_sem,em,aZ]
  obtain rfl:i=l.length:=by omega
  refine .inl ?_
  simp (disch:=(refine am ?_; decide)) only [go_sem]
  refine .inl ?_
  simp (disch:=(refine am ?_; decide)) only [go_sem]
  rw [List.take_length] at ai
  rw [ai] at ab
  exact .inl ab
theorem CU {E:Env} {H:aa} {b e sz len m n:Nat} {cs new:List I} (U:H.m.get b=some (.cells cs e false true)) (bm:au E e=sz) (bU:0 < sz) (hm:0 < m) (ah:new.length=m * sz) (ao:br new=true) (ar:len + m≤n) (cB:cs.length=n * sz):
 cJ E H e (.slice b 0 len (.rest 0 sz n)) m new=some (.slice b 0 (len + m) (.rest 0 sz n),aN H b (.cells (cs.take (len * sz) ++ (new ++ cs.drop (len * sz + new.length))) e false true)):=by
 have hle:(len + m) * sz≤cs.length:=by rw [cB]; exact Nat.mul_le_mul_right _ ar
 have J:Nat.beq m 0=false:=lF (by omega)
 have O:bT H b (0 + len * sz) new=some (aN H b (.cells (cs.take (len * sz) ++ (new ++ cs.drop (len * sz + new.length))) e false true)):=by
  rw [g4,U]
  show hi H b _ new (.cells cs e false true)=_
  rw [hM,ao,Nat.zero_add,yY (by rw [ah,<- Nat.add_mul]; exact hle)]; rfl
 show ap (Nat.beq m 0) _ (((H.m.get b).ac ownRow).ac fun r=>_)=_
 rw [J,U]
 show ap (Nat.beq e e && (Nat.blt 0 (au E e) && Nat.beq sz (au E e))) (ap (Nat.ble (0 + (len + m) * au E e) (bJ cs)) ((bT H b (0 + len * au E e) new).omap fun H'=>(I.slice b 0 (len + m) (.rest 0 sz (ap (Nat.ble n (len + m)) (len + m) n)),H')) _) none=_
 rw [bm,Nat.beq_refl,Nat.beq_refl,(cZ _ _).2 bU,eQ,Nat.zero_add ((len + m) * sz),de.2 hle,O]
 have ag:ap (Nat.ble n (len + m)) (len + m) n=n:=by
  by_cases h:n≤len + m
  ·
   rw [de.2 h]; show len + m=n; omega
  ·
   rw [zL h]; rfl
 rw [ag]; rfl
theorem YM {E:Env} {H:aa} {b o e len:Nat} {c:dm} {new:List I}:cJ E H e (.slice b o len c) 0 new=some (.slice b o len c,H):=rfl
theorem NB {E:Env} {H:aa} {t t2 e:TypeId} {k:IntKind} {u:I} {n:Nat} {z:I} (h:aU E t= .slice e) (O:aU E t2= .int k) (ai:cr E e=some z) (ar:n≤1048576) (U:Nat.ble (iU E e) 1048576=true):
 fQ .append E H [u,.int k (n:Int)] [t,t2]=cJ E H e u n (cR n z.cells):=by
 show kg E H t [t2] u (.int k (n:Int))=_
 unfold kg
 rw [h]; simp only; rw [O]; simp only
 rw [IL,y4]
 show (cr E e).ac _=_
 rw [ai]
 show (match Nat.ble n 1048576 && Nat.ble (iU E e) 1048576 with | true=>_ | false=>_)=_
 rw [U,de.2 ar]; rfl
theorem SK {E:Env} {e sz b len n:Nat} {k:IntKind} (bm:au E e=sz):dp (.slice e) E (.slice b 0 len (.rest 0 sz n)) none (some (.int k 0)) none=some (.slice b 0 0 (.rest 0 sz n)):=by
 show ap (Nat.beq sz (au E e)) ((bF len n none (some (.int k 0)) none).ac fun r=>ap (Nat.blt r.1 n || Nat.beq r.1 0) (some (I.slice b (0 + r.1 * sz) (r.2.1 - r.1) (.rest (0 + r.1) sz (n - r.1)))) _) none=_
 rw [bm,Nat.beq_refl]
 have:bF len n none (some (.int k 0)) none=some (0,0,n):=rfl
 rw [this]
 show ap (Nat.blt 0 n || Nat.beq 0 0) (some (I.slice b (0 + 0 * sz) (0 - 0) (.rest (0 + 0) sz (n - 0)))) _=_
 rw [show Nat.beq 0 0=true from rfl,Bool.or_true,Nat.zero_mul]; rfl
theorem UO {E:Env} {e:TypeId}:rn (.slice e) .aE=some (.int .i64 0):=rfl
theorem Cq {E:Env} {H:aa} {e sz n:Nat} {new:List I} (a4:jw E e=true) (bm:au E e=sz) (aD:0 < n) (ar:n≤1048576):cJ E H e .aE n new=some (.slice H.next 0 n (.rest 0 sz n),(aS H (.cells new e false true)).2):=by
 show ap (Nat.beq n 0) _ (ap (mj E e n) (some (I.slice H.next 0 n (.rest 0 (au E e) n),(aS H (.cells new e false true)).2)) none)=_
 rw [lF (by omega),oy a4 ar,bm]; rfl
theorem UP {H:aa} {n:Nat} {K:I -> aa -> Prop} (aD:0 < n) (ar:n≤1048576) (ab:K (.slice H.next 0 0 (.rest 0 1 n)) (aS H (.cells (List.replicate n (.int .u8 0)) 5 false true)).2):Call (.func 96 [] []) [.aE,.int .i64 (n:Int)] H K:=by
 have J:=NB (E:=aq) (H:=H) (u:= .aE) i6 uW z9 ar (by rw [Kr]; rfl)
 have O:cR n (I.int .u8 0).cells=List.replicate n (.int .u8 0):=by
  rw [q9]
  show (List.replicate n [I.int .u8 0]).flatten=_
  clear J ab aD ar
  induction n with
  | zero=>rfl
  | succ n aH=>rw [List.replicate_succ,List.flatten_cons,aH]; rfl
 rw [O,Cq nT e2 aD ar] at J
 have ag:dp (.slice 5) aq .aE none (some (.int .i64 0)) none=some .aE:=rfl
 have aP:dp (.slice 5) aq (.slice H.next 0 n (.rest 0 1 n)) none (some (.int .i64 0)) none=some (.slice H.next 0 0 (.rest 0 1 n)):=SK e2
 refine bR (N:=27) rfl abp rfl rfl rfl rfl rfl fun bC=> ?_
 simp (disch:=(refine am ?_; first | decide | omega)) only [go_sem,wrap_i64,UO,Int.sub_zero,J,ag,aP]
 exact .inl ab
theorem yQ {ps:List (List UInt8)} {i:Nat} (h:i < ps.length):(ps.take (i + 1)).flatten=(ps.take i).flatten ++ ps[i]:=by
 rw [List.take_add_one,List.getElem?_eq_getElem h,Option.toList_some,List.flatten_append]; simp
theorem BV {ps:List (List UInt8)} {i:Nat}:(ps.take i).flatten.length≤ps.flatten.length:=by
 have:ps.flatten=(ps.take i).flatten ++ (ps.drop i).flatten:=by rw [<- List.flatten_append,List.take_append_drop]
 rw [this,List.length_append]; omega
def gY (H:aa) (v:I) (l:List UInt8):Prop:=hh (.slice 5) aq v=some (.int .i64 (l.length:Int)) /\ ∀H',Fr H H' -> fu aq H' 5 v=some (l.length,l.map aI)
theorem eY (l:List UInt8):a3 (l.map aI)=l.map aI:=by
 induction l with
 | nil=>rfl
 | cons c l aH=>show aI c :: a3 (l.map aI)=_; rw [aH]; rfl
theorem gY.aJ {H:aa} {l:List UInt8}:gY H (.aJ 1 (l.map aI)) l:=by
 refine ⟨by rw [CN,List.length_map],fun H' _=> ?_⟩
 rw [IY,show au aq 5=1 from e2,eY,List.length_map]; rfl
theorem gY.own {H:aa} {b:Nat} {k:dm} {x:Bool} {l:List UInt8} (U:H.m.get b=some (.cells (l.map aI) 5 x true)) (aF:b < H.next):gY H (.slice b 0 l.length k) l:=by
 refine ⟨rfl,fun H' ao=> ?_⟩
 have dx:H'.m.get b=some (.cells (l.map aI) 5 x true):=by rw [ao.get b aF]; exact U
 show (bA H' b 0 (Nat.mul l.length (au aq 5))).omap (fun r=>(l.length,r))=_
 rw [show au aq 5=1 from e2,show Nat.mul l.length 1=l.length from Nat.mul_one _,(a2 dx).2.2.1]
 by_cases aD:l= []
 ·
  subst aD; rfl
 ·
  rw [lF (fun h=>aD (List.eq_nil_of_length_eq_zero h))]
  show (cG l.length (co 0 (l.map aI))).omap _=_
  rw [dz,List.drop_zero,fL,if_pos (by rw [List.length_map]; exact Nat.le_refl _),List.take_of_length_le (by rw [List.length_map]; exact Nat.le_refl _)]; rfl
theorem gY.b3 {H H':aa} {v:I} {l:List UInt8} (h:gY H v l) (ao:Fr H H'):gY H' v l:=⟨h.1,fun ay O=>h.2 ay (ao.trans O)⟩
theorem gY.acc {H0 H:aa} {v:I} {l:List UInt8} (h:Acc aq H0 H 5 1 v (l.map aI)):gY H v l:=by
 have ah:(l.map aI).length=l.length:=List.length_map _
 rcases h.own.2 with ⟨rfl,aD⟩ | ⟨b,x,_,aF,rfl,U⟩
 ·
  rw [ah] at aD
  obtain rfl:=List.eq_nil_of_length_eq_zero aD
  exact ⟨rfl,fun _ _=>rfl⟩
 ·
  rw [eY] at U
  rw [ah]
  exact gY.own U aF
theorem OS {H:aa} {b:Nat} {ex:Bool} {vs:List I} {ps:List (List UInt8)} {K:I -> aa -> Prop} (U:H.m.get b=some (.cells vs 32 ex true)) (Ao:vs.length=ps.length) (ak:∀i (h:i < ps.length),gY H (vs[i]'(by omega)) ps[i]) (rQ:b < H.next) (bX:ps.flatten≠ []) (hlen:ps.flatten.length≤1048576) (ho:ps.length≤1048576)
 (ab:∀v H',Acc aq H H' 5 1 v (ps.flatten.map aI) -> K v H'):Call (.func 80 [] []) [.slice b 0 ps.length (.ex ps.length)] H K:=by
 have bU:0 < ps.flatten.length:=List.length_pos_iff.2 bX
 refine bR (N:=36) rfl abq rfl rfl rfl rfl rfl fun bC=> ?_
 simp (disch:=(refine am ?_; decide)) only [go_sem]
 refine gw 8386600 (by kernel_rfl) (fun r G H'=>∃i:Nat,i≤ps.length /\ r=ps.length - i /\ G.get 11=some (.int .i64 i) /\ G.get 3=some (.int .i64 ((ps.take i).flatten.length:Nat)) /\ H'=H) ps.length ⟨0,Nat.zero_le _,rfl,rfl,rfl,rfl⟩ ?_
 rintro r G H' aZ ⟨i,ad,rfl,LC,bW,rfl⟩
 by_cases aF:i < ps.length
 ·
  have a4:fy vs i=some (vs[i]'(by omega)):=by rw [ke,List.getElem?_eq_getElem]
  have hR:=(ak i aF).1
  have oa:=BV (ps:=ps) (i:=i)
  have j3:=BV (ps:=ps) (i:=i + 1)
  have dn:(ps.take (i + 1)).flatten.length=(ps.take i).flatten.length + ps[i].length:=by rw [yQ aF,List.length_append]
  simp (disch:=(refine am ?_; first | assumption | decide | omega)) only [go_sem,LC,bW,aZ,a2 U,wj,a4,hR,wrap_i64]
  exact ⟨_,by omega,i + 1,aF,rfl,rfl,by rw [dn]; rfl⟩
 have b5:i=ps.length:=by omega
 subst b5
 simp (disch:=(refine am ?_; first | decide | omega)) only [go_sem,LC,bW,aZ]
 rw [List.take_length]
 refine UP bU hlen ?_
 simp (disch:=(refine am ?_; decide)) only [go_sem,aZ]
 refine gw 34225520960 (by kernel_rfl) (fun r G ay=>∃i:Nat,i≤ps.length /\ r=ps.length - i /\ G.get 27=some (.int .i64 i) /\ G.get 6=some (.slice H'.next 0 (ps.take i).flatten.length (.rest 0 1 ps.flatten.length)) /\ Fr H' ay /\ H'.next < ay.next /\
  ay.m.get H'.next=some (.cells ((ps.take i).flatten.map aI ++ List.replicate (ps.flatten.length - (ps.take i).flatten.length) (.int .u8 0)) 5 false true)) ps.length ?_ ?_
 ·
  exact ⟨0,Nat.zero_le _,rfl,by simp (disch:=(refine am ?_; first | assumption | decide | omega | (simp only [aT,aW] <;> omega) | with_unfolding_all exact a6 rfl | with_unfolding_all exact a7 rfl)) only [go_sem]; rfl,by simp (disch:=(refine am ?_; first | assumption | decide | omega | (simp only [aT,aW] <;> omega) | with_unfolding_all exact a6 rfl | with_unfolding_all exact a7 rfl)) only [go_sem,List.take_zero]; rfl,Fr.alloc H' _,Nat.lt_succ_self _,by simp (disch:=(refine am ?_; first | assumption | decide | omega | (simp only [aT,aW] <;> omega) | with_unfolding_all exact a6 rfl | with_unfolding_all exact a7 rfl)) only [go_sem,List.take_zero]; rfl⟩
 rintro r kG ay fV ⟨i,ad,rfl,Fc,dy,ao,tq,hm⟩
 by_cases aF:i < ps.length
 ·
  have jB:ay.m.get b=some (.cells vs 32 ex true):=by rw [ao.get b rQ]; exact U
  have a4:fy vs i=some (vs[i]'(by omega)):=by rw [ke,List.getElem?_eq_getElem]
  have hR:=(ak i aF).1
  have j3:=BV (ps:=ps) (i:=i + 1)
  have dn:(ps.take (i + 1)).flatten.length=(ps.take i).flatten.length + ps[i].length:=by rw [yQ aF,List.length_append]
  by_cases ai:ps[i]= []
  ·
   have a8:(ps.take (i + 1)).flatten=(ps.take i).flatten:=by rw [yQ aF,ai,List.append_nil]
   have ii:fu aq ay 5 (vs[i]'(by omega))=some (0,[]):=by rw [(ak i aF).2 ay ao,ai]; rfl
   simp (disch:=(refine am ?_; first | assumption | decide | omega)) only [go_sem,Fc,dy,fV,a2 jB,wj,a4,ii,YM,wrap_i64]
   exact ⟨_,by omega,i + 1,aF,rfl,rfl,by rw [a8],ao,tq,by rw [a8]; exact hm⟩
  ·
   have EV:0 < ps[i].length:=List.length_pos_iff.2 ai
   have nR:∀l:List UInt8,a3 (l.map aI)=l.map aI:=fun l=>by
    induction l with
    | nil=>rfl
    | cons c l aH=>show aI c :: a3 (l.map aI)=_; rw [aH]; rfl
   have hT:=CU (E:=aq) (m:=ps[i].length) (len:=(ps.take i).flatten.length) (n:=ps.flatten.length) (new:=ps[i].map aI) hm e2 (by decide) EV (by rw [List.length_map,Nat.mul_one]) (by rw [<- nR]; exact jl _) (by omega) (by rw [List.length_append,List.length_map,List.length_replicate]; omega)
   have ii:=(ak i aF).2 ay ao
   simp (disch:=(refine am ?_; first | assumption | decide | omega)) only [go_sem,Fc,dy,fV,a2 jB,wj,a4,ii,hT,wrap_i64]
   refine ⟨_,by omega,i + 1,aF,rfl,rfl,by rw [dn],ao.set (Nat.le_refl _) _,tq,?_⟩
   have vH:((ps.take i).flatten.map aI).length=(ps.take i).flatten.length:=List.length_map _
   have ad8:(ps[i].map aI).length=ps[i].length:=List.length_map _
   rw [ad8,List.take_append_of_le_length (by omega),List.take_of_length_le (by omega),List.drop_append,vH,List.drop_of_length_le (by omega),List.nil_append,List.drop_replicate,dn,yQ aF,List.map_append,List.append_assoc]
   rw [show ps.flatten.length - (ps.take i).flatten.length - ((ps.take i).flatten.length + ps[i].length - (ps.take i).flatten.length)=ps.flatten.length - ((ps.take i).flatten.length + ps[i].length) by omega]
 ·
  have Fe:i=ps.length:=by omega
  subst Fe
  simp (disch:=(refine am ?_; first | decide | omega)) only [go_sem,Fc,dy,fV]
  rw [List.take_length,Nat.sub_self,List.replicate_zero,List.append_nil] at hm
  rw [List.take_length]
  have nR:∀l:List UInt8,a3 (l.map aI)=l.map aI:=fun l=>by
   induction l with
   | nil=>rfl
   | cons c l aH=>show aI c :: a3 (l.map aI)=_; rw [aH]; rfl
  have ae:Acc aq H' ay 5 1 (.slice H'.next 0 ps.flatten.length (.rest 0 1 ps.flatten.length)) (ps.flatten.map aI):=by
   refine ⟨ao,⟨?_,.inr ⟨H'.next,false,Nat.le_refl _,tq,?_,?_⟩⟩,?_,e2,by decide,nT⟩
   ·
    rw [nR,Nat.mul_one]
   ·
    rw [List.length_map]; rfl
   ·
    rw [nR]; exact hm
   ·
    intro x R; obtain ⟨c,_,rfl⟩:=List.mem_map.1 R; rfl
  exact .inl (ab _ _ ae)
def o2 (H:aa):List I -> List (List UInt8) -> Prop
 | [],[]=>True
 | v :: vs,p :: ps=>gY H v p /\ o2 H vs ps
 | _,_=>False
theorem o2.nil {H:aa}:o2 H [] []:=trivial
theorem o2.cons {H:aa} {v:I} {p:List UInt8} {vs:List I} {ps:List (List UInt8)} (h:gY H v p) (O:o2 H vs ps):o2 H (v :: vs) (p :: ps):=⟨h,O⟩
theorem o2.get {H:aa}:∀ {vs:List I} {ps:List (List UInt8)},o2 H vs ps -> ∃h:vs.length=ps.length,∀i (ad:i < ps.length),gY H (vs[i]'(by omega)) ps[i]
 | [],[],_=>⟨rfl,fun i ad=>absurd ad (Nat.not_lt_zero _)⟩
 | v :: vs,p :: ps,⟨J,O⟩=>by
  obtain ⟨ah,a4⟩:=o2.get O
  refine ⟨by simp [ah],fun i ad=> ?_⟩
  cases i with
  | zero=>exact J
  | succ i=>exact a4 i (by simpa using ad)
theorem yI {H:aa} {b n:Nat} {ex:Bool} {vs:List I} (ps:List (List UInt8)) {K:I -> aa -> Prop} (U:H.m.get b=some (.cells vs 32 ex true)) (aG:o2 H vs ps) (ar:n=ps.length) (rQ:b < H.next) (bX:ps.flatten≠ []) (hlen:ps.flatten.length≤1048576) (ho:n≤1048576)
 (ab:∀v H',Acc aq H H' 5 1 v (ps.flatten.map aI) -> K v H'):Call (.func 80 [] []) [.slice b 0 n (.ex n)] H K:=by
 obtain ⟨J,O⟩:=aG.get
 subst ar
 exact OS U J O rQ bX hlen ho ab
end
end Go.az
namespace Go.az
open Go.Proofs
noncomputable section
set_option maxRecDepth 100000
theorem abr:bE.fn 95=some Try.f95:=by kernel_rfl
theorem YN:bE.fn 103=some Try.f103:=by kernel_rfl
theorem YO:bE.fn 105=some Try.f105:=by kernel_rfl
theorem abs:bE.fn 99=some Try.f99:=by kernel_rfl
theorem sN (l:List UInt8):∀x∈l.map aI,x.cells.length=1:=by
 intro x R; obtain ⟨c,_,rfl⟩:=List.mem_map.1 R; rfl
theorem Acc.read {E:Env} {H0 H:aa} {e sz:Nat} {v:I} {l:List I} (h:Acc E H0 H e sz v l) (aR:∀x∈l,iV x=true) {σ:bK} {H1:aa} {a:I} (r:cW false σ H H1) (ae:al false σ H1 v a):al false gn H1 (.aJ sz l) a:=by
 rcases h.own.2 with ⟨rfl,ah⟩ | ⟨b,x,_,_,rfl,U⟩
 ·
  obtain rfl:=ae.aE
  have:l= []:=List.eq_nil_of_length_eq_zero ah
  subst this
  exact al.fP (.inl rfl)
 ·
  have cB:=(fv h.el).1
  refine zk r ae ?_ aR h.el h.bU ?_ fun _=> ?_
  ·
   have:=(a2 U).2.2.1 0 (l.length * sz)
   rw [this]
   by_cases aD:l.length * sz=0
   ·
    rw [aD]
    have:a3 l= []:=List.eq_nil_of_length_eq_zero (by rw [cB,aD])
    rw [this]; rfl
   ·
    rw [lF aD]
    show cG _ (co 0 _)=_
    rw [dz,fL,List.drop_zero,if_pos (by rw [cB]; exact Nat.le_refl _),List.take_of_length_le (by rw [cB]; exact Nat.le_refl _)]
  ·
   cases x
   ·
    exact rfl
   ·
    trivial
  ·
   cases x
   ·
    exact Nat.le_refl _
   ·
    exact Nat.le_refl _
theorem YP {f:FuncId} {H0 H:aa} {e sz:Nat} {v w:I} {l:List I} {K:I -> aa -> Prop} (ae:Acc aq H0 H e sz v l) (aR:∀x∈l,iV x=true) (hw:iV w=true) (h:Call (.func f [] []) [.aJ sz l] mw fun cc _=>cc=w) (ab:K w H):Call (.func f [] []) [v] H K:=by
 refine fi.read hw h (fun σ H1 fD r ak=> ?_) ab
 obtain ⟨y,bi,J,O,rfl⟩:=av.cons.1 ak
 rw [av.nil] at O
 subst O
 have cT:Acc bE H0 H e sz v l:=⟨ae.fr,ae.own,ae.el,ae.bm,ae.bU,ae.a4⟩
 exact av.one (cT.read aR r J)
theorem Hr {H0 H:aa} {v:I} {l:List UInt8} {K:I -> aa -> Prop} (ae:Acc aq H0 H 5 1 v (l.map aI)) (ah:l.length≤1048576) (ab:K (.int .u64 (ei l)) H):Call (.func 72 [] []) [v] H K:=
 YP ae (kb fun _=>rfl) rfl (Cj (by omega) rfl) ab
theorem Ks {H:aa} {n:Nat} {K:I -> aa -> Prop} (ar:n < 18446744073709551616) (ab:K (.aJ 1 ((leBytes n 8).map aI)) H):Call (.func 81 [] []) [.int .u64 n,.int .i64 8] H K:=Dc ar (by decide) (by decide) ab
theorem Kt {H:aa} {n:Nat} {K:I -> aa -> Prop} (ar:n < 18446744073709551616) (ab:K (.aJ 1 ((leBytes n 4).map aI)) H):Call (.func 81 [] []) [.int .u64 n,.int .i64 4] H K:=Dc ar (by decide) (by decide) ab
theorem uX {H:aa} {n:Nat} {K:I -> aa -> Prop} (ar:n < 18446744073709551616) (ab:K (.aJ 1 ((leBytes n 2).map aI)) H):Call (.func 81 [] []) [.int .u64 n,.int .i64 2] H K:=Dc ar (by decide) (by decide) ab
def nA (l:List UInt8):List UInt8:=l ++ leBytes (ei l) 8
theorem Bn {H0 H:aa} {v:I} {l:List UInt8} {K:I -> aa -> Prop} (ae:Acc aq H0 H 5 1 v (l.map aI)) (ah:l.length≤1000000) (ab:∀cc H',Acc aq H0 H' 5 1 cc ((nA l).map aI) -> K cc H'):Call (.func 95 [] []) [v] H K:=by
 have aF:ei l < 18446744073709551616:=yP (by decide) l
 have l2:((leBytes (ei l) 8).map aI).length=8:=by rw [List.length_map,eX]
 have hm:=ae.many (m:=8) (by rw [List.length_map]; omega) (by decide) ((leBytes (ei l) 8).map aI) (by rw [l2]) (by rw [<- eY]; exact jl _)
 have aw:=ae.Db (m:=8) (new:=(leBytes (ei l) 8).map aI) (by rw [List.length_map]; omega) (by decide) ((leBytes (ei l) 8).map aI) (eY _) l2 (sN _) (by rw [<- eY]; exact jl _)
 refine bR (N:=8) rfl abr rfl rfl rfl rfl rfl fun bC=> ?_
 simp (disch:=(refine am ?_; decide)) only [go_sem]
 refine Hr ae (by omega) ?_
 simp (disch:=(refine am ?_; decide)) only [go_sem]
 refine Ks aF ?_
 simp (disch:=(refine am ?_; decide)) only [go_sem,List.length_map,eX,eY,hm]
 refine .inl (ab _ _ ?_)
 unfold nA
 rw [List.map_append]
 rw [List.length_map] at aw
 exact aw
def e0 (l:List UInt8) (k:Nat):List UInt8:=(l.drop (64 * k)).take 64
def g7 (count:Int) (zs:Bool) (l:List UInt8):Bool:=if zs then l.isEmpty else decide ((l.length:Int)=count * 64) && (List.range (l.length / 64)).all fun k=> !(zeros (e0 l k))
theorem UQ {H:aa} {from_ count:Int} {zs:Bool} {l:List UInt8} {K:I -> aa -> Prop} (J:1≤count) (O:count≤64) (ah:l.length≤1048576) (ab:K (.bool (g7 count zs l)) H):
 Call (.func 99 [] []) [.agg [.int .i64 from_,.int .i64 count,.bool zs,.aJ 1 (l.map aI)]] H K:=by
 have dn:bG .i64 (count * 64)=count * 64:=wrap_i64 (by omega) (by omega)
 refine bR (N:=23) rfl abs rfl rfl rfl rfl rfl fun bC=> ?_
 simp (disch:=(refine am ?_; first | decide | omega | (simp only [aT,aW] <;> omega) | assumption)) only [go_sem]
 cases zs with
 | true=>
  simp (disch:=(refine am ?_; first | decide | omega | (simp only [aT,aW] <;> omega) | assumption)) only [go_sem,List.length_map]
  have:g7 count true l=decide ((l.length:Int)=0):=by
   show l.isEmpty=_
   cases l with
   | nil=>rfl
   | cons c l=>symm; exact decide_eq_false (by rw [List.length_cons]; omega)
  rw [this] at ab
  exact .inr (.inl ⟨(((Fr.refl H).ce _).ce _).set (by omega) _,_,b_.bool,ab⟩)
 | false=>
  by_cases hlen:(l.length:Int)=count * 64
  ·
   simp (disch:=(refine am ?_; first | decide | omega | (simp only [aT,aW] <;> omega) | assumption)) only [go_sem,List.length_map,dn]
   refine bR (N:=9) rfl YN rfl rfl rfl rfl rfl fun _=> ?_
   simp (disch:=(refine am ?_; first | decide | (simp only [aT,aW] <;> omega) | assumption)) only [go_sem]
   left
   simp (disch:=(refine am ?_; decide)) only [go_sem]
   generalize oi:bf.loop _ _ _ _ _ _ _ _ _=tV
   refine bR (N:=31) rfl YO rfl rfl rfl rfl rfl fun _=> ?_
   simp (disch:=(refine am ?_; decide)) only [go_sem]
   refine gw 2147483632 (by kernel_rfl) (fun r G H'=>∃i:Nat,64 * i≤l.length /\ r=l.length - i /\ G.get 4=some (.int .i64 ((64 * i:Nat):Int)) /\ Fr H H' /\ H.next + 5≤H'.next /\ H'.m.get (H.next + 1)=some (.cells [.bool false] 4 true true) /\
    H'.m.get (H.next + 1 + 1)=some (.cells [.aJ 1 (l.map aI)] 32 true true) /\ H'.m.get (H.next + 1 + 1 + 1)=some (.cells [.int .i64 64] 3 true true) /\ H'.m.get (H.next + 1 + 1 + 1 + 1)=some tV /\ ∀k < i,zeros (e0 l k)=false) l.length ?_ ?_
   ·
    exact ⟨0,Nat.zero_le _,rfl,rfl,((((Fr.refl H).ce _).ce _).ce _).ce _ |>.ce _,Nat.le_refl _,by simp (disch:=(refine am ?_; first | assumption | decide | omega | (simp only [aT,aW] <;> omega) | with_unfolding_all exact a6 rfl | with_unfolding_all exact a7 rfl)) only [go_sem],by simp (disch:=(refine am ?_; first | assumption | decide | omega | (simp only [aT,aW] <;> omega) | with_unfolding_all exact a6 rfl | with_unfolding_all exact a7 rfl)) only [go_sem],by simp (disch:=(refine am ?_; first | assumption | decide | omega | (simp only [aT,aW] <;> omega) | with_unfolding_all exact a6 rfl | with_unfolding_all exact a7 rfl)) only [go_sem],by simp (disch:=(refine am ?_; first | assumption | decide | omega | (simp only [aT,aW] <;> omega) | with_unfolding_all exact a6 rfl | with_unfolding_all exact a7 rfl)) only [go_sem],fun k ab=>absurd ab (Nat.not_lt_zero _)⟩
   rintro r G H' aZ ⟨i,ad,rfl,fb,ao,ar,gP,fe,dU,sc,ai⟩
   by_cases aF:64 * i < l.length
   ·
    simp (disch:=(refine am ?_; first | assumption | decide | omega | (simp only [aT,aW] <;> omega) | with_unfolding_all exact a6 rfl | with_unfolding_all exact a7 rfl)) only [go_sem,fb,aZ,a2 fe,a2 dU,List.length_map]
    refine iX (by kernel_rfl) (by kernel_rfl) ?_
    have jY:dp (.slice 5) aq (.aJ 1 (l.map aI)) (some (.int .i64 ((64 * i:Nat):Int))) none none=some (.aJ 1 ((l.drop (64 * i)).map aI)):=by
     rw [BG (64 * i) (by rw [List.length_map]; exact ad) e2.symm,List.map_drop]
    have dq:64 * i + 64≤l.length:=by omega
    have abt:min (64:Int) ((l.length - 64 * i:Nat):Int)=64:=by omega
    have vH:bG .i64 (((64 * i:Nat):Int) + 64)=((64 * i + 64:Nat):Int):=by rw [wrap_i64 (by omega) (by omega)]; rfl
    have AJ:dp (.slice 5) aq (.aJ 1 (l.map aI)) (some (.int .i64 ((64 * i:Nat):Int))) (some (.int .i64 ((64 * i + 64:Nat):Int))) (some (.int .i64 ((64 * i + 64:Nat):Int)))=some (.aJ 1 ((e0 l i).map aI)):=by
     rw [UF (64 * i) (64 * i + 64) (64 * i + 64) (by rw [List.length_map]; exact dq) (Nat.le_refl _) (by omega) (by omega) e2.symm,<- List.map_take,<- List.map_drop,List.drop_take]
     unfold e0
     rw [show 64 * i + 64 - 64 * i=64 by omega]
    have cP:(e0 l i).length≤64:=by unfold e0; rw [List.length_take]; omega
    simp (disch:=(refine am ?_; decide)) only [go_sem,fb,aZ,a2 fe,a2 dU,List.length_map,jY,List.length_drop,abt,vH,AJ]
    subst oi
    refine zx sc ?_
    simp (disch:=(refine am ?_; decide)) only [go_sem,sc]
    refine CO (l:=e0 l i) (by omega) ?_
    by_cases qm:zeros (e0 l i)=true
    ·
     rw [qm]
     simp (disch:=(refine am ?_; first | assumption | decide | omega | (simp only [aT,aW] <;> omega) | with_unfolding_all exact a6 rfl | with_unfolding_all exact a7 rfl)) only [go_sem,gP,sc,a2 gP]
     refine .inl ?_
     simp (disch:=(refine am ?_; first | assumption | decide | omega | (simp only [aT,aW] <;> omega) | with_unfolding_all exact a6 rfl | with_unfolding_all exact a7 rfl)) only [go_sem,gP,sc,a2 gP]
     have:g7 count false l=false:=by
      show (decide _ && _)=_
      rw [Bool.and_eq_false_iff]
      refine .inr (List.all_eq_false.2 ⟨i,List.mem_range.2 (by omega),by rw [qm]; decide⟩)
     rw [this] at ab
     refine .inr (.inl ⟨?_,_,b_.bool,ab⟩)
     repeat first | exact ao | refine Fr.set ?_ (by omega) _
    ·
     rw [Bool.not_eq_true] at qm
     rw [qm]
     simp (disch:=(refine am ?_; first | assumption | decide | omega | (simp only [aT,aW] <;> omega) | with_unfolding_all exact a6 rfl | with_unfolding_all exact a7 rfl)) only [go_sem,gP,sc,a2 gP,fb,aZ,a2 dU,vH]
     refine ⟨_,by omega,i + 1,by omega,rfl,by rw [show 64 * i + 64=64 * (i + 1) by omega],?_⟩
     refine ⟨?_,ar,fe,fun k kA=> ?_⟩
     ·
      repeat first | exact ao | refine Fr.set ?_ (by omega) _
     ·
      rcases Nat.lt_or_ge k i with h | h
      ·
       exact ai k h
      ·
       rw [show k=i by omega]; exact qm
   ·
    simp (disch:=(refine am ?_; first | decide | omega)) only [go_sem,fb,aZ,a2 fe,List.length_map]
    subst oi
    refine .inl ?_
    simp (disch:=(refine am ?_; first | assumption | decide | omega | (simp only [aT,aW] <;> omega) | with_unfolding_all exact a6 rfl | with_unfolding_all exact a7 rfl)) only [go_sem,gP,sc,a2 gP]
    have:g7 count false l=true:=by
     show (decide _ && _)=_
     rw [Bool.and_eq_true]
     refine ⟨decide_eq_true hlen,List.all_eq_true.2 fun k kA=> ?_⟩
     rw [ai k (by have:=List.mem_range.1 kA; omega)]; rfl
    rw [this] at ab
    refine .inr (.inl ⟨?_,_,b_.bool,ab⟩)
    repeat first | exact ao | refine Fr.set ?_ (by omega) _
  ·
   simp (disch:=(refine am ?_; first | assumption | decide | omega | (simp only [aT,aW] <;> omega) | assumption)) only [go_sem,List.length_map,dn]
   have:g7 count false l=false:=by
    show (decide _ && _)=_
    rw [decide_eq_false hlen]; rfl
   rw [this] at ab
   exact .inr (.inl ⟨(((Fr.refl H).ce _).ce _).set (by omega) _,_,b_.bool,ab⟩)
end
end Go.az
namespace Go.az
open Go.Proofs
noncomputable section
set_option maxRecDepth 100000
theorem Dx:bE.fn 100=some Try.f100:=by kernel_rfl
theorem abu:bE.fn 89=some Try.f89:=by kernel_rfl
theorem rL:bE.fn 71=some Try.f71:=by kernel_rfl
structure Rec where
 fr:Int
 aX:Int
 zs:Bool
 data:List UInt8
def hO (r:Rec):I:= .agg [.int .i64 r.fr,.int .i64 r.aX,.bool r.zs,.aJ 1 (r.data.map aI)]
theorem v' (r:Rec):hO r= .agg [.int .i64 r.fr,.int .i64 r.aX,.bool r.zs,.aJ 1 (r.data.map aI)]:=rfl
attribute [go_sem] v'
def f6 (r a:Rec):Bool:=decide (a.fr + a.aX < r.fr) || (decide (r.fr=a.fr + a.aX) && (r.zs !=a.zs))
def ia (n:Int):Prop:= -1000000000000≤n /\ n≤1000000000000
theorem Hs {H:aa} {r a:Rec} {K:I -> aa -> Prop} (J:ia a.fr) (O:ia a.aX) (ab:K (.bool (f6 r a)) H):Call (.func 100 [] []) [hO r,hO a] H K:=by
 obtain ⟨J,jX⟩:=J
 obtain ⟨O,lK⟩:=O
 have eg:∀ {x y:bf},Fr H (aS (aS H x).2 y).2:=((Fr.refl H).ce _).ce _
 have out:∀ {b:Bool} {x y:bf},f6 r a=b -> ji H K (.bool b) (aS (aS H x).2 y).2:=fun U=> .inr (.inl ⟨eg,_,b_.bool,U ▸ ab⟩)
 by_cases b1:a.fr + a.aX < r.fr
 ·
  refine bR (N:=28) rfl Dx rfl rfl rfl rfl rfl fun bC=> ?_
  simp (disch:=(refine am ?_; first | assumption | decide | omega | (simp only [aT,aW] <;> omega) | assumption)) only [go_sem,wrap_i64]
  exact out (by unfold f6; rw [decide_eq_true b1]; rfl)
 by_cases bV:r.fr=a.fr + a.aX
 ·
  refine bR (N:=28) rfl Dx rfl rfl rfl rfl rfl fun bC=> ?_
  simp (disch:=(refine am ?_; first | assumption | decide | omega | (simp only [aT,aW] <;> omega) | assumption)) only [go_sem,wrap_i64]
  exact out (by unfold f6; rw [decide_eq_false b1,decide_eq_true bV]; rfl)
 ·
  refine bR (N:=28) rfl Dx rfl rfl rfl rfl rfl fun bC=> ?_
  simp (disch:=(refine am ?_; first | assumption | decide | omega | (simp only [aT,aW] <;> omega) | assumption)) only [go_sem,wrap_i64]
  exact out (by unfold f6; rw [decide_eq_false b1,decide_eq_false bV]; rfl)
structure cS where
 blocks:Int
 base:Int
 id:Int
 aV:List Rec
def pY (s:cS):I:= .agg [.int .i64 s.blocks,.int .i64 s.base,.int .i64 s.id,.aJ 4 (s.aV.map hO)]
theorem ub (s:cS):pY s= .agg [.int .i64 s.blocks,.int .i64 s.base,.int .i64 s.id,.aJ 4 (s.aV.map hO)]:=rfl
attribute [go_sem] ub
def cV (blocks base:Int) (r:Rec):Bool:= !(decide (r.aX < 1) || decide (r.fr < 0) || decide (blocks≤r.fr) || decide (blocks - r.fr < r.aX) || !(g7 r.aX r.zs r.data) || (decide (base= -1) && r.zs))
def lz (s:cS):Bool:=(List.range s.aV.length).all fun i=>cV s.blocks s.base (s.aV.getD i ⟨0,0,false,[]⟩) && (decide (i=0) || f6 (s.aV.getD i ⟨0,0,false,[]⟩) (s.aV.getD (i - 1) ⟨0,0,false,[]⟩))
theorem GX {H:aa} {s:cS} {K:I -> aa -> Prop} (U:1≤s.blocks /\ s.blocks≤64) (ah:s.aV.length≤1000000) (aw:∀r∈s.aV,r.data.length≤1000000 /\ ia r.fr /\ ia r.aX) (ab:K (.bool (lz s)) H):Call (.func 89 [] []) [pY s] H K:=by
 refine bR (N:=66) rfl abu rfl rfl rfl rfl rfl fun bC=> ?_
 simp (disch:=(refine am ?_; first | decide | omega)) only [go_sem,List.length_map]
 refine gw 73786976294838206236 (by kernel_rfl) (fun r G H'=>∃i:Nat,i≤s.aV.length /\ r=s.aV.length - i /\ G.get 8=some (.int .i64 (i:Int)) /\ Fr H H' /\ H.next + 1≤H'.next /\
  H'.m.get H.next=some (.cells [.int .i64 s.blocks,.int .i64 s.base,.int .i64 s.id,.aJ 4 (s.aV.map hO)] 64 true true) /\
  ∀k < i,(cV s.blocks s.base (s.aV.getD k ⟨0,0,false,[]⟩) && (decide (k=0) || f6 (s.aV.getD k ⟨0,0,false,[]⟩) (s.aV.getD (k - 1) ⟨0,0,false,[]⟩)))=true) s.aV.length
  ⟨0,Nat.zero_le _,rfl,rfl,(Fr.refl H).ce _,Nat.le_refl _,by simp (disch:=(refine am ?_; first | assumption | decide | omega | (simp only [aT,aW] <;> omega) | with_unfolding_all exact a6 rfl | with_unfolding_all exact a7 rfl)) only [go_sem],fun k ab=>absurd ab (Nat.not_lt_zero _)⟩ ?_
 rintro r G H' aZ ⟨i,ad,rfl,em,ao,ar,c1,kt⟩
 by_cases aF:i < s.aV.length
 ·
  obtain ⟨iB,jC,iH⟩:=aw _ (List.getElem_mem aF)
  have Mc:s.aV.getD i ⟨0,0,false,[]⟩=s.aV[i]:=by rw [List.getD_eq_getElem?_getD,List.getElem?_eq_getElem aF]; rfl
  have bad:(cV s.blocks s.base s.aV[i] && (decide (i=0) || f6 s.aV[i] (s.aV.getD (i - 1) ⟨0,0,false,[]⟩)))=false -> lz s=false:=fun U=>by
   unfold lz
   exact List.all_eq_false.2 ⟨i,List.mem_range.2 aF,by rw [Mc,U]; decide⟩
  generalize aB:s.aV[i]=q at *
  have r_:=U.1
  have E':=U.2
  obtain ⟨jC,afr⟩:=jC
  obtain ⟨iH,afs⟩:=iH
  have fF:∀ {p:Bool},cV s.blocks s.base q=false -> (cV s.blocks s.base q && p)=false:=fun h=>by rw [h]; rfl
  by_cases b1:q.aX < 1
  ·
   simp (disch:=(refine am ?_; first | assumption | decide | omega)) only [go_sem,em,aZ,fh,aB]
   rw [bad (fF (by unfold cV; rw [decide_eq_true b1]; rfl))] at ab
   exact .inr (.inl ⟨by (repeat first | assumption | exact Fr.refl _ | refine Fr.ce ?_ _ | refine Fr.set ?_ (by omega) _),_,b_.bool,ab⟩)
  by_cases bV:q.fr < 0
  ·
   simp (disch:=(refine am ?_; first | assumption | decide | omega)) only [go_sem,em,aZ,fh,aB]
   rw [bad (fF (by unfold cV; rw [decide_eq_true bV,Bool.or_true]; rfl))] at ab
   exact .inr (.inl ⟨by (repeat first | assumption | exact Fr.refl _ | refine Fr.ce ?_ _ | refine Fr.set ?_ (by omega) _),_,b_.bool,ab⟩)
  by_cases c6:s.blocks≤q.fr
  ·
   simp (disch:=(refine am ?_; first | assumption | decide | omega)) only [go_sem,em,aZ,fh,aB,a2 c1]
   rw [bad (fF (by unfold cV; rw [decide_eq_true c6,Bool.or_true]; rfl))] at ab
   exact .inr (.inl ⟨by (repeat first | assumption | exact Fr.refl _ | refine Fr.ce ?_ _ | refine Fr.set ?_ (by omega) _),_,b_.bool,ab⟩)
  have eD:bG .i64 (s.blocks - q.fr)=s.blocks - q.fr:=wrap_i64 (by omega) (by omega)
  by_cases d9:s.blocks - q.fr < q.aX
  ·
   simp (disch:=(refine am ?_; first | assumption | decide | omega)) only [go_sem,em,aZ,fh,aB,a2 c1,eD]
   rw [bad (fF (by unfold cV; rw [decide_eq_true d9,Bool.or_true]; rfl))] at ab
   exact .inr (.inl ⟨by (repeat first | assumption | exact Fr.refl _ | refine Fr.ce ?_ _ | refine Fr.set ?_ (by omega) _),_,b_.bool,ab⟩)
  simp (disch:=(refine am ?_; first | assumption | decide | omega)) only [go_sem,em,aZ,fh,aB,a2 c1,eD]
  refine UQ (by omega) (by omega) (by omega) ?_
  cases fp:g7 q.aX q.zs q.data with
  | false=>
   simp (disch:=(refine am ?_; decide)) only [go_sem]
   rw [bad (fF (by unfold cV; rw [fp,Bool.not_false,Bool.or_true]; rfl))] at ab
   exact .inr (.inl ⟨by (repeat first | assumption | exact Fr.refl _ | refine Fr.ce ?_ _ | refine Fr.set ?_ (by omega) _),_,b_.bool,ab⟩)
  | true=>
   have rB:cV s.blocks s.base q= !(decide (s.base= -1) && q.zs):=by
    unfold cV
    rw [decide_eq_false b1,decide_eq_false bV,decide_eq_false c6,decide_eq_false d9,fp]; rfl
   by_cases yj:s.base= -1 /\ q.zs=true
   ·
    obtain ⟨eL,iN⟩:=yj
    simp (disch:=(refine am ?_; first | assumption | decide | omega | (simp only [aT,aW] <;> omega) | with_unfolding_all exact a6 rfl | with_unfolding_all exact a7 rfl)) only [go_sem,a2 c1,iN,em,aZ]
    rw [bad (fF (by rw [rB,decide_eq_true eL,iN]; rfl))] at ab
    exact .inr (.inl ⟨by (repeat first | assumption | exact Fr.refl _ | refine Fr.ce ?_ _ | refine Fr.set ?_ (by omega) _),_,b_.bool,ab⟩)
   have YQ:cV s.blocks s.base q=true:=by
    rw [rB]
    by_cases eL:s.base= -1
    ·
     cases iN:q.zs with
     | false=>rw [Bool.and_false]; rfl
     | true=>exact absurd ⟨eL,iN⟩ yj
    ·
     rw [decide_eq_false eL]; rfl
   have step:∀(ay:aa) (oo:Nat),Fr H ay -> H.next + 1≤oo -> (i=0∨f6 q (s.aV.getD (i - 1) ⟨0,0,false,[]⟩)=true) ->
    ∃bY,bY < s.aV.length - i /\ ∃dd,dd≤s.aV.length /\ bY=s.aV.length - dd /\ some (I.int .i64 ((i:Int) + 1))=some (I.int .i64 (dd:Int)) /\ Fr H ay /\ H.next + 1≤oo /\
     ∀k < dd,(cV s.blocks s.base (s.aV.getD k ⟨0,0,false,[]⟩) && (decide (k=0) || f6 (s.aV.getD k ⟨0,0,false,[]⟩) (s.aV.getD (k - 1) ⟨0,0,false,[]⟩)))=true:=by
    intro ay oo J O aP
    refine ⟨_,by omega,i + 1,aF,rfl,rfl,J,O,fun k kA=> ?_⟩
    rcases Nat.lt_or_ge k i with h | h
    ·
     exact kt k h
    ·
     obtain rfl:k=i:=by omega
     rw [Mc,YQ]
     rcases aP with aP | aP
     ·
      rw [decide_eq_true aP]; rfl
     ·
      rw [aP,Bool.or_true]; rfl
   rcases (show s.base≠ -1∨(s.base= -1 /\ q.zs=false) from by
    by_cases eL:s.base= -1
    ·
     cases iN:q.zs with
     | false=>exact .inr ⟨eL,rfl⟩
     | true=>exact absurd ⟨eL,iN⟩ yj
    ·
     exact .inl eL) with eL | ⟨eL,iN⟩
   ·
    simp (disch:=(refine am ?_; first | assumption | decide | omega | (simp only [aT,aW] <;> omega) | with_unfolding_all exact a6 rfl | with_unfolding_all exact a7 rfl)) only [go_sem,a2 c1,em,aZ]
    refine iX (by kernel_rfl) (by kernel_rfl) ?_
    by_cases aD:i=0
    ·
     simp (disch:=(refine am ?_; first | assumption | decide | omega | (simp only [aT,aW] <;> omega) | with_unfolding_all exact a6 rfl | with_unfolding_all exact a7 rfl)) only [go_sem,a2 c1,em,aZ,wrap_i64]
     exact step _ _ (by (repeat first | assumption | exact Fr.refl _ | refine Fr.ce ?_ _ | refine Fr.set ?_ (by omega) _)) (by omega) (.inl aD)
    ·
     have xq:i - 1 < s.aV.length:=by omega
     have x4:s.aV.getD (i - 1) ⟨0,0,false,[]⟩=s.aV[i - 1]:=by rw [List.getD_eq_getElem?_getD,List.getElem?_eq_getElem xq]; rfl
     obtain ⟨_,iG,Ff⟩:=aw _ (List.getElem_mem xq)
     simp (disch:=(refine am ?_; first | assumption | decide | omega | (simp only [aT,aW] <;> omega) | with_unfolding_all exact a6 rfl | with_unfolding_all exact a7 rfl)) only [go_sem,a2 c1,em,aZ,wrap_i64,fh]
     refine Hs (r:=q) (a:=s.aV[i - 1]) iG Ff ?_
     cases tL:f6 q s.aV[i - 1] with
     | false=>
      simp (disch:=(refine am ?_; first | assumption | decide | omega | (simp only [aT,aW] <;> omega) | with_unfolding_all exact a6 rfl | with_unfolding_all exact a7 rfl)) only [go_sem,em,aZ]
      rw [bad (by rw [x4,tL,decide_eq_false aD,Bool.or_false,Bool.and_false])] at ab
      exact .inr (.inl ⟨by (repeat first | assumption | exact Fr.refl _ | refine Fr.ce ?_ _ | refine Fr.set ?_ (by omega) _),_,b_.bool,ab⟩)
     | true=>
      simp (disch:=(refine am ?_; first | assumption | decide | omega | (simp only [aT,aW] <;> omega) | with_unfolding_all exact a6 rfl | with_unfolding_all exact a7 rfl)) only [go_sem,em,aZ,wrap_i64,a2 c1]
      exact step _ _ (by (repeat first | assumption | exact Fr.refl _ | refine Fr.ce ?_ _ | refine Fr.set ?_ (by omega) _)) (by omega) (.inr (by rw [x4]; exact tL))
   ·
    obtain ⟨Md,Me,ae9,qH⟩:=q
    obtain rfl:ae9=false:=iN
    simp (disch:=(refine am ?_; first | assumption | decide | omega | (simp only [aT,aW] <;> omega) | with_unfolding_all exact a6 rfl | with_unfolding_all exact a7 rfl)) only [go_sem,a2 c1,em,aZ]
    refine iX (by kernel_rfl) (by kernel_rfl) ?_
    by_cases aD:i=0
    ·
     simp (disch:=(refine am ?_; first | assumption | decide | omega | (simp only [aT,aW] <;> omega) | with_unfolding_all exact a6 rfl | with_unfolding_all exact a7 rfl)) only [go_sem,a2 c1,em,aZ,wrap_i64]
     exact step _ _ (by (repeat first | assumption | exact Fr.refl _ | refine Fr.ce ?_ _ | refine Fr.set ?_ (by omega) _)) (by omega) (.inl aD)
    ·
     have xq:i - 1 < s.aV.length:=by omega
     have x4:s.aV.getD (i - 1) ⟨0,0,false,[]⟩=s.aV[i - 1]:=by rw [List.getD_eq_getElem?_getD,List.getElem?_eq_getElem xq]; rfl
     obtain ⟨_,iG,Ff⟩:=aw _ (List.getElem_mem xq)
     simp (disch:=(refine am ?_; first | assumption | decide | omega | (simp only [aT,aW] <;> omega) | with_unfolding_all exact a6 rfl | with_unfolding_all exact a7 rfl)) only [go_sem,a2 c1,em,aZ,wrap_i64,fh]
     refine Hs (r:=⟨Md,Me,false,qH⟩) (a:=s.aV[i - 1]) iG Ff ?_
     cases tL:f6 ⟨Md,Me,false,qH⟩ s.aV[i - 1] with
     | false=>
      simp (disch:=(refine am ?_; first | assumption | decide | omega | (simp only [aT,aW] <;> omega) | with_unfolding_all exact a6 rfl | with_unfolding_all exact a7 rfl)) only [go_sem,em,aZ]
      rw [bad (by rw [x4,tL,decide_eq_false aD,Bool.or_false,Bool.and_false])] at ab
      exact .inr (.inl ⟨by (repeat first | assumption | exact Fr.refl _ | refine Fr.ce ?_ _ | refine Fr.set ?_ (by omega) _),_,b_.bool,ab⟩)
     | true=>
      simp (disch:=(refine am ?_; first | assumption | decide | omega | (simp only [aT,aW] <;> omega) | with_unfolding_all exact a6 rfl | with_unfolding_all exact a7 rfl)) only [go_sem,em,aZ,wrap_i64,a2 c1]
      exact step _ _ (by (repeat first | assumption | exact Fr.refl _ | refine Fr.ce ?_ _ | refine Fr.set ?_ (by omega) _)) (by omega) (.inr (by rw [x4]; exact tL))
 ·
  simp (disch:=(refine am ?_; first | decide | omega)) only [go_sem,em,aZ]
  obtain rfl:i=s.aV.length:=by omega
  have:lz s=true:=List.all_eq_true.2 fun k kA=>kt k (List.mem_range.1 kA)
  rw [this] at ab
  exact .inr (.inl ⟨ao,_,b_.bool,ab⟩)
def gl (s:cS):Bool:=decide (s.blocks < 1) || decide (64 < s.blocks) || decide (s.id < 1) || decide (1000000 < s.id) || (!(decide (s.base= -1)) && (decide (s.base < 1) || decide (s.id≤s.base)))
def fS (s:cS):Bool:= !(gl s) && lz s
theorem UR {H:aa} {s:cS} {K:I -> aa -> Prop} (ah:s.aV.length≤1000000) (aw:∀r∈s.aV,r.data.length≤1000000 /\ ia r.fr /\ ia r.aX) (ab:K (.bool (fS s)) H):Call (.func 71 [] []) [pY s] H K:=by
 have eg:∀ {x:bf},Fr H (aS H x).2:=(Fr.refl H).ce _
 have bad:∀ {x:bf},gl s=true -> ji H K (.bool false) (aS H x).2:=fun U=>by
  have:fS s=false:=by unfold fS; rw [U]; rfl
  rw [this] at ab
  exact .inr (.inl ⟨eg,_,b_.bool,ab⟩)
 by_cases b1:s.blocks < 1
 ·
  refine bR (N:=40) rfl rL rfl rfl rfl rfl rfl fun bC=> ?_
  simp (disch:=(refine am ?_; first | assumption | decide | omega)) only [go_sem]
  exact bad (by unfold gl; rw [decide_eq_true b1]; rfl)
 by_cases bV:64 < s.blocks
 ·
  refine bR (N:=40) rfl rL rfl rfl rfl rfl rfl fun bC=> ?_
  simp (disch:=(refine am ?_; first | assumption | decide | omega)) only [go_sem]
  exact bad (by unfold gl; rw [decide_eq_true bV,Bool.or_true]; rfl)
 by_cases c6:s.id < 1
 ·
  refine bR (N:=40) rfl rL rfl rfl rfl rfl rfl fun bC=> ?_
  simp (disch:=(refine am ?_; first | assumption | decide | omega)) only [go_sem]
  exact bad (by unfold gl; rw [decide_eq_true c6,Bool.or_true]; rfl)
 by_cases d9:1000000 < s.id
 ·
  refine bR (N:=40) rfl rL rfl rfl rfl rfl rfl fun bC=> ?_
  simp (disch:=(refine am ?_; first | assumption | decide | omega)) only [go_sem]
  exact bad (by unfold gl; rw [decide_eq_true d9,Bool.or_true]; rfl)
 have JT:gl s=false -> ∀ {x:bf},ji H K (.bool (lz s)) (aS H x).2:=fun U x=>by
  have:fS s=lz s:=by unfold fS; rw [U]; rfl
  rw [this] at ab
  exact .inr (.inl ⟨eg,_,b_.bool,ab⟩)
 by_cases fp:s.base= -1
 ·
  refine bR (N:=40) rfl rL rfl rfl rfl rfl rfl fun bC=> ?_
  simp (disch:=(refine am ?_; first | assumption | decide | omega)) only [go_sem]
  refine GX (s:=s) ⟨by omega,by omega⟩ ah aw ?_
  simp (disch:=(refine am ?_; decide)) only [go_sem]
  exact JT (by unfold gl; rw [decide_eq_false b1,decide_eq_false bV,decide_eq_false c6,decide_eq_false d9,decide_eq_true fp]; rfl)
 by_cases eL:s.base < 1
 ·
  refine bR (N:=40) rfl rL rfl rfl rfl rfl rfl fun bC=> ?_
  simp (disch:=(refine am ?_; first | assumption | decide | omega)) only [go_sem]
  exact bad (by unfold gl; rw [decide_eq_false fp,decide_eq_true eL]; simp)
 by_cases iN:s.id≤s.base
 ·
  refine bR (N:=40) rfl rL rfl rfl rfl rfl rfl fun bC=> ?_
  simp (disch:=(refine am ?_; first | assumption | decide | omega)) only [go_sem]
  exact bad (by unfold gl; rw [decide_eq_false fp,decide_eq_true iN]; simp)
 ·
  refine bR (N:=40) rfl rL rfl rfl rfl rfl rfl fun bC=> ?_
  simp (disch:=(refine am ?_; first | assumption | decide | omega)) only [go_sem]
  refine GX (s:=s) ⟨by omega,by omega⟩ ah aw ?_
  simp (disch:=(refine am ?_; decide)) only [go_sem]
  exact JT (by unfold gl; rw [decide_eq_false b1,decide_eq_false bV,decide_eq_false c6,decide_eq_false d9,decide_eq_false fp,decide_eq_false eL,decide_eq_false iN]; rfl)
end
end Go.az
namespace Go.az
open Go.Proofs
noncomputable section
set_option maxRecDepth 100000
theorem abv:bE.fn 94=some Try.f94:=by kernel_rfl
theorem abw:bE.fn 93=some Try.f93:=by kernel_rfl
theorem abx {x:I}:List.replicate 1 x= [x]:=rfl
theorem aby {x:I}:List.replicate 2 x= [x,x]:=rfl
theorem abz {x:I}:List.replicate 3 x= [x,x,x]:=rfl
theorem abA {x:I}:List.replicate 4 x= [x,x,x,x]:=rfl
theorem abB {x:I}:List.replicate 5 x= [x,x,x,x,x]:=rfl
attribute [go_sem] abx aby abz abA abB
def Ku (e:TypeId) (v:I) (x:bf):Option I:=(kf x).ac fun c=>ap (c.2.2.2 && Nat.beq c.2.1 e) (some v) none
theorem OT {H:aa} {e:TypeId} {b o n:Nat} {k:dm}:jN e H (.slice b o n k)=(H.m.get b).ac (Ku e (.slice b o n k)):=rfl
theorem WQ {v:I} {l:List I} {e:TypeId} {x:Bool}:Ku e v (.cells l e x true)=some v:=by
 show ap (true && Nat.beq e e) (some v) none=_
 rw [Nat.beq_refl]; rfl
attribute [go_sem] OT WQ
theorem Acc.base {E:Env} {H0 H1 H:aa} {e sz:Nat} {v:I} {l:List I} (h:Acc E H1 H e sz v l) (ao:Fr H0 H1):Acc E H0 H e sz v l:=⟨ao.trans h.fr,h.own.mono ao.nx,h.el,h.bm,h.bU,h.a4⟩
def mq (s:cS):List UInt8:=nA ([[82,86,83,49],leBytes s.blocks.toNat 2,leBytes (s.base + 1).toNat 4,leBytes s.id.toNat 4,leBytes s.aV.length 2].flatten)
theorem vR {n:Int} (h:0≤n) (O:n < 18446744073709551616):bG .u64 n=((n.toNat:Nat):Int):=by
 obtain ⟨n,rfl⟩:=Int.eq_ofNat_of_zero_le h
 rw [pF,Nat.mod_eq_of_lt (by omega)]; rfl
theorem US {H:aa} {s:cS} {K:I -> aa -> Prop} (U:0≤s.blocks /\ s.blocks≤1000) (gz: -1≤s.base /\ s.base≤1000000) (ad:0≤s.id /\ s.id≤1000000) (ah:s.aV.length≤1000000) (ab:K (.aJ 1 ((mq s).map aI)) H):Call (.func 94 [] []) [pY s] H K:=by
 obtain ⟨d8,gQ⟩:=U
 obtain ⟨b1,bV⟩:=gz
 obtain ⟨d1,d2⟩:=ad
 have cl:bG .u64 s.blocks=((s.blocks.toNat:Nat):Int):=vR (by omega) (by omega)
 have e8:bG .i64 (s.base + 1)=s.base + 1:=wrap_i64 (by omega) (by omega)
 have mS:bG .u64 (s.base + 1)=(((s.base + 1).toNat:Nat):Int):=vR (by omega) (by omega)
 have FH:bG .u64 s.id=((s.id.toNat:Nat):Int):=vR (by omega) (by omega)
 have pz:bG .u64 ((s.aV.length:Nat):Int)=((s.aV.length:Nat):Int):=by rw [pF,Nat.mod_eq_of_lt (by omega)]
 refine bR (N:=26) rfl abv rfl rfl rfl rfl rfl fun bC=> ?_
 simp (disch:=(refine am ?_; decide)) only [go_sem]
 refine oP [3,4,0,0,0,2,0,1,0,0,2,0,1,0,2,0,1,0,0,2,0,0,0,0] (by kernel_rfl) (by kernel_rfl) rfl (by kernel_rfl) ?_
 simp (disch:=(refine am ?_; first | assumption | decide | omega | (simp only [aT,aW] <;> omega) | with_unfolding_all exact a6 rfl | with_unfolding_all exact a7 rfl)) only [go_sem,cl,e8,mS,FH,pz,List.length_map]
 refine uX (by omega) ?_
 simp (disch:=(refine am ?_; first | decide | omega | (simp only [aT,aW] <;> omega) | assumption)) only [go_sem,e8,mS]
 refine Kt (by omega) ?_
 simp (disch:=(refine am ?_; first | decide | omega | (simp only [aT,aW] <;> omega) | assumption)) only [go_sem,FH]
 refine Kt (by omega) ?_
 simp (disch:=(refine am ?_; first | decide | omega | (simp only [aT,aW] <;> omega) | assumption)) only [go_sem,pz,List.length_map]
 refine uX (by omega) ?_
 simp (disch:=(refine am ?_; decide)) only [go_sem]
 refine yI [[82,86,83,49],leBytes s.blocks.toNat 2,leBytes (s.base + 1).toNat 4,leBytes s.id.toNat 4,leBytes s.aV.length 2] eP (.cons ?_ (.cons .aJ (.cons .aJ (.cons .aJ (.cons .aJ .nil))))) rfl (Nat.lt_succ_self _) (by simp) (by simp [eX]) (by decide) ?_
 ·
  exact gY.own (l:= [82,86,83,49]) (x:=true) ((hK (by simp only [aT]; omega)).trans (q4 rfl)) (by simp only [aT]; omega)
 intro v1 H1 nl
 simp (disch:=(refine am ?_; decide)) only [go_sem]
 refine Bn nl (by simp [eX]) fun v2 ay nm=> ?_
 simp (disch:=(refine am ?_; decide)) only [go_sem]
 have ad9:Acc aq H ay 5 1 v2 ((mq s).map aI):=nm.base ((((Fr.refl H).ce _).ce _).ce _)
 exact ad9.q3 bC (kb fun _=>rfl) ab
def lH (r:Rec):List UInt8:=nA ([[if r.zs then 2 else 1],leBytes r.fr.toNat 2,leBytes r.aX.toNat 2,r.data].flatten)
def gJ (s:cS) (n:Nat):List UInt8:=mq s ++ ((s.aV.take n).map lH).flatten
theorem yS (s:cS):(mq s).length=24:=by
 unfold mq nA
 rw [List.length_append,eX]; simp [eX]
theorem Ck (r:Rec):(lH r).length=13 + r.data.length:=by
 unfold lH nA
 rw [List.length_append,eX]; simp [eX]; omega
theorem BE {s:cS} {n:Nat} (h:n < s.aV.length):gJ s (n + 1)=gJ s n ++ lH s.aV[n]:=by
 unfold gJ
 rw [List.take_add_one,List.getElem?_eq_getElem h,Option.toList_some,List.map_append,List.flatten_append,List.append_assoc]; simp
theorem vY {s:cS} (aw:∀r∈s.aV,r.data.length≤5000):∀n≤s.aV.length,(gJ s n).length≤24 + 5013 * n
 | 0,_=>by unfold gJ; rw [List.take_zero]; simp [yS]
 | n + 1,h=>by
  rw [BE h,List.length_append,Ck]
  have J:=vY aw n (by omega)
  have O:=aw _ (List.getElem_mem (show n < s.aV.length from h))
  omega
end
end Go.az
namespace Go.az
open Go.Proofs
noncomputable section
set_option maxRecDepth 100000
theorem UT (s:cS):gJ s 0=mq s:=by unfold gJ; rw [List.take_zero]; exact List.append_nil _
theorem SL (r:Rec):lH r=nA ([[if r.zs then 2 else 1],leBytes r.fr.toNat 2,leBytes r.aX.toNat 2,r.data].flatten):=rfl
theorem I2 {H':aa} {z:bf}:Fr H' (aN (aS H' (.cells [.int .i64 0,.int .i64 0,.bool false,.aE] 68 true true)).2 H'.next z):=(Fr.alloc _ _).set (Nat.le_refl _) _
theorem gY.set {H0 H:aa} {v:I} {l:List UInt8} {y:Nat} (h:Acc aq H0 H 5 1 v (l.map aI)) (aj:y < H0.next) (z:bf):gY (aN H y z) v l:=by
 have ah:(l.map aI).length=l.length:=List.length_map _
 have aC:=h.own
 rw [ah,eY] at aC
 rcases aC.2 with ⟨rfl,aD⟩ | ⟨b,x,J,aF,rfl,U⟩
 ·
  obtain rfl:=List.eq_nil_of_length_eq_zero aD
  exact ⟨rfl,fun H' ao=>rfl⟩
 ·
  have a4:(aN H y z).m.get b=some (.cells (l.map aI) 5 x true):=(cY (by omega)).trans U
  exact gY.own a4 aF
theorem UU {H:aa} {y io:Nat} {s:cS} {K:I -> aa -> Prop} (B:Nat -> List UInt8) (fI:∀i,B i=gJ s i) (cX:List UInt8 -> aa -> Prop) (ah:s.aV.length≤100) (aw:∀r∈s.aV,r.data.length≤5000 /\ 0≤r.fr /\ r.fr≤1000000 /\ 0≤r.aX /\ r.aX≤1000000)
 (U:0≤s.blocks /\ s.blocks≤1000) (gz: -1≤s.base /\ s.base≤1000000) (ad:0≤s.id /\ s.id≤1000000)
 (j0:∀l H',cX l H' -> H'.m.get io=some (.cells [.int .i64 s.blocks,.int .i64 s.base,.int .i64 s.id,.aJ 4 (s.aV.map hO)] 64 true true) /\ io < H'.next /\ y < H'.next)
 (eg:∀l H' dF,cX l H' -> Fr H' dF -> cX l dF) (aD:cX [] H)
 (aG:∀l m w H',cX l H' -> (∀z,gY (aN H' y z) w m) -> l.length + m.length≤1048576 -> m≠ [] -> Call (.yield y) [w] H' fun v dF=>v= .bool true /\ cX (l ++ m) dF)
 (ar:∀H',cX (B s.aV.length) H' -> K (.tuple []) H'):Call (.func 93 [] [.ptr io 0]) [.yield y] H K:=by
 have jA:B 0=mq s:=by rw [fI,UT]
 have c5:∀i,i≤s.aV.length -> (B i).length≤24 + 5013 * i:=fun i ad=>by rw [fI]; exact vY (fun r af=>(aw r af).1) i ad
 have DP:∀i (h:i < s.aV.length),B (i + 1)=B i ++ lH s.aV[i]:=fun i h=>by rw [fI,fI]; exact BE h
 have bX:(B 0).length=24:=by rw [jA,yS]
 clear fI
 refine bR (N:=39) rfl abw rfl rfl rfl rfl rfl fun bC=> ?_
 obtain ⟨c1,xr,af0⟩:=j0 _ _ aD
 simp (disch:=(refine am ?_; decide)) only [go_sem,a2 c1]
 refine US (s:=s) U gz ad (by omega) ?_
 rw [<- jA]
 clear jA
 simp (disch:=(refine am ?_; decide)) only [go_sem]
 refine (aG [] (B 0) _ _ aD (fun z=>gY.aJ) (by rw [bX,List.length_nil]; omega) (fun h=>by rw [h,List.length_nil] at bX; omega)).mono ?_
 rintro _ H1 ⟨rfl,c'⟩
 rw [List.nil_append] at c'
 obtain ⟨fe,_,_⟩:=j0 _ _ c'
 simp (disch:=(refine am ?_; decide)) only [go_sem,a2 fe,List.length_map]
 refine gw 549755797552 (by kernel_rfl) (fun r G H'=>∃i:Nat,i≤s.aV.length /\ r=s.aV.length - i /\ G.get 14=some (.int .i64 (i:Int)) /\ cX (B i) H') s.aV.length ⟨0,Nat.zero_le _,rfl,rfl,c'⟩ ?_
 clear c' fe
 rintro r G H' aZ ⟨i,ad,rfl,tr,c'⟩
 obtain ⟨fe,mu,vn⟩:=j0 _ _ c'
 by_cases aF:i < s.aV.length
 ·
  obtain ⟨iB,jC,iH,ad_,ad'⟩:=aw _ (List.getElem_mem aF)
  have c5:=c5 i ad
  have nc:=DP i aF
  obtain ⟨q,aB⟩:∃q,s.aV[i]=q:=⟨_,rfl⟩
  rw [aB] at iB jC iH ad_ ad' nc
  have cl:bG .u64 q.fr=((q.fr.toNat:Nat):Int):=vR (by omega) (by omega)
  have e8:bG .u64 q.aX=((q.aX.toNat:Nat):Int):=vR (by omega) (by omega)
  have k9:=Ck q
  rw [SL] at nc k9
  obtain ⟨A4,AK⟩:∃A4:UInt8,(if q.zs then 2 else 1)=A4:=⟨_,rfl⟩
  rw [AK] at nc k9
  have u0:q.zs=false -> A4=1:=fun h=>by rw [<- AK,h]; rfl
  have ef:q.zs=true -> A4=2:=fun h=>by rw [<- AK,h]; rfl
  clear AK
  cases ai:q.zs
  ·
   have ab:=u0 ai
   subst ab
   simp (disch:=(refine am ?_; first | assumption | decide | omega)) only [go_sem,tr,aZ,fh,aB,v',ai]
   refine oP [0,0,3,0,0,0,2,0,1,0,2,0,1,0,0,0,0,0] (by kernel_rfl) (by kernel_rfl) rfl (by kernel_rfl) ?_
   simp (disch:=(refine am ?_; first | assumption | decide | omega | (simp only [aT,aW] <;> omega) | with_unfolding_all exact a6 rfl | with_unfolding_all exact a7 rfl)) only [go_sem,tr,aZ,cl,e8,ai]
   refine uX (by omega) ?_
   simp (disch:=(refine am ?_; first | decide | omega | (simp only [aT,aW] <;> omega) | assumption)) only [go_sem,e8]
   refine uX (by omega) ?_
   simp (disch:=(refine am ?_; first | decide | omega | (simp only [aT,aW] <;> omega) | assumption)) only [go_sem]
   refine yI [[1],leBytes q.fr.toNat 2,leBytes q.aX.toNat 2,q.data] eP (.cons ?_ (.cons .aJ (.cons .aJ (.cons .aJ .nil)))) rfl (Nat.lt_succ_self _) (by simp) (by simp [eX]; omega) (by decide) ?_
   ·
    exact gY.own (l:= [1]) (x:=true) ((hK (by simp only [aT,aW]; omega)).trans (q4 rfl)) (by simp only [aT,aW]; omega)
   intro v1 H1 nl
   simp (disch:=(refine am ?_; decide)) only [go_sem]
   refine Bn nl (by simp [eX]; omega) fun v2 ay nm=> ?_
   simp (disch:=(refine am ?_; decide)) only [go_sem]
   have f2:Fr H' ay:=Fr.trans (I2.ce _ |>.ce _) nm.fr
   refine (aG (B i) (nA ([[1],leBytes q.fr.toNat 2,leBytes q.aX.toNat 2,q.data].flatten)) v2 ay (eg _ _ _ c' f2) (fun z=>gY.set nm (by simp only [aT,aW]; omega) z) (by omega) (fun h=>by rw [h,List.length_nil] at k9; omega)).mono ?_
   rintro _ dT ⟨rfl,x5⟩
   rw [<- nc] at x5
   simp (disch:=(refine am ?_; first | assumption | decide | omega | (simp only [aT,aW] <;> omega) | with_unfolding_all exact a6 rfl | with_unfolding_all exact a7 rfl)) only [go_sem,tr,aZ,wrap_i64]
   exact ⟨_,by omega,i + 1,aF,rfl,rfl,x5⟩
  ·
   have ab:=ef ai
   subst ab
   simp (disch:=(refine am ?_; first | assumption | decide | omega)) only [go_sem,tr,aZ,fh,aB,v',ai]
   refine oP [0,0,3,0,0,0,2,0,1,0,2,0,1,0,0,0,0,0] (by kernel_rfl) (by kernel_rfl) rfl (by kernel_rfl) ?_
   simp (disch:=(refine am ?_; first | assumption | decide | omega | (simp only [aT,aW] <;> omega) | with_unfolding_all exact a6 rfl | with_unfolding_all exact a7 rfl)) only [go_sem,tr,aZ,cl,e8,ai]
   refine uX (by omega) ?_
   simp (disch:=(refine am ?_; first | decide | omega | (simp only [aT,aW] <;> omega) | assumption)) only [go_sem,e8]
   refine uX (by omega) ?_
   simp (disch:=(refine am ?_; first | decide | omega | (simp only [aT,aW] <;> omega) | assumption)) only [go_sem]
   refine yI [[2],leBytes q.fr.toNat 2,leBytes q.aX.toNat 2,q.data] eP (.cons ?_ (.cons .aJ (.cons .aJ (.cons .aJ .nil)))) rfl (Nat.lt_succ_self _) (by simp) (by simp [eX]; omega) (by decide) ?_
   ·
    exact gY.own (l:= [2]) (x:=true) ((hK (by simp only [aT,aW]; omega)).trans (q4 rfl)) (by simp only [aT,aW]; omega)
   intro v1 H1 nl
   simp (disch:=(refine am ?_; decide)) only [go_sem]
   refine Bn nl (by simp [eX]; omega) fun v2 ay nm=> ?_
   simp (disch:=(refine am ?_; decide)) only [go_sem]
   have f2:Fr H' ay:=Fr.trans (I2.ce _ |>.ce _) nm.fr
   refine (aG (B i) (nA ([[2],leBytes q.fr.toNat 2,leBytes q.aX.toNat 2,q.data].flatten)) v2 ay (eg _ _ _ c' f2) (fun z=>gY.set nm (by simp only [aT,aW]; omega) z) (by omega) (fun h=>by rw [h,List.length_nil] at k9; omega)).mono ?_
   rintro _ dT ⟨rfl,x5⟩
   rw [<- nc] at x5
   simp (disch:=(refine am ?_; first | assumption | decide | omega | (simp only [aT,aW] <;> omega) | with_unfolding_all exact a6 rfl | with_unfolding_all exact a7 rfl)) only [go_sem,tr,aZ,wrap_i64]
   exact ⟨_,by omega,i + 1,aF,rfl,rfl,x5⟩
 ·
  simp (disch:=(refine am ?_; first | decide | omega)) only [go_sem,tr,aZ]
  obtain rfl:i=s.aV.length:=by omega
  exact .inl (ar _ c')
end
end Go.az
namespace Go.az
open Go.Proofs
noncomputable section
set_option maxRecDepth 100000
theorem abC:bE.fn 54=some Try.f54:=by kernel_rfl
theorem abD:bE.fn 79=some Try.f79:=by kernel_rfl
theorem UV {H:aa} {s:cS} {K:I -> aa -> Prop} (ab:K (.func 93 [] [.ptr H.next 0]) (aS H (.cells [.int .i64 s.blocks,.int .i64 s.base,.int .i64 s.id,.aJ 4 (s.aV.map hO)] 64 true true)).2):Call (.func 79 [] []) [pY s] H K:=by
 rw [ub]
 refine bR (N:=4) rfl abD rfl rfl rfl rfl rfl fun bC=> ?_
 simp (disch:=(refine am ?_; decide)) only [go_sem]
 exact .inl ab
theorem vS {s:cS} (a4:fS s=true):1≤s.blocks /\ s.blocks≤64 /\ 1≤s.id /\ s.id≤1000000 /\ -1≤s.base /\ s.base≤1000000 /\ lz s=true:=by
 unfold fS at a4
 rw [Bool.and_eq_true] at a4
 obtain ⟨nf,tm⟩:=a4
 simp only [gl,Bool.not_eq_true',Bool.or_eq_false_iff,Bool.and_eq_false_iff,decide_eq_false_iff_not,Bool.not_eq_false',decide_eq_true_eq] at nf
 refine ⟨by omega,by omega,by omega,by omega,by omega,by omega,tm⟩
theorem Dd {s:cS} (a4:lz s=true) {i:Nat} (ad:i < s.aV.length):cV s.blocks s.base s.aV[i]=true:=by
 unfold lz at a4
 have:=List.all_eq_true.1 a4 i (List.mem_range.2 ad)
 rw [Bool.and_eq_true,d6 ad] at this
 exact this.1
theorem BF {bg eB:Int} {r:Rec} (h:cV bg eB r=true):1≤r.aX /\ 0≤r.fr /\ r.fr < bg /\ r.aX≤bg - r.fr:=by
 unfold cV at h
 simp only [Bool.not_eq_true',Bool.or_eq_false_iff,decide_eq_false_iff_not] at h
 omega
def gm (s:cS):List UInt8:= [gJ s s.aV.length,[0x45],leBytes (ei (gJ s s.aV.length)) 8].flatten
theorem Gw (l:List UInt8):ei l < 18446744073709551616:=yP (by decide) l
theorem Ht {H:aa} {s:cS} {K:I -> aa -> Prop} (ah:s.aV.length≤100) (aw:∀r∈s.aV,r.data.length≤5000 /\ ia r.fr /\ ia r.aX)
 (J:fS s=false -> K (.tuple [.aJ 1 [],.int .i64 11]) H) (O:fS s=true -> K (.tuple [.aJ 1 ((gm s).map aI),.int .i64 0]) H):Call (.func 54 [] []) [pY s] H K:=by
 obtain ⟨B,fI⟩:∃B:Nat -> List UInt8,∀i,B i=gJ s i:=⟨fun i=>gJ s i,fun _=>rfl⟩
 have cD:(B s.aV.length).length≤24 + 5013 * s.aV.length:=by rw [fI]; exact vY (fun r af=>(aw r af).1) _ (Nat.le_refl _)
 rw [show gm s= [B s.aV.length,[0x45],leBytes (ei (B s.aV.length)) 8].flatten by rw [fI]; rfl] at O
 rw [ub]
 refine bR (N:=22) rfl abC rfl rfl rfl rfl rfl fun bC=> ?_
 simp (disch:=(refine am ?_; first | decide | omega)) only [go_sem]
 rw [<- ub]
 refine UR (s:=s) (by omega) (fun r af=>⟨by have:=(aw r af).1; omega,(aw r af).2⟩) ?_
 cases a4:fS s with
 | false=>
  simp (disch:=(refine am ?_; decide)) only [go_sem]
  exact .inr (.inl ⟨(Fr.refl H).ce _,_,b_.tuple (.cons .zJ (.cons .int .nil)),J a4⟩)
 | true=>
  have O:=O a4
  obtain ⟨cg,cn,bW,fb,b6,dy,dO⟩:=vS a4
  simp (disch:=(refine am ?_; first | decide | omega | (simp only [aT,aW] <;> omega) | assumption)) only [go_sem]
  rw [<- ub]
  refine UV ?_
  simp (disch:=(refine am ?_; decide)) only [go_sem]
  generalize oi:bf.loop _ _ _ _ _ _ _ _ _=tV
  refine UU (s:=s) B fI (fun l H1=>H.next + 4≤H1.next /\ ∃v,H1.m.get (H.next + 1)=some (.cells [v] 32 true true) /\ Acc aq H H1 5 1 v (l.map aI) /\
   H1.m.get (H.next + 1 + 1)=some (.cells [.int .i64 s.blocks,.int .i64 s.base,.int .i64 s.id,.aJ 4 (s.aV.map hO)] 64 true true) /\ H1.m.get (H.next + 1 + 1 + 1)=some tV) ah
   (fun r af=> ?_) ⟨by omega,by omega⟩ ⟨by omega,by omega⟩ ⟨by omega,by omega⟩ ?_ ?_ ?_ ?_ ?_
  ·
   obtain ⟨j,ax,rfl⟩:=List.getElem_of_mem af
   obtain ⟨cf,ck,kH,sh⟩:=BF (Dd dO ax)
   exact ⟨(aw _ (List.getElem_mem ax)).1,by omega,by omega,by omega,by omega⟩
  ·
   rintro l H1 ⟨ar,v,gP,aC,fe,dU⟩
   exact ⟨fe,by omega,by omega⟩
  ·
   rintro l H1 ay ⟨ar,v,gP,aC,fe,dU⟩ ao
   exact ⟨Nat.le_trans ar ao.nx,v,(ao.get _ (by omega)).trans gP,aC.b3 ao,(ao.get _ (by omega)).trans fe,(ao.get _ (by omega)).trans dU⟩
  ·
   exact ⟨Nat.le_refl _,.aE,by simp (disch:=(refine am ?_; first | assumption | decide | omega | (simp only [aT,aW] <;> omega) | with_unfolding_all exact a6 rfl | with_unfolding_all exact a7 rfl)) only [go_sem],Acc.z5 (by (repeat first | assumption | exact Fr.refl _ | refine Fr.ce ?_ _ | refine Fr.set ?_ (by omega) _)) e2 (by decide) nT,by simp (disch:=(refine am ?_; first | assumption | decide | omega | (simp only [aT,aW] <;> omega) | with_unfolding_all exact a6 rfl | with_unfolding_all exact a7 rfl)) only [go_sem],by simp (disch:=(refine am ?_; first | assumption | decide | omega | (simp only [aT,aW] <;> omega) | with_unfolding_all exact a6 rfl | with_unfolding_all exact a7 rfl)) only [go_sem]⟩
  ·
   rintro l m w H1 ⟨ar,v,gP,aC,fe,dU⟩ hw hlen hm
   subst oi
   refine zx dU ?_
   have aG:=fun z=>(hw z).2 _ (Fr.refl _)
   have lT:0 < m.length:=List.length_pos_iff.2 hm
   have dl:br (m.map aI)=true:=by rw [<- eY]; exact jl m
   have fX:=fun z=>(aC.other (z:=z) dU rfl (by omega)).many (m:=m.length) (by rw [List.length_map]; omega) lT (m.map aI) (by rw [List.length_map,Nat.mul_one]) dl
   have hr:=fun z=>(aC.other (z:=z) dU rfl (by omega)).Db (m:=m.length) (new:=m.map aI) (by rw [List.length_map]; omega) lT (m.map aI) (eY _) (List.length_map _) (sN _) dl
   have aZ:=fun z=>(aC.other (z:=z) dU rfl (by omega)).I1 (m:=m.length) (by rw [List.length_map]; omega) lT (new:=m.map aI) (by rw [List.length_map,Nat.mul_one]) dl
   have nf:=fun z=>(aZ z).2 (H.next + 1) _ ((cY (by omega)).trans gP) rfl (show H.next + 1 < H1.next by omega)
   have tm:=fun z=>(aZ z).2 (H.next + 1 + 1) _ ((cY (by omega)).trans fe) rfl (show H.next + 1 + 1 < H1.next by omega)
   have x3:=fun z (ai:nb 5 z=true)=>(aZ z).2 (H.next + 1 + 1 + 1) z (ua rfl) ai (show H.next + 1 + 1 + 1 < H1.next by omega)
   have fT:=fun z=>(aZ z).1
   simp (disch:=(refine am ?_; first | decide | omega | with_unfolding_all exact a6 rfl)) only [go_sem,dU,a2 gP,aG,fX,nf,tm,x3,fT]
   have fin:∀z sl,nb 5 z=true -> Acc aq H (aN (aN (iI aq (aN H1 (H.next + 1 + 1 + 1) z) 5 v m.length (m.map aI)) (H.next + 1) (.cells [.slice H1.next 0 ((l.map aI).length + m.length) (.rest 0 1 ((l.map aI).length + m.length))] 32 true true)) (H.next + 1 + 1 + 1) sl) 5 1 (.slice H1.next 0 ((l.map aI).length + m.length) (.rest 0 1 ((l.map aI).length + m.length))) ((l ++ m).map aI):=fun z sl ai=>by
    rw [List.map_append]
    exact ((hr z).other (nf z) rfl (Nat.le_succ _)).other ((cY (by omega)).trans (x3 z ai)) ai (by omega)
   first
    | exact ⟨by omega,_,rfl,fin _ _ rfl⟩
    | exact ⟨by omega,_,rfl,fin _ _ rfl,rfl⟩
    | exact ⟨by omega,_,rfl,fin _ _ rfl,fe,rfl⟩
    | exact ⟨by omega,_,rfl,fin _ _ rfl,fe⟩
    | exact ⟨by omega,_,rfl,fin _ _ rfl,tm _⟩
    | exact ⟨by omega,_,rfl,fin _ _ rfl,tm _,rfl⟩
  ·
   rintro H1 ⟨ar,v,gP,aC,fe,dU⟩
   subst oi
   generalize B s.aV.length=Mf at *
   have ts:=aC.other (z:= .dead) dU rfl (by omega)
   simp (disch:=(refine am ?_; first | assumption | decide | omega | (simp only [aT,aW] <;> omega) | with_unfolding_all exact a6 rfl | with_unfolding_all exact a7 rfl)) only [go_sem,dU,a2 gP]
   refine oP [4,3,0,2,2,0,0,0,0] (by kernel_rfl) (by kernel_rfl) rfl (by kernel_rfl) ?_
   have hU:(aN H1 (H.next + 1 + 1 + 1) .dead).m.get (H.next + 1)=some (.cells [v] 32 true true):=(cY (by omega)).trans gP
   simp (disch:=(refine am ?_; first | assumption | decide | omega | (simp only [aT,aW] <;> omega) | with_unfolding_all exact a6 rfl | with_unfolding_all exact a7 rfl)) only [go_sem,a2 hU,hU,yZ (eo aC.own.one),eo aC.own.one]
   refine Hr (ts.b3 (Fr.alloc _ _)) (by omega) ?_
   simp (disch:=(refine am ?_; decide)) only [go_sem]
   refine Ks (Gw _) ?_
   simp (disch:=(refine am ?_; first | assumption | decide | omega | (simp only [aT,aW] <;> omega) | with_unfolding_all exact a6 rfl | with_unfolding_all exact a7 rfl)) only [go_sem,yZ (eo aC.own.one),eo aC.own.one]
   refine yI [Mf,[0x45],leBytes (ei Mf) 8] eP (.cons (gY.acc (ts.b3 ((Fr.alloc _ _).trans (Fr.alloc _ _)))) (.cons ?_ (.cons .aJ .nil))) rfl (Nat.lt_succ_self _) (by simp) (by simp [eX]; omega) (by decide) ?_
   ·
    exact gY.own (l:= [0x45]) (x:=true) ((hK (by simp only [aT,aW]; omega)).trans (q4 rfl)) (by simp only [aT,aW]; omega)
   intro v1 ay ae
   simp (disch:=(refine am ?_; decide)) only [go_sem]
   have nm:=ae.base ((ts.fr.ce _).ce _)
   exact .inr (.inl ⟨nm.fr,_,b_.tuple (.cons (nm.own.fz nm.bU bC rfl rfl nm.el (gO.plain (kb fun _=>rfl))) (.cons .int .nil)),O⟩)
end
end Go.az
