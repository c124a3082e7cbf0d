/-
  Rules for that calculus; sums of functions. No conditions.
-/
import Derived.Test.YtajekleknljggaaEvH
set_option linter.unusedVariables false
set_option linter.unusedSimpArgs false
namespace Go.az
noncomputable section
section
variable {E:Env}
theorem cW.skip {w:Bool} {σ:bK} {H H1:aa} (r:cW w σ H H1) (y:bf):cW w σ H (aS H1 y).2 /\ dh H1.next σ H H1 σ H (aS H1 y).2:=by
 have bX:∀ {b c},σ b=some c -> (aS H1 y).2.m.get c=H1.m.get c:=fun U=>by
  have:=r.lt _ _ U
  rw [g6,if_neg (by omega)]
 have c7:jf σ H1 σ (aS H1 y).2:=⟨fun _ _ h=>h,Nat.le_succ _,fun c V=>⟨V.1,by rw [g6,if_neg (by have:=V.2.1; omega)]⟩⟩
 refine ⟨⟨fun b x R=> ?_,r.inj,fun b c U=>Nat.lt_succ_of_lt (r.lt b c U),r.qq,r.lh,fun c V=> ?_,fun b c U=> ?_,r.qr⟩,c7,⟨[],rfl,fun b c U _=>bX U⟩,fun c V h=>by rw [g6,if_neg (by omega)]; exact h⟩
 ·
  obtain ⟨c,z,V,ai,af⟩:=r.dr b x R
  exact ⟨c,z,V,by rw [bX V]; exact ai,af.mono c7⟩
 ·
  rw [aT] at V
  rw [g6,if_neg (by omega)]
  exact r.ob c (by omega)
 ·
  rw [bX U]; exact r.ex b c U
theorem Wz {e:TypeId} {bS:Option (Bool × Nat)} {cm:Addr}:hN (.slice e) bS .eql (.dY cm) .aE=some (.bool false):=rfl
theorem UA {e:TypeId} {bS:Option (Bool × Nat)} {cm:Addr}:hN (.slice e) bS .neq (.dY cm) .aE=some (.bool true):=rfl
theorem UB {E:Env} {H:aa} {e:TypeId} {cm:Addr}:fu E H e (.dY cm)=some (0,[]):=rfl
theorem UC {E:Env} {e:TypeId} {cm:Addr}:hh (.slice e) E (.dY cm)=some (.int .i64 0):=rfl
attribute [go_sem] Wz UA UB UC
theorem OL {f:FuncId} {e sz:Nat} {H:aa} {K:I -> aa -> Prop} (J:fi E (.func f [] []) [.aE] H K)
 (O:∀(H1:aa) (c o:Nat) (k:dm),ic E (.func f [] []) [.slice c o 0 k] H1 fun v1 H1'=>v1= .slice H1.next 0 0 (.ex 0) /\ H1'=(aS H1 (.cells [] e true true)).2)
 (bH:∀(H1:aa) (cm:Addr),ic E (.func f [] []) [.dY cm] H1 fun v1 H1'=>v1= .slice H1.next 0 0 (.ex 0) /\ H1'=(aS H1 (.cells [] e true true)).2) (ab:K (.aJ sz []) H):fi E (.func f [] []) [.aJ sz []] H K:=by
 intro σ f1 fD H1 r ao ae
 obtain ⟨x,y,R,aj,rfl⟩:=ao.func
 rw [av.nil] at R aj
 subst R; subst aj
 obtain ⟨a,bi,ag,aP,rfl⟩:=av.cons.1 ae
 rw [av.nil] at aP; subst aP
 rcases ag.nQ with ⟨hw,_⟩ | rfl | ⟨c,o,k,rfl,_⟩ | ⟨cm,rfl⟩
 rotate_right
 ·
  refine (bH H1 cm).mono ?_
  rintro v1 H1' ⟨rfl,rfl⟩
  obtain ⟨ck,a9⟩:=r.skip (.cells [] e true true)
  exact ⟨σ,.aJ sz [],H,a9,ck,al.fP (.inr (.inl ⟨_,_,_,rfl,trivial,fun _=>rfl⟩)),ab⟩
 ·
  cases hw
 ·
  exact J σ _ _ H1 r ao (av.one al.CI)
 ·
  refine (O H1 c o k).mono ?_
  rintro v1 H1' ⟨rfl,rfl⟩
  obtain ⟨ck,a9⟩:=r.skip (.cells [] e true true)
  exact ⟨σ,.aJ sz [],H,a9,ck,al.fP (.inr (.inl ⟨_,_,_,rfl,trivial,fun _=>rfl⟩)),ab⟩
theorem fi.out {f:I} {xs:List I} {H:aa} {K:I -> aa -> Prop} (h:WF H -> fi E f xs H fun v H'=>ji H K v H'):fi E f xs H K:=by
 intro σ f1 fD H1 r ao ae
 refine (h r.lh σ f1 fD H1 r ao ae).mono ?_
 rintro v1 H1' ⟨bn,v,H',J,O,ag,ab⟩
 have aF:∀b x,H.m.get b=some x -> b < H.next:=fun b x R=>by
  rcases Nat.lt_or_ge b H.next with h | h
  ·
   exact h
  ·
   rw [r.lh b h] at R; cases R
 have fin:∀ {dF cc},qN H dF H' -> b_ H H' cc v -> K cc dF -> ∃bn v H',dh H1.next σ H H1 bn H' H1' /\ cW false bn H' H1' /\ al false bn H1' v v1 /\ K v H':=by
  intro dF cc R ak ab
  have sk:=R.sk r O.lh
  exact ⟨(od H).comp bn,cc,dF,dh.out r J sk,sk.af.comp O,al.comp O _ _ _ ak ag,ab⟩
 rcases ab with ab | ⟨ao,cc,ak,ab⟩ | ⟨dF,cc,R,ak,ab⟩
 ·
  exact ⟨bn,v,H',J,O,ag,ab⟩
 ·
  exact fin (qN.same ao aF) ak ab
 ·
  exact fin R ak ab
theorem fi.wf {f:I} {xs:List I} {H:aa} {K:I -> aa -> Prop} (h:WF H -> fi E f xs H K):fi E f xs H K:=fun σ f1 fD H1 r ao ae=>h r.lh σ f1 fD H1 r ao ae
theorem Acc.uV {H0 H:aa} {e sz:Nat} (ao:Fr H0 H) (J:au E e=sz) (O:0 < sz) (ag:jw E e=true):Acc E H0 (aS H (.cells [] e true true)).2 e sz (.slice H.next 0 0 (.ex 0)) []:=
 ⟨ao.ce _,Sc H _ ao.nx,by simp,J,O,ag⟩
theorem Acc.xo {H0 H:aa} {e sz:Nat} {v:I} {l:List I} (h:Acc E H0 H e sz v l):cJ E H e v 0 []=some (v,H):=Sb h.own.ks
end
end
end Go.az
namespace Go.az
noncomputable section
section
variable {E:Env} {fid:FuncId} {N M:Nat} {H:aa} {l:Nat} {K:I -> aa -> Prop} {a b:Code} {T:a'} {ps:List Tmp} {s:an}
theorem gj {b:Nat} {x:bf}:(aN H b x).m.get b=some x:=by rw [gH,if_pos rfl]
theorem cY {b a:Nat} {x:bf} (h:a≠b):(aN H b x).m.get a=H.m.get a:=by rw [gH,if_neg h]
theorem eP {x:bf}:(aS H x).2.m.get H.next=some x:=by rw [g6,if_pos rfl]
theorem hK {a:Nat} {x:bf} (h:a≠H.next):(aS H x).2.m.get a=H.m.get a:=by rw [g6,if_neg h]
theorem WA:jj N M [] T []=some T:=rfl
theorem WB {p:Tmp} {x:I} {L G:ca} {ps:List Tmp} {xs:List I} (h:p < N):jj N (c8 N) (p :: ps) ⟨L,G⟩ (x :: xs)=jj N (c8 N) ps ⟨L,G.put x p⟩ xs:=by
 show ap (Nat.blt p N) (jj N (c8 N) ps (a'.put (c8 N) ⟨L,G⟩ x p) xs) none=_
 rw [(cZ _ _).2 h]
 have:a'.put (c8 N) ⟨L,G⟩ x p=⟨L,G.put x p⟩:=by unfold a'.put; rw [ue h]; rfl
 rw [this]; rfl
def Lu (H:aa) (l:Nat) (x:bf):Option aa:=match x with
 | .loop f T N M ps a b st p=>match st with | .ready=>some (aN H l (.loop f T N M ps a b .busy p)) | _=>none
 | _=>none
theorem adQ:qU H l=(H.m.get l).ac (Lu H l):=rfl
theorem Yi {p:Option Code}:Lu H l (.loop fid T N M ps a b .ready p)=some (aN H l (.loop fid T N M ps a b .busy p)):=rfl
def Lv (H:aa) (l:Nat) (j:Option Code) (x:bf):Option aa:=match x with
 | .loop f T N M ps a b _ _=>some (aN H l (.loop f T N M ps a b (lG j) j))
 | _=>none
theorem adR {j:Option Code}:hx H l j=(H.m.get l).ac (Lv H l j):=rfl
theorem Yj {j:Option Code} {st:LoopState} {p:Option Code}:Lv H l j (.loop fid T N M ps a b st p)=some (aN H l (.loop fid T N M ps a b (lG j) j)):=rfl
theorem WC:lG none= .ready:=rfl
theorem WD {c:Code}:lG (some c)= .done:=rfl
def AH (T:a') (H:aa) (l:Nat) (x:bf):Option (bu × an):=match x with
 | .loop _ _ _ _ _ _ _ st jy=>match st with
  | .busy=>none
  | _=>match jy with
   | none=>some (.normal,⟨T,aN H l .dead⟩)
   | some c=>(o0 c).omap fun e=>(e,⟨T,aN H l .dead⟩)
 | _=>none
theorem adS:pL T H l=(H.m.get l).ac (AH T H l):=rfl
theorem Yk {T':a'}:AH T' H l (.loop fid T N M ps a b .ready none)=some (.normal,⟨T',aN H l .dead⟩):=rfl
theorem Yl {T':a'}:AH T' H l (.loop fid T N M ps a b .done (some .ret))=some (.ret,⟨T',aN H l .dead⟩):=rfl
theorem Ym {T':a'} {i:Nat}:AH T' H l (.loop fid T N M ps a b .done (some (.exit i)))=some (.exit i,⟨T',aN H l .dead⟩):=rfl
theorem WE:z3 E fid N M b l K .normal s=bl (qU s.H l) (C7 E fid N M b l K s.T):=propext ⟨fun h=>h.2,fun h=>⟨rfl,h⟩⟩
theorem WG:C7 E fid N M b l K T H=ds E fid N M b ⟨T,H⟩ (sK l K):=rfl
theorem SC:sK l K .normal s=bl (hx s.H l none) (K (.bool true)):=rfl
theorem SD {i:Nat}:sK l K (.exit i) s=bl (hx s.H l (some (.exit i))) (K (.bool false)):=rfl
theorem SE:sK l K .ret s=bl (hx s.H l (some .ret)) (K (.bool false)):=rfl
def Lw (K:bu -> an -> Prop) (r:bu × an):Prop:=K r.1 r.2
theorem aa' {K:bu -> an -> Prop} {v:I}:z2 T l K v H=bl (pL T H l) (Lw K):=rfl
theorem adT {K:bu -> an -> Prop} {e:bu} {s:an}:Lw K (e,s)=K e s:=rfl
end
attribute [go_sem] gj cY eP hK WA WB adQ Yi adR Yj WC WD adS Yk Yl Ym WE WG SC SD SE aa' adT
section
variable {H:aa} {b c o k:Nat} {l new:List I} {e:TypeId} {x:Bool} {y:bf}
theorem a2 (h:H.m.get b=some (.cells l e x true)):H.m.get b=some (.cells l e x true) /\ (∀o,cellAt H b o=fy l o) /\ (∀o k,bA H b o k=ap (Nat.beq k 0) (some []) (cG k (co o l))) /\
 ∀o new,bT H b o new=ap (br new) ((dC new o l).omap fun l'=>aN H b (.cells l' e x true)) none:=by
 refine ⟨h,fun o=> ?_,fun o k=> ?_,fun o new=> ?_⟩
 ·
  rw [lo,h]; exact pO
 ·
  rw [oA,h]
  show ap _ _ (m4 o k (.cells l e x true))=_
  rw [sy]
 ·
  rw [g4,h]; rfl
theorem q4 (h:b=H.next):(aS H y).2.m.get b=some y:=by rw [g6,if_pos h]
theorem ua (h:c=b):(aN H b y).m.get c=some y:=by rw [gH,if_pos h]
theorem OM (h:b=H.next):cellAt (aS H (.cells l e x true)).2 b o=fy l o:=(a2 (q4 h)).2.1 o
theorem Nv (h:b=H.next):bA (aS H (.cells l e x true)).2 b o k=ap (Nat.beq k 0) (some []) (cG k (co o l)):=(a2 (q4 h)).2.2.1 o k
theorem QD (h:b=H.next):bT (aS H (.cells l e x true)).2 b o new=ap (br new) ((dC new o l).omap fun l'=>aN (aS H (.cells l e x true)).2 b (.cells l' e x true)) none:=(a2 (q4 h)).2.2.2 o new
theorem ON (h:c=b):cellAt (aN H b (.cells l e x true)) c o=fy l o:=(a2 (ua h)).2.1 o
theorem Nw (h:c=b):bA (aN H b (.cells l e x true)) c o k=ap (Nat.beq k 0) (some []) (cG k (co o l)):=(a2 (ua h)).2.2.1 o k
theorem QE (h:c=b):bT (aN H b (.cells l e x true)) c o new=ap (br new) ((dC new o l).omap fun l'=>aN (aN H b (.cells l e x true)) c (.cells l' e x true)) none:=(a2 (ua h)).2.2.2 o new
end
attribute [go_sem] q4 ua OM Nv QD ON Nw QE
end
end Go.az
namespace Go.az
attribute [go_sem 50] lo oA g4
end Go.az
namespace Go.az
noncomputable section
theorem I0 {ki k':IntKind} {m s:Nat} (h:Nat.ble s (iY ki)=true):hg .shr ki (m:Int) (.int k' (@OfNat.ofNat Int s instOfNat))=some (.int ki ((m / 2 ^ s:Nat):Int)):=by
 show ((i_ (@OfNat.ofNat Int s instOfNat)).ac fun n=>um .shr ki (m:Int) (gb n (iY ki)))=_
 rw [B9]
 show some (I.int ki ((m:Int).fdiv (.ofNat (Nat.pow 2 (gb s (iY ki))))))=_
 have:gb s (iY ki)=s:=by unfold gb; rw [h]; rfl
 rw [this,show ((m:Int).fdiv (Int.ofNat (Nat.pow 2 s)))=((m / 2 ^ s:Nat):Int) from (Int.ofNat_fdiv m (2 ^ s)).symm]
theorem UD {ki k':IntKind} {m s:Nat} (h:Nat.ble s (iY ki)=true):hg .shl ki (m:Int) (.int k' (@OfNat.ofNat Int s instOfNat))=some (.int ki (bG ki ((m * 2 ^ s:Nat):Int))):=by
 show ((i_ (@OfNat.ofNat Int s instOfNat)).ac fun n=>um .shl ki (m:Int) (gb n (iY ki)))=_
 rw [B9]
 show some (I.int ki (bG ki (Int.mul (m:Int) (.ofNat (Nat.pow 2 (gb s (iY ki)))))))=_
 have:gb s (iY ki)=s:=by unfold gb; rw [h]; rfl
 rw [this]; rfl
theorem Nx (n:Nat):bG .u8 (n:Int)=((n % 256:Nat):Int):=rfl
attribute [go_sem] I0 UD
end
end Go.az
namespace Go.az
noncomputable section
def nb (e:TypeId) (y:bf):Bool:=match y with | .cells _ fG _ _=> !(Nat.beq fG e) | _=>true
section
variable {E:Env} {H0 H:aa} {e sz:Nat} {v:I} {l:List I} {c:Nat} {y z:bf}
theorem Acc.not (h:Acc E H0 H e sz v l) (V:H.m.get c=some y) (aj:nb e y=true):v= .aE∨c≠aY v:=by
 rcases h.own.2 with ⟨rfl,_⟩ | ⟨b,x,_,_,rfl,U⟩
 ·
  exact .inl rfl
 ·
  refine .inr fun qo=> ?_
  have qo:c=b:=qo
  subst qo
  rw [U] at V
  cases V
  have:(!(Nat.beq e e))=true:=aj
  rw [Nat.beq_refl] at this; cases this
theorem Acc.other (h:Acc E H0 H e sz v l) (V:H.m.get c=some y) (aj:nb e y=true) (oe:H0.next≤c):Acc E H0 (aN H c z) e sz v l:=by
 have ar:=h.not V aj
 refine ⟨h.fr.set oe _,⟨h.own.1,h.own.2.imp id ?_⟩,h.el,h.bm,h.bU,h.a4⟩
 rintro ⟨b,x,J,O,rfl,aP⟩
 refine ⟨b,x,J,O,rfl,?_⟩
 rw [gH,if_neg]
 ·
  exact aP
 ·
  rintro rfl
  rcases ar with ar | ar
  ·
   cases ar
  ·
   exact ar rfl
theorem Acc.I1 (h:Acc E H0 H e sz v l) {m:Nat} (ar:l.length + m≤1048576) (hm:0 < m) {new:List I} (ah:new.length=m * sz) (ao:br new=true):
 (iI E H e v m new).next=H.next + 1 /\ ∀c y,H.m.get c=some y -> nb e y=true -> c < H.next -> (iI E H e v m new).m.get c=some y:=by
 obtain ⟨H',J,_,_,aP,bH⟩:=h.own.append h.bm h.bU hm ah ao (oy h.a4 ar) h.fr.nx
 have a8:iI E H e v m new=H':=by unfold iI; rw [J]; rfl
 rw [a8]
 refine ⟨aP,fun c y V aj aF=> ?_⟩
 rw [bH c (h.not V aj) aF]; exact V
theorem Acc.Ik (h:Acc E H0 H e sz v l) (ar:l.length < 1048576) {new:List I} (ah:new.length=sz) (ao:br new=true):
 (jI E H e v new).next=H.next + 2 /\ ∀c y,H.m.get c=some y -> nb e y=true -> c < H.next -> (jI E H e v new).m.get c=some y:=by
 have aQ:Acc E H0 (aS H (.cells new e true true)).2 e sz v l:=h.b3 (Fr.alloc H _)
 obtain ⟨J,O⟩:=aQ.I1 (m:=1) ar (by decide) (by rw [ah,Nat.one_mul]) ao
 refine ⟨J,fun c y V aj aF=>O c y ?_ aj (Nat.lt_succ_of_lt aF)⟩
 rw [g6,if_neg (by omega)]; exact V
end
theorem SF (a b:Int):ry a b=min a b:=by
 unfold ry
 rw [ux]
 by_cases h:b < a
 ·
  rw [decide_eq_true h]; show b=_; omega
 ·
  rw [decide_eq_false h]; show a=_; omega
theorem SG (a b:Int):rz a b=max a b:=by
 unfold rz
 rw [ux]
 by_cases h:a < b
 ·
  rw [decide_eq_true h]; show b=_; omega
 ·
  rw [decide_eq_false h]; show a=_; omega
theorem WH {a b:Int}:rA ry [.int .i64 a,.int .i64 b]=some (.int .i64 (min a b)):=by rw [<- SF]; rfl
theorem WI {a b:Int}:rA rz [.int .i64 a,.int .i64 b]=some (.int .i64 (max a b)):=by rw [<- SG]; rfl
attribute [go_sem] WH WI
theorem zL {a b:Nat} (h:¬a≤b):Nat.ble a b=false:=by
 cases U:Nat.ble a b with
 | false=>rfl
 | true=>exact absurd (Nat.le_of_ble_eq_true U) h
theorem UE {ki k':IntKind} {m s:Nat}:hg .shl ki (m:Int) (.int k' (s:Int))=some (.int ki (bG ki ((m * 2 ^ (min s (iY ki)):Nat):Int))):=by
 show ((i_ (s:Int)).ac fun n=>um .shl ki (m:Int) (gb n (iY ki)))=_
 rw [y4]
 show some (I.int ki (bG ki (Int.mul (m:Int) (.ofNat (Nat.pow 2 (gb s (iY ki)))))))=_
 have:gb s (iY ki)=min s (iY ki):=by
  unfold gb
  by_cases h:s≤iY ki
  ·
   rw [de.2 h,Nat.min_eq_left h]; rfl
  ·
   rw [zL h,Nat.min_eq_right (by omega)]; rfl
 rw [this]; rfl
theorem UF {E:Env} {e sz:Nat} {l:List I} (a b m:Nat) (hm:m≤l.length) (U:b≤m) (ae:a≤b) (aD:0 < m) {k k' a9:IntKind} (aG:sz=au E e):
 dp (.slice e) E (.aJ sz l) (some (.int k (a:Int))) (some (.int k' (b:Int))) (some (.int a9 (m:Int)))=some (.aJ sz ((l.take b).drop a)):=by
 have J:bF 0 0 (some (.int k (a:Int))) (some (.int k' (b:Int))) (some (.int a9 (m:Int)))=none:=by
  show (ap (Nat.ble m 0) (some m) none).ac _=_
  rw [zL (by omega)]; rfl
 have O:bF (bJ l) (bJ l) (some (.int k (a:Int))) (some (.int k' (b:Int))) (some (.int a9 (m:Int)))=some (a,b,m):=by
  show (ap (Nat.ble m (bJ l)) (some m) none).ac _=_
  rw [eQ,de.2 hm]
  show (ap (Nat.ble b m) (some b) none).ac _=_
  rw [de.2 U]
  show (ap (Nat.ble a b) (some a) none).omap _=_
  rw [de.2 ae]; rfl
 show ap (Nat.beq sz (au E e)) (bQ (bF 0 0 (some (.int k (a:Int))) (some (.int k' (b:Int))) (some (.int a9 (m:Int)))) (nC sz l _ _ _) _) none=_
 rw [aG,Nat.beq_refl,J]
 show (bF (bJ l) (bJ l) (some (.int k (a:Int))) (some (.int k' (b:Int))) (some (.int a9 (m:Int)))).omap _=_
 rw [O]
 show some (I.aJ _ (co a (g8 b l)))=_
 rw [dz,it]
theorem lF {a b:Nat} (h:a≠b):Nat.beq a b=false:=by
 cases U:Nat.beq a b with
 | false=>rfl
 | true=>exact absurd (Nat.eq_of_beq_eq_true U) h
end
end Go.az
namespace Go.az
noncomputable section
def mw:aa:=⟨.nil,0,[]⟩
def gn:bK:=fun _=>none
theorem al.hj {w:Bool} {σ:bK} {H:aa} {v a:I} (ak:nJ v=true):al w σ H v a↔a=v:=by
 cases v <;> first | (cases ak; done) | (simp only [al]; done)
theorem av.hj {w:Bool} {σ:bK} {H:aa}:∀ {l r:List I},l.all nJ=true -> (av w σ H l r↔r=l)
 | [],r,_=>by rw [av.nil]
 | x :: l,r,h=>by
  rw [List.all_cons,Bool.and_eq_true] at h
  rw [av.cons]
  constructor
  ·
   rintro ⟨y,bi,J,O,rfl⟩
   rw [al.hj h.1] at J
   rw [av.hj h.2] at O
   rw [J,O]
  ·
   rintro rfl
   exact ⟨x,l,(al.hj h.1).2 rfl,(av.hj h.2).2 rfl,rfl⟩
theorem al.plain {w:Bool} {σ:bK} {H:aa} {v a:I} (ak:iV v=true):al w σ H v a↔a=v:=by
 cases v with
 | agg l=>
  have ah:l.all nJ=true:=ak
  constructor
  ·
   intro h
   obtain ⟨l',J,rfl⟩:=h.agg
   rw [(av.hj ah).1 J]
  ·
   rintro rfl
   exact al.mf ((av.hj ah).2 rfl)
 | bool b=>exact al.hj rfl
 | int k n=>exact al.hj rfl
 | str s=>exact al.hj rfl
 | cA=>exact al.hj rfl
 | dj=>exact al.hj rfl
 | dK=>exact al.hj rfl
 | _=>cases ak
theorem av.plain {w:Bool} {σ:bK} {H:aa}:∀ {l r:List I},(∀x∈l,iV x=true) -> (av w σ H l r↔r=l)
 | [],r,_=>by rw [av.nil]
 | x :: l,r,h=>by
  rw [av.cons]
  constructor
  ·
   rintro ⟨y,bi,J,O,rfl⟩
   rw [al.plain (h x (by simp))] at J
   rw [av.plain fun y aj=>h y (by simp [aj])] at O
   rw [J,O]
  ·
   rintro rfl
   exact ⟨x,l,(al.plain (h x (by simp))).2 rfl,(av.plain fun y aj=>h y (by simp [aj])).2 rfl,rfl⟩
theorem OO {v:I} (h:iV v=true):v.cells.all nJ=true:=by
 cases v with
 | agg l=>exact h
 | bool b=>rfl
 | int k n=>rfl
 | str s=>rfl
 | cA=>rfl
 | dj=>rfl
 | dK=>rfl
 | _=>cases h
theorem Il:∀ {l:List I},(∀x∈l,iV x=true) -> (a3 l).all nJ=true
 | [],_=>rfl
 | x :: l,h=>by
  show (cb x.cells (a3 l)).all nJ=true
  rw [eZ,List.all_append,OO (h x (by simp)),Il fun y aj=>h y (by simp [aj])]; rfl
section
variable {E:Env} {H:aa}
theorem fi.read {f:FuncId} {as h7:List I} {v:I} {K:I -> aa -> Prop} (ak:iV v=true) (h:fi E (.func f [] []) h7 mw fun cc _=>cc=v)
 (ae:∀σ H1 fD,cW false σ H H1 -> av false σ H1 as fD -> av false gn H1 h7 fD) (ab:K v H):fi E (.func f [] []) as H K:=by
 intro σ f1 fD H1 r ao mm
 obtain ⟨x,y,R,aj,rfl⟩:=ao.func
 rw [av.nil] at R aj
 subst R; subst aj
 have fF:cW false gn mw H1:=⟨fun b x U=>(nomatch U),fun _ _ _ h=>(nomatch h),fun _ _ h=>(nomatch h),fun _ _ h=>(nomatch h),fun _ _=>rfl,r.ob,fun _ _ h=>(nomatch h),fun _ _ h=>(nomatch h)⟩
 have vp:al false gn H1 (.func f [] []) (.func f [] []):=by unfold al; exact ⟨[],[],av.nil.2 rfl,av.nil.2 rfl,rfl⟩
 refine (h gn _ fD H1 fF vp (ae σ H1 fD r mm)).mono ?_
 rintro v1 H1' ⟨bn,cc,H',k,bi,h4,rfl⟩
 have same:∀c,(H1.m.get c).isSome=true -> H1'.m.get c=H1.m.get c:=fun c V=>by
  refine (k.c7.fz c ⟨fun b U=>(by cases U),?_,V⟩).2
  rcases Nat.lt_or_ge c H1.next with h | h
  ·
   exact h
  ·
   rw [r.ob c h] at V; cases V
 have c7:jf σ H1 σ H1':=⟨fun _ _ h=>h,k.c7.next,fun c V=>⟨V.1,same c V.2.2⟩⟩
 have E7:∀ {b c},σ b=some c -> H1'.m.get c=H1.m.get c:=fun {b c} U=>by
  obtain ⟨y,aj⟩:=r.ex b c U
  exact same c (by rw [aj]; rfl)
 refine ⟨σ,cc,H,⟨c7,⟨[],rfl,fun b c U _=>E7 U⟩,k.hole⟩,⟨fun b x R=> ?_,r.inj,fun b c U=>Nat.lt_of_lt_of_le (r.lt b c U) k.c7.next,r.qq,r.lh,bi.ob,fun b c U=> ?_,r.qr⟩,?_,ab⟩
 ·
  obtain ⟨c,z,V,ai,af⟩:=r.dr b x R
  exact ⟨c,z,V,by rw [E7 V]; exact ai,af.mono c7⟩
 ·
  rw [E7 U]; exact r.ex b c U
 ·
  rw [al.plain ak] at h4 ⊢; exact h4
theorem zk {σ:bK} {H1:aa} {a:I} {b o sz:Nat} {k:dm} {l:List I} (r:cW false σ H H1) (ae:al false σ H1 (.slice b o l.length k) a) (hm:bA H b o (l.length * sz)=some (a3 l)) (aR:∀x∈l,iV x=true)
 (V:∀x∈l,x.cells.length=sz) (aD:0 < sz) (ab:lE k sz) (ef:l≠ [] -> rr k l.length):al false gn H1 (.aJ sz l) a:=by
 obtain ⟨c,U,rfl⟩:=ae.slice
 by_cases ah:l= []
 ·
  subst ah
  exact al.fP (.inr (.inl ⟨c,o,k,rfl,ab,fun h=>by omega⟩))
 ·
  obtain ⟨cs',J,O⟩:=r.cells U hm
  rw [av.hj (Il aR)] at O
  subst O
  obtain ⟨y,aj⟩:=r.ex b c U
  exact al.nD ah aD ⟨fun b h=>(nomatch h),r.lt _ _ U,by rw [aj]; rfl⟩ ab (ef ah) ((av.plain aR).2 rfl) V J
end
end
end Go.az
namespace Go.az
noncomputable section
def wz (b:bf):Bool:=match b with | .cells .. =>true | _=>false
def oh (L:List (Nat × Nat)):Nat:=L.foldr (fun p a=>max (max p.1 p.2) a) 0
theorem WJ {L:List (Nat × Nat)} {p:Nat × Nat} (h:p∈L):p.1≤oh L /\ p.2≤oh L:=by
 induction L with
 | nil=>cases h
 | cons q L aH=>
  have e:oh (q :: L)=max (max q.1 q.2) (oh L):=rfl
  rcases List.mem_cons.1 h with rfl | h
  ·
   omega
  ·
   have:=aH h; omega
def wA (ops:List Oper):Bool:=ops.any fun o=>ra o.op
theorem QF {ops:List Oper} (h:wA ops=false) (e j:Nat):ze ops e j:=fun k o _ _ aC=>by
 have:=List.any_eq_false.1 h o (List.mem_of_getElem? aC)
 simpa using this
def yp {α:Type} (o:Option α) (K:α -> Prop):Prop:=∀a,o=some a -> K a
theorem UG {α:Type} (a:α) (K:α -> Prop):yp (some a) K=K a:=propext ⟨fun h=>h a rfl,fun h b U=>by cases U; exact h⟩
theorem UH {α:Type} (K:α -> Prop):yp (none:Option α) K=True:=propext ⟨fun _=>trivial,fun _ b U=>by cases U⟩
def gK (E:Env) (ops:List Oper) (L:List (Nat × Nat)) (j:Nat) (y:Oper):Nat:=match cls y.op E with
 | .ha=>ap (Nat.ble j (oh L)) 2 0
 | .read=>ap (L.any fun q=>Nat.beq q.2 j) (ap (rg y.op) (ap (L.any fun q=>Nat.beq q.2 j && Nat.blt q.1 j) (ap (wA ops) 1 5) 4) 9) 0
 | .alloc=>ap (L.any fun q=>Nat.beq q.2 j) 3 0
 | .pure=>0
def Ju (E:Env) (ops:List Oper):List Nat:=(jk 0 ops).map fun p=>gK E ops (loose E ops) p.1 p.2
def vq (a b:Nat):Prop:=a < b
def yq {α:Type} (o:Option α) (K:α -> Prop) (P:Prop):Prop:=match o with | some a=>K a | none=>P
theorem UI {α:Type} (a:α) (K:α -> Prop) (P:Prop):yq (some a) K P=K a:=rfl
theorem UJ {α:Type} (K:α -> Prop) (P:Prop):yq (none:Option α) K P=P:=rfl
def qu (M:Nat) (pre:List Oper) (o:Oper) (s:an):Prop:=∃z,uK pre o.op=some z /\ bl (aK M (.tmp z) s.T) zG
theorem qu.mk {M:Nat} {pre:List Oper} {o:Oper} {s:an} (z:Tmp) {sz:Nat} {l:List I} (J:uK pre o.op=some z) (O:aK M (.tmp z) s.T=some (.aJ sz l)):qu M pre o s:=⟨z,J,_,O,sz,l,rfl⟩
def qv (M base:Nat) (pre:List Oper) (o:Oper) (s:an):Prop:=yq (iZ M o.op s.T) (fun q=>vq q base /\ (s.H.m.get q).isSome=true) (qu M pre o s)
def pm (M base:Nat) (o:Oper) (s:an):Prop:=yp (iZ M o.op s.T) fun q=>vq q base /\ (s.H.m.get q).isSome=true
def vr (E:Env) (N M base:Nat) (o:Oper) (s:an) (K:an -> Prop) (b:Bool):Prop:=ap b (pm M base o s) True /\ ml E N M o s K b
def x0 (E:Env) (N M base:Nat) (pre:List Oper) (o:Oper) (s:an) (K:an -> Prop) (b:Bool):Prop:=ap b (qv M base pre o s) True /\ ml E N M o s K b
def E8 (o:Oper) (s:an) (K:an -> Prop) (s':an):Prop:=Fr s.H s'.H /\ K s'
def E9 (o:Oper) (s:an) (K:an -> Prop) (s':an):Prop:=bl (s'.H.m.get s.H.next) (fun x=>wz x=true) /\ K s'
def z6 (E:Env) (N M:Nat) (o:Oper) (s:an) (K:an -> Prop) (b:Bool):Prop:=ap b (wpOp E N M o s (E9 o s K)) (dI N M s.T o.dst K .undef s.H)
def iJ (E:Env) (N M base:Nat) (all:List Oper):List Oper -> List Nat -> an -> (an -> Prop) -> Prop
 | [],_,s,K=>K s
 | _ :: _,[],_,_=>False
 | o :: l,0 :: bS,s,K=>bl (cx M all s.T o) (ml E N M o s fun s'=>iJ E N M base all l bS s' K)
 | o :: l,1 :: bS,s,K=>bl (cx M all s.T o) (x0 E N M base (all.take (all.length - (l.length + 1))) o s fun s'=>iJ E N M base all l bS s' K)
 | o :: l,2 :: bS,s,K=>bl (cx M all s.T o) (ml E N M o s (E8 o s fun s'=>iJ E N M base all l bS s' K))
 | o :: l,3 :: bS,s,K=>bl (cx M all s.T o) (z6 E N M o s fun s'=>iJ E N M base all l bS s' K)
 | o :: l,4 :: bS,s,K=>bl (cx M all s.T o) (vr E N M s.H.next o s fun s'=>iJ E N M base all l bS s' K)
 | o :: l,5 :: bS,s,K=>bl (cx M all s.T o) (vr E N M base o s fun s'=>iJ E N M base all l bS s' K)
 | _ :: _,_ :: _,_,_=>False
section
variable {E:Env} {N M base:Nat}
theorem wB {o:Oper} {s:an} {K:an -> Prop} (h:wpOp E N M o s K) (he:∀h:cls o.op E= .ha,False):wpOp E N M o s fun s'=>(Fr s.H s'.H /\ (cls o.op E= .alloc -> s.H.next < s'.H.next)) /\ K s':=by
 unfold wpOp at h ⊢
 split at h
 ·
  rename_i V
  rw [V]
  exact fO h fun v h=>fO h fun T h=>⟨⟨Fr.refl _,fun h=>by cases h⟩,h⟩
 ·
  rename_i V
  rw [V]
  exact fO h fun v h=>fO h fun T h=>⟨⟨Fr.refl _,fun h=>by cases h⟩,h⟩
 ·
  rename_i V
  rw [V]
  exact fO h fun v h=>fO h fun T h=>⟨⟨Fr.alloc _ _,fun _=>Nat.lt_succ_self _⟩,h⟩
 ·
  rename_i V
  exact (he V).elim
structure r8 (E:Env) (M base:Nat) (ops pre:List Oper) (a_:List an):Prop where
 len:a_.length=pre.length + 1
 fr:∀(a b:Nat) (qO yr:an),a≤b -> b≤oh (loose E ops) + 1 -> a_[a]? =some qO -> a_[b]? =some yr -> Fr qO.H yr.H
 rd:∀(j:Nat) (y:Oper) (s:an),pre[j]? =some y -> a_[j]? =some s -> gK E ops (loose E ops) j y=1 -> cx M ops s.T y=some false∨qv M base (ops.take j) y s
 Mb:∀(j:Nat) (y:Oper) (s s':an),pre[j]? =some y -> a_[j]? =some s -> a_[j + 1]? =some s' -> h8 M y s s'
 Lx:∀(j:Nat) (y:Oper) (s:an),pre[j]? =some y -> a_[j]? =some s -> gK E ops (loose E ops) j y=4 -> cx M ops s.T y=some false∨pm M s.H.next y s
 Ly:∀(j:Nat) (y:Oper) (s:an),pre[j]? =some y -> a_[j]? =some s -> gK E ops (loose E ops) j y=5 -> cx M ops s.T y=some false∨pm M base y s
 vF:∀(j:Nat) (y:Oper) (s s':an),pre[j]? =some y -> a_[j]? =some s -> a_[j + 1]? =some s' -> gK E ops (loose E ops) j y=3 -> cx M ops s.T y=some false∨(bl (s'.H.m.get s.H.next) (fun x=>wz x=true) /\ s.H.next < s'.H.next)
 sb:∀(s:an),a_[0]? =some s -> base≤s.H.next
theorem r8.snoc {ops pre:List Oper} {a_:List an} {s s':an} {o:Oper} (h:r8 E M base ops pre (a_ ++ [s])) (bh:h8 M o s s') (ao:pre.length≤oh (loose E ops) -> Fr s.H s'.H) (J:gK E ops (loose E ops) pre.length o=1 -> cx M ops s.T o=some false∨qv M base (ops.take pre.length) o s) (aP:gK E ops (loose E ops) pre.length o=4 -> cx M ops s.T o=some false∨pm M s.H.next o s) (bH:gK E ops (loose E ops) pre.length o=5 -> cx M ops s.T o=some false∨pm M base o s)
 (ag:gK E ops (loose E ops) pre.length o=3 -> cx M ops s.T o=some false∨(bl (s'.H.m.get s.H.next) (fun x=>wz x=true) /\ s.H.next < s'.H.next)):r8 E M base ops (pre ++ [o]) ((a_ ++ [s]) ++ [s']):=by
 have ah:=h.len
 have f':(a_ ++ [s])[pre.length]? =some s:=by
  have:pre.length=a_.length:=by simpa using ah.symm
  rw [this]; simp
 have old:∀ {j x},j < pre.length + 1 -> ((a_ ++ [s]) ++ [s'])[j]? =some x -> (a_ ++ [s])[j]? =some x:=fun {j x} ax R=>by
  rwa [List.getElem?_append_left (by omega)] at R
 have new:∀ {j x},¬j < pre.length + 1 -> ((a_ ++ [s]) ++ [s'])[j]? =some x -> j=pre.length + 1 /\ x=s':=fun {j x} ax R=>by
  rw [List.getElem?_append_right (by omega)] at R
  have:j - (a_ ++ [s]).length=0:=by
   rcases Nat.eq_zero_or_pos (j - (a_ ++ [s]).length) with h | h
   ·
    exact h
   ·
    rw [List.getElem?_eq_none (show [s'].length≤_ from h)] at R; cases R
  rw [this] at R
  exact ⟨by omega,by simpa using R.symm⟩
 refine ⟨by simp at ah ⊢; omega,fun a b qO yr ge ql ae U=> ?_,fun j y x aj R V=> ?_,fun j y x x' aj R jD=> ?_,fun j y x aj R V=> ?_,fun j y x aj R V=> ?_,fun j y x x' aj R jD V=> ?_,fun x R=> ?_⟩
 ·
  by_cases dx:b < pre.length + 1
  ·
   exact h.fr a b qO yr ge ql (old (by omega) ae) (old dx U)
  ·
   obtain ⟨rfl,rfl⟩:=new dx U
   by_cases cT:a < pre.length + 1
   ·
    exact (h.fr a pre.length qO s (by omega) (by omega) (old cT ae) f').trans (ao (by omega))
   ·
    obtain ⟨rfl,rfl⟩:=new cT ae; exact Fr.refl _
 ·
  by_cases ax:j < pre.length
  ·
   rw [List.getElem?_append_left ax] at aj
   exact h.rd j y x aj (old (by omega) R) V
  ·
   have hQ:j=pre.length:=by
    have:=(List.getElem?_eq_some_iff.1 aj).1
    simp at this; omega
   subst hQ
   have:y=o:=by simpa using aj.symm
   subst this
   have R:=old (by omega) R
   rw [f'] at R; cases R
   exact J V
 ·
  by_cases ax:j < pre.length
  ·
   rw [List.getElem?_append_left ax] at aj
   exact h.Mb j y x x' aj (old (by omega) R) (old (by omega) jD)
  ·
   have hQ:j=pre.length:=by
    have:=(List.getElem?_eq_some_iff.1 aj).1
    simp at this; omega
   subst hQ
   have:y=o:=by simpa using aj.symm
   subst this
   have R:=old (by omega) R
   rw [f'] at R; cases R
   obtain ⟨_,rfl⟩:=new (by omega) jD
   exact bh
 ·
  by_cases ax:j < pre.length
  ·
   rw [List.getElem?_append_left ax] at aj
   exact h.Lx j y x aj (old (by omega) R) V
  ·
   have hQ:j=pre.length:=by
    have:=(List.getElem?_eq_some_iff.1 aj).1
    simp at this; omega
   subst hQ
   have:y=o:=by simpa using aj.symm
   subst this
   have R:=old (by omega) R
   rw [f'] at R; cases R
   exact aP V
 ·
  by_cases ax:j < pre.length
  ·
   rw [List.getElem?_append_left ax] at aj
   exact h.Ly j y x aj (old (by omega) R) V
  ·
   have hQ:j=pre.length:=by
    have:=(List.getElem?_eq_some_iff.1 aj).1
    simp at this; omega
   subst hQ
   have:y=o:=by simpa using aj.symm
   subst this
   have R:=old (by omega) R
   rw [f'] at R; cases R
   exact bH V
 ·
  by_cases ax:j < pre.length
  ·
   rw [List.getElem?_append_left ax] at aj
   exact h.vF j y x x' aj (old (by omega) R) (old (by omega) jD) V
  ·
   have hQ:j=pre.length:=by
    have:=(List.getElem?_eq_some_iff.1 aj).1
    simp at this; omega
   subst hQ
   have:y=o:=by simpa using aj.symm
   subst this
   have R:=old (by omega) R
   rw [f'] at R; cases R
   obtain ⟨_,rfl⟩:=new (by omega) jD
   exact ag V
 ·
  exact h.sb x (old (by omega) R)
theorem r8.slot {ops pre:List Oper} {a_:List an} (h:r8 E M base ops pre a_) {z:Tmp}:∀(d:Nat) {s0 s:an},a_[0]? =some s0 -> a_[d]? =some s -> (∀(k:Nat) (y:Oper),k < d -> pre[k]? =some y -> y.dst≠some z) -> aK M (.tmp z) s.T=aK M (.tmp z) s0.T
 | 0,s0,s,aD,aG,_=>by rw [aD] at aG; cases aG; rfl
 | d + 1,s0,s,aD,aG,ai=>by
  have aF:d < a_.length:=by have:=(List.getElem?_eq_some_iff.1 aG).1; omega
  have hm:=List.getElem?_eq_getElem aF
  have adU:d < pre.length:=by have:=h.len; have:=(List.getElem?_eq_some_iff.1 aG).1; omega
  have aj:=List.getElem?_eq_getElem adU
  exact (h.Mb d _ _ _ aj hm aG z (ai d _ (Nat.lt_succ_self _) aj)).trans (h.slot d aD hm fun k y J O=>ai k y (by omega) O)
theorem r8.loose {ops:List Oper} {a_:List an} (h:r8 E M base ops ops a_) (V:∀j y,ops[j]? =some y -> gK E ops (loose E ops) j y≠9):∀p∈loose E ops,pS E M ops a_ p:=by
 rintro ⟨e,j⟩ aR
 have Yn:∃x y,ops[e]? =some x /\ ops[j]? =some y /\ pX E (hk ops []) e j y=true:=by
  unfold Go.az.loose zq at aR
  rw [List.mem_flatMap] at aR
  obtain ⟨⟨fG,x⟩,R,aR⟩:=aR
  cases he:fR E x with
  | false=>rw [he] at aR; cases aR
  | true=>
   rw [he] at aR
   obtain ⟨⟨ags,y⟩,aj,aB⟩:=List.mem_map.1 (show (e,j)∈(((jk 0 ops).filter fun q=>pX E (hk ops []) fG q.1 q.2).map fun q=>(fG,q.1)) from aR)
   obtain ⟨EW,vn⟩:=List.mem_filter.1 aj
   cases aB
   have mem:∀ {l:List Oper} {k a:Nat} {o:Oper},(a,o)∈jk k l -> k≤a /\ l[a - k]? =some o:=by
    intro l
    induction l with
    | nil=>intro k a o h; cases h
    | cons z l aH=>
     intro k a o h
     rcases List.mem_cons.1 h with h | h
     ·
      cases h; exact ⟨Nat.le_refl _,by simp⟩
     ·
      obtain ⟨J,O⟩:=aH h
      refine ⟨by omega,?_⟩
      rw [show a - k=(a - (k + 1)) + 1 by omega]
      simpa using O
   exact ⟨x,y,by simpa using (mem R).2,by simpa using (mem EW).2,vn⟩
 obtain ⟨x,y,R,aj,U⟩:=Yn
 obtain ⟨AI,adV⟩:=WJ aR
 simp only at AI adV
 have ah:=h.len
 have afX:j < ops.length:=(List.getElem?_eq_some_iff.1 aj).1
 have u':e < ops.length:=(List.getElem?_eq_some_iff.1 R).1
 obtain ⟨s,aG⟩:∃s,a_[j]? =some s:=⟨_,List.getElem?_eq_getElem (by omega)⟩
 obtain ⟨s',vm⟩:∃s,a_[j + 1]? =some s:=⟨_,List.getElem?_eq_getElem (by omega)⟩
 obtain ⟨u,hu⟩:∃s,a_[e]? =some s:=⟨_,List.getElem?_eq_getElem (by omega)⟩
 obtain ⟨v,ak⟩:∃s,a_[e + 1]? =some s:=⟨_,List.getElem?_eq_getElem (by omega)⟩
 obtain ⟨s0,ii⟩:∃s,a_[0]? =some s:=⟨_,List.getElem?_eq_getElem (by omega)⟩
 have Kp:((Go.az.loose E ops).any fun q=>Nat.beq q.2 j)=true:=List.any_eq_true.2 ⟨(e,j),aR,Nat.beq_refl _⟩
 have vL:∀ {a:Nat} {t oq:an},Fr t.H oq.H -> a < t.H.next -> si a t.H oq.H:=fun {a t oq} ao ae=>by
  obtain ⟨l,J,O⟩:=ao.je
  exact ⟨(ao.get a ae).symm,l,J,fun hm=>by have:=O a hm; omega⟩
 have bX:¬e=j:=by
  rintro rfl
  unfold pX at U
  rw [Nat.beq_refl] at U
  cases U
 unfold pS
 rw [aj,aG,hu,ak]
 simp only
 cases cP:cls y.op E with
 | pure=>trivial
 | ha=>trivial
 | read=>
  simp only
  have nK:gK E ops (Go.az.loose E ops) j y=ap (rg y.op) (ap ((Go.az.loose E ops).any fun q=>Nat.beq q.2 j && Nat.blt q.1 j) (ap (wA ops) 1 5) 4) 9:=by unfold gK; rw [cP]; simp only; rw [Kp]; rfl
  cases kw:rg y.op with
  | false=>exact absurd (by rw [nK,kw]; rfl) (V j y aj)
  | true=>
   rw [kw] at nK
   cases E_:(Go.az.loose E ops).any fun q=>Nat.beq q.2 j && Nat.blt q.1 j with
   | false=>
    rw [E_] at nK
    refine ⟨rfl,(h.Lx j y s aj aG nK).imp id ?_⟩
    intro b4
    cases j5:Nat.blt e j with
    | true=>
     have:((Go.az.loose E ops).any fun q=>Nat.beq q.2 j && Nat.blt q.1 j)=true:=List.any_eq_true.2 ⟨(e,j),aR,by rw [Nat.beq_refl,j5]; rfl⟩
     rw [E_] at this; cases this
    | false=>
     intro q' e4
     have z7:¬e < j:=fun h=>by rw [(cZ _ _).2 h] at j5; cases j5
     exact vL (h.fr j (e + 1) s v (by omega) (by omega) aG ak) (b4 q' e4).1
   | true=>
   rw [E_] at nK
   cases xS:wA ops with
   | false=>
    rw [xS] at nK
    refine ⟨rfl,(h.Ly j y s aj aG nK).imp id ?_⟩
    intro b4
    cases j5:Nat.blt e j with
    | true=>
     cases adW:iZ M y.op s.T with
     | none=>exact .inr (.inl ⟨rfl,QF xS e j⟩)
     | some q=>
      obtain ⟨aF,w6⟩:=b4 q adW
      have kD:q < s0.H.next:=Nat.lt_of_lt_of_le aF (h.sb s0 ii)
      refine .inl ⟨q,rfl,w6,?_⟩
      have z7:=(cZ _ _).1 j5
      exact vL (h.fr e j u s (by omega) (by omega) hu aG) (Nat.lt_of_lt_of_le kD (h.fr 0 e s0 u (by omega) (by omega) ii hu).nx)
    | false=>
     intro q' e4
     have kD:q' < s0.H.next:=Nat.lt_of_lt_of_le (b4 q' e4).1 (h.sb s0 ii)
     have z7:¬e < j:=fun h=>by rw [(cZ _ _).2 h] at j5; cases j5
     exact vL (h.fr j (e + 1) s v (by omega) (by omega) aG ak) (Nat.lt_of_lt_of_le kD (h.fr 0 j s0 s (by omega) (by omega) ii aG).nx)
   | true=>
   rw [xS] at nK
   refine ⟨rfl,(h.rd j y s aj aG nK).imp id ?_⟩
   intro e7
   unfold qv at e7
   cases aB:iZ M y.op s.T with
   | some q=>
    rw [aB] at e7
    obtain ⟨aF,w6⟩:=(show vq q base /\ (s.H.m.get q).isSome=true from e7)
    have kD:q < s0.H.next:=Nat.lt_of_lt_of_le aF (h.sb s0 ii)
    cases j5:Nat.blt e j with
    | true=>
     refine .inl ⟨q,rfl,w6,?_⟩
     have z7:=(cZ _ _).1 j5
     exact vL (h.fr e j u s (by omega) (by omega) hu aG) (Nat.lt_of_lt_of_le kD (h.fr 0 e s0 u (by omega) (by omega) ii hu).nx)
    | false=>
     intro q' e4
     cases e4
     have z7:¬e < j:=fun h=>by rw [(cZ _ _).2 h] at j5; cases j5
     exact vL (h.fr j (e + 1) s v (by omega) (by omega) aG ak) (Nat.lt_of_lt_of_le kD (h.fr 0 j s0 s (by omega) (by omega) ii aG).nx)
   | none=>
    rw [aB] at e7
    obtain ⟨z,ai,ah⟩:=(show qu M (ops.take j) y s from e7)
    cases j5:Nat.blt e j with
    | true=>
     refine .inr (.inr ⟨rfl,z,s0,ai,ii,?_⟩)
     obtain ⟨_,_,_,_,_,_,_,_,_,_,_,_,_,_,_,_,_,_,_,_,_,adX⟩:=(GT ai).ex
     rw [<- h.slot j ii aG fun k w ab hw=>adX k w (by rw [List.getElem?_take,if_pos ab]; exact hw)]
     exact ah
    | false=>intro q' e4; cases e4
 | alloc=>
  simp only
  have nK:gK E ops (Go.az.loose E ops) j y=3:=by unfold gK; rw [cP]; simp only; rw [Kp]; rfl
  have afq:j < e:=by
   unfold pX at U
   rw [cP,Bool.and_eq_true] at U
   exact (cZ _ _).1 U.2
  refine (h.vF j y s s' aj aG vm nK).imp id ?_
  rintro ⟨⟨z,ai,lQ⟩,aF⟩
  have f1:=h.fr (j + 1) e s' u (by omega) (by omega) vm hu
  have f2:=h.fr e (e + 1) u v (by omega) (by omega) hu ak
  refine ⟨?_,vL f2 (Nat.lt_of_lt_of_le aF f1.nx)⟩
  cases z with
  | cells l e x w=>exact ⟨l,e,x,w,by rw [f1.get _ aF]; exact ai⟩
  | _=>cases lQ
theorem Jv (bo:m6 E) {ops:List Oper} {K:an -> Prop} {d:an} (V:∀j y,ops[j]? =some y -> gK E ops (loose E ops) j y≠9):∀(l pre:List Oper) (acc:List an) (s:an),ops=pre ++ l -> r8 E M base ops pre (acc.reverse ++ [s]) ->
 iJ E N M base ops l ((jk pre.length l).map fun p=>gK E ops (loose E ops) p.1 p.2) s K -> gX E N M ops l s acc fun a_=>lq E M ops a_ (loose E ops) /\ K (g9 a_ d)
 | [],pre,acc,s,he,ad,h=>by
  rw [List.append_nil] at he
  subst he
  have ae6:K s:=h
  refine ⟨?_,?_⟩
  ·
   have ah:=ad.loose V
   generalize Go.az.loose E ops=L at ah
   induction L with
   | nil=>trivial
   | cons p L aH=>exact ⟨ah p (by simp),aH fun q aB=>ah q (by simp [aB])⟩
  ·
   have:∀(l:List an) (x d:an),g9 (l ++ [x]) d=x:=by
    intro l; induction l with
    | nil=>intro x d; rfl
    | cons y l aH=>intro x d; exact aH x y
   rw [this]; exact ae6
 | o :: l,pre,acc,s,he,ad,h=>by
  have u_:ops=(pre ++ [o]) ++ l:=by rw [he]; simp
  have ho:ops.length - (l.length + 1)=pre.length:=by rw [he]; simp
  have next:∀s':an,h8 M o s s' -> (pre.length≤oh (loose E ops) -> Fr s.H s'.H) -> (gK E ops (loose E ops) pre.length o=1 -> cx M ops s.T o=some false∨qv M base (ops.take pre.length) o s) -> (gK E ops (loose E ops) pre.length o=4 -> cx M ops s.T o=some false∨pm M s.H.next o s) -> (gK E ops (loose E ops) pre.length o=5 -> cx M ops s.T o=some false∨pm M base o s) ->
   (gK E ops (loose E ops) pre.length o=3 -> cx M ops s.T o=some false∨(bl (s'.H.m.get s.H.next) (fun x=>wz x=true) /\ s.H.next < s'.H.next)) ->
   iJ E N M base ops l ((jk (pre.length + 1) l).map fun p=>gK E ops (loose E ops) p.1 p.2) s' K -> gX E N M ops l s' (s :: acc) fun a_=>lq E M ops a_ (loose E ops) /\ K (g9 a_ d):=by
   intro s' bh ao J aP bH ag hw
   refine Jv bo V l (pre ++ [o]) (s :: acc) s' u_ ?_ ?_
   ·
    rw [List.reverse_cons]; exact ad.snoc bh ao J aP bH ag
   ·
    rw [List.length_append]; exact hw
  have bw:∃c,c=gK E ops (loose E ops) pre.length o:=⟨_,rfl⟩
  obtain ⟨c,bw⟩:=bw
  have h:iJ E N M base ops (o :: l) (gK E ops (loose E ops) pre.length o :: (jk (pre.length + 1) l).map fun p=>gK E ops (loose E ops) p.1 p.2) s K:=h
  rw [<- bw] at h
  have nL:c≠2 /\ c≠0 -> ∀aM:cls o.op E= .ha,False:=fun ar aM=>by
   unfold gK at bw
   rw [aM] at bw
   simp only at bw
   cases U:Nat.ble pre.length (oh (loose E ops)) with
   | true=>rw [U] at bw; exact ar.1 bw
   | false=>rw [U] at bw; exact ar.2 bw
  match c,bw,h,nL with
  | 0,bw,⟨b,U,h⟩,_=>
   refine ⟨b,U,?_⟩
   cases b with
   | true=>
    cases cP:cls o.op E with
    | ha=>
     have aF:¬pre.length≤oh (loose E ops):=fun hle=>by
      unfold gK at bw
      rw [cP] at bw
      simp only at bw
      rw [(de).2 hle] at bw
      cases bw
     exact wpOp_mono bo (oO bo (show wpOp E N M o s _ from h)) fun s' ⟨ew,hw⟩=>next s' ew.1 (fun hle=>absurd hle aF) (fun aM=>by rw [<- bw] at aM; cases aM) (fun aM=>by rw [<- bw] at aM; cases aM) (fun aM=>by rw [<- bw] at aM; cases aM) (fun aM=>by rw [<- bw] at aM; cases aM) hw
    | _=>exact wpOp_mono bo (oO bo (wB (show wpOp E N M o s _ from h) (fun aM=>by rw [cP] at aM; cases aM))) fun s' ⟨ew,⟨ao,_⟩,hw⟩=>next s' ew.1 (fun _=>ao) (fun aM=>by rw [<- bw] at aM; cases aM) (fun aM=>by rw [<- bw] at aM; cases aM) (fun aM=>by rw [<- bw] at aM; cases aM) (fun aM=>by rw [<- bw] at aM; cases aM) hw
   | false=>exact (show bl _ _ from h).imp fun T ba=>⟨ba.1,next ⟨T,s.H⟩ (h8.put ba.1) (fun _=>Fr.refl _) (fun aM=>by rw [<- bw] at aM; cases aM) (fun aM=>by rw [<- bw] at aM; cases aM) (fun aM=>by rw [<- bw] at aM; cases aM) (fun aM=>by rw [<- bw] at aM; cases aM) ba.2⟩
  | 1,bw,⟨b,U,h⟩,nL=>
   refine ⟨b,U,?_⟩
   rw [ho] at h
   cases b with
   | true=>exact wpOp_mono bo (oO bo (wB (show wpOp E N M o s _ from h.2) (nL ⟨by decide,by decide⟩))) fun s' ⟨ew,⟨ao,_⟩,hw⟩=>next s' ew.1 (fun _=>ao) (fun _=> .inr h.1) (fun aM=>by rw [<- bw] at aM; cases aM) (fun aM=>by rw [<- bw] at aM; cases aM) (fun aM=>by rw [<- bw] at aM; cases aM) hw
   | false=>exact (show bl _ _ from h.2).imp fun T ba=>⟨ba.1,next ⟨T,s.H⟩ (h8.put ba.1) (fun _=>Fr.refl _) (fun _=> .inl U) (fun aM=>by rw [<- bw] at aM; cases aM) (fun aM=>by rw [<- bw] at aM; cases aM) (fun aM=>by rw [<- bw] at aM; cases aM) ba.2⟩
  | 2,bw,⟨b,U,h⟩,nL=>
   refine ⟨b,U,?_⟩
   cases b with
   | true=>exact wpOp_mono bo (oO bo (show wpOp E N M o s _ from h)) fun s' ⟨ew,ao,hw⟩=>next s' ew.1 (fun _=>ao) (fun aM=>by rw [<- bw] at aM; cases aM) (fun aM=>by rw [<- bw] at aM; cases aM) (fun aM=>by rw [<- bw] at aM; cases aM) (fun aM=>by rw [<- bw] at aM; cases aM) hw
   | false=>exact (show bl _ _ from h).imp fun T ba=>⟨ba.1,next ⟨T,s.H⟩ (h8.put ba.1) (fun _=>Fr.refl _) (fun aM=>by rw [<- bw] at aM; cases aM) (fun aM=>by rw [<- bw] at aM; cases aM) (fun aM=>by rw [<- bw] at aM; cases aM) (fun aM=>by rw [<- bw] at aM; cases aM) ba.2.2⟩
  | 3,bw,⟨b,U,h⟩,nL=>
   refine ⟨b,U,?_⟩
   cases b with
   | true=>
    refine wpOp_mono bo (oO bo (wB (show wpOp E N M o s _ from h) (nL ⟨by decide,by decide⟩))) fun s' ⟨ew,⟨ao,ae⟩,hw⟩=>next s' ew.1 (fun _=>ao) (fun aM=>by rw [<- bw] at aM; cases aM) (fun aM=>by rw [<- bw] at aM; cases aM) (fun aM=>by rw [<- bw] at aM; cases aM) (fun _=> .inr ⟨hw.1,ae ?_⟩) hw.2
    unfold gK at bw
    split at bw
    ·
     cases E':Nat.ble pre.length (oh (loose E ops)) with
     | false=>rw [E'] at bw; cases bw
     | true=>rw [E'] at bw; cases bw
    ·
     rename_i aM
     cases fX:(loose E ops).any fun q=>Nat.beq q.2 pre.length with
     | false=>rw [fX] at bw; cases bw
     | true=>
      rw [fX] at bw
      cases ht:rg o.op with
      | false=>rw [ht] at bw; cases bw
      | true=>
       rw [ht] at bw
       cases fI:(loose E ops).any fun q=>Nat.beq q.2 pre.length && Nat.blt q.1 pre.length with
       | false=>rw [fI] at bw; cases bw
       | true=>
        rw [fI] at bw
        cases l0:wA ops with
        | true=>rw [l0] at bw; cases bw
        | false=>rw [l0] at bw; cases bw
    ·
     rename_i aM; exact aM
    ·
     cases bw
   | false=>exact (show bl _ _ from h).imp fun T ba=>⟨ba.1,next ⟨T,s.H⟩ (h8.put ba.1) (fun _=>Fr.refl _) (fun aM=>by rw [<- bw] at aM; cases aM) (fun aM=>by rw [<- bw] at aM; cases aM) (fun aM=>by rw [<- bw] at aM; cases aM) (fun _=> .inl U) ba.2⟩
  | 4,bw,⟨b,U,h⟩,nL=>
   refine ⟨b,U,?_⟩
   cases b with
   | true=>exact wpOp_mono bo (oO bo (wB (show wpOp E N M o s _ from h.2) (nL ⟨by decide,by decide⟩))) fun s' ⟨ew,⟨ao,_⟩,hw⟩=>next s' ew.1 (fun _=>ao) (fun aM=>by rw [<- bw] at aM; cases aM) (fun _=> .inr h.1) (fun aM=>by rw [<- bw] at aM; cases aM) (fun aM=>by rw [<- bw] at aM; cases aM) hw
   | false=>exact (show bl _ _ from h.2).imp fun T ba=>⟨ba.1,next ⟨T,s.H⟩ (h8.put ba.1) (fun _=>Fr.refl _) (fun aM=>by rw [<- bw] at aM; cases aM) (fun _=> .inl U) (fun aM=>by rw [<- bw] at aM; cases aM) (fun aM=>by rw [<- bw] at aM; cases aM) ba.2⟩
  | 5,bw,⟨b,U,h⟩,nL=>
   refine ⟨b,U,?_⟩
   cases b with
   | true=>exact wpOp_mono bo (oO bo (wB (show wpOp E N M o s _ from h.2) (nL ⟨by decide,by decide⟩))) fun s' ⟨ew,⟨ao,_⟩,hw⟩=>next s' ew.1 (fun _=>ao) (fun aM=>by rw [<- bw] at aM; cases aM) (fun aM=>by rw [<- bw] at aM; cases aM) (fun _=> .inr h.1) (fun aM=>by rw [<- bw] at aM; cases aM) hw
   | false=>exact (show bl _ _ from h.2).imp fun T ba=>⟨ba.1,next ⟨T,s.H⟩ (h8.put ba.1) (fun _=>Fr.refl _) (fun aM=>by rw [<- bw] at aM; cases aM) (fun aM=>by rw [<- bw] at aM; cases aM) (fun _=> .inl U) (fun aM=>by rw [<- bw] at aM; cases aM) ba.2⟩
  | n + 6,bw,h,nL=>exact h.elim
theorem WK {E:Env} {N M:Nat} {ops:List Oper} {s:an} {K:an -> Prop} {gR:List Nat} (h_:j2 (b0 E) ops=true) (V:Ju (b0 E) ops=gR) (iq:gR.all (fun c=> !(Nat.beq c 9))=true) (bX:(loose (b0 E) ops).isEmpty=false) (h:iJ (b0 E) N M s.H.next ops ops gR s K):kr (b0 E) N M ops s K:=by
 subst V
 have adY:∀j y,ops[j]? =some y -> gK (b0 E) ops (loose (b0 E) ops) j y≠9:=by
  intro j y aj adZ
  have:=List.all_eq_true.1 iq 9 (List.mem_map.2 ⟨(j,y),by simpa using Ce (k:=0) aj,adZ⟩)
  cases this
 have bh:=Jv (zh E) (d:=s) adY ops [] [] s rfl ⟨rfl,fun a b qO yr ge _ ae U=> ?_,fun j y x aj=>(nomatch aj),fun j y x x' aj=>(nomatch aj),fun j y x aj=>(nomatch aj),fun j y x aj=>(nomatch aj),fun j y x x' aj=>(nomatch aj),fun x R=> ?_⟩ h
 ·
  refine ⟨h_,?_⟩
  cases ah:loose (b0 E) ops with
  | nil=>
   rw [ah] at bX; cases bX
  | cons p l=>rw [ah] at bh; exact bh
 ·
  have:∀ {a:Nat} {x:an},([s]:List an)[a]? =some x -> x=s:=fun {a x} h=>by
   cases a with
   | zero=>simpa using h.symm
   | succ a=>simp at h
  rw [this ae,this U]; exact Fr.refl _
 ·
  have:x=s:=by simpa using R.symm
  subst this; exact Nat.le_refl _
end
section
variable {E:Env} {N M base:Nat} {all l:List Oper} {bS:List Nat} {s s':an} {K:an -> Prop} {o:Oper} {b:Nat} {d:Option Tmp} {t ty:TypeId} {ps:String} {a:Array Edge} {x:Operand} {H:aa} {T:a'}
def tn (E:Env) (N M base:Nat) (all l:List Oper) (bS:List Nat) (K:an -> Prop) (s:an):Prop:=iJ E N M base all l bS s K
def z8 (v:I):Option Nat:=(ec v).omap (·.1)
def Fa (v:I):Option Nat:=(asSlice v).omap (·.1)
def x1 (base:Nat) (H:aa) (q:Nat):Prop:=vq q base /\ (H.m.get q).isSome=true
def Lz (b:bf):Prop:=wz b=true
theorem Yo:iJ E N M base all [] bS s K=K s:=rfl
theorem Yp:iJ E N M base all (o :: l) (0 :: bS) s K=bl (cx M all s.T o) (ml E N M o s (tn E N M base all l bS K)):=rfl
theorem Yq:iJ E N M base all (o :: l) (1 :: bS) s K=bl (cx M all s.T o) (x0 E N M base (all.take (all.length - (l.length + 1))) o s (tn E N M base all l bS K)):=rfl
theorem Yr:iJ E N M base all (o :: l) (2 :: bS) s K=bl (cx M all s.T o) (ml E N M o s (E8 o s (tn E N M base all l bS K))):=rfl
theorem Ys:iJ E N M base all (o :: l) (3 :: bS) s K=bl (cx M all s.T o) (z6 E N M o s (tn E N M base all l bS K)):=rfl
theorem Yt:iJ E N M base all (o :: l) (4 :: bS) s K=bl (cx M all s.T o) (vr E N M s.H.next o s (tn E N M base all l bS K)):=rfl
theorem Yu:iJ E N M base all (o :: l) (5 :: bS) s K=bl (cx M all s.T o) (vr E N M base o s (tn E N M base all l bS K)):=rfl
theorem ad0:tn E N M base all l bS K s=iJ E N M base all l bS s K:=rfl
theorem QG {op:Op}:cx M all T ⟨d,op,t,ps,a,none⟩=some true:=rfl
theorem QH {op:Op} {g:Nat × Bool}:cx M all T ⟨d,op,t,ps,a,some g⟩=mc M all T g:=rfl
theorem JP {pre:List Oper}:x0 E N M base pre o s K true=(qv M base pre o s /\ wpOp E N M o s K):=rfl
theorem JQ {pre:List Oper}:x0 E N M base pre o s K false=dI N M s.T o.dst K .undef s.H:=propext ⟨fun h=>h.2,fun h=>⟨trivial,h⟩⟩
theorem Yv:vr E N M base o s K true=(pm M base o s /\ wpOp E N M o s K):=rfl
theorem Yw:vr E N M base o s K false=dI N M s.T o.dst K .undef s.H:=propext ⟨fun h=>h.2,fun h=>⟨trivial,h⟩⟩
theorem Yx {g:Option (Nat × Bool)}:pm M base ⟨d,.load ty x,t,ps,a,g⟩ s=yp ((aK M x s.T).ac z8) (x1 base s.H):=rfl
theorem Yy {g:Option (Nat × Bool)} {vk:TypeId}:pm M base ⟨d,.convert ty vk x,t,ps,a,g⟩ s=yp ((aK M x s.T).ac Fa) (x1 base s.H):=rfl
theorem WL {cs:List I} {o:Nat}:z8 (.c9 cs o)=none:=rfl
theorem Yz {p:Prop} [Decidable p] {pre:List Oper}:x0 E N M base pre o s K (decide p)=((p -> qv M base pre o s /\ wpOp E N M o s K) /\ (¬p -> dI N M s.T o.dst K .undef s.H)):=by
 by_cases h:p
 ·
  rw [decide_eq_true h,JP]; exact propext ⟨fun k=>⟨fun _=>k,fun n=>absurd h n⟩,fun k=>k.1 h⟩
 ·
  rw [decide_eq_false h,JQ]; exact propext ⟨fun k=>⟨fun n=>absurd n h,fun _=>k⟩,fun k=>k.2 h⟩
theorem YA:z6 E N M o s K true=wpOp E N M o s (E9 o s K):=rfl
theorem YB:z6 E N M o s K false=dI N M s.T o.dst K .undef s.H:=rfl
theorem YC {g:Option (Nat × Bool)} {pre:List Oper}:qv M base pre ⟨d,.load ty x,t,ps,a,g⟩ s=yq ((aK M x s.T).ac z8) (x1 base s.H) (qu M pre ⟨d,.load ty x,t,ps,a,g⟩ s):=rfl
theorem YD {g:Option (Nat × Bool)} {vk:TypeId} {pre:List Oper}:qv M base pre ⟨d,.convert ty vk x,t,ps,a,g⟩ s=yq ((aK M x s.T).ac Fa) (x1 base s.H) (qu M pre ⟨d,.convert ty vk x,t,ps,a,g⟩ s):=rfl
theorem YE {o n:Nat} {k:dm}:Fa (.slice b o n k)=some b:=rfl
theorem WM {o:Nat}:z8 (.ptr b o)=some b:=rfl
theorem ad1:x1 base H b=(vq b base /\ (H.m.get b).isSome=true):=rfl
theorem ad2 (h:b < base):vq b base=True:=eq_true h
theorem ad3:E8 o s K s'=(Fr s.H s'.H /\ K s'):=rfl
theorem ad4:E9 o s K s'=(bl (s'.H.m.get s.H.next) Lz /\ K s'):=rfl
theorem YF {l:List I} {e:TypeId} {x w:Bool}:Lz (.cells l e x w)=True:=eq_true rfl
theorem UK:Fr H H=True:=eq_true (Fr.refl H)
theorem SH {α:Type} {x:α}:((some x).isSome=true)=True:=eq_true rfl
end
attribute [go_sem] UI UJ Yu Yv Yw Yx Yy WL UG UH Yo Yp Yq Yr Ys Yt ad0 QG QH JP JQ Yz YA YB YC YD YE WM ad1 ad2 ad3 ad4 YF UK SH true_and and_true
end
end Go.az
namespace Go.az
noncomputable section
theorem fi.down {E:Env} {f:FuncId} {h7 fD:List I} {v:I} {H1:aa} (ak:iV v=true) (h:fi E (.func f [] []) h7 mw fun cc _=>cc=v) (wf:Lp H1) (ae:av false gn H1 h7 fD):
 ic E (.func f [] []) fD H1 fun x K=>x=v /\ Old H1 K:=by
 have fF:cW false gn mw H1:=⟨fun b x U=>(nomatch U),fun _ _ _ h=>(nomatch h),fun _ _ h=>(nomatch h),fun _ _ h=>(nomatch h),fun _ _=>rfl,wf,fun _ _ h=>(nomatch h),fun _ _ h=>(nomatch h)⟩
 have vp:al false gn H1 (.func f [] []) (.func f [] []):=by unfold al; exact ⟨[],[],av.nil.2 rfl,av.nil.2 rfl,rfl⟩
 refine (h gn _ fD H1 fF vp ae).mono ?_
 rintro v1 H1' ⟨bn,cc,H',k,bi,h4,rfl⟩
 refine ⟨(al.plain ak).1 h4,fun c V=> ?_⟩
 cases aG:H1.m.get c with
 | none=>exact k.hole c V aG
 | some y=>rw [(k.c7.fz c ⟨fun b U=>(by cases U),V,by rw [aG]; rfl⟩).2,aG]
end
end Go.az
namespace Go.az
noncomputable section
def JR (l:List I):Prop:=∀v∈l,JN v=true
theorem GW {s s':bb}:∀ {l:List I} {vs:List Value},JR l -> bZ s l=some vs -> bZ s' l=some vs
 | [],_,_,h=>h
 | x :: l,_,ao,h=>by
  obtain ⟨y,r,J,O,rfl⟩:=eO.1 h
  exact eO.2 ⟨y,r,Oz (ao x (by simp)) J,GW (fun v ak=>ao v (by simp [ak])) O,rfl⟩
theorem kp.up {E:Env} {s s':bb} (hle:s.gi s') {a c:Nat} {w:World} {x:bf} (ab:s'.ka a=s.ka a) (ai:s'.sz a=s.sz a) (h:kp E s a c w x):kp E s' a c w x:=by
 cases x with
 | cells l e ex wr=>
  obtain ⟨arr,fz,J,O,ag,aP,bH,eC,fd⟩:=h
  exact ⟨arr,fz,J,O.mono hle,ag,aP,bH,by rw [ab,ai]; exact eC,fd⟩
 | loop=>
  obtain ⟨ct,D,J,O,ag⟩:=h
  exact ⟨ct,D,J,O.mono hle,ag⟩
 | dead=>trivial
theorem uJ.b3 {P:Program} {E:Env} {f:FuncId} {as:List I} {H K:aa} {v:I} {e sz n:Nat} {cs:List I} (ar:0 < n) (ao:JR cs) (bm:au E e=sz) (aC:Old H K) (hw:cz K H.next e sz v n cs)
 (h:uJ P E f as H v K):uJ P E f as H (.slice H.next 0 n (.rest 0 sz n)) (aS H (.cells cs e false true)).2:=by
 obtain ⟨hlen,hw⟩:=hw
 rcases hw with ⟨_,aD⟩ | ⟨b,x,kx,jB,rfl,U⟩
 ·
  omega
 intro ad5 s w ez af V
 obtain ⟨s',w',c,fr,J,O,ag,aP,bH⟩:=h ad5 s w ez af V
 have hle:=Qi af aP
 obtain ⟨d,aw,hn⟩:∃d,s'.cw b=some d /\ c= .slice (some ⟨d,0,none⟩) n (if x then n else s'.ka b):=by
  cases x with
  | true=>
   simp only [a5,dB,if_true,Nat.le_refl] at O
   obtain ⟨d,aw,rfl⟩:=map_some O
   exact ⟨d,aw,rfl⟩
  | false=>
   simp only [a5,dB,Bool.false_eq_true,if_false] at O
   split at O
   ·
    obtain ⟨d,aw,rfl⟩:=map_some O
    exact ⟨d,aw,by simp⟩
   ·
    cases O
 have aba:=ag.dr b _ d U aw
 have eg:=af.fr H.next (Nat.le_refl _)
 have g':s.gi (cj s H.next d (if x then n else s'.ka b) sz):=pQ eg.1
 have eh:∀a,a≠H.next -> (cj s H.next d (if x then n else s'.ka b) sz).cw a=s.cw a:=fun a h=>by simp [cj,h]
 have cp:∀a,(aS H (.cells cs e false true)).2.m.get a=if a=H.next then some (.cells cs e false true) else H.m.get a:=fun a=>bz.jo _ _ _ _
 have hold:∀a x d,H.m.get a=some x -> s.cw a=some d -> a < H.next /\ K.m.get a=some x /\ s'.cw a=some d:=fun a x d R aw=>by
  have aF:a < H.next:=by
   rcases Nat.lt_or_ge a H.next with J | J
   ·
    exact J
   ·
    rw [(af.fr a J).1] at aw; cases aw
  exact ⟨aF,by rw [aC a aF]; exact R,by rw [(aP.le a aF).1]; exact aw⟩
 have hF:a5 (cj s H.next d (if x then n else s'.ka b) sz) (.slice H.next 0 n (.rest 0 sz n))=some c:=by
  simp only [a5,dB]
  have Ah:n≤(if x then n else s'.ka b):=by
   cases x with
   | true=>exact Nat.le_refl _
   | false=>
    simp only [a5,dB,Bool.false_eq_true,if_false] at O ⊢
    split at O
    ·
     rename_i aM; omega
    ·
     cases O
  rw [if_pos ⟨Nat.le_refl _,by simp [cj]; exact Ah,by simp,by simp [cj]⟩,hf,hn]
  simp [cj]
 refine ⟨_,w',c,fr,J,hF,⟨?_,?_,?_,?_⟩,⟨Nat.le_succ _,?_,aP.size,aP.os,aP.tape,aP.output,aP.b3,?_,?_,aP.loops⟩,bH⟩
 ·
  intro a y hI ae fB
  rw [cp] at ae
  split at ae
  ·
   rename_i aM
   subst aM
   cases ae
   rw [hf] at fB; cases fB
   obtain ⟨arr,fz,bc,a9,bt,gC,kM,sj,tU⟩:=aba
   refine ⟨arr,fz,bc,GW ao a9,bt,gC,(fun h=>by cases h),fun _=> ?_,tU⟩
   simp only [cj,if_true,bm,and_true]
   cases x with
   | true=>rw [kM rfl,hlen]; rfl
   | false=>rw [(sj rfl).1,(sj rfl).2,bm]; rfl
  ·
   rename_i bX
   rw [eh a bX] at fB
   obtain ⟨aF,ab,jC⟩:=hold a y hI ae fB
   obtain ⟨a8,bk,c3⟩:=aP.le a aF
   exact ((af.dr a y hI ae fB).back hle bk c3 (ag.dr a y hI ab jC)).up g' (by simp [cj,bX]) (by simp [cj,bX])
 ·
  intro a y cF ch hI ae nl cT Kq iB jC
  rw [cp] at ae cT
  by_cases a8:a=H.next
  ·
   by_cases bk:cF=H.next
   ·
    rw [a8,bk]
   ·
    exfalso
    subst a8
    rw [hf] at iB; cases iB
    rw [eh _ bk] at jC
    rw [if_neg bk] at cT
    obtain ⟨aF,ab,iH⟩:=hold cF ch d cT jC
    have:=ag.inj b _ cF ch d U rfl ab Kq aw iH
    omega
  ·
   by_cases bk:cF=H.next
   ·
    exfalso
    subst bk
    rw [hf] at jC; cases jC
    rw [eh _ a8] at iB
    rw [if_neg a8] at ae
    obtain ⟨aF,ab,iH⟩:=hold a y d ae iB
    have:=ag.inj b _ a y d U rfl ab (tZ nl) aw iH
    omega
   ·
    rw [eh _ a8] at iB
    rw [eh _ bk] at jC
    rw [if_neg a8] at ae
    rw [if_neg bk] at cT
    exact af.inj a y cF ch hI ae nl cT Kq iB jC
 ·
  intro a hI fB
  by_cases a8:a=H.next
  ·
   subst a8; rw [hf] at fB; cases fB; exact ag.lt b d aw
  ·
   rw [eh _ a8] at fB; exact Nat.lt_of_lt_of_le (af.lt a hI fB) aP.size
 ·
  intro a ae
  have ae:H.next + 1≤a:=ae
  rw [cp,eh a (by omega),if_neg (by omega)]
  exact af.fr a (by omega)
 ·
  intro a ae
  have bX:a≠H.next:=by omega
  simp [cj,bX]
 ·
  intro a y hI ae nl fB aF
  rw [cp] at ae
  split at ae
  ·
   rename_i aM; subst aM
   rw [hf] at fB; cases fB
   exact aP.mG b _ d U rfl aw aF
  ·
   rename_i bX
   rw [eh a bX] at fB
   exact ⟨a,y,ae,nl,fB⟩
 ·
  intro a y hI ae nl fB aF
  rw [cp] at ae
  split at ae
  ·
   rename_i aM; subst aM
   rw [hf] at fB; cases fB
   exact aP.nN b _ d U trivial aw aF
  ·
   rename_i bX
   rw [eh a bX] at fB
   exact ⟨a,y,ae,nl,fB⟩
end
end Go.az
namespace Go.az
noncomputable section
end
end Go.az
