/-
  A calculus over the evaluator, backwards from what is to hold; from it to the statements of laws. No conditions.
-/
import Derived.Test.YtajekleknljggaaEvE
import Derived.WalkKit
import Derived.ProofKit
import Derived.OpenShut
import Derived.Carry
import Derived.SizedLaws
import Derived.Deep.Slices
set_option linter.unusedVariables false
set_option linter.unusedSimpArgs false
namespace Go.az
variable {P:Program}
def wL (ty:TypeId -> Option kI) (i:kI):Bool:=match i.kind with
 | .slice e=>(ty e).isSome
 | .array _ e=>(ty e).isSome
 | .struct da=>da.all fun p=>(ty p.2).isSome
 | _=>true
noncomputable def IK (P:Program):Bool:=P.types.toList.all fun j=>match xg P.types.toList j with
 | some i=>wL (ib P).ty i
 | none=>true
def Jn (fn:Func):Bool:=match fn.body with
 | some _=> !(fn.name== "runtime.NumGoroutine")
 | none=>true
def Ts (P:Program):Bool:=P.funcs.toList.all Jn
theorem He {t:TypeId} {i:kI} (h:(ib P).ty t=some i):∃j∈P.types.toList,xg P.types.toList j=some i:=by
 simp only [ib,bz.yD] at h
 obtain ⟨o,aC,ad⟩:=Option.bind_eq_some_iff.1 h
 simp only [id] at ad; subst ad
 rw [List.getElem?_map] at aC
 obtain ⟨j,ax,qk⟩:=Option.map_eq_some_iff.1 aC
 exact ⟨j,List.mem_of_getElem? ax,qk⟩
theorem Rt (bh:IK P=true):cU (ib P) P:=by
 have made:∀t i,(ib P).ty t=some i -> wL (ib P).ty i=true:=by
  intro t i h
  obtain ⟨j,ax,ad⟩:=He h
  have:=List.all_eq_true.1 bh j ax
  simp only [ad] at this
  exact this
 have kind:∀t k,aU (ib P) t=k -> k≠ .other -> ∃i,(ib P).ty t=some i /\ i.kind=k:=by
  intro t k h ab
  unfold aU at h
  cases ad:(ib P).ty t with
  | none=>rw [ad] at h; exact absurd h.symm ab
  | some i=>rw [ad] at h; exact ⟨i,rfl,h⟩
 refine ⟨fun t i h=>Rb h,?_,?_,?_,?_⟩
 ·
  rintro t e (h | ⟨n,h⟩)
  ·
   obtain ⟨i,ad,ab⟩:=kind t _ h (by simp)
   have:=made t i ad
   unfold wL at this
   rw [ab] at this
   exact Option.isSome_iff_exists.1 this
  ·
   obtain ⟨i,ad,ab⟩:=kind t _ h (by simp)
   have:=made t i ad
   unfold wL at this
   rw [ab] at this
   exact Option.isSome_iff_exists.1 this
 ·
  intro t da h p aR
  obtain ⟨i,ad,ab⟩:=kind t _ h (by simp)
  have:=made t i ad
  unfold wL at this
  rw [ab] at this
  exact Option.isSome_iff_exists.1 (List.all_eq_true.1 this p aR)
 ·
  intro t p h
  have h:=show (match hz P false 8 t with | true=>some (false,P.cellsOf t) | false=>match hz P true 8 t with | true=>some (true,P.cellsOf t) | false=>none)=some p from h
  cases ao:hz P false 8 t with
  | true=>rw [ao] at h; cases h; exact ⟨ao,rfl⟩
  | false=>
   rw [ao] at h
   simp only at h
   cases a4:hz P true 8 t with
   | true=>rw [a4] at h; cases h; exact ⟨a4,rfl⟩
   | false=>rw [a4] at h; cases h
 ·
  unfold Program.depth Made.depth
  omega
theorem Q1 (bh:IK P=true) (ar:Ts P=true) (hm:P.follows .mixedOrders=true):km (ib P) P where
 types:=Rt bh
 fn f fn h:=HL h
 AV f fn h U:=by
  have ao:=HL h
  have:=List.all_eq_true.1 ar fn (Array.mem_toList_iff.2 (Array.mem_of_getElem? ao))
  unfold Jn at this
  obtain ⟨c,V⟩:=Option.isSome_iff_exists.1 U
  rw [V] at this
  simpa using this
 mixed:=hm
 DS f g h:=by cases h
end Go.az
namespace Go.az
noncomputable section
def bl {α:Type} (o:Option α) (K:α -> Prop):Prop:=∃a,o=some a /\ K a
theorem zd {α:Type} (a:α) (K:α -> Prop):bl (some a) K=K a:=by
 apply propext; constructor
 ·
  rintro ⟨b,h,k⟩; cases h; exact k
 ·
  exact fun k=>⟨a,rfl,k⟩
theorem fO {α:Type} {o:Option α} {K cI:α -> Prop} (h:bl o K) (k:∀a,K a -> cI a):bl o cI:=h.imp fun a h=>⟨h.1,k a h.2⟩
def ic (E:Env) (f:I) (as:List I) (H:aa) (K:I -> aa -> Prop):Prop:=∃k v H',(∀m,k≤m -> app E m f as H=some (v,H')) /\ K v H'
theorem ic.mono {E:Env} {f:I} {as:List I} {H:aa} {K cI:I -> aa -> Prop} (h:ic E f as H K) (k:∀v H',K v H' -> cI v H'):ic E f as H cI:=by
 obtain ⟨n,v,H',J,O⟩:=h
 exact ⟨n,v,H',J,k _ _ O⟩
def dI (N M:Nat) (T:a') (d:Option Tmp) (K:an -> Prop) (v:I) (H:aa):Prop:=bl (ev N M T d v) fun T=>K ⟨T,H⟩
def e1 (N M:Nat) (T:a') (d:Option Tmp) (H:aa) (K:an -> Prop) (v:I):Prop:=dI N M T d K v H
def Xy (N M:Nat) (T:a') (d:Option Tmp) (K:an -> Prop) (p:I × aa):Prop:=dI N M T d K p.1 p.2
def ja (N M:Nat) (T:a') (d:Option Tmp) (H:aa) (K:an -> Prop) (p:bf × (Nat -> I)):Prop:=dI N M T d K (p.2 H.next) (aS H p.1).2
def mo (E:Env) (f:I) (as:List I) (H:aa) (K:I -> aa -> Prop):Prop:=match E.kO with
 | none=>ic E f as H K
 | some j=>j f as H K
theorem wx {E:Env} (h:E.kO=none):mo E=ic E:=by funext f as H K; unfold mo; rw [h]
def m6 (E:Env):Prop:=∀f as H (K cI:I -> aa -> Prop),mo E f as H K -> (∀v H,K v H -> cI v H) -> mo E f as H cI
theorem kh {E:Env} (h:E.kO=none):m6 E:=by intro f as H K cI ab k; rw [wx h] at ab ⊢; exact ab.mono k
def C3 (E:Env) (H:aa) (K:I -> aa -> Prop) (f:I) (as:List I):Prop:=mo E f as H K
def wM (E:Env) (M:Nat) (T:a') (H:aa) (l:List Operand) (K:I -> aa -> Prop) (f:I):Prop:=bl (c0 M l T) (C3 E H K f)
def w4 (K:I -> aa -> Prop) (p:I × aa):Prop:=K p.1 p.2
def s3 (E:Env) (b:Builtin) (H:aa) (bp:List TypeId) (K:I -> aa -> Prop) (as:List I):Prop:=bl (fQ b E H as bp) (w4 K)
def CB (E:Env) (H:aa) (t:TypeId) (K:I -> aa -> Prop) (p x:I):Prop:=bl (gu E H t p x) (w4 K)
def CC (E:Env) (M:Nat) (T:a') (H:aa) (t:TypeId) (x:Operand) (K:I -> aa -> Prop) (p:I):Prop:=bl (aK M x T) (CB E H t K p)
def rq (E:Env) (M:Nat) (o:Op) (T:a') (H:aa) (K:I -> aa -> Prop):Prop:=match o with
 | .store t a x=>bl (aK M a T) (CC E M T H t x K)
 | .call c=>match c.callee with
  | .value f=>bl (aK M f T) (wM E M T H c.args.toList K)
  | .builtin b=>bl (c0 M c.args.toList T) (s3 E b H c.argTypes.toList K)
  | _=>False
 | _=>False
def wpOp (E:Env) (N M:Nat) (o:Oper) (s:an) (K:an -> Prop):Prop:=match cls o.op E with
 | .pure=>bl (lx M o.op E s.T) (e1 N M s.T o.dst s.H K)
 | .read=>bl (eG M o.op E s.T s.H) (e1 N M s.T o.dst s.H K)
 | .alloc=>bl (jn M o.op E s.T) (ja N M s.T o.dst s.H K)
 | .ha=>rq E M o.op s.T s.H (dI N M s.T o.dst K)
def ml (E:Env) (N M:Nat) (o:Oper) (s:an) (K:an -> Prop) (b:Bool):Prop:=ap b (wpOp E N M o s K) (dI N M s.T o.dst K .undef s.H)
def wpOps (E:Env) (N M:Nat) (all:List Oper):List Oper -> an -> (an -> Prop) -> Prop
 | [],s,K=>K s
 | o :: l,s,K=>match o.guard with
  | none=>wpOp E N M o s fun s'=>wpOps E N M all l s' K
  | some g=>bl (mc M all s.T g) (ml E N M o s fun s'=>wpOps E N M all l s' K)
def DY (E:Env) (N M:Nat) (all l:List Oper) (K:an -> Prop) (s:an):Prop:=wpOps E N M all l s K
def Xz (N M:Nat) (T:a') (d:Option Tmp) (H:aa) (id:Nat) (K:an -> Prop) (p:bf × (Nat -> I)):Prop:=dI N M T d K (p.2 id) (aN H id p.1)
def p1 (E:Env) (N M:Nat) (id:Nat) (o:Oper) (s:an) (K:an -> Prop):Prop:=match cls o.op E with
 | .alloc=>s.H.m.get id=none /\ bl (jn M o.op E s.T) (Xz N M s.T o.dst s.H id K)
 | _=>wpOp E N M o s K
def Tt (E:Env) (N M:Nat) (id:Nat) (o:Oper) (s:an) (K:an -> Prop) (b:Bool):Prop:=ap b (p1 E N M id o s K) (dI N M s.T o.dst K .undef s.H)
def m' (E:Env) (N M:Nat) (all:List Oper):List Oper -> Nat -> an -> List an -> (List an -> Prop) -> Prop
 | [],_,s,acc,K=>K (acc.reverse ++ [s])
 | o :: l,id,s,acc,K=>bl (cx M all s.T o) (Tt E N M id o s fun s'=>m' E N M all l (Nat.succ id) s' (s :: acc) K)
def Jo (E:Env) (M:Nat) (ops:List Oper) (base:Nat) (s:an) (K:an -> Prop) (a_:List an):Prop:=qj E M ops base a_=true /\ K (g9 a_ s)
def C4 (E:Env) (N M:Nat) (ops:List Oper) (s:an) (K:an -> Prop):Prop:=
 j2 E ops=true /\ m' E N M ops ops s.H.next ⟨s.T,⟨s.H.m,Nat.add s.H.next (iw E ops),s.H.log⟩⟩ [] (Jo E M ops s.H.next s K)
def jk:Nat -> List Oper -> List (Nat × Oper)
 | _,[]=> []
 | i,o :: l=>(i,o) :: jk (i + 1) l
def pX (E:Env) (tl:List Nat) (e j:Nat) (y:Oper):Bool:=
 !(Nat.beq e j || (jv tl j e || jv tl e j)) && (match cls y.op E with | .read=>true | .alloc=>Nat.blt j e | _=>false)
def zq (E:Env) (ops:List Oper) (tl:List Nat):List (Nat × Nat):=
 (jk 0 ops).flatMap fun p=>ap (fR E p.2) (((jk 0 ops).filter fun q=>pX E tl p.1 q.1 q.2).map fun q=>(p.1,q.1)) []
def loose (E:Env) (ops:List Oper):List (Nat × Nat):=zq E ops (hk ops [])
def si (b:Nat) (bd ad:aa):Prop:=bd.m.get b=ad.m.get b /\ ∃l,ad.log=l ++ bd.log /\ b ∉ l
def iZ (M:Nat) (o:Op) (T:a'):Option Nat:=match o with
 | .load _ a=>(aK M a T).ac fun v=>(ec v).omap (·.1)
 | .convert _ _ x=>(aK M x T).ac fun v=>(asSlice v).omap (·.1)
 | _=>none
def rg (o:Op):Bool:=match o with | .load .. =>true | .convert s d _=>Nat.beq s d | _=>false
def ra (o:Op):Bool:=match o with | .call c=>(match c.callee with | .builtin _=>false | _=>true) | _=>false
def ze (ops:List Oper) (e j:Nat):Prop:=∀(k:Nat) (o:Oper),e≤k -> k < j -> ops[k]? =some o -> ra o.op=false
def sS (r:Tmp) (o:Oper):Bool:=match o.dst with | some d=>Nat.beq d r | none=>false
def zF (pre:List Oper) (r:Tmp):List (Nat × Oper):=(jk 0 pre).filter fun p=>sS r p.2
def JK (pre:List Oper) (x:Oper):Option Tmp:=match x.guard with
 | some _=>none
 | none=>match x.op with
  | .move (.tmp z)=>ap (pre.any (sS z)) none (some z)
  | _=>none
def JL (pre:List Oper) (i1:Nat) (x:Oper):Option Tmp:=match x.guard with
 | some _=>none
 | none=>match x.op with
  | .indexAddr _ (.tmp q) _=>match zF (pre.take i1) q with
   | [p]=>JK pre p.2
   | _=>none
  | _=>none
def uK (pre:List Oper) (o:Op):Option Tmp:=match o with
 | .load _ (.tmp r)=>match zF pre r with
  | [p]=>JL pre p.1 p.2
  | _=>none
 | _=>none
def zG (v:I):Prop:=∃sz l,v= .aJ sz l
def pS (E:Env) (M:Nat) (ops:List Oper) (a_:List an) (p:Nat × Nat):Prop:=
 match ops[p.2]?,a_[p.2]?,a_[p.1]?,a_[p.1 + 1]? with
 | some y,some s,some u,some v=>match cls y.op E with
  | .read=>rg y.op=true /\ (cx M ops s.T y=some false∨ap (Nat.blt p.1 p.2) ((∃b,iZ M y.op s.T=some b /\ (s.H.m.get b).isSome=true /\ si b u.H s.H)∨(iZ M y.op s.T=none /\ ze ops p.1 p.2)∨(iZ M y.op s.T=none /\ ∃z s0,uK (ops.take p.2) y.op=some z /\ a_[0]? =some s0 /\ bl (aK M (.tmp z) s0.T) zG)) (∀b,iZ M y.op s.T=some b -> si b s.H v.H))
  | .alloc=>cx M ops s.T y=some false∨((∃l e x w,u.H.m.get s.H.next=some (.cells l e x w)) /\ si s.H.next u.H v.H)
  | _=>True
 | _,_,_,_=>False
def lq (E:Env) (M:Nat) (ops:List Oper) (a_:List an):List (Nat × Nat) -> Prop
 | []=>True
 | p :: l=>pS E M ops a_ p /\ lq E M ops a_ l
def gX (E:Env) (N M:Nat) (all:List Oper):List Oper -> an -> List an -> (List an -> Prop) -> Prop
 | [],s,acc,K=>K (acc.reverse ++ [s])
 | o :: l,s,acc,K=>bl (cx M all s.T o) (ml E N M o s fun s'=>gX E N M all l s' (s :: acc) K)
def zH (E:Env) (N M:Nat) (ops:List Oper) (s:an) (K:an -> Prop) (l:List (Nat × Nat)):Prop:=match l with
 | []=>wpOps E N M ops ops s K
 | l=>gX E N M ops ops s [] fun a_=>lq E M ops a_ l /\ K (g9 a_ s)
def kr (E:Env) (N M:Nat) (ops:List Oper) (s:an) (K:an -> Prop):Prop:=match E.kO with
 | none=>C4 E N M ops s K
 | some _=>j2 E ops=true /\ zH E N M ops s K (loose E ops)
abbrev mU:=an -> (bu -> an -> Prop) -> Prop
def rI (fY:mU) (K:bu -> an -> Prop) (e:bu) (s:an):Prop:=match e with | .normal=>fY s K | e=>K e s
def xR (l4 fY:mU) (s:an) (K:bu -> an -> Prop) (t:Bool):Prop:=ap t (l4 s K) (fY s K)
def Ds (l4 fY:mU) (s:an) (K:bu -> an -> Prop) (v:I):Prop:=bl (e_ v) (xR l4 fY s K)
def nP (id:Nat) (K:bu -> an -> Prop) (e:bu) (s:an):Prop:=K (l9 id e s).1 (l9 id e s).2
def Dt (cX:Nat -> an -> Prop) (m:Nat) (K:bu -> an -> Prop) (e:bu) (s:an):Prop:=match e with | .normal=>∃bY,bY < m /\ cX bY s | e=>K e s
def wN (fY:mU) (s:an) (K:bu -> an -> Prop):Prop:=∃(cX:Nat -> an -> Prop) (m:Nat),cX m s /\ ∀m s,cX m s -> fY s (Dt cX m K)
def z2 (T:a') (id:Nat) (K:bu -> an -> Prop) (_:I) (H:aa):Prop:=bl (pL T H id) fun r=>K r.1 r.2
def C5 (E:Env) (fid:FuncId) (N M:Nat) (ps:List Tmp) (a b:Code) (s:an) (K:bu -> an -> Prop) (gq:I):Prop:=
 mo E gq [.yield s.H.next] (aS s.H (.loop fid s.T N M ps a b .ready none)).2 (z2 s.T s.H.next K)
def i5 (K:bu -> an -> Prop) (s:an):Prop:=K .normal s
def ds (E:Env) (fid:FuncId) (N M:Nat):Code -> mU
 | .skip,s,K=>K .normal s
 | .region _ ops draw,s,K=>ap draw (kr E N M ops.toList ⟨⟨.nil,s.T.G⟩,s.H⟩ (i5 K)) (wpOps E N M ops.toList ops.toList ⟨⟨.nil,s.T.G⟩,s.H⟩ (i5 K))
 | .seq a b,s,K=>ds E fid N M a s (rI (ds E fid N M b) K)
 | .cond c a b,s,K=>bl (aK M c s.T) (Ds (ds E fid N M a) (ds E fid N M b) s K)
 | .block id b,s,K=>ds E fid N M b s (nP id K)
 | .loop b,s,K=>wN (ds E fid N M b) s K
 | .rangeFunc f ps a b,s,K=>bl (aK M f s.T) (C5 E fid N M ps.toList a b s K)
 | .exit i,s,K=>K (.exit i) s
 | .scope b,s,K=>ds E fid N M b s K
 | .label _,s,K=>K .normal s
 | .ret,s,K=>K .ret s
 | _,_,_=>False
section
variable {E:Env} {fid:FuncId} {N M:Nat}
def az {α:Type} (g:Nat -> Option α) (K:α -> Prop):Prop:=∃k r,(∀m,k≤m -> g m=some r) /\ K r
theorem az.const {α:Type} {o:Option α} {K:α -> Prop} (h:bl o K):az (fun _=>o) K:=by
 obtain ⟨a,h,k⟩:=h; exact ⟨0,a,fun _ _=>h,k⟩
theorem az.mono {α:Type} {g:Nat -> Option α} {K cI:α -> Prop} (h:az g K) (k:∀a,K a -> cI a):az g cI:=by
 obtain ⟨n,r,J,O⟩:=h; exact ⟨n,r,J,k _ O⟩
theorem az.bind {α β:Type} {g:Nat -> Option α} {f:Nat -> α -> Option β} {K:β -> Prop} (h:az g fun a=>az (fun m=>f m a) K):az (fun m=>(g m).ac (f m)) K:=by
 obtain ⟨n,r,J,oo,ck,ag,aP⟩:=h
 refine ⟨max n oo,ck,fun m hm=> ?_,aP⟩
 show (g m).ac (f m)=some ck
 rw [J m (by omega)]
 exact ag m (by omega)
theorem az.map {α β:Type} {g:Nat -> Option α} {f:α -> β} {K:β -> Prop} (h:az g fun a=>K (f a)):az (fun m=>(g m).omap f) K:=by
 obtain ⟨n,r,J,O⟩:=h
 exact ⟨n,f r,fun m hm=>by show (g m).omap f=_; rw [J m hm]; rfl,O⟩
theorem az.congr {α:Type} {g L9:Nat -> Option α} {K:α -> Prop} (h:az g K) (e:∀m,g m=L9 m):az L9 K:=by
 obtain ⟨n,r,J,O⟩:=h
 exact ⟨n,r,fun m hm=>by rw [<- e]; exact J m hm,O⟩
theorem Ru {f:I} {as:List I} {H:aa} {K:I -> aa -> Prop}:ic E f as H K↔az (fun m=>app E m f as H) (fun p=>K p.1 p.2):=by
 constructor
 ·
  rintro ⟨k,v,H',h,ab⟩; exact ⟨k,(v,H'),h,ab⟩
 ·
  rintro ⟨k,⟨v,H'⟩,h,ab⟩; exact ⟨k,v,H',h,ab⟩
theorem VD {T:a'} {d:Option Tmp} {K:an -> Prop} {v:I} {H:aa} (h:dI N M T d K v H):bl ((ev N M T d v).omap fun T=>(⟨T,H⟩:an)) K:=by
 obtain ⟨T',h,k⟩:=h; exact ⟨_,by rw [h]; rfl,k⟩
variable (c4:E.kO=none)
include c4
theorem Rv {o:Op} {T:a'} {H:aa} {K:I -> aa -> Prop} (h:rq E M o T H K):az (fun m=>oT M o E (app E m) T H) fun p=>K p.1 p.2:=by
 unfold rq at h
 split at h
 ·
  obtain ⟨p,aR,x,R,r,af,k⟩:=h
  refine ⟨0,r,fun m _=> ?_,k⟩
  show (aK M _ T).ac (fun p=>(aK M _ T).ac fun x=>gu E H _ p x)=_
  rw [aR]; show (aK M _ T).ac _=_
  rw [R]; exact af
 ·
  split at h
  ·
   rename_i c f V
   obtain ⟨gq,ao,as,ae,h⟩:=h
   have h:=show mo E gq as H K from h
   rw [wx c4] at h
   obtain ⟨n,v,H',af,k⟩:=h
   refine ⟨n,(v,H'),fun m hm=> ?_,k⟩
   unfold oT wE
   simp only [V]
   show (aK M _ T).ac (fun p=>(c0 M _ T).ac fun x=>app E m p x H)=_
   rw [ao]; show (c0 M _ T).ac _=_
   rw [ae]; exact af m hm
  ·
   rename_i c b V
   obtain ⟨as,ae,r,af,k⟩:=h
   refine ⟨0,r,fun m _=> ?_,k⟩
   unfold oT wE
   simp only [V]
   show (c0 M _ T).ac (fun p=>fQ b E H p _)=_
   rw [ae]; exact af
  ·
   cases h
 ·
  cases h
theorem CD {o:Oper} {s:an} {K:an -> Prop} (h:wpOp E N M o s K):az (fun m=>jU E (app E m) N M o s) K:=by
 unfold wpOp at h
 unfold jU uG
 split at h <;> simp only [*]
 ·
  obtain ⟨v,ak,h⟩:=h
  obtain ⟨T,ba,k⟩:=h
  refine ⟨0,⟨T,s.H⟩,fun m _=> ?_,k⟩
  rw [ak]; show (ev N M s.T o.dst v).omap _=_; rw [ba]; rfl
 ·
  obtain ⟨v,ak,h⟩:=h
  obtain ⟨T,ba,k⟩:=h
  refine ⟨0,⟨T,s.H⟩,fun m _=> ?_,k⟩
  rw [ak]; show (ev N M s.T o.dst v).omap _=_; rw [ba]; rfl
 ·
  obtain ⟨p,ak,h⟩:=h
  obtain ⟨T,ba,k⟩:=h
  refine ⟨0,_,fun m _=> ?_,k⟩
  rw [ak]; show (ev N M s.T o.dst _).omap _=_; rw [ba]; rfl
 ·
  refine az.bind ((Rv c4 h).mono fun p k=> ?_)
  exact az.const (VD k)
theorem PA {o:Oper} {s:an} {K:an -> Prop} {b:Bool} {aH:Nat -> an -> Option an} {cI:an -> Prop} (h:ml E N M o s K b) (ad:∀s,K s -> az (fun m=>aH m s) cI):
 az (fun m=>ap b ((jU E (app E m) N M o s).ac (aH m)) ((ev N M s.T o.dst .undef).ac fun T=>aH m ⟨T,s.H⟩)) cI:=by
 cases b with
 | true=>exact az.bind ((CD c4 (show wpOp E N M o s K from h)).mono ad)
 | false=>
  obtain ⟨T,ba,k⟩:=(show dI N M s.T o.dst K .undef s.H from h)
  refine (ad _ k).congr fun m=> ?_
  rw [ba]; rfl
theorem B7 {all:List Oper} {K:an -> Prop}:∀ {l:List Oper} {s:an},wpOps E N M all l s K -> az (fun m=>pZ E (app E m) N M all l s) K
 | [],s,h=>⟨0,s,fun _ _=>rfl,h⟩
 | o :: l,s,h=>by
  unfold wpOps at h
  refine az.congr (g:=fun m=>wF E (app E m) N M all o (pZ E (app E m) N M all l) s) ?_ fun m=>rfl
  unfold wF Cu
  split at h <;> simp only [*]
  ·
   exact az.bind ((CD c4 h).mono fun s k=>B7 k)
  ·
   obtain ⟨b,U,h⟩:=h
   refine (PA c4 h fun s k=>B7 k).congr fun m=> ?_
   rw [U]; rfl
theorem Rw {id:Nat} {o:Oper} {s:an} {K:an -> Prop} (h:p1 E N M id o s K):az (fun m=>w1 E (app E m) N M id o s) K:=by
 unfold p1 at h
 unfold w1
 split at h
 ·
  rename_i V
  simp only [V]
  obtain ⟨ar,p,ak,T,ba,k⟩:=h
  refine ⟨0,_,fun m _=> ?_,k⟩
  rw [ar,ak]; show (ev N M s.T o.dst _).omap _=_; rw [ba]; rfl
 ·
  rename_i V
  have:∀m,(match cls o.op E with
   | .alloc=>match s.H.m.get id with
    | none=>(jn M o.op E s.T).ac fun p=>(ev N M s.T o.dst (p.2 id)).omap fun T=>(⟨T,aN s.H id p.1⟩:an)
    | some _=>none
   | _=>jU E (app E m) N M o s)=jU E (app E m) N M o s:=by
   intro m
   split
   ·
    exact absurd (by assumption) V
   ·
    rfl
  exact (CD c4 h).congr fun m=>(this m).symm
theorem CE {all:List Oper} {K:List an -> Prop}:∀ {l:List Oper} {id:Nat} {s:an} {acc:List an},m' E N M all l id s acc K -> az (fun m=>trace E (app E m) N M all l id s) fun a_=>K (acc.reverse ++ a_)
 | [],id,s,acc,h=>⟨0,[s],fun _ _=>rfl,h⟩
 | o :: l,id,s,acc,h=>by
  obtain ⟨b,U,h⟩:=h
  refine az.congr (g:=fun m=>wG E (app E m) N M all o (trace E (app E m) N M all l) id s) ?_ fun m=>rfl
  unfold wG
  simp only [U]
  have Kj:∀a_:List an,acc.reverse ++ (s :: a_)=(s :: acc).reverse ++ a_:=by intro a_; simp
  cases b with
  | true=>
   refine az.bind ((Rw c4 (show p1 E N M id o s _ from h)).mono fun s' k=> ?_)
   refine az.map ((CE k).mono fun a_ k=> ?_)
   rw [Kj]; exact k
  | false=>
   obtain ⟨T,ba,k⟩:=(show dI N M s.T o.dst (fun s'=>m' E N M all l (Nat.succ id) s' (s :: acc) K) .undef s.H from h)
   have:=az.map (f:=(s :: ·)) (K:=fun a_=>K (acc.reverse ++ a_)) ((CE (s:=⟨T,s.H⟩) (acc:=s :: acc) k).mono fun a_ k=>by rw [Kj]; exact k)
   refine this.congr fun m=> ?_
   show _=(ev N M s.T o.dst .undef).ac _
   rw [ba]; rfl
theorem PB {ops:List Oper} {s:an} {K:an -> Prop} (h:C4 E N M ops s K):az (fun m=>sF E (app E m) N M ops s) K:=by
 obtain ⟨aC,h⟩:=h
 unfold sF
 simp only [aC]
 refine az.bind ((CE c4 h).mono ?_)
 rintro a_ ⟨aw,k⟩
 have aw:=show qj E M ops s.H.next a_=true from aw
 refine ⟨0,g9 a_ s,fun m _=> ?_,k⟩
 simp only [aw]
omit c4 in
theorem PC {fY:mU} {f:Nat -> an -> Option (bu × an)} (ao:∀s K,fY s K -> az (fun m=>f m s) fun p=>K p.1 p.2) {s:an} {K:bu -> an -> Prop} (h:wN fY s K):
 az (fun m=>iter (f m) m s) fun p=>K p.1 p.2:=by
 obtain ⟨cX,c1,aD,c'⟩:=h
 have main:∀n s,cX n s -> ∃k j r,(∀m,k≤m -> ∀i,j≤i -> iter (f m) i s=some r) /\ K r.1 r.2:=by
  intro n
  induction n using Nat.strongRecOn with
  | ind n aH=>
   intro s aG
   obtain ⟨k,⟨e,s'⟩,J,O⟩:=ao s _ (c' n s aG)
   have J:∀m,k≤m -> f m s=some (e,s'):=J
   cases e with
   | normal=>
    obtain ⟨hc,ar,ag⟩:=O
    obtain ⟨a9,j,r,aP,bH⟩:=aH hc ar s' ag
    refine ⟨max k a9,j + 1,r,fun m hm i ad=> ?_,bH⟩
    obtain ⟨dd,rfl⟩:∃dd,i=dd + 1:=⟨i - 1,by omega⟩
    show ss (iter (f m) dd) (f m s)=_
    rw [J m (by omega)]
    exact aP m (by omega) dd (by omega)
   | exit x=>
    refine ⟨k,1,(.exit x,s'),fun m hm i ad=> ?_,O⟩
    obtain ⟨dd,rfl⟩:∃dd,i=dd + 1:=⟨i - 1,by omega⟩
    show ss (iter (f m) dd) (f m s)=_
    rw [J m (by omega)]; rfl
   | ret=>
    refine ⟨k,1,(.ret,s'),fun m hm i ad=> ?_,O⟩
    obtain ⟨dd,rfl⟩:∃dd,i=dd + 1:=⟨i - 1,by omega⟩
    show ss (iter (f m) dd) (f m s)=_
    rw [J m (by omega)]; rfl
 obtain ⟨k,j,r,J,O⟩:=main c1 s aD
 exact ⟨max k j,r,fun m hm=>J m (by omega) m (by omega),O⟩
theorem C6 (c:Code):∀ {s:an} {K:bu -> an -> Prop},ds E fid N M c s K -> az (fun m=>(lC E fid N M c).f (app E m) m s) fun p=>K p.1 p.2:=by
 induction c with
 | skip=>intro s K h; exact ⟨0,(.normal,s),fun _ _=>rfl,h⟩
 | region id ops draw=>
  intro s K h
  cases draw with
  | true=>
   have h:=show kr E N M ops.toList ⟨⟨.nil,s.T.G⟩,s.H⟩ (i5 K) from h
   unfold kr at h
   rw [c4] at h
   refine az.congr (g:=fun m=>(sF E (app E m) N M ops.toList ⟨⟨.nil,s.T.G⟩,s.H⟩).omap fun s=>(bu.normal,s)) ?_ fun m=>rfl
   exact az.map (PB c4 (K:=i5 K) h)
  | false=>
   refine az.congr (g:=fun m=>(pZ E (app E m) N M ops.toList ops.toList ⟨⟨.nil,s.T.G⟩,s.H⟩).omap fun s=>(bu.normal,s)) ?_ fun m=>rfl
   exact az.map (B7 c4 (K:=i5 K) h)
 | seq a b gr cH=>
  intro s K h
  refine az.congr (g:=fun m=>((lC E fid N M a).f (app E m) m s).ac fun p=>ap (HI p.1) ((lC E fid N M b).f (app E m) m p.2) (some p)) ?_ fun m=>rfl
  refine az.bind ((gr h).mono ?_)
  rintro ⟨e,s'⟩ k
  cases e with
  | normal=>exact cH k
  | exit i=>exact ⟨0,_,fun _ _=>rfl,k⟩
  | ret=>exact ⟨0,_,fun _ _=>rfl,k⟩
 | cond c a b gr cH=>
  intro s K h
  obtain ⟨v,ak,t,bh,h⟩:=h
  refine az.congr (g:=fun m=>ap t ((lC E fid N M a).f (app E m) m s) ((lC E fid N M b).f (app E m) m s)) ?_ fun m=> ?_
  ·
   cases t with
   | true=>exact gr h
   | false=>exact cH h
  ·
   show _=(aK M c s.T).ac _
   rw [ak]; show _=(e_ v).ac _
   rw [bh]; rfl
 | block id b cH=>
  intro s K h
  refine az.congr (g:=fun m=>((lC E fid N M b).f (app E m) m s).omap fun p=>l9 id p.1 p.2) ?_ fun m=>rfl
  exact az.map (cH h)
 | loop b cH=>
  intro s K h
  exact PC (fun s K h=>cH h) h
 | rangeFunc f ps a b gr cH=>
  intro s K h
  obtain ⟨gq,ao,h⟩:=h
  have h:=show mo E gq _ _ _ from h
  rw [wx c4] at h
  have h:=Ru.1 (show ic E gq _ _ _ from h)
  refine az.congr (g:=fun m=>(app E m gq [.yield s.H.next] (aS s.H (.loop fid s.T N M ps.toList a b .ready none)).2).ac fun p=>pL s.T p.2 s.H.next) ?_ fun m=> ?_
  ·
   refine az.bind (h.mono ?_)
   rintro ⟨v,H'⟩ k
   exact az.const k
  ·
   show _=(aK M f s.T).ac _
   rw [ao]; rfl
 | exit i=>intro s K h; exact ⟨0,(.exit i,s),fun _ _=>rfl,h⟩
 | scope b cH=>intro s K h; exact cH h
 | label l=>intro s K h; exact ⟨0,(.normal,s),fun _ _=>rfl,h⟩
 | goto l=>intro s K h; cases h
 | ret=>intro s K h; exact ⟨0,(.ret,s),fun _ _=>rfl,h⟩
 | refuse As=>intro s K h; cases h
omit c4
theorem lp {T:a'} {d:Option Tmp} {K cI:an -> Prop} {v:I} {H:aa} (h:dI N M T d K v H) (k:∀s,K s -> cI s):dI N M T d cI v H:=fO h fun _=>k _
variable (bo:m6 E)
include bo
theorem yN {o:Op} {T:a'} {H:aa} {K cI:I -> aa -> Prop} (h:rq E M o T H K) (k:∀v H,K v H -> cI v H):rq E M o T H cI:=by
 unfold rq at h ⊢
 split at h
 ·
  exact fO h fun _ h=>fO h fun _ h=>fO h fun _=>k _ _
 ·
  split at h
  ·
   exact fO h fun _ h=>fO h fun _ h=>bo _ _ _ _ _ h k
  ·
   exact fO h fun _ h=>fO h fun _=>k _ _
  ·
   exact h
 ·
  exact h
theorem wpOp_mono {o:Oper} {s:an} {K cI:an -> Prop} (h:wpOp E N M o s K) (k:∀s,K s -> cI s):wpOp E N M o s cI:=by
 unfold wpOp at h ⊢
 split at h
 ·
  exact fO h fun _ h=>lp h k
 ·
  exact fO h fun _ h=>lp h k
 ·
  exact fO h fun _ h=>lp h k
 ·
  exact yN bo h fun _ _ h=>lp h k
theorem pG {all:List Oper} {K cI:an -> Prop} (k:∀s,K s -> cI s):∀ {l:List Oper} {s:an},wpOps E N M all l s K -> wpOps E N M all l s cI
 | [],s,h=>k s h
 | o :: l,s,h=>by
  unfold wpOps at h ⊢
  split at h
  ·
   exact wpOp_mono bo h fun s h=>pG k h
  ·
   refine fO h fun b h=> ?_
   cases b with
   | true=>exact wpOp_mono bo (show wpOp E N M o s (fun s'=>wpOps E N M all l s' K) from h) fun s h=>pG k h
   | false=>exact lp (show dI N M s.T o.dst (fun s'=>wpOps E N M all l s' K) .undef s.H from h) fun s h=>pG k h
omit bo
def s4 (K:I -> aa -> Prop) (H:aa) (l:List I):Prop:=K (single l) H
def aaJ (E:Env) (fn:Func) (K:I -> aa -> Prop) (e:bu) (s:an):Prop:=pV e=false /\ bl (h0 E (E.mask fn) s.T s.H fn.results.toList) (s4 K s.H)
theorem H5 (c4:E.kO=none) {f:FuncId} {fn:Func} {c:Code} {bI bN as:List I} {H:aa} {K:I -> aa -> Prop} (aG:E.sum f=none) (ao:E.fn f=some fn) (U:fn.body=some c)
 (ah:(bJ (cb bI (cb as bN))).ble fn.ntmps=true) (h:ds E f fn.ntmps (E.mask fn) c ⟨nF (E.mask fn) (cb bI (cb as bN)) 0 ⟨.nil,.nil⟩,H⟩ (aaJ E fn K)):ic E (.func f bI bN) as H K:=by
 obtain ⟨k,⟨e,s⟩,J,he,l,af,ab⟩:=C6 c4 c h
 have J:∀m,k≤m -> (lC E f fn.ntmps (E.mask fn) c).f (app E m) m ⟨nF (E.mask fn) (cb bI (cb as bN)) 0 ⟨.nil,.nil⟩,H⟩=some (e,s):=J
 refine ⟨k + 1,single l,s.H,fun m hm=> ?_,ab⟩
 obtain ⟨m,rfl⟩:∃bY,m=bY + 1:=⟨m - 1,by omega⟩
 show (sR E f).f m (app E m) (cb bI (cb as bN)) H=_
 unfold sR zA
 simp only [aG,ao,U,ah]
 show Dm E fn ((lC E f fn.ntmps (E.mask fn) c).f (app E m) m _)=_
 rw [J m (by omega)]
 show ap (pV e) none _=_
 have he:=show pV e=false from he
 rw [he]
 show (h0 E (E.mask fn) s.T s.H fn.results.toList).omap _=_
 rw [af]; rfl
def sK (l:Nat) (K:I -> aa -> Prop) (e:bu) (s:an):Prop:=match e with
 | .normal=>bl (hx s.H l none) (K (.bool true))
 | .exit i=>bl (hx s.H l (some (.exit i))) (K (.bool false))
 | .ret=>bl (hx s.H l (some .ret)) (K (.bool false))
def C7 (E:Env) (fid:FuncId) (N M:Nat) (b:Code) (l:Nat) (K:I -> aa -> Prop) (T:a') (H:aa):Prop:=ds E fid N M b ⟨T,H⟩ (sK l K)
def z3 (E:Env) (fid:FuncId) (N M:Nat) (b:Code) (l:Nat) (K:I -> aa -> Prop) (e:bu) (s:an):Prop:=e= .normal /\ bl (qU s.H l) (C7 E fid N M b l K s.T)
theorem Nj (c4:E.kO=none) {l:Nat} {T:a'} {ps:List Tmp} {a b:Code} {st:LoopState} {se:Option Code} {as:List I} {H:aa} {K:I -> aa -> Prop} (ah:H.m.get l=some (.loop fid T N M ps a b st se))
 (h:bl (jj N M ps T as) fun T'=>ds E fid N M a ⟨T',H⟩ (z3 E fid N M b l K)):ic E (.yield l) as H K:=by
 obtain ⟨T',ba,h⟩:=h
 obtain ⟨k,⟨e,s⟩,J,he,H1,U,h⟩:=C6 c4 a h
 have J:∀m,k≤m -> (lC E fid N M a).f (app E m) m ⟨T',H⟩=some (e,s):=J
 have he:=show e= .normal from he
 subst he
 obtain ⟨a9,⟨bk,s2⟩,O,h⟩:=C6 c4 b h
 have O:∀m,a9≤m -> (lC E fid N M b).f (app E m) m ⟨s.T,H1⟩=some (bk,s2):=O
 have key:∀m,max k a9≤m -> app E (m + 1) (.yield l) as H=wd l (some (bk,s2)):=by
  intro m hm
  show wt E m (app E m) l as H=_
  unfold wt
  rw [ah]
  show (jj N M ps T as).ac _=_
  rw [ba]
  show HK E m (app E m) fid N M b l ((lC E fid N M a).f (app E m) m ⟨T',H⟩)=_
  rw [J m (by omega)]
  show (qU s.H l).ac _=_
  rw [U]
  show wd l ((lC E fid N M b).f (app E m) m ⟨s.T,H1⟩)=_
  rw [O m (by omega)]
 have fin:∀v H',wd l (some (bk,s2))=some (v,H') -> K v H' -> ic E (.yield l) as H K:=by
  intro v H' af ab
  refine ⟨max k a9 + 1,v,H',fun m hm=> ?_,ab⟩
  obtain ⟨m,rfl⟩:∃bY,m=bY + 1:=⟨m - 1,by omega⟩
  rw [key m (by omega),af]
 cases bk with
 | normal=>
  obtain ⟨ay,af,ab⟩:=(show bl (hx s2.H l none) (K (.bool true)) from h)
  exact fin _ _ (by show (hx s2.H l none).omap _=_; rw [af]; rfl) ab
 | exit i=>
  obtain ⟨ay,af,ab⟩:=(show bl (hx s2.H l (some (.exit i))) (K (.bool false)) from h)
  exact fin _ _ (by show (hx s2.H l (some (.exit i))).omap _=_; rw [af]; rfl) ab
 | ret=>
  obtain ⟨ay,af,ab⟩:=(show bl (hx s2.H l (some .ret)) (K (.bool false)) from h)
  exact fin _ _ (by show (hx s2.H l (some .ret)).omap _=_; rw [af]; rfl) ab
end
end
end Go.az
namespace Go.az
noncomputable section
def c8 (N:Nat):Nat:=2 ^ N - 1
theorem ue {N i:Nat} (h:i < N):Nat.testBit (c8 N) i=true:=by unfold c8; rw [Nat.testBit_two_pow_sub_one]; simpa using h
def g_ (P:Program) (dP:FuncId -> Bool):Env:=
 { ib P with mask:=fun fn=>c8 fn.ntmps,sum:=fun f=>ap (dP f) (some fun as H=>match as with | []=>some (.bool true,H) | _=>none) none}
section
variable {E:Env} {fid:FuncId} {N M:Nat} {s:an} {T:a'} {H:aa}
theorem VE {K:bu -> an -> Prop}:ds E fid N M .skip s K=K .normal s:=rfl
theorem Rx {id:Nat} {l:List Oper} {G L:ca} {K:bu -> an -> Prop}:ds E fid N M (.region id l.toArray false) ⟨⟨L,G⟩,H⟩ K=wpOps E N M l l ⟨⟨.nil,G⟩,H⟩ (i5 K):=rfl
theorem VF {id:Nat} {l:List Oper} {G L:ca} {K:bu -> an -> Prop}:ds E fid N M (.region id l.toArray true) ⟨⟨L,G⟩,H⟩ K=kr E N M l ⟨⟨.nil,G⟩,H⟩ (i5 K):=rfl
theorem XA {a b:Code} {K:bu -> an -> Prop}:ds E fid N M (.seq a b) s K=ds E fid N M a s (rI (ds E fid N M b) K):=rfl
theorem VG {c:Operand} {a b:Code} {K:bu -> an -> Prop}:ds E fid N M (.cond c a b) s K=bl (aK M c s.T) (Ds (ds E fid N M a) (ds E fid N M b) s K):=rfl
theorem Tu {id:Nat} {b:Code} {K:bu -> an -> Prop}:ds E fid N M (.block id b) s K=ds E fid N M b s (nP id K):=rfl
theorem VH {b:Code} {K:bu -> an -> Prop}:ds E fid N M (.loop b) s K=wN (ds E fid N M b) s K:=rfl
theorem Tv {f:Operand} {ps:List Tmp} {a b:Code} {K:bu -> an -> Prop}:ds E fid N M (.rangeFunc f ps.toArray a b) s K=bl (aK M f s.T) (C5 E fid N M ps a b s K):=rfl
theorem VI {i:Nat} {K:bu -> an -> Prop}:ds E fid N M (.exit i) s K=K (.exit i) s:=rfl
theorem Tw {b:Code} {K:bu -> an -> Prop}:ds E fid N M (.scope b) s K=ds E fid N M b s K:=rfl
theorem Tx {l:Nat} {K:bu -> an -> Prop}:ds E fid N M (.label l) s K=K .normal s:=rfl
theorem XB {K:bu -> an -> Prop}:ds E fid N M .ret s K=K .ret s:=rfl
theorem VJ {fY:mU} {K:bu -> an -> Prop}:rI fY K .normal s=fY s K:=rfl
theorem VK {fY:mU} {K:bu -> an -> Prop} {i:Nat}:rI fY K (.exit i) s=K (.exit i) s:=rfl
theorem VL {fY:mU} {K:bu -> an -> Prop}:rI fY K .ret s=K .ret s:=rfl
theorem XC {l4 fY:mU} {K:bu -> an -> Prop}:xR l4 fY s K true=l4 s K:=rfl
theorem XD {l4 fY:mU} {K:bu -> an -> Prop}:xR l4 fY s K false=fY s K:=rfl
theorem XE {l4 fY:mU} {K:bu -> an -> Prop} {b:Bool}:Ds l4 fY s K (.bool b)=xR l4 fY s K b:=zd b _
theorem VM {id:Nat} {K:bu -> an -> Prop}:nP id K .normal s=K .normal s:=rfl
theorem VN {id:Nat} {K:bu -> an -> Prop}:nP id K .ret s=K .ret s:=rfl
theorem VO {id:Nat} {K:bu -> an -> Prop}:nP id K (.exit id) s=K .normal s:=by
 have h:l9 id (.exit id) s=(.normal,s):=by show ap (Nat.beq id id) _ _=_; rw [Nat.beq_refl]; rfl
 unfold nP; rw [h]
theorem VP {id i:Nat} (h:i≠id) {K:bu -> an -> Prop}:nP id K (.exit i) s=K (.exit i) s:=by
 have h:l9 id (.exit i) s=(.exit i,s):=by
  show ap (Nat.beq i id) _ _=_
  rw [show Nat.beq i id=false from Bool.eq_false_iff.2 fun k=>h (Nat.eq_of_beq_eq_true k)]; rfl
 unfold nP; rw [h]
theorem Ty {cX:Nat -> an -> Prop} {m:Nat} {K:bu -> an -> Prop}:Dt cX m K .ret s=K .ret s:=rfl
theorem Tz {cX:Nat -> an -> Prop} {m i:Nat} {K:bu -> an -> Prop}:Dt cX m K (.exit i) s=K (.exit i) s:=rfl
theorem XF {K:bu -> an -> Prop}:i5 K s=K .normal s:=rfl
theorem XG {all:List Oper} {K:an -> Prop}:wpOps E N M all [] s K=K s:=rfl
theorem VQ {all l:List Oper} {d:Option Tmp} {o:Op} {t:TypeId} {p:String} {a:Array Edge} {K:an -> Prop}:
 wpOps E N M all (⟨d,o,t,p,a,none⟩ :: l) s K=wpOp E N M ⟨d,o,t,p,a,none⟩ s (DY E N M all l K):=rfl
theorem TA {all l:List Oper} {d:Option Tmp} {o:Op} {t:TypeId} {p:String} {a:Array Edge} {g:Nat × Bool} {K:an -> Prop}:
 wpOps E N M all (⟨d,o,t,p,a,some g⟩ :: l) s K=bl (mc M all s.T g) (ml E N M ⟨d,o,t,p,a,some g⟩ s (DY E N M all l K)):=rfl
theorem aaK {all l:List Oper} {K:an -> Prop}:DY E N M all l K s=wpOps E N M all l s K:=rfl
theorem Ry {o:Oper} {K:an -> Prop}:ml E N M o s K true=wpOp E N M o s K:=rfl
theorem Rz {o:Oper} {K:an -> Prop}:ml E N M o s K false=dI N M s.T o.dst K .undef s.H:=rfl
theorem XH {d:Option Tmp} {K:an -> Prop} {v:I}:e1 N M T d H K v=dI N M T d K v H:=rfl
theorem XI {d:Option Tmp} {K:an -> Prop} {v:I}:Xy N M T d K (v,H)=dI N M T d K v H:=rfl
theorem XJ {K:I -> aa -> Prop} {v:I}:w4 K (v,H)=K v H:=rfl
theorem aaL {d:Option Tmp} {K:an -> Prop} {x:bf} {f:Nat -> I}:ja N M T d H K (x,f)=dI N M T d K (f H.next) (aS H x).2:=rfl
theorem PD {K:an -> Prop} {v:I}:dI N M T none K v H=K ⟨T,H⟩:=zd T _
theorem PE {i:Nat} (h:i < N) {G L:ca} {K:an -> Prop} {v:I}:dI N (c8 N) ⟨L,G⟩ (some i) K v H=K ⟨⟨L,G.put v i⟩,H⟩:=by
 have:ev N (c8 N) ⟨L,G⟩ (some i) v=some ⟨L,G.put v i⟩:=by
  unfold ev sQ
  simp only [show Nat.blt i N=true from (cZ _ _).2 h,ue h]
 unfold dI; rw [this]; exact zd _ _
theorem RA {i:Nat} (h:i < N) {G L:ca}:aK (c8 N) (.tmp i) ⟨L,G⟩=G.get i:=by
 rw [sD]; unfold a'.get; rw [ue h]; rfl
theorem B8 {i:Nat} (h:i < N) {G L:ca}:a'.get (c8 N) ⟨L,G⟩ i=G.get i:=by
 unfold a'.get; rw [ue h]; rfl
theorem PF {G:ca} {v:I} {i:Nat}:(G.put v i).get i=some v:=by rw [ca.md]; simp
theorem PG {G:ca} {v:I} {i j:Nat} (h:j≠i):(G.put v i).get j=G.get j:=by rw [ca.md]; simp [h]
theorem PH {v:Value}:aK M (.const v) T=h2 3 v:=rfl
theorem RB {f:FuncId}:aK M (.func f) T=some (.func f [] []):=rfl
theorem RC:c0 M [] T=some []:=rfl
theorem MS {f:Operand} {as:List Operand} {bp:Array TypeId} {d:Option Tmp} {t:TypeId} {p:String} {a:Array Edge} {g:Option (Nat × Bool)} {K:an -> Prop}:
 wpOp E N M ⟨d,.call ⟨.value f,as.toArray,bp⟩,t,p,a,g⟩ s K=bl (aK M f s.T) (wM E M s.T s.H as (dI N M s.T d K)):=rfl
theorem VR {l:List Operand} {K:I -> aa -> Prop} {f:I}:wM E M T H l K f=bl (c0 M l T) (C3 E H K f):=rfl
theorem VS {K:I -> aa -> Prop} {f:I} {as:List I}:C3 E H K f as=mo E f as H K:=rfl
theorem RD {ty:TypeId} {x y:Operand} {d:Option Tmp} {t:TypeId} {p:String} {a:Array Edge} {g:Option (Nat × Bool)} {K:an -> Prop}:
 wpOp E N M ⟨d,.store ty x y,t,p,a,g⟩ s K=bl (aK M x s.T) (CC E M s.T s.H ty y (dI N M s.T d K)):=rfl
theorem TB {t:TypeId} {x:Operand} {K:I -> aa -> Prop} {v:I}:CC E M T H t x K v=bl (aK M x T) (CB E H t K v):=rfl
theorem TC {t:TypeId} {K:I -> aa -> Prop} {v x:I}:CB E H t K v x=bl (gu E H t v x) (w4 K):=rfl
theorem PI {as:List Operand} {bp:List TypeId} {d:Option Tmp} {t:TypeId} {p:String} {a:Array Edge} {g:Option (Nat × Bool)} {K:an -> Prop}:
 wpOp E N M ⟨d,.call ⟨.builtin .append,as.toArray,bp.toArray⟩,t,p,a,g⟩ s K=bl (c0 M as s.T) (s3 E .append s.H bp (dI N M s.T d K)):=rfl
theorem TD {as:List Operand} {bp:List TypeId} {d:Option Tmp} {t:TypeId} {p:String} {a:Array Edge} {g:Option (Nat × Bool)} {K:an -> Prop}:
 wpOp E N M ⟨d,.call ⟨.builtin .copy,as.toArray,bp.toArray⟩,t,p,a,g⟩ s K=bl (c0 M as s.T) (s3 E .copy s.H bp (dI N M s.T d K)):=rfl
theorem RE {as:List Operand} {bp:List TypeId} {d:Option Tmp} {t:TypeId} {p:String} {a:Array Edge} {g:Option (Nat × Bool)} {K:an -> Prop}:
 wpOp E N M ⟨d,.call ⟨.builtin .clear,as.toArray,bp.toArray⟩,t,p,a,g⟩ s K=bl (c0 M as s.T) (s3 E .clear s.H bp (dI N M s.T d K)):=rfl
theorem aaM {b:Builtin} {bp:List TypeId} {K:I -> aa -> Prop} {as:List I}:s3 E b H bp K as=bl (fQ b E H as bp) (w4 K):=rfl
section
variable {d:Option Tmp} {t:TypeId} {p:String} {a:Array Edge} {g:Option (Nat × Bool)} {K:an -> Prop}
end
end
end
end Go.az
namespace Go.az
noncomputable section
section
variable {E:Env} {fid:FuncId} {N M:Nat} {s:an} {T:a'} {H:aa}
variable {d:Option Tmp} {t:TypeId} {p:String} {a:Array Edge} {g:Option (Nat × Bool)} {K:an -> Prop}
theorem Bh {α β:Type} {x:α} {f:α -> Option β}:(some x).ac f=f x:=rfl
theorem Nk {α β:Type} {f:α -> Option β}:(none:Option α).ac f=none:=rfl
theorem Oe {α β:Type} {x:α} {f:α -> β}:(some x).omap f=some (f x):=rfl
theorem Of {α β:Type} {f:α -> β}:(none:Option α).omap f=none:=rfl
theorem VT {x:Operand}:wpOp E N M ⟨d,.move x,t,p,a,g⟩ s K=bl (aK M x s.T) (e1 N M s.T d s.H K):=rfl
theorem RF {x:Operand}:wpOp E N M ⟨d,.assign x,t,p,a,g⟩ s K=bl (aK M x s.T) (e1 N M s.T d s.H K):=rfl
theorem VU {c x y:Operand}:wpOp E N M ⟨d,.pick c x y,t,p,a,g⟩ s K=bl ((aK M c s.T).ac fun v=>(e_ v).ac fun t=>ap t (aK M x s.T) (aK M y s.T)) (e1 N M s.T d s.H K):=rfl
theorem Og {x:Operand}:wpOp E N M ⟨d,.nilCheck x,t,p,a,g⟩ s K=bl ((aK M x s.T).ac nE) (e1 N M s.T d s.H K):=rfl
theorem XK {op:BinOp} {ty vk:TypeId} {x y:Operand}:wpOp E N M ⟨d,.binOp op ty x y vk,t,p,a,g⟩ s K=bl ((aK M x s.T).ac fun x=>(aK M y s.T).ac fun y=>hN (aU E ty) (E.flat ty) op x y) (e1 N M s.T d s.H K):=rfl
theorem aaN {op:UnOp} {ty:TypeId} {x:Operand}:wpOp E N M ⟨d,.unOp op ty x,t,p,a,g⟩ s K=bl ((aK M x s.T).ac (p6 op)) (e1 N M s.T d s.H K):=rfl
theorem Oh {f:FuncId} {x y:List Operand}:wpOp E N M ⟨d,.makeFunc (.func f) x.toArray y.toArray,t,p,a,g⟩ s K=
 bl ((c0 M x s.T).ac fun a=>(c0 M y s.T).omap fun c=> .func f a c) (e1 N M s.T d s.H K):=rfl
theorem Nl {ty:TypeId} {x:Operand}:wpOp E N M ⟨d,.makeInterface ty x,t,p,a,g⟩ s K=bl (ap (ws (aU E ty)) ((aK M x s.T).omap (.iface ty ·)) none) (e1 N M s.T d s.H K):=rfl
theorem Nm {ty:TypeId} {x:Operand} {f:Nat}:wpOp E N M ⟨d,.fieldAddr ty x f,t,p,a,g⟩ s K=
 bl ((kS (aU E ty) f).ac fun p=>ap (Nat.blt 0 (au E p.2)) ((aK M x s.T).ac fun v=>kk v p.1) none) (e1 N M s.T d s.H K):=rfl
theorem TE {ty:TypeId} {x:Operand} {f:Nat}:wpOp E N M ⟨d,.field ty x f,t,p,a,g⟩ s K=
 bl ((kS (aU E ty) f).ac fun p=>(aK M x s.T).ac fun v=>(gI v).ac fun cs=>ek E p.2 cs p.1) (e1 N M s.T d s.H K):=rfl
theorem Nn {ty:TypeId} {x i:Operand}:wpOp E N M ⟨d,.indexAddr ty x i,t,p,a,g⟩ s K=
 bl ((aK M x s.T).ac fun x=>(aK M i s.T).ac fun i=>(dH i).ac fun i=>e9 (aU E ty) E x i) (e1 N M s.T d s.H K):=rfl
theorem TF {ty:TypeId} {x i:Operand}:wpOp E N M ⟨d,.index ty x i,t,p,a,g⟩ s K=
 bl ((aK M x s.T).ac fun x=>(aK M i s.T).ac fun i=>(dH i).ac fun i=>mi (aU E ty) E x i) (e1 N M s.T d s.H K):=rfl
theorem TG {ty:TypeId} {x:Operand} {bd ad mx:Option Operand}:wpOp E N M ⟨d,.slice ty x bd ad mx,t,p,a,g⟩ s K=
 bl ((aK M x s.T).ac fun x=>(fk M bd s.T).ac fun bd=>(fk M ad s.T).ac fun ad=>(fk M mx s.T).ac fun mx=>dp (aU E ty) E x bd ad mx) (e1 N M s.T d s.H K):=rfl
theorem Oi:fk M none T=some none:=rfl
theorem Oj {o:Operand}:fk M (some o) T=(aK M o T).omap some:=rfl
theorem VV {ty:TypeId} {x:Operand} {n:Nat} {e:TypeId} (h:aU E ty= .array n e):wpOp E N M ⟨d,.sliceToArrayPointer ty x,t,p,a,g⟩ s K=bl ((aK M x s.T).ac (k0 n)) (e1 N M s.T d s.H K):=by
 have V:cls (.sliceToArrayPointer ty x) E= .pure:=rfl
 unfold wpOp; simp only [V]; unfold lx y_; simp only [h]
theorem PJ {x:Operand} {i:Nat}:wpOp E N M ⟨d,.extract x i,t,p,a,g⟩ s K=bl ((aK M x s.T).ac fun v=>(sr v).ac fun l=>fy l i) (e1 N M s.T d s.H K):=rfl
theorem TH {ty:TypeId} {ps:List (Nat × Operand)}:wpOp E N M ⟨d,.build ty ps.toArray,t,p,a,g⟩ s K=
 bl (ap (re (aU E ty)) ((cr E ty).ac fun z=>(dV M (kU (aU E ty) E) s.T ps z.cells).omap .agg) none) (e1 N M s.T d s.H K):=rfl
theorem XL {as:List Operand} {bp:List TypeId}:wpOp E N M ⟨d,.call ⟨.builtin .len,as.toArray,bp.toArray⟩,t,p,a,g⟩ s K=bl ((c0 M as s.T).ac fun as=>jm .len E as bp) (e1 N M s.T d s.H K):=rfl
theorem XM {as:List Operand} {bp:List TypeId}:wpOp E N M ⟨d,.call ⟨.builtin .cap,as.toArray,bp.toArray⟩,t,p,a,g⟩ s K=bl ((c0 M as s.T).ac fun as=>jm .cap E as bp) (e1 N M s.T d s.H K):=rfl
theorem XN {as:List Operand} {bp:List TypeId}:wpOp E N M ⟨d,.call ⟨.builtin .min,as.toArray,bp.toArray⟩,t,p,a,g⟩ s K=bl ((c0 M as s.T).ac fun as=>jm .min E as bp) (e1 N M s.T d s.H K):=rfl
theorem XO {as:List Operand} {bp:List TypeId}:wpOp E N M ⟨d,.call ⟨.builtin .max,as.toArray,bp.toArray⟩,t,p,a,g⟩ s K=bl ((c0 M as s.T).ac fun as=>jm .max E as bp) (e1 N M s.T d s.H K):=rfl
theorem TI {x:I} {t:TypeId}:jm .len E [x] [t]=hh (aU E t) E x:=rfl
theorem TJ {x:I} {t:TypeId}:jm .cap E [x] [t]=rn (aU E t) x:=rfl
theorem TK {l:List I} {bp:List TypeId}:jm .min E l bp=rA ry l:=rfl
theorem TL {l:List I} {bp:List TypeId}:jm .max E l bp=rA rz l:=rfl
theorem Ok {x:Operand} {l:List Operand}:c0 M (x :: l) T=(aK M x T).ac fun v=>(c0 M l T).omap (v :: ·):=rfl
def ES (E:Env) (H:aa) (t:TypeId) (v:I):Option I:=bQ (ec v) ((ju v).ac fun q=>ek E t q.1 q.2) fun q=>dw E H t q.1 q.2
theorem XP {E:Env} {H:aa} {t:TypeId} {b o:Nat}:ES E H t (.ptr b o)=dw E H t b o:=rfl
theorem XQ {E:Env} {H:aa} {t:TypeId} {l:List I} {o:Nat}:ES E H t (.c9 l o)=ek E t l o:=rfl
theorem RG {b o n:Nat}:kk (.ptr b o) n=some (.ptr b (o + n)):=rfl
theorem RH {l:List I} {o n:Nat}:kk (.c9 l o) n=some (.c9 l (o + n)):=rfl
theorem VW {ty:TypeId} {x:Operand}:wpOp E N M ⟨d,.load ty x,t,p,a,g⟩ s K=bl ((aK M x s.T).ac (ES E s.H ty)) (e1 N M s.T d s.H K):=rfl
theorem TM {ty:TypeId}:wpOp E N M ⟨d,.alloc ty,t,p,a,g⟩ s K=bl ((cr E ty).omap fun z=>(.cells z.cells ty true true,fun b=> .ptr b 0)) (ja N M s.T d s.H K):=rfl
theorem XR {ty:TypeId} {x:Operand}:wpOp E N M ⟨d,.box ty x,t,p,a,g⟩ s K=bl ((aK M x s.T).omap fun v=>(.cells v.cells ty true true,fun b=> .ptr b 0)) (ja N M s.T d s.H K):=rfl
theorem oz {ty e:TypeId} {n:Nat} {ps:List (Nat × Operand)} (h:aU E ty= .slice e) (ar:n * au E e≤16777216):wpOp E N M ⟨d,.buildSlice ty n ps.toArray,t,p,a,g⟩ s K=
 bl ((cr E e).ac fun z=>(dV M (fun i=>some (Nat.mul i (au E e),au E e)) s.T ps (cR n z.cells)).omap fun l=>(bf.cells l e true true,fun b:Nat=>I.slice b 0 n (.ex n))) (ja N M s.T d s.H K):=by
 have V:cls (.buildSlice ty n ps.toArray) E= .alloc:=rfl
 unfold wpOp; simp only [V]; unfold jn y0
 simp only [h,show Nat.ble (Nat.mul n (au E e)) 16777216=true from de.2 ar]
theorem Bi {ty e:TypeId} {l c:Operand} (h:aU E ty= .slice e):wpOp E N M ⟨d,.makeSlice ty l c,t,p,a,g⟩ s K=
 bl ((cr E e).ac fun z=>(aK M l s.T).ac fun l=>(aK M c s.T).ac fun c=>(dH l).ac fun l=>(dH c).ac fun c=>
  ap (Nat.ble l c && (Nat.ble c 1048576 && Nat.ble (iU E e) 1048576)) (some (bf.cells (cR c z.cells) e true true,fun b:Nat=>I.slice b 0 l (.ex c))) none) (ja N M s.T d s.H K):=by
 have V:cls (.makeSlice ty l c) E= .alloc:=rfl
 unfold wpOp; simp only [V]; unfold jn y0
 simp only [h]
 congr 1
 congr 1; funext z; congr 1; funext l; congr 1; funext c; congr 1; funext l; congr 1; funext c
 generalize (Nat.ble l c && (Nat.ble c 1048576 && Nat.ble (iU E e) 1048576))=b
 cases b <;> rfl
theorem t7 {gD d_:TypeId} {x:Operand} {k k':IntKind} (h:aU E gD= .int k) (aQ:aU E d_= .int k'):wpOp E N M ⟨d,.convert gD d_ x,t,p,a,g⟩ s K=bl ((aK M x s.T).ac (kV (.int k) (.int k'))) (e1 N M s.T d s.H K):=by
 have V:cls (.convert gD d_ x) E= .pure:=by unfold cls; simp only [h]
 unfold wpOp; simp only [V]; unfold lx y_; simp only [h,aQ]
theorem RI {k k':IntKind} {n:Int}:kV (.int k) (.int k') (.int k n)=some (.int k' (bG k' n)):=rfl
theorem RJ {n:Nat} {b:Bool}:h2 n (.bool b)=some (.bool b):=by cases n <;> rfl
theorem TN {n:Nat} {k:IntKind} {i:Int}:h2 n (.int k i)=some (.int k i):=by cases n <;> rfl
theorem TO {n:Nat} {x:ByteArray}:h2 n (.string x)=some (.str x.data.toList):=by cases n <;> rfl
theorem RK {n:Nat}:h2 n (.pointer none)=some .cA:=by cases n <;> rfl
theorem RL {n:Nat}:h2 n (.slice none 0 0)=some .aE:=by cases n <;> rfl
theorem RM {n:Nat}:h2 n .nilFunc=some .dj:=by cases n <;> rfl
theorem RN {n:Nat}:h2 n .nilIface=some .dK:=by cases n <;> rfl
theorem RO {b:Bool}:e_ (.bool b)=some b:=rfl
theorem TP {k:IntKind} {n:Int}:ej (.int k n)=some (k,n):=rfl
theorem TQ {b o:Nat}:ec (.ptr b o)=some (b,o):=rfl
theorem PK {b o n:Nat} {c:dm}:asSlice (.slice b o n c)=some (b,o,n,c):=rfl
theorem PL:asSlice .aE=none:=rfl
theorem TR {l:List UInt8}:f_ (.str l)=some l:=rfl
theorem TS {l:List I}:gI (.agg l)=some l:=rfl
theorem PM {l:List I}:sr (.tuple l)=some l:=rfl
theorem RP {b o:Nat}:nE (.ptr b o)=some (.ptr b o):=rfl
theorem RQ {f:FuncId} {x y:List I}:nE (.func f x y)=some (.func f x y):=rfl
theorem IL {k:IntKind} {n:Int}:dH (.int k n)=i_ n:=rfl
theorem y4 {n:Nat}:i_ (n:Int)=some n:=rfl
theorem TT {n:Nat}:i_ (.ofNat n)=some n:=rfl
theorem B9 {n:Nat}:i_ (@OfNat.ofNat Int n instOfNat)=some n:=rfl
theorem B_ {n:Int} (h:0≤n):i_ n=some n.toNat:=by
 obtain ⟨m,rfl⟩:=Int.eq_ofNat_of_zero_le h; rfl
theorem H6 (k:IntKind):jO k k=true:=by cases k <;> rfl
theorem zf (a b:Int):lN a b=decide (a=b):=by rw [sH]; by_cases h:a=b <;> simp [h]
theorem zg (a b:Int):n3 a b=decide (a < b):=ux a b
variable {k:d5} {bS:Option (Bool × Nat)} {ki:IntKind} {x y:Int}
theorem TU {op:BinOp} {v:I}:hN k bS op (.int ki x) v=hg op ki x v:=rfl
theorem VX:hg .add ki x (.int ki y)=some (.int ki (bG ki (x + y))):=by cases ki <;> rfl
theorem VY:hg .sub ki x (.int ki y)=some (.int ki (bG ki (x - y))):=by cases ki <;> rfl
theorem VZ:hg .mul ki x (.int ki y)=some (.int ki (bG ki (x * y))):=by cases ki <;> rfl
theorem V0:hg .and ki x (.int ki y)=some (.int ki (bG ki (.ofNat (Nat.land (modn ki x) (modn ki y))))):=by cases ki <;> rfl
theorem XS:hg .or ki x (.int ki y)=some (.int ki (bG ki (.ofNat (Nat.lor (modn ki x) (modn ki y))))):=by cases ki <;> rfl
theorem V1:hg .xor ki x (.int ki y)=some (.int ki (bG ki (.ofNat (Nat.xor (modn ki x) (modn ki y))))):=by cases ki <;> rfl
theorem V2:hg .eql ki x (.int ki y)=some (.bool (decide (x=y))):=by rw [<- zf]; cases ki <;> rfl
theorem V3:hg .neq ki x (.int ki y)=some (.bool (decide (x≠y))):=by
 have:decide (x≠y)= !lN x y:=by rw [zf]; by_cases h:x=y <;> simp [h]
 rw [this]; cases ki <;> rfl
theorem V4:hg .lss ki x (.int ki y)=some (.bool (decide (x < y))):=by rw [<- zg]; cases ki <;> rfl
theorem V5:hg .gtr ki x (.int ki y)=some (.bool (decide (y < x))):=by rw [<- zg]; cases ki <;> rfl
theorem V6:hg .leq ki x (.int ki y)=some (.bool (decide (x≤y))):=by
 have:decide (x≤y)= !n3 y x:=by rw [zg]; by_cases h:x≤y <;> simp [h] <;> omega
 rw [this]; cases ki <;> rfl
theorem V7:hg .geq ki x (.int ki y)=some (.bool (decide (y≤x))):=by
 have:decide (y≤x)= !n3 x y:=by rw [zg]; by_cases h:y≤x <;> simp [h] <;> omega
 rw [this]; cases ki <;> rfl
theorem V8 {b:Bool}:p6 .not (.bool b)=some (.bool !b):=rfl
theorem V9:p6 .neg (.int ki x)=some (.int ki (bG ki (-x))):=by
 show some (I.int ki (bG ki (Int.sub 0 x)))=_
 rw [show Int.sub 0 x= -x from Int.zero_sub x]
theorem wrap_i64 {n:Int} (J: -9223372036854775808≤n) (O:n < 9223372036854775808):bG .i64 n=n:=by
 cases n with
 | ofNat a=>
  show rl 18446744073709551616 9223372036854775808 (.ofNat a)=_
  have ae:a < 9223372036854775808:=by have:((a:Nat):Int) < 9223372036854775808:=O; omega
  show ap (Nat.blt (a % 18446744073709551616) 9223372036854775808) (Int.ofNat (a % 18446744073709551616)) _=_
  rw [Nat.mod_eq_of_lt (by omega),show Nat.blt a 9223372036854775808=true from (cZ _ _).2 ae]; rfl
 | negSucc a=>
  show ap (Nat.blt (a % 18446744073709551616) 9223372036854775808) (Int.negSucc (a % 18446744073709551616)) _=_
  have ae:a < 9223372036854775808:=by have: -9223372036854775808≤Int.negSucc a:=J; omega
  rw [Nat.mod_eq_of_lt (by omega),show Nat.blt a 9223372036854775808=true from (cZ _ _).2 ae]; rfl
variable {b o n c i:Nat} {hJ:dm} {e:TypeId}
theorem RR:hh (.slice e) E .aE=some (.int .i64 0):=rfl
theorem PN:hh (.slice e) E (.slice b o n hJ)=some (.int .i64 (n:Int)):=rfl
theorem TV {l:List UInt8}:hh .string E (.str l)=some (.int .i64 (l.length:Int)):=rfl
theorem TW {v:I}:hh (.array n e) E v=some (.int .i64 (n:Int)):=rfl
theorem wj (h:i < n):e9 (.slice e) E (.slice b o n hJ) i=some (.ptr b (o + i * au E e)):=by
 show ap (Nat.blt i n) (some (I.ptr b (Nat.add o (Nat.mul i (au E e))))) none=_
 rw [show Nat.blt i n=true from (cZ _ _).2 h]; rfl
theorem PO:gx (.ptr e) bS (.ptr b o) .cA=some false:=rfl
theorem PP:gx (.ptr e) bS .cA .cA=some true:=rfl
theorem pN {t:TypeId} (h:(E.ty t).map (fun i=>i.agg)=some false):∀(H:aa) (b o:Nat),dw E H t b o=cellAt H b o:=by
 intro H b o
 obtain ⟨i,ad,ae⟩:=Option.map_eq_some_iff.1 h
 unfold dw rp; simp only [ad,ae]
theorem sx {t n:Nat} (h:(E.ty t).map (fun i=>(i.agg,i.size))=some (true,n)):∀(H:aa) (b o:Nat),dw E H t b o=(bA H b o n).omap .agg:=by
 intro H b o
 obtain ⟨i,ad,ae⟩:=Option.map_eq_some_iff.1 h
 obtain ⟨ae,U⟩:=Prod.mk.inj ae
 unfold dw rp; simp only [ad,ae,U]
theorem H7 {t:TypeId} (h:(E.ty t).map (fun i=>i.agg)=some false):∀(cs:List I) (o:Nat),ek E t cs o=fy cs o:=by
 intro cs o
 obtain ⟨i,ad,ae⟩:=Option.map_eq_some_iff.1 h
 unfold ek; simp only [ad,ae]
theorem y5 {t n:Nat} (h:(E.ty t).map (fun i=>(i.agg,i.size))=some (true,n)):∀(cs:List I) (o:Nat),ek E t cs o=(cG n (co o cs)).omap .agg:=by
 intro cs o
 obtain ⟨i,ad,ae⟩:=Option.map_eq_some_iff.1 h
 obtain ⟨ae,U⟩:=Prod.mk.inj ae
 unfold ek; simp only [ad,ae,U]
theorem gH {x:bf} {a:Nat}:(aN H b x).m.get a=if a=b then some x else H.m.get a:=bz.jo _ _ _ _
theorem aW {x:bf}:(aN H b x).next=H.next:=rfl
theorem g6 {x:bf} {a:Nat}:(aS H x).2.m.get a=if a=H.next then some x else H.m.get a:=bz.jo _ _ _ _
theorem aT {x:bf}:(aS H x).2.next=H.next + 1:=rfl
end
end
end Go.az
namespace Go.az
noncomputable section
attribute [go_sem] VE Rx VF XA VG Tu VH Tv VI Tw Tx XB VJ VK VL XC XD XE VM VN VO VP Ty Tz XF XG VQ TA aaK Ry Rz XH XI XJ aaL PD PE RA B8 PF PG PH RB RC MS VR VS RD TB TC PI TD RE aaM Bh Nk Oe Of VT RF VU Og XK aaN Oh Nl Nm TE Nn TF TG Oi Oj PJ TH XL XM XN XO TI TJ TK TL Ok VW TM XR RI XP XQ RG RH RJ TN TO RK RL RM RN RO TP TQ PK PL TR TS PM RP RQ IL y4 TT B9 TU VX VY VZ V0 XS V1 V2 V3 V4 V5 V6 V7 V8 V9 RR PN TV TW PO PP zd
def aY (v:I):Nat:=match v with | .slice b _ _ _=>b | _=>0
def fg (v:I):Nat:=match v with | .slice _ o _ _=>o | _=>0
def s5 (v:I) (n:Nat):Prop:=(v= .aE /\ n=0)∨∃b o c,v= .slice b o n c
theorem s5.len {E:Env} {v:I} {n:Nat} {e:TypeId} (h:s5 v n):hh (.slice e) E v=some (.int .i64 n):=by
 rcases h with ⟨rfl,rfl⟩ | ⟨b,o,c,rfl⟩ <;> rfl
theorem s5.idx {E:Env} {v:I} {n i:Nat} {e:TypeId} (h:s5 v n) (ad:i < n):e9 (.slice e) E v i=some (.ptr (aY v) (fg v + i * au E e)):=by
 rcases h with ⟨rfl,rfl⟩ | ⟨b,o,c,rfl⟩
 ·
  omega
 ·
  exact wj ad
end
end Go.az
namespace Go.az
noncomputable section
def mA:List I -> Nat -> ca -> ca
 | [],_,G=>G
 | x :: l,i,G=>mA l (i + 1) (G.put x i)
theorem RS {i:Nat} {G:ca}:mA [] i G=G:=rfl
theorem PQ {x:I} {l:List I} {i:Nat} {G:ca}:mA (x :: l) i G=mA l (i + 1) (G.put x i):=rfl
theorem Bj {N:Nat}:∀ {l:List I} {i:Nat} {G:ca},i + l.length≤N -> nF (c8 N) l i ⟨.nil,G⟩=⟨.nil,mA l i G⟩
 | [],_,_,_=>rfl
 | x :: l,i,G,h=>by
  rw [Gr]
  have aQ:i + (l.length + 1)≤N:=h
  have:a'.put (c8 N) ⟨.nil,G⟩ x i=⟨.nil,G.put x i⟩:=by
   unfold a'.put; rw [ue (by omega)]; rfl
  rw [this,Bj (by omega)]; rfl
theorem Ol {P:Program} {dP:FuncId -> Bool} {f:FuncId} (hw:dP f=true) {H:aa} {K:I -> aa -> Prop} (h:K (.bool true) H):ic (g_ P dP) (.func f [] []) [] H K:=by
 refine ⟨1,.bool true,H,fun m hm=> ?_,h⟩
 obtain ⟨m,rfl⟩:∃bY,m=bY + 1:=⟨m - 1,by omega⟩
 show (sR (g_ P dP) f).f m _ (cb [] (cb [] [])) H=_
 unfold sR
 have:(g_ P dP).sum f=some fun as H=>match as with | []=>some (I.bool true,H) | _=>none:=by
  show ap (dP f) _ none=_
  rw [hw]; rfl
 rw [this]; rfl
def jz (E:Env) (G:ca) (H:aa):List ResultVar -> Option (List I)
 | []=>some []
 | .tmp t :: l=>(G.get t).ac fun v=>(jz E G H l).omap (v :: ·)
 | .cell a t :: l=>(G.get a).ac fun p=>(ec p).ac fun q=>(dw E H t q.1 q.2).ac fun v=>(jz E G H l).omap (v :: ·)
theorem RT {E:Env} {G:ca} {H:aa}:jz E G H []=some []:=rfl
theorem H8 {E:Env} {G:ca} {H:aa} {t:Nat} {l:List ResultVar}:jz E G H (.tmp t :: l)=(G.get t).ac fun v=>(jz E G H l).omap (v :: ·):=rfl
theorem Hf {E:Env} {G:ca} {H:aa} {a t:Nat} {l:List ResultVar}:jz E G H (.cell a t :: l)=(G.get a).ac fun p=>(ec p).ac fun q=>(dw E H t q.1 q.2).ac fun v=>(jz E G H l).omap (v :: ·):=rfl
def FF (E:Env) (l:List ResultVar) (K:I -> aa -> Prop) (e:bu) (s:an):Prop:=pV e=false /\ s.T.L= .nil /\ bl (jz E s.T.G s.H l) (s4 K s.H)
theorem aaO {E:Env} {l:List ResultVar} {K:I -> aa -> Prop} {G:ca} {H:aa}:FF E l K .ret ⟨⟨.nil,G⟩,H⟩=bl (jz E G H l) (s4 K H):=propext ⟨fun h=>h.2.2,fun h=>⟨rfl,rfl,h⟩⟩
theorem aaP {E:Env} {l:List ResultVar} {K:I -> aa -> Prop} {G:ca} {H:aa}:FF E l K .normal ⟨⟨.nil,G⟩,H⟩=bl (jz E G H l) (s4 K H):=propext ⟨fun h=>h.2.2,fun h=>⟨rfl,rfl,h⟩⟩
theorem V_ {K:I -> aa -> Prop} {H:aa}:s4 K H []=K (.tuple []) H:=rfl
theorem V' {K:I -> aa -> Prop} {H:aa} {v:I}:s4 K H [v]=K v H:=rfl
theorem Wa {K:I -> aa -> Prop} {H:aa} {v u:I} {l:List I}:s4 K H (v :: u :: l)=K (.tuple (v :: u :: l)) H:=rfl
theorem zr {E:Env} {N:Nat} {G:ca} {H:aa}:∀ {l:List ResultVar},(∀r∈l,match r with | .tmp t=>t < N | .cell a _=>a < N) -> h0 E (c8 N) ⟨.nil,G⟩ H l=jz E G H l
 | [],_=>rfl
 | .tmp t :: l,h=>by
  show (a'.get (c8 N) ⟨.nil,G⟩ t).ac _=_
  rw [B8 (h (.tmp t) (by simp)),H8]
  exact congrArg _ (funext fun v=>congrArg _ (zr fun r af=>h r (by simp [af])))
 | .cell a t :: l,h=>by
  show (a'.get (c8 N) ⟨.nil,G⟩ a).ac _=_
  rw [B8 (h (.cell a t) (by simp)),Hf]
  refine congrArg _ (funext fun p=>congrArg _ (funext fun q=>congrArg _ (funext fun v=>congrArg _ (zr fun r af=>h r (by simp [af])))))
def Du (N:Nat) (l:List ResultVar):Bool:=l.all fun r=>match r with | .tmp t=>Nat.blt t N | .cell a _=>Nat.blt a N
theorem kQ {E:Env} (bo:m6 E) {fid:FuncId} {N M:Nat} (c:Code):∀ {s:an} {K cI:bu -> an -> Prop},ds E fid N M c s K -> (∀e s,K e s -> cI e s) -> ds E fid N M c s cI:=by
 induction c with
 | skip=>intro s K cI h k; exact k _ _ h
 | region id ops draw=>
  intro s K cI h k
  cases draw with
  | false=>exact pG bo (K:=i5 K) (fun s=>k _ s) h
  | true=>
   have h:=show kr E N M ops.toList ⟨⟨.nil,s.T.G⟩,s.H⟩ (i5 K) from h
   show kr E N M ops.toList ⟨⟨.nil,s.T.G⟩,s.H⟩ (i5 cI)
   unfold kr at h ⊢
   split at h
   case h_2=>
    refine ⟨h.1,?_⟩
    have h:=h.2
    have adr:∀ {l:List Oper} {s:an} {acc:List an} {K cI:List an -> Prop},(∀t,K t -> cI t) -> gX E N M ops.toList l s acc K -> gX E N M ops.toList l s acc cI:=by
     intro l
     induction l with
     | nil=>intro s acc K cI k h; exact k _ h
     | cons o l aH=>
      intro s acc K cI k h
      refine fO h fun b h=> ?_
      cases b with
      | false=>exact lp (show dI N M s.T o.dst (fun s'=>gX E N M ops.toList l s' (s :: acc) K) .undef s.H from h) fun s h=>aH k h
      | true=>exact wpOp_mono bo (show wpOp E N M o s (fun s'=>gX E N M ops.toList l s' (s :: acc) K) from h) fun s h=>aH k h
    cases ah:loose E ops.toList with
    | nil=>rw [ah] at h; exact pG bo (K:=i5 K) (fun s=>k _ s) h
    | cons p l=>rw [ah] at h; exact adr (fun t bh=>⟨bh.1,k _ _ bh.2⟩) h
   obtain ⟨J,O⟩:=h
   refine ⟨J,?_⟩
   have ads:∀ {l:List Oper} {id:Nat} {s:an} {acc:List an} {K cI:List an -> Prop},(∀t,K t -> cI t) -> m' E N M ops.toList l id s acc K -> m' E N M ops.toList l id s acc cI:=by
    intro l
    induction l with
    | nil=>intro id s acc K cI k h; exact k _ h
    | cons o l aH=>
     intro id s acc K cI k h
     refine fO h fun b h=> ?_
     cases b with
     | false=>exact lp (show dI N M s.T o.dst (fun s'=>m' E N M ops.toList l (Nat.succ id) s' (s :: acc) K) .undef s.H from h) fun s h=>aH k h
     | true=>
      have h:=(show p1 E N M id o s (fun s'=>m' E N M ops.toList l (Nat.succ id) s' (s :: acc) K) from h)
      refine (show p1 E N M id o s (fun s'=>m' E N M ops.toList l (Nat.succ id) s' (s :: acc) cI) from ?_)
      unfold p1 at h ⊢
      split at h
      ·
       exact ⟨h.1,fO h.2 fun _ h=>lp h fun s h=>aH k h⟩
      ·
       exact wpOp_mono bo h fun s h=>aH k h
   exact ads (fun t h=>⟨h.1,k _ _ h.2⟩) O
 | seq a b gr cH=>
  intro s K cI h k
  refine gr (K:=rI (ds E fid N M b) K) h fun e s h=> ?_
  cases e with
  | normal=>exact cH h k
  | exit i=>exact k _ _ h
  | ret=>exact k _ _ h
 | cond c a b gr cH=>
  intro s K cI h k
  refine fO h fun v h=>fO h fun t h=> ?_
  cases t with
  | true=>exact gr h k
  | false=>exact cH h k
 | block id b cH=>intro s K cI h k; exact cH (K:=nP id K) h fun e s h=>k _ _ h
 | loop b cH=>
  intro s K cI h k
  obtain ⟨cX,m,aD,c'⟩:=h
  refine ⟨cX,m,aD,fun m s aG=>cH (c' m s aG) fun e s h=> ?_⟩
  cases e with
  | normal=>exact h
  | exit i=>exact k _ _ h
  | ret=>exact k _ _ h
 | rangeFunc f ps a b gr cH=>intro s K cI h k; exact fO h fun gq h=>bo _ _ _ _ _ h fun _ _ h=>fO h fun _=>k _ _
 | exit i=>intro s K cI h k; exact k _ _ h
 | scope b cH=>intro s K cI h k; exact cH h k
 | label l=>intro s K cI h k; exact k _ _ h
 | goto l=>intro s K cI h k; cases h
 | ret=>intro s K cI h k; exact k _ _ h
 | refuse As=>intro s K cI h k; cases h
theorem enter {P:Program} {dP:FuncId -> Bool} {f:FuncId} {fn:Func} {c:Code} {bI bN as:List I} {H:aa} {K:I -> aa -> Prop} {N:Nat} {l:List ResultVar} (hw:dP f=false) (ao:(g_ P dP).fn f=some fn) (U:fn.body=some c) (b4:fn.ntmps=N) (af:fn.results=l.toArray)
 (ah:Nat.ble (cb bI (cb as bN)).length N=true) (jd:Du N l=true) (h:ds (g_ P dP) f N (c8 N) c ⟨⟨.nil,mA (cb bI (cb as bN)) 0 .nil⟩,H⟩ (FF (g_ P dP) l K)):ic (g_ P dP) (.func f bI bN) as H K:=by
 have hm:(g_ P dP).mask fn=c8 N:=by rw [<- b4]; rfl
 refine H5 rfl (by show ap (dP f) _ none=none; rw [hw]; rfl) ao U (by rw [eQ,b4]; exact ah) ?_
 rw [hm,b4,Bj (by have:=de.1 ah; omega)]
 refine kQ (kh rfl) c h ?_
 rintro e ⟨⟨L,G⟩,H'⟩ ⟨J,O,ag⟩
 obtain rfl:L= .nil:=O
 refine ⟨J,?_⟩
 rw [hm,af]
 show bl (h0 (g_ P dP) (c8 N) ⟨.nil,G⟩ H' l.toArray.toList) _
 have DZ:∀r∈l,match r with | .tmp t=>t < N | .cell a _=>a < N:=by
  intro r af
  have:=List.all_eq_true.1 jd r af
  cases r with
  | tmp t=>exact (cZ _ _).1 this
  | cell a t=>exact (cZ _ _).1 this
 rw [List.toList_toArray,zr DZ]
 exact ag
def ET (cX:Nat -> ca -> aa -> Prop) (m:Nat) (K:bu -> an -> Prop) (e:bu) (s:an):Prop:=match e with | .normal=>s.T.L= .nil /\ ∃bY,bY < m /\ cX bY s.T.G s.H | e=>K e s
theorem XT {cX:Nat -> ca -> aa -> Prop} {m:Nat} {K:bu -> an -> Prop} {G:ca} {H:aa}:ET cX m K .normal ⟨⟨.nil,G⟩,H⟩=∃bY,bY < m /\ cX bY G H:=propext ⟨fun h=>h.2,fun h=>⟨rfl,h⟩⟩
theorem XU {cX:Nat -> ca -> aa -> Prop} {m i:Nat} {K:bu -> an -> Prop} {s:an}:ET cX m K (.exit i) s=K (.exit i) s:=rfl
theorem XV {cX:Nat -> ca -> aa -> Prop} {m:Nat} {K:bu -> an -> Prop} {s:an}:ET cX m K .ret s=K .ret s:=rfl
theorem PR {l:List I}:cb [] l=l:=rfl
theorem Om {x:I} {l r:List I}:cb (x :: l) r=x :: cb l r:=rfl
attribute [go_sem] true_and and_true RS PQ RT H8 Hf aaO aaP V_ V' Wa XT XU XV PR Om
end
end Go.az
namespace Go.az
noncomputable section
section
variable {E:Env} {N M:Nat} {T:a'} {H:aa} {k:d5} {bS:Option (Bool × Nat)} {e:TypeId} {op:BinOp} {x y v:I} {b o n gQ ot:Nat} {c:dm}
def ym (b:Bool) (v:I):Bool:=bQ (e_ v) false fun cv=>kT cv b
def Dv (M:Nat) (T:a') (b:Bool) (o:Option Oper):Option Bool:=match o.bind (·.dst) with | some d=>(a'.get M T d).omap (ym b) | none=>some false
theorem On {all:List Oper} {g:Nat} {b:Bool}:mc M all T (g,b)=Dv M T b all[g]? :=by
 unfold mc wc Dv
 cases (all[g]?).bind (·.dst) <;> rfl
theorem Oo {d:Tmp} {op:Op} {t:TypeId} {p:String} {a:Array Edge} {g:Option (Nat × Bool)} {b:Bool}:Dv M T b (some ⟨some d,op,t,p,a,g⟩)=(a'.get M T d).omap (ym b):=rfl
theorem aaQ {b:Bool}:ym true (.bool b)=b:=by cases b <;> rfl
theorem aaR {b:Bool}:ym false (.bool b)= !b:=by cases b <;> rfl
theorem aaS {b:Bool}:ym b .undef=false:=rfl
theorem RU:hN (.ptr e) bS op .cA y=m8 op (gx (.ptr e) bS .cA y):=rfl
theorem TX:hN (.ptr e) bS op (.ptr b o) y=m8 op (gx (.ptr e) bS (.ptr b o) y):=rfl
theorem RV:hN (.slice e) bS op .aE y=m8 op (gx (.slice e) bS .aE y):=rfl
theorem PS:hN (.slice e) bS op (.slice b o n c) y=m8 op (gx (.slice e) bS (.slice b o n c) y):=rfl
theorem RW {b:Bool}:hN .bool bS op (.bool b) y=m8 op (gx .bool bS (.bool b) y):=rfl
theorem TY {l:List I}:hN k bS op (.agg l) y=m8 op (gx k bS (.agg l) y):=rfl
theorem RX {f:FuncId} {l r:List I}:hN .func bS op (.func f l r) y=m8 op (gx .func bS (.func f l r) y):=rfl
theorem TZ {l r:List UInt8}:hN k bS op (.str l) (.str r)=wY op l r:=rfl
theorem Wb {b:Bool}:m8 .eql (some b)=some (.bool b):=rfl
theorem Wc {b:Bool}:m8 .neq (some b)=some (.bool !b):=rfl
theorem XW:gx (.ptr e) bS .cA (.ptr b o)=some false:=rfl
theorem XX:gx (.slice e) bS (.slice b o n c) .aE=some false:=rfl
theorem XY:gx (.slice e) bS .aE (.slice b o n c)=some false:=rfl
theorem XZ:gx (.slice e) bS .aE .aE=some true:=rfl
theorem X0 {b cv:Bool}:gx .bool bS (.bool b) (.bool cv)=some (b==cv):=by
 show some (kT b cv)=_; rw [oD]
theorem X1 {f:FuncId} {l r:List I}:gx .func bS (.func f l r) .dj=some false:=rfl
theorem Wd {l r:List UInt8}:wY .eql l r=some (.bool (decide (l=r))):=by
 show some (I.bool (rm l r))=_; rw [sv]; congr 2; by_cases h:l=r <;> simp [h]
theorem We {l r:List UInt8}:wY .neq l r=some (.bool (decide (l≠r))):=by
 show some (I.bool (!rm l r))=_; rw [sv]; congr 2; by_cases h:l=r <;> simp [h]
theorem PT {l:List I}:fy (x :: l) 0=some x:=rfl
theorem PU {l:List I} {i:Nat}:fy (x :: l) (i + 1)=fy l i:=rfl
theorem aaT {α:Type} {x y:α}:ap true x y=x:=rfl
theorem aaU {α:Type} {x y:α}:ap false x y=y:=rfl
theorem No {da:List (Nat × TypeId)} {f:Nat}:kS (.struct da) f=da[f]? :=rfl
theorem aaV {a b:Nat}:Nat.add a b=a + b:=rfl
theorem aaW {a b:Nat}:Nat.mul a b=a * b:=rfl
theorem aaX {a b:Nat}:Nat.sub a b=a - b:=rfl
theorem T0 {da:List (Nat × TypeId)}:re (.struct da)=true:=rfl
theorem T1:re (.array n e)=true:=rfl
end
attribute [go_sem] On Oo aaQ aaR aaS RU TX RV PS RW TY RX TZ Wb Wc XW XX XY XZ X0 X1 Wd We PT PU aaT aaU No aaV aaW aaX T0 T1 decide_true decide_false ne_eq not_true_eq_false not_false_eq_true List.getElem?_cons_succ List.getElem?_cons_zero Bool.not_true Bool.not_false Option.map_some Option.bind_some
end
end Go.az
namespace Go.az
noncomputable section
section
variable {E:Env} {M:Nat} {T:a'} {H:aa} {b o n m:Nat} {l new:List I} {e:TypeId} {x:Bool} {v u:I} {k:IntKind}
theorem CF {a b:Nat}:Nat.blt a b=decide (a < b):=by
 by_cases h:a < b
 ·
  rw [(cZ _ _).2 h]; simp [h]
 ·
  rw [Bool.eq_false_iff.2 fun k=>h ((cZ _ _).1 k)]; simp [h]
theorem uq {a b:Nat}:Nat.ble a b=decide (a≤b):=by
 by_cases h:a≤b
 ·
  rw [de.2 h]; simp [h]
 ·
  rw [Bool.eq_false_iff.2 fun k=>h (de.1 k)]; simp [h]
theorem pT {a b:Nat}:Nat.beq a b=decide (a=b):=by
 by_cases h:a=b
 ·
  subst h; rw [Nat.beq_refl]; simp
 ·
  rw [Bool.eq_false_iff.2 fun k=>h (Nat.eq_of_beq_eq_true k)]; simp [h]
def rj (o:Nat) (y:bf):Option I:=(kf y).ac fun c=>(fy c.1 o).ac (sX c.2.2.2)
def m4 (o n:Nat) (y:bf):Option (List I):=(kf y).ac fun c=>(cG n (co o c.1)).ac (mz c.2.2.2)
def hi (H:aa) (b o:Nat) (new:List I) (y:bf):Option aa:=(kf y).ac fun c=>Dl H b o new c
theorem lo:cellAt H b o=(H.m.get b).ac (rj o):=rfl
theorem oA:bA H b o n=ap (Nat.beq n 0) (some []) ((H.m.get b).ac (m4 o n)):=rfl
theorem g4:bT H b o new=(H.m.get b).ac (hi H b o new):=rfl
theorem pO:rj o (.cells l e x true)=fy l o:=by
 show (fy l o).ac (sX true)=_
 cases fy l o <;> rfl
theorem sy:m4 o n (.cells l e x true)=cG n (co o l):=by
 show (cG n (co o l)).ac (mz true)=_
 cases cG n (co o l) <;> rfl
theorem hM:hi H b o new (.cells l e x true)=ap (br new) ((dC new o l).omap fun l'=>aN H b (.cells l' e x true)) none:=rfl
theorem Oq:br []=true:=rfl
theorem eb:br (v :: l)=ap (b2 v) (br l) false:=rfl
theorem X2 {n:Int}:b2 (.int k n)=true:=rfl
theorem X3 {b:Bool}:b2 (.bool b)=true:=rfl
theorem T2 {s:List UInt8}:b2 (.str s)=true:=rfl
theorem Wf:b2 .cA=true:=rfl
theorem X4:b2 (.ptr b o)=true:=rfl
theorem Wg:b2 .aE=true:=rfl
theorem X5 {c:dm}:b2 (.slice b o n c)=true:=rfl
theorem Wh:b2 .dj=true:=rfl
theorem X6 {f:FuncId} {a c:List I}:b2 (.func f a c)=true:=rfl
theorem X7:b2 (.yield n)=true:=rfl
theorem Wi:b2 .dK=true:=rfl
theorem RY:br l=true -> br new=true -> br (l ++ new)=true:=by
 induction l with
 | nil=>exact fun _ h=>h
 | cons y l aH=>
  intro J O
  have J:=show ap (b2 y) (br l) false=true from J
  show ap (b2 y) (br (l ++ new)) false=true
  cases aj:b2 y with
  | true=>rw [aj] at J; exact aH J O
  | false=>rw [aj] at J; cases J
theorem CG:co 0 l=l:=rfl
theorem T3:co (n + 1) (v :: l)=co n l:=rfl
theorem T4:cG 0 l=some []:=rfl
theorem T5:cG (n + 1) (v :: l)=(cG n l).omap (v :: ·):=rfl
theorem Hg (h:l.length=n):cG n l=some l:=by rw [fL,if_pos (by omega),<- h,List.take_length]
theorem B' (h:l.length=new.length):dC new 0 l=some new:=by rw [uo,if_pos ⟨Nat.zero_le _,by omega⟩]; simp [h]
theorem T6:dC [v] 0 (u :: l)=some (v :: l):=by rfl
theorem Wj:dC new (n + 1) (u :: l)=(dC new n l).omap (u :: ·):=rfl
theorem kP (h:o < l.length):dC [v] o l=some (l.set o v):=by
 rw [uo,if_pos ⟨by omega,by simp; omega⟩]
 congr 1
 rw [List.set_eq_take_append_cons_drop,if_pos h]; rfl
theorem PV:(I.agg l).cells=l:=rfl
theorem T7 {n:Int}:(I.int k n).cells= [.int k n]:=rfl
theorem T8 {b:Bool}:(I.bool b).cells= [.bool b]:=rfl
theorem PW {s:List UInt8}:(I.str s).cells= [.str s]:=rfl
theorem RZ:I.cA.cells= [.cA]:=rfl
theorem T9:(I.ptr b o).cells= [.ptr b o]:=rfl
theorem R0:I.aE.cells= [.aE]:=rfl
theorem T_ {c:dm}:(I.slice b o n c).cells= [.slice b o n c]:=rfl
theorem R1:I.dj.cells= [.dj]:=rfl
theorem Ua {f:FuncId} {a c:List I}:(I.func f a c).cells= [.func f a c]:=rfl
theorem Ub:(I.yield n).cells= [.yield n]:=rfl
def dW (H:aa) (n:Nat) (p x:I):Option (I × aa):=(ec p).ac fun q=>ap (Nat.beq (bJ x.cells) n) ((bT H q.1 q.2 x.cells).omap fun H=>(.undef,H)) none
theorem kj {t n:Nat} (h:(E.ty t).map (fun i=>i.size)=some n):∀(H:aa) (p x:I),gu E H t p x=dW H n p x:=by
 intro H p x
 obtain ⟨i,ad,ae⟩:=Option.map_eq_some_iff.1 h
 subst ae
 unfold gu; rw [ad]; rfl
theorem l8 (h:v.cells= [u]):dW H 1 (.ptr b o) v=(bT H b o [u]).omap fun H=>(.undef,H):=by
 show ap (Nat.beq (bJ v.cells) 1) ((bT H b o v.cells).omap fun H=>(I.undef,H)) none=_
 rw [h]; rfl
theorem R2 {n:Int}:dW H 1 (.ptr b o) (.int k n)=(bT H b o [.int k n]).omap fun H=>(.undef,H):=rfl
theorem R3 {c:Bool}:dW H 1 (.ptr b o) (.bool c)=(bT H b o [.bool c]).omap fun H=>(.undef,H):=rfl
theorem Ot {s:List UInt8}:dW H 1 (.ptr b o) (.str s)=(bT H b o [.str s]).omap fun H=>(.undef,H):=rfl
theorem PX:dW H 1 (.ptr b o) .cA=(bT H b o [.cA]).omap fun H=>(.undef,H):=rfl
theorem R4 {c d:Nat}:dW H 1 (.ptr b o) (.ptr c d)=(bT H b o [.ptr c d]).omap fun H=>(.undef,H):=rfl
theorem PY:dW H 1 (.ptr b o) .aE=(bT H b o [.aE]).omap fun H=>(.undef,H):=rfl
theorem R5 {c d n:Nat} {hJ:dm}:dW H 1 (.ptr b o) (.slice c d n hJ)=(bT H b o [.slice c d n hJ]).omap fun H=>(.undef,H):=rfl
theorem PZ:dW H 1 (.ptr b o) .dj=(bT H b o [.dj]).omap fun H=>(.undef,H):=rfl
theorem R6 {f:FuncId} {a c:List I}:dW H 1 (.ptr b o) (.func f a c)=(bT H b o [.func f a c]).omap fun H=>(.undef,H):=rfl
theorem R7 (h:l.length=n):dW H n (.ptr b o) (.agg l)=(bT H b o l).omap fun H=>(.undef,H):=by
 show ap (Nat.beq (bJ l) n) ((bT H b o l).omap fun H=>(I.undef,H)) none=_
 rw [eQ,h,Nat.beq_refl]; rfl
theorem Wk {pl:Nat -> Option (Nat × Nat)}:dV M pl T [] l=some l:=rfl
def ix (v:I) (l:List I) (r:List I -> Option (List I)) (q:Nat × Nat):Option (List I):=ap (Nat.beq (bJ v.cells) q.2) ((dC v.cells q.1 l).ac r) none
theorem IM {pl:Nat -> Option (Nat × Nat)} {i:Nat} {p:Operand} {ps:List (Nat × Operand)}:dV M pl T ((i,p) :: ps) l=(pl i).ac fun q=>(aK M p T).ac fun v=>ix v l (dV M pl T ps) q:=by
 show (pl i).ac (fun q=>(aK M p T).ac fun v=>match Nat.beq (bJ v.cells) q.2 with | true=>(dC v.cells q.1 l).ac (dV M pl T ps) | false=>none)=_
 congr 1; funext q; congr 1; funext v
 unfold ix
 cases Nat.beq (bJ v.cells) q.2 <;> rfl
theorem yZ {r:List I -> Option (List I)} (h:v.cells= [u]):ix v l r (o,1)=(dC [u] o l).ac r:=by
 unfold ix; rw [h]; rfl
theorem R8 {r:List I -> Option (List I)} {n:Int}:ix (.int k n) l r (o,1)=(dC [.int k n] o l).ac r:=rfl
theorem R9 {r:List I -> Option (List I)} {c:Bool}:ix (.bool c) l r (o,1)=(dC [.bool c] o l).ac r:=rfl
theorem P0 {r:List I -> Option (List I)}:ix .cA l r (o,1)=(dC [.cA] o l).ac r:=rfl
theorem R_ {r:List I -> Option (List I)} {c d:Nat}:ix (.ptr c d) l r (o,1)=(dC [.ptr c d] o l).ac r:=rfl
theorem P1 {r:List I -> Option (List I)}:ix .aE l r (o,1)=(dC [.aE] o l).ac r:=rfl
theorem R' {r:List I -> Option (List I)} {c d n:Nat} {hJ:dm}:ix (.slice c d n hJ) l r (o,1)=(dC [.slice c d n hJ] o l).ac r:=rfl
theorem Ou {r:List I -> Option (List I)} {s:List UInt8}:ix (.str s) l r (o,1)=(dC [.str s] o l).ac r:=rfl
theorem Sa {r:List I -> Option (List I)} {f:FuncId} {a c:List I}:ix (.func f a c) l r (o,1)=(dC [.func f a c] o l).ac r:=rfl
theorem P2 {a0 bI:I} {r:List I -> Option (List I)}:ix (.agg [a0,bI]) l r (o,2)=(dC [a0,bI] o l).ac r:=rfl
theorem P3 {a0 bI:I}:dW H 2 (.ptr b o) (.agg [a0,bI])=(bT H b o [a0,bI]).omap fun H=>(.undef,H):=rfl
theorem P4 {a0 bI bN:I} {r:List I -> Option (List I)}:ix (.agg [a0,bI,bN]) l r (o,3)=(dC [a0,bI,bN] o l).ac r:=rfl
theorem P5 {a0 bI bN:I}:dW H 3 (.ptr b o) (.agg [a0,bI,bN])=(bT H b o [a0,bI,bN]).omap fun H=>(.undef,H):=rfl
theorem P6 {a0 bI bN dG:I} {r:List I -> Option (List I)}:ix (.agg [a0,bI,bN,dG]) l r (o,4)=(dC [a0,bI,bN,dG] o l).ac r:=rfl
theorem P7 {a0 bI bN dG:I}:dW H 4 (.ptr b o) (.agg [a0,bI,bN,dG])=(bT H b o [a0,bI,bN,dG]).omap fun H=>(.undef,H):=rfl
theorem P8 {a0 bI bN dG gh:I} {r:List I -> Option (List I)}:ix (.agg [a0,bI,bN,dG,gh]) l r (o,5)=(dC [a0,bI,bN,dG,gh] o l).ac r:=rfl
theorem P9 {a0 bI bN dG gh:I}:dW H 5 (.ptr b o) (.agg [a0,bI,bN,dG,gh])=(bT H b o [a0,bI,bN,dG,gh]).omap fun H=>(.undef,H):=rfl
theorem P_ {a0 bI bN dG gh hH:I} {r:List I -> Option (List I)}:ix (.agg [a0,bI,bN,dG,gh,hH]) l r (o,6)=(dC [a0,bI,bN,dG,gh,hH] o l).ac r:=rfl
theorem P' {a0 bI bN dG gh hH:I}:dW H 6 (.ptr b o) (.agg [a0,bI,bN,dG,gh,hH])=(bT H b o [a0,bI,bN,dG,gh,hH]).omap fun H=>(.undef,H):=rfl
theorem Qa {a0 bI bN dG gh hH ow:I} {r:List I -> Option (List I)}:ix (.agg [a0,bI,bN,dG,gh,hH,ow]) l r (o,7)=(dC [a0,bI,bN,dG,gh,hH,ow] o l).ac r:=rfl
theorem Qb {a0 bI bN dG gh hH ow:I}:dW H 7 (.ptr b o) (.agg [a0,bI,bN,dG,gh,hH,ow])=(bT H b o [a0,bI,bN,dG,gh,hH,ow]).omap fun H=>(.undef,H):=rfl
theorem Qc {a0 bI bN dG gh hH ow yn:I} {r:List I -> Option (List I)}:ix (.agg [a0,bI,bN,dG,gh,hH,ow,yn]) l r (o,8)=(dC [a0,bI,bN,dG,gh,hH,ow,yn] o l).ac r:=rfl
theorem Qd {a0 bI bN dG gh hH ow yn:I}:dW H 8 (.ptr b o) (.agg [a0,bI,bN,dG,gh,hH,ow,yn])=(bT H b o [a0,bI,bN,dG,gh,hH,ow,yn]).omap fun H=>(.undef,H):=rfl
theorem Uc:nH [] l=some l:=rfl
theorem Ud:nH (v :: new) (u :: l)=(nH new l).omap (v :: ·):=rfl
theorem Ue:dC (v :: new) 0 (u :: l)=(nH new l).omap (v :: ·):=rfl
theorem aaY {da:List (Nat × TypeId)} {i:Nat}:kU (.struct da) E i=(da[i]?).omap fun p=>(p.1,au E p.2):=rfl
theorem aaZ {i:Nat}:kU (.array n e) E i=some (Nat.mul i (au E e),au E e):=rfl
theorem yY (h:o + new.length≤l.length):dC new o l=some (l.take o ++ (new ++ l.drop (o + new.length))):=by
 rw [uo,if_pos ⟨by omega,by omega⟩]
theorem Ca:∀(n:Nat) (l:List I),cR n l=(List.replicate n l).flatten
 | 0,_=>rfl
 | n + 1,l=>by
  show cb l (cR n l)=_
  rw [eZ,Ca n l,List.replicate_succ,List.flatten_cons]
theorem Uf:cR n [v]=List.replicate n v:=by
 rw [Ca]; induction n with
 | zero=>rfl
 | succ n aH=>rw [List.replicate_succ,List.flatten_cons,aH,List.replicate_succ]; rfl
theorem X8:cR 0 l= []:=rfl
theorem X9:cR 1 l=l:=by rw [Ca]; simp
theorem Qe {bS:Option (Bool × Nat)} {y z:I}:gx (.array n e) bS y z=oR bS y z:=rfl
theorem Qf {bS:Option (Bool × Nat)} {da:List (Nat × TypeId)} {y z:I}:gx (.struct da) bS y z=oR bS y z:=rfl
theorem MT {l r:List Int} {jK:List IntKind} (ah:jK.length=l.length) (af:jK.length=r.length):hd false (List.zipWith .int jK l) (List.zipWith .int jK r)=some (decide (l=r)):=by
 induction jK generalizing l r with
 | nil=>
  cases l <;> cases r <;> first | rfl | (simp at ah af; done) | (simp at ah; done)
 | cons k jK aH=>
  cases l with
  | nil=>simp at ah
  | cons a l=>
   cases r with
   | nil=>simp at af
   | cons c r=>
    show (oF false (.int k a) (.int k c)).ac (fun q=>(hd false (List.zipWith .int jK l) (List.zipWith .int jK r)).omap fun b=>q && b)=_
    rw [aH (by simpa using ah) (by simpa using af)]
    have:oF false (.int k a) (.int k c)=some (decide (a=c)):=by
     show ap (jO k k) (some (lN a c)) none=_
     rw [H6,zf]; rfl
    rw [this]
    show some (decide (a=c) && decide (l=r))=_
    congr 1
    by_cases J:a=c <;> by_cases O:l=r <;> simp [J,O]
theorem MU {l r:List Int} (h:l.length=r.length):hd false (l.map (.int k)) (r.map (.int k))=some (decide (l=r)):=by
 have e:∀(l:List Int) n,n=l.length -> l.map (I.int k)=List.zipWith .int (List.replicate n k) l:=by
  intro l
  induction l with
  | nil=>intro n ar; subst ar; rfl
  | cons a l aH=>intro n ar; subst ar; rw [List.length_cons,List.replicate_succ,List.map_cons,List.zipWith_cons_cons,<- aH _ rfl]
 rw [e l l.length rfl,e r l.length h]
 exact MT (by simp) (by simpa using h)
theorem NI {l r:List Int} (ah:l.length=n) (af:r.length=n):oR (some (false,n)) (.agg (l.map (.int k))) (.agg (r.map (.int k)))=some (decide (l=r)):=by
 show ap (Nat.beq (bJ (l.map (I.int k))) n) (hd false (l.map (.int k)) (r.map (.int k))) none=_
 rw [eQ,List.length_map,ah,Nat.beq_refl]
 exact MU (ah.trans af.symm)
structure eK (base:Nat) (H H':aa):Prop where
 nx:H.next≤H'.next
 get:∀a,a < base -> H'.m.get a=H.m.get a
 je:∃l,H'.log=l ++ H.log /\ ∀a∈l,base≤a
theorem eK.refl (base:Nat) (H:aa):eK base H H:=⟨Nat.le_refl _,fun _ _=>rfl,[],rfl,by simp⟩
theorem eK.trans {base:Nat} {H H' dF:aa} (h:eK base H H') (k:eK base H' dF):eK base H dF:=by
 obtain ⟨l,J,O⟩:=h.je
 obtain ⟨l',ag,aP⟩:=k.je
 exact ⟨Nat.le_trans h.1 k.1,fun a ae=>(k.2 a ae).trans (h.2 a ae),l' ++ l,by rw [ag,J,List.append_assoc],fun a ae=>(List.mem_append.1 ae).elim (aP a) (O a)⟩
theorem eK.mono {base:Nat} {H H':aa} (h:eK base H H') {w5:Nat} (U:w5≤base):eK w5 H H':=by
 obtain ⟨l,J,O⟩:=h.je
 exact ⟨h.1,fun a ae=>h.2 a (by omega),l,J,fun a ae=>Nat.le_trans U (O a ae)⟩
theorem eK.ce {base:Nat} {H H':aa} (h:eK base H H') (U:base≤H'.next) (y:bf):eK base H (aS H' y).2:=by
 obtain ⟨l,J,O⟩:=h.je
 exact ⟨Nat.le_succ_of_le h.1,fun a ae=>by rw [g6,if_neg (by omega)]; exact h.2 a ae,H'.next :: l,by show H'.next :: H'.log=_; rw [J]; rfl,fun a ae=>(List.mem_cons.1 ae).elim (fun h=>h ▸ U) (O a)⟩
theorem eK.set {base:Nat} {H H':aa} (h:eK base H H') {b:Nat} (U:base≤b) (y:bf):eK base H (aN H' b y):=by
 obtain ⟨l,J,O⟩:=h.je
 exact ⟨h.1,fun a ae=>by rw [gH,if_neg (by omega)]; exact h.2 a ae,b :: l,by show b :: H'.log=_; rw [J]; rfl,fun a ae=>(List.mem_cons.1 ae).elim (fun h=>h ▸ U) (O a)⟩
abbrev Fr (H H':aa):Prop:=eK H.next H H'
theorem Fr.refl (H:aa):Fr H H:=eK.refl _ _
theorem Fr.trans {H H' dF:aa} (h:Fr H H') (k:Fr H' dF):Fr H dF:=eK.trans h (eK.mono k h.1)
theorem Fr.alloc (H:aa) (y:bf):Fr H (aS H y).2:=(eK.refl _ _).ce (Nat.le_refl _) y
theorem Fr.set {H H':aa} (h:Fr H H') {b:Nat} (U:H.next≤b) (y:bf):Fr H (aN H' b y):=eK.set h U y
theorem Fr.ce {H H':aa} (h:Fr H H') (y:bf):Fr H (aS H' y).2:=h.trans (Fr.alloc _ _)
end
theorem mem:(∀(H:aa) (b o:Nat),cellAt H b o=(H.m.get b).ac (rj o)) /\ (∀(H:aa) (b o n:Nat),bA H b o n=ap (Nat.beq n 0) (some []) ((H.m.get b).ac (m4 o n))) /\
 (∀(H:aa) (b o:Nat) (l:List I),bT H b o l=(H.m.get b).ac (hi H b o l)) /\
 (∀(H:aa) (b a:Nat) (x:bf),(aN H b x).m.get a=if a=b then some x else H.m.get a) /\ (∀(H:aa) (a:Nat) (x:bf),(aS H x).2.m.get a=if a=H.next then some x else H.m.get a) /\
 (∀(H:aa) (b:Nat) (x:bf),(aN H b x).next=H.next) /\ (∀(H:aa) (x:bf),(aS H x).2.next=H.next + 1) /\
 (∀a b:Nat,(a + b=a)=(b=0)) /\ (∀a b:Nat,(a=a + b)=(b=0)) /\ (∀a b c:Nat,(a + b=a + c)=(b=c)) /\ (∀a b c:Nat,a + b + c=a + (b + c)) /\
 (∀a:Nat,(a=a)=True) /\ (∀(α:Type) (x y:α),(if True then x else y)=x) /\ (∀(α:Type) (x y:α),(if False then x else y)=y):=
 ⟨fun _ _ _=>rfl,fun _ _ _ _=>rfl,fun _ _ _ _=>rfl,fun _ _ _ _=>gH,fun _ _ _=>g6,fun _ _ _=>rfl,fun _ _=>rfl,fun a b=>propext ⟨fun h=>by omega,fun h=>by omega⟩,fun a b=>propext ⟨fun h=>by omega,fun h=>by omega⟩,
  fun a b c=>propext ⟨fun h=>by omega,fun h=>by omega⟩,fun a b c=>Nat.add_assoc a b c,fun a=>propext ⟨fun _=>trivial,fun _=>rfl⟩,fun _ _ _=>if_pos trivial,fun _ _ _=>if_neg id⟩
attribute [go_sem] P2 P3 P4 P5 P6 P7 P8 P9 P_ P' Qa Qb Qc Qd Uc Ud Ue CF uq pT pO sy hM Oq eb X2 X3 T2 Wf X4 Wg X5 Wh X6 X7 Wi CG T3 T4 T5 T6 Wj PV T7 T8 PW RZ T9 R0 T_ R1 Ua Ub R2 R3 Ot PX R4 PY R5 PZ R6 Wk IM R8 R9 P0 R_ P1 R' Ou Sa aaY aaZ Uf X8 X9 Qe Qf
end
end Go.az
namespace Go.az
noncomputable section
section
variable {E:Env} {H H':aa} {base e sz n m:Nat} {v:I} {cs new:List I}
theorem eK.of {base:Nat} (h:Fr H H') (U:base≤H.next):eK base H H':=eK.mono h U
theorem Fr.of (h:eK H.next H H'):Fr H H':=h
theorem Fr.AA {H H' dF:aa} (h:Fr H H') (k:eK H.next H' dF):Fr H dF:=eK.trans h k
def cz (H:aa) (base e sz:Nat) (v:I) (n:Nat) (cs:List I):Prop:=
 cs.length=n * sz /\ ((v= .aE /\ n=0)∨∃b x,base≤b /\ b < H.next /\ v= .slice b 0 n (if x then .ex n else .rest 0 sz n) /\ H.m.get b=some (.cells cs e x true))
theorem cz.nil:cz H base e sz .aE 0 []:=⟨by simp,.inl ⟨rfl,rfl⟩⟩
theorem cz.ks (h:cz H base e sz v n cs):s5 v n:=by
 rcases h.2 with ⟨rfl,rfl⟩ | ⟨b,x,_,_,rfl,_⟩
 ·
  exact .inl ⟨rfl,rfl⟩
 ·
  exact .inr ⟨b,0,_,rfl⟩
theorem cz.mono (h:cz H base e sz v n cs) {w5:Nat} (U:w5≤base):cz H w5 e sz v n cs:=by
 refine ⟨h.1,h.2.imp id ?_⟩
 rintro ⟨b,x,J,O⟩
 exact ⟨b,x,Nat.le_trans U J,O⟩
theorem cz.b3 (h:cz H base e sz v n cs) (ao:Fr H H'):cz H' base e sz v n cs:=by
 refine ⟨h.1,h.2.imp id ?_⟩
 rintro ⟨b,x,J,O,ag,aP⟩
 exact ⟨b,x,J,Nat.lt_of_lt_of_le O ao.1,ag,by rw [ao.2 b O]; exact aP⟩
theorem cz.cell (h:cz H base e sz v n cs) {i:Nat} (ad:i < n * sz):cellAt H (aY v) (fg v + i)=cs[i]? :=by
 rcases h.2 with ⟨rfl,rfl⟩ | ⟨b,x,_,_,rfl,U⟩
 ·
  simp at ad
 ·
  show cellAt H b (0 + i)=_
  rw [lo,U]
  show rj (0 + i) (.cells cs e x true)=_
  rw [pO,ke,Nat.zero_add]
theorem cz.cells (h:cz H base e sz v n cs) {i k:Nat} (ad:i + k≤n * sz) (ar:0 < n):bA H (aY v) (fg v + i) k=some ((cs.drop i).take k):=by
 rcases h.2 with ⟨rfl,rfl⟩ | ⟨b,x,_,_,rfl,U⟩
 ·
  omega
 ·
  show bA H b (0 + i) k=_
  by_cases aD:k=0
  ·
   subst aD; rw [mW]; simp
  rw [l5 aD]
  show (H.m.get b).ac (m4 (0 + i) k)=_
  rw [U]
  show m4 (0 + i) k (.cells cs e x true)=_
  rw [sy,dz,fL,if_pos (by rw [List.length_drop,h.1]; omega),Nat.zero_add]
theorem cz.put (h:cz H base e sz v n cs) {i:Nat} (ad:i < n * sz) {x:I} (R:b2 x=true):
 ∃H',bT H (aY v) (fg v + i) [x]=some H' /\ cz H' base e sz v n (cs.set i x) /\ eK base H H' /\ H'.next=H.next /\ (∀a,a≠aY v -> H'.m.get a=H.m.get a):=by
 rcases h.2 with ⟨rfl,rfl⟩ | ⟨b,y,J,O,rfl,U⟩
 ·
  simp at ad
 ·
  refine ⟨aN H b (.cells (cs.set i x) e y true),?_,⟨by simpa using h.1,.inr ⟨b,y,J,O,rfl,by rw [gH,if_pos rfl]⟩⟩,(eK.refl _ _).set J _,rfl,fun a ae=>by rw [gH,if_neg (show ¬a=b from ae)]⟩
  show bT H b (0 + i) [x]=_
  rw [g4,U]
  show hi H b (0 + i) [x] (.cells cs e y true)=_
  rw [hM,eb,R,Nat.zero_add,kP (by rw [h.1]; exact ad)]; rfl
theorem cz.append (h:cz H base e sz v n cs) (bm:au E e=sz) (bU:0 < sz) (hm:0 < m) (ah:new.length=m * sz) (ao:br new=true) (a4:mj E e (n + m)=true) (jS:base≤H.next):
 ∃H',cJ E H e v m new=some (.slice H.next 0 (n + m) (.rest 0 sz (n + m)),H') /\ cz H' base e sz (.slice H.next 0 (n + m) (.rest 0 sz (n + m))) (n + m) (cs ++ new) /\ eK base H H' /\
  H'.next=H.next + 1 /\ ∀a,(v= .aE∨a≠aY v) -> a < H.next -> H'.m.get a=H.m.get a:=by
 have hlen:(cs ++ new).length=(n + m) * sz:=by rw [List.length_append,h.1,ah,Nat.add_mul]
 have lT:Nat.beq m 0=false:=by rw [pT]; simp; omega
 rcases h.2 with ⟨rfl,rfl⟩ | ⟨b,x,J,O,rfl,U⟩
 ·
  obtain rfl:cs= []:=List.eq_nil_of_length_eq_zero (by simpa using h.1)
  rw [Nat.zero_add] at a4 hlen ⊢
  refine ⟨(aS H (.cells new e false true)).2,?_,⟨hlen,.inr ⟨H.next,false,jS,Nat.lt_succ_self _,rfl,by rw [g6,if_pos rfl]; rfl⟩⟩,(eK.refl _ _).ce jS _,rfl,fun a _ ae=>by rw [g6,if_neg (by omega)]⟩
  unfold cJ
  rw [lT]
  show dA E H e m new=_
  unfold dA
  rw [a4,bm]; rfl
 ·
  have zt:bA H b 0 (n * sz)=some cs:=by
   by_cases aD:n * sz=0
   ·
    have:=h.1
    rw [aD] at this
    rw [aD,mW,List.eq_nil_of_length_eq_zero this]
   rw [l5 aD]
   show (H.m.get b).ac (m4 0 (n * sz))=_
   rw [U]
   show m4 0 (n * sz) (.cells cs e x true)=_
   rw [sy,CG,Hg h.1]
  cases x with
  | true=>
   refine ⟨(aS H (.cells (cs ++ new) e false true)).2,?_,⟨hlen,.inr ⟨H.next,false,jS,Nat.lt_succ_self _,rfl,by rw [g6,if_pos rfl]⟩⟩,(eK.refl _ _).ce jS _,rfl,fun a _ ae=>by rw [g6,if_neg (by omega)]⟩
   unfold cJ
   rw [lT]
   show jr (.ex n) E H e b 0 n m new=_
   show ap (Nat.ble (n + m) n) _ ((bA H b 0 (n * au E e)).ac fun old=>dA E H e (n + m) (cb old new))=_
   rw [uq,show decide (n + m≤n)=false by simp; omega,bm,zt]
   show dA E H e (n + m) (cb cs new)=_
   unfold dA
   rw [a4,bm,eZ]; rfl
  | false=>
   refine ⟨aN (aS H (.cells (cs ++ new) e false true)).2 b .dead,?_,⟨hlen,.inr ⟨H.next,false,jS,Nat.lt_succ_self _,rfl,by rw [gH,if_neg (by omega),g6,if_pos rfl]⟩⟩,
    ((eK.refl _ _).ce jS _).set J _,rfl,fun a ge ae=>by rw [gH,if_neg (show ¬a=b from ge.resolve_left (by intro k; cases k)),g6,if_neg (by omega)]⟩
   unfold cJ
   rw [lT]
   show jr (.rest 0 sz n) E H e b 0 n m new=_
   show ((H.m.get b).ac ownRow).ac _=_
   rw [U]
   show ap (Nat.beq e e && (Nat.blt 0 (au E e) && Nat.beq sz (au E e))) (ap (Nat.ble (0 + (n + m) * au E e) (bJ cs)) _
    (ap (Nat.beq 0 0 && br new) ((bA H b 0 (n * au E e)).ac fun old=>(dA E H e (n + m) (cb old new)).omap fun p=>(p.1,aN p.2 b .dead)) none)) none=_
   have b1:(Nat.beq e e && (Nat.blt 0 (au E e) && Nat.beq sz (au E e)))=true:=by
    rw [bm,pT,pT,CF]; simp [bU]
   have bV:Nat.ble (0 + (n + m) * au E e) (bJ cs)=false:=by
    rw [bm,uq,eQ,h.1,Nat.add_mul]
    have:0 < m * sz:=Nat.mul_pos hm bU
    simp; omega
   rw [b1,bV,ao,bm,zt]
   show (dA E H e (n + m) (cb cs new)).omap (fun p=>(p.1,aN p.2 b .dead))=_
   unfold dA
   rw [a4,bm,eZ]; rfl
theorem Sb {s:I} (h:s5 s n):cJ E H e s 0 new=some (s,H):=by
 rcases h with ⟨rfl,rfl⟩ | ⟨b,o,c,rfl⟩ <;> rfl
theorem Sc (H:aa) (base:Nat) (U:base≤H.next):cz (aS H (.cells [] e true true)).2 base e sz (.slice H.next 0 0 (.ex 0)) 0 []:=
 ⟨by simp,.inr ⟨H.next,true,U,Nat.lt_succ_self _,rfl,by rw [g6,if_pos rfl]⟩⟩
theorem mY {t t2 bk:TypeId} {s x:I} (h:aU E t= .slice e) (O:aU E t2= .slice bk):fQ .append E H [s,x] [t,t2]=(fu E H e x).ac fun p=>cJ E H e s p.1 p.2:=by
 show kg E H t [t2] s x=_
 unfold kg
 rw [h]; simp only; rw [O]
theorem yV {b o:Nat} {c:dm}:fu E H e (.slice b o n c)=(bA H b o (n * au E e)).omap fun l=>(n,l):=rfl
theorem Sd:fu E H e .aE=some (0,[]):=rfl
theorem Hh {i:kI} {z:I} (ad:E.ty e=some i) (ai:i.zero=some z) (aD:n≤4611686018427387904) (J:(2 * n + 200) * i.bytes≤281474976710656) (ag:0 < i.size):mj E e n=true:=by
 unfold mj
 rw [ad]; simp only; rw [ai]; simp only
 have J:Nat.mul (Nat.add (Nat.mul 2 n) 200) i.bytes≤281474976710656:=J
 rw [uq,uq,CF,decide_eq_true J,decide_eq_true aD,decide_eq_true ag]; rfl
def jw (E:Env) (e:TypeId):Bool:=match E.ty e with | some i=>(match i.zero with | some _=>Nat.ble i.bytes 1048576 && Nat.blt 0 i.size | none=>false) | none=>false
theorem oy (h:jw E e=true) (J:n≤1048576):mj E e n=true:=by
 unfold jw at h
 cases ad:E.ty e with
 | none=>rw [ad] at h; cases h
 | some i=>
  rw [ad] at h
  simp only at h
  cases ai:i.zero with
  | none=>rw [ai] at h; cases h
  | some z=>
   rw [ai] at h
   simp only [Bool.and_eq_true,de,cZ] at h
   exact Hh ad ai (by omega) (Nat.le_trans (Nat.mul_le_mul (show 2 * n + 200≤2 * 1048576 + 200 by omega) h.1) (by decide)) h.2
def wO (E:Env) (e:TypeId):Bool:=match E.ty e with | some i=>(match i.zero with | some _=>Nat.ble i.bytes 1 && Nat.blt 0 i.size | none=>false) | none=>false
theorem H9 (h:wO E e=true) (J:n≤140737488351232):mj E e n=true:=by
 unfold wO at h
 cases ad:E.ty e with
 | none=>rw [ad] at h; cases h
 | some i=>
  rw [ad] at h
  simp only at h
  cases ai:i.zero with
  | none=>rw [ai] at h; cases h
  | some z=>
   rw [ai] at h
   simp only [Bool.and_eq_true,de,cZ] at h
   exact Hh ad ai (by omega) (Nat.le_trans (Nat.mul_le_mul (Nat.le_refl (2 * n + 200)) h.1) (by omega)) h.2
section
variable {b c o k:Nat} {l:List I} {x:Bool} {y:bf}
theorem Ov:cellAt (aN H b (.cells l e x true)) b o=fy l o:=by rw [lo,gH,if_pos rfl]; exact pO
theorem Ow:cellAt (aS H (.cells l e x true)).2 H.next o=fy l o:=by rw [lo,g6,if_pos rfl]; exact pO
theorem Np:bA (aN H b (.cells l e x true)) b o k=ap (Nat.beq k 0) (some []) (cG k (co o l)):=by
 rw [oA,gH,if_pos rfl]
 show ap _ _ (m4 o k (.cells l e x true))=_
 rw [sy]
theorem Nq:bA (aS H (.cells l e x true)).2 H.next o k=ap (Nat.beq k 0) (some []) (cG k (co o l)):=by
 rw [oA,g6,if_pos rfl]
 show ap _ _ (m4 o k (.cells l e x true))=_
 rw [sy]
theorem Qg:bT (aN H b (.cells l e x true)) b o new=ap (br new) ((dC new o l).omap fun l'=>aN (aN H b (.cells l e x true)) b (.cells l' e x true)) none:=by rw [g4,gH,if_pos rfl]; rfl
theorem Qh:bT (aS H (.cells l e x true)).2 H.next o new=ap (br new) ((dC new o l).omap fun l'=>aN (aS H (.cells l e x true)).2 H.next (.cells l' e x true)) none:=by rw [g4,g6,if_pos rfl]; rfl
theorem Ox (h:c≠b):cellAt (aN H b y) c o=cellAt H c o:=by rw [lo,gH,if_neg h]; rfl
theorem Oy (h:c≠H.next):cellAt (aS H y).2 c o=cellAt H c o:=by rw [lo,g6,if_neg h]; rfl
theorem Nr (h:c≠b):bA (aN H b y) c o k=bA H c o k:=by rw [oA,gH,if_neg h]; rfl
theorem Ns (h:c≠H.next):bA (aS H y).2 c o k=bA H c o k:=by rw [oA,g6,if_neg h]; rfl
end
end
attribute [go_sem] Ov Ow Np Nq Qg Qh Ox Oy Nr Ns aW aT
attribute [go_sem] yV Sd
end
end Go.az
namespace Go.az
noncomputable section
section
variable {E:Env} {H H':aa} {base e n m:Nat} {v:I} {k:IntKind}
def ae3 (H:aa) (v:I) (n:Nat):Prop:=n=0∨aY v < H.next
theorem BD (ao:Fr H H') {b o n:Nat} (U:b < H.next):bA H' b o n=bA H b o n:=by rw [oA,oA,ao.2 b U]
def lf (sz:Nat) {α:Type} (enc:α -> List I) (H:aa) (v:I) (l:List α):Prop:=
 s5 v l.length /\ ae3 H v l.length /\ (∀a,(enc a).length=sz) /\ ∀i k,i + k≤l.length -> bA H (aY v) (fg v + i * sz) (k * sz)=some (((l.drop i).take k).flatMap enc)
def a8 (k:IntKind) (n:Int):List I:= [.int k n]
def bk (p:Int × Int):List I:= [.int .i64 p.1,.int .i64 p.2]
abbrev Ln (k:IntKind):=lf 1 (a8 k)
theorem lf.len {sz:Nat} {α:Type} {enc:α -> List I} {l:List α} (h:lf sz enc H v l):hh (.slice e) E v=some (.int .i64 l.length):=h.1.len
theorem lf.b3 {sz:Nat} {α:Type} {enc:α -> List I} {l:List α} (h:lf sz enc H v l) (ao:Fr H H'):lf sz enc H' v l:=by
 refine ⟨h.1,h.2.1.imp id fun J=>Nat.lt_of_lt_of_le J ao.1,h.2.2.1,fun i k ad=> ?_⟩
 rcases h.2.1 with aD | aD
 ·
  obtain rfl:k=0:=by omega
  rw [Nat.zero_mul,mW]; simp
 ·
  rw [BD ao aD]; exact h.2.2.2 i k ad
theorem ln {b o j:Nat} {cs:List I} (h:bA H b o n=some cs) (ax:j < n):cellAt H b (o + j)=cs[j]? :=by
 rw [l5 (by omega)] at h
 obtain ⟨y,aj,J⟩:=aO h
 obtain ⟨q,aB,O⟩:=aO J
 obtain ⟨l',ag,aP⟩:=aO O
 obtain ⟨rfl,dl⟩:=sm aP
 rw [dz] at ag
 obtain ⟨hle,rfl⟩:=oC ag
 have aF:o + j < q.1.length:=by rw [List.length_drop] at hle; omega
 rw [lo,aj]
 show (kf y).ac _=_
 rw [aB]
 show (fy q.1 (o + j)).ac (sX q.2.2.2)=_
 rw [ke,List.getElem?_eq_getElem aF]
 show sX q.2.2.2 _=_
 rw [List.getElem?_take,if_pos ax,List.getElem?_drop,List.getElem?_eq_getElem aF]
 cases hw:q.2.2.2 with
 | true=>rfl
 | false=>
  have:b2 q.1[o + j]=true:=BM (dl hw) (i:=j) (by rw [List.getElem?_take,if_pos ax,List.getElem?_drop,List.getElem?_eq_getElem aF])
  show ap (b2 _) _ none=_
  rw [this]; rfl
theorem lf.at {sz:Nat} {α:Type} {enc:α -> List I} {l:List α} (h:lf sz enc H v l) {i:Nat} (ad:i < l.length):bA H (aY v) (fg v + i * sz) sz=some (enc l[i]):=by
 have J:=h.2.2.2 i 1 (by omega)
 rw [Nat.one_mul] at J
 rw [J]
 congr 1
 have:(l.drop i).take 1= [l[i]]:=by rw [List.drop_eq_getElem_cons ad,List.take_succ_cons,List.take_zero]
 rw [this]; simp
theorem lf.all {sz:Nat} {α:Type} {enc:α -> List I} {l:List α} (h:lf sz enc H v l):bA H (aY v) (fg v) (l.length * sz)=some (l.flatMap enc):=by
 have J:=h.2.2.2 0 l.length (by omega)
 simpa using J
theorem Ln.at {l:List Int} (h:Ln k H v l) {i:Nat} (ad:i < l.length):cellAt H (aY v) (fg v + i)=some (.int k l[i]):=by
 have J:=lf.at h ad
 rw [Nat.mul_one] at J
 exact ln (j:=0) J (by omega)
theorem lf.idx {sz:Nat} {α:Type} {enc:α -> List I} {l:List α} (h:lf sz enc H v l) {i:Nat} (ad:i < l.length):e9 (.slice e) E v i=some (.ptr (aY v) (fg v + i * au E e)):=h.1.idx ad
theorem d6 {α:Type} {l:List α} {i:Nat} {d:α} (h:i < l.length):l.getD i d=l[i]:=by simp [List.getD,h]
theorem lf.src {sz:Nat} {α:Type} {enc:α -> List I} {l:List α} (h:lf sz enc H v l) (aG:au E e=sz):fu E H e v=some (l.length,l.flatMap enc):=by
 have J:=h.1
 rcases J with ⟨rfl,aD⟩ | ⟨b,o,c,rfl⟩
 ·
  obtain rfl:=List.eq_nil_of_length_eq_zero aD; rfl
 ·
  have O:=h.all
  rw [yV,aG]
  rw [show aY (.slice b o l.length c)=b from rfl,show fg (.slice b o l.length c)=o from rfl] at O
  rw [O]; rfl
end
end
end Go.az
namespace Go.az
open Go.RowKit
noncomputable section
def my (n:Nat):bb:=⟨fun a=>if a < n then some a else none,fun _=>0,fun _=>0⟩
def ga (n:Nat) (v:Value):I:=match v with
 | .bool b=> .bool b
 | .int k i=> .int k i
 | .string s=> .str s.data.toList
 | .pointer none=> .cA
 | .pointer (some ⟨b,o,none⟩)=>if b < n then .ptr b o else .undef
 | .slice none 0 0=> .aE
 | .slice (some ⟨b,o,none⟩) l c=>if b < n /\ l≤c then .slice b o l (.ex c) else if l=0 /\ c=0 then .dY ⟨b,o,none⟩ else .undef
 | .slice (some a) 0 0=> .dY a
 | .nilFunc=> .dj
 | .nilIface=> .dK
 | _=> .undef
theorem Hi {n:Nat} {v:Value} (h:b2 (ga n v)=true):a5 (my n) (ga n v)=some v:=by
 unfold ga at h ⊢
 split at h
 all_goals first
  | rfl
  | (cases h; done)
  | skip
 ·
  split at h
  ·
   rename_i U
   rw [if_pos U]; simp [a5,my,U]
  ·
   cases h
 ·
  split at h
  ·
   rename_i U
   rw [if_pos U]; simp [a5,dB,my,U.1,U.2]
  ·
   rename_i U
   split at h
   ·
    rename_i ai
    rw [if_neg U,if_pos ai,ai.1,ai.2]; rfl
   ·
    cases h
def zu (n:Nat) (o:Obj):bf:=match o with
 | .cells arr e _=> .cells (arr.toList.map (ga n)) e true false
 | _=> .dead
def i9 (w:World):aa:=⟨bz.iE (w.heap.toList.map (zu w.heap.size)) 0 .nil,w.heap.size,[]⟩
theorem wk (w:World) (a:Nat):(i9 w).m.get a=(w.heap[a]?).map (zu w.heap.size):=by
 unfold i9
 rw [bz.yD]; simp
theorem H_ {w:World} {a:Nat} {x:bf} (h:(i9 w).m.get a=some x):¬m5 x:=by
 rw [wk] at h
 obtain ⟨o,_,rfl⟩:=Option.map_eq_some_iff.1 h
 unfold zu
 split
 ·
  intro k; cases k
 ·
  intro k; exact k
theorem Se (E:Env) (w:World):bM E (my w.heap.size) (i9 w) w:=by
 refine ⟨fun a x c ae V=> ?_,fun a x cF x' c ae aC=>absurd aC (H_ ae),fun a c V=> ?_,fun a ae=> ?_⟩
 ·
  have xS:a < w.heap.size /\ a=c:=by
   simp only [my] at V
   split at V
   ·
    rename_i h; cases V; exact ⟨h,rfl⟩
   ·
    cases V
  obtain ⟨_,rfl⟩:=xS
  rw [wk] at ae
  obtain ⟨o,aC,rfl⟩:=Option.map_eq_some_iff.1 ae
  unfold zu
  split
  ·
   rename_i arr e fz
   refine ⟨arr,fz,aC,⟨by simp,fun i v ak J=> ?_⟩,by simp,trivial,fun _=>by simp,(fun h=>by cases h),fun h=>by cases h⟩
   rw [List.getElem?_map] at ak
   obtain ⟨u,hu,rfl⟩:=Option.map_eq_some_iff.1 ak
   exact ⟨u,by rw [List.take_of_length_le (by simp)]; simpa using hu,Hi J⟩
  ·
   trivial
 ·
  simp only [my] at V
  split at V
  ·
   rename_i h; cases V; exact h
  ·
   cases V
 ·
  have cT:w.heap.size≤a:=ae
  refine ⟨by simp only [my]; rw [if_neg (by omega)],?_⟩
  rw [wk,Array.getElem?_eq_none cT]; rfl
theorem Q2 {P:Program} {E:Env} (a1:km E P) {f:FuncId} {args:Array Value} {w:World} {avs:List I} (aG:E.sum f=none) (V:bZ (my w.heap.size) avs=some args.toList)
 (h:ic E (.func f [] []) avs (i9 w) fun v _=>v= .bool true):Calls P f args w fun e w'=>e= .returned (.bool true) /\ Below w.heap.size w w':=by
 intro cs
 obtain ⟨k,v,H',J,rfl⟩:=h
 have O:rf E k (app E k) f (cb [] (cb avs [])) (i9 w)=some (.bool true,H'):=J (k + 1) (by omega)
 have ag:cb [] (cb avs [])=avs:=by rw [eZ,eZ]; simp
 rw [ag] at O
 obtain ⟨s',w',c,fr,b9,hn,bi,x',cq,n9,ti⟩:=BB a1 (zE a1 k) (CA a1 _ (zE a1 k)) aG O cs _ w _ (Se E w) V
 cases hn
 refine ⟨.returned (.bool true),w',fr,⟨rfl,x'.os,x'.tape,x'.output,x'.size,fun c V=>x'.b3 c V fun a x ae aC=>absurd aC (H_ ae)⟩,cq,n9,ti⟩
theorem Sf {P:Program} {dP:FuncId -> Bool} (a1:km (ib P) P) (hw:∀f,dP f=true -> ∃tT n,km tT P /\ tT.sum f=none /\ (app tT (n + 1) (.func f [] []) [] H0).map (·.1)=some (.bool true)):km (g_ P dP) P where
 types:=⟨a1.types.1,a1.types.2,a1.types.3,a1.types.4,a1.types.5⟩
 fn f fn h:=a1.fn f fn h
 AV f fn h:=a1.AV f fn h
 mixed:=a1.mixed
 DS f g a4 as H v H' ak:=by
  have a4:ap (dP f) (some fun (as:List I) (H:aa)=>match as with | []=>some (I.bool true,H) | _=>none) none=some g:=a4
  obtain ⟨ao,a4⟩:=cd a4
  cases a4
  cases as with
  | cons=>cases ak
  | nil=>
   cases ak
   obtain ⟨tT,n,AB,ii,ar⟩:=hw f ao
   obtain ⟨⟨v,H1⟩,J,O⟩:=Option.map_eq_some_iff.1 ar
   cases O
   have J:rf tT n (app tT n) f [] H0=some (.bool true,H1):=J
   left
   intro cs s w ez r V
   cases V
   have af:bM tT ⟨fun _=>none,fun _=>0,fun _=>0⟩ H0 w:=by
    refine ⟨fun a x c ae=> ?_,fun a x cF x' c ae=> ?_,fun a c h=>(by cases h),fun a _=>⟨rfl,rfl⟩⟩
    ·
     cases ae
    ·
     cases ae
   obtain ⟨s',w',c,fr,b9,hn,bi,x',cq,n9,ti⟩:=BB AB (zE AB n) (CA AB _ (zE AB n)) ii J cs _ w [] af rfl
   have ab:∀c,c < w.heap.size -> w'.heap[c]? =w.heap[c]? :=fun c V=>x'.b3 c V fun a x ae=>by cases ae
   refine ⟨s,w',c,fr,b9,hn,⟨fun a x c ae V=>IE ab (bb.gi.refl s) (r.lt a c V) rfl rfl (r.dr a x c ae V),r.inj,fun a c V=>Nat.lt_of_lt_of_le (r.lt a c V) x'.size,r.fr⟩,?_,cq,n9,ti⟩
   exact ⟨Nat.le_refl _,fun _ _=>⟨rfl,rfl,rfl⟩,x'.size,x'.os,x'.tape,x'.output,fun c V _=>ab c V,fun a x _ h o m _=>⟨a,x,h,o,m⟩,fun a x _ h o m _=>⟨a,x,h,o,m⟩,
    fun c q aB=>⟨q,by rw [ab c (Array.getElem?_eq_some_iff.1 aB).1]; exact aB⟩⟩
theorem S8 {P:Program} {dP:FuncId -> Bool} (a1:km (ib P) P) (hw:∀f,dP f=true -> ∃n,(app (ib P) (n + 1) (.func f [] []) [] H0).map (·.1)=some (.bool true)):km (g_ P dP) P:=
 Sf a1 fun f ao=>(hw f ao).elim fun n h=>⟨ib P,n,a1,rfl,h⟩
end
end Go.az
namespace Go.az
open Go.RowKit Go.ChangeShapes Go.WideShapes Go.ChangeAt
noncomputable section
variable {H:Type} {enc:TypeId × Value -> H} {P:Program}
theorem F1 (ah:laidOutB P=true) {W qK:World} (U:Below W.heap.size W qK) (ar:W.heap.size≤qK.heap.size):∀ {bp:List TypeId} {vs:List Value} {d_:List (DataW H)} {ps:List MemPlace},
 (∀t∈bp,P.readableRec t=true /\ t < P.types.size) -> DataW.TrodAll enc P W 0 (fun _=>true) true bp vs d_ ps -> (∀x∈ps,x.block < W.heap.size) ->
 ∀sp:Nat -> Bool,(∀p∈ps,sp p.block=true) -> DataW.TrodAll enc P qK 0 sp true bp vs d_ ps
 | [],[],[],ps,_,h,_,_,_=>h
 | t :: bp,v :: vs,d :: d_,ps,bh,h,aF,sp,r7=>by
  obtain ⟨p,q,J,O,rfl⟩:=h
  refine ⟨p,q,?_,F1 ah U ar (fun t k=>bh t (by simp [k])) O (fun x R=>aF x (by simp [R])) sp (fun x R=>r7 x (by simp [R])),rfl⟩
  obtain ⟨af,gc⟩:=bh t (by simp)
  exact WideElems.Trod_stays ah af gc J (fun x R=>U.same (aF x (by simp [R]))) (fun x R=>r7 x (by simp [R]))
 | [],[],_ :: _,_,_,h,_,_,_=>by cases h
 | [],_ :: _,_,_,_,h,_,_,_=>by cases h
 | _ :: _,[],_,_,_,h,_,_,_=>by cases h
 | _ :: _,_ :: _,[],_,_,h,_,_,_=>by cases h
theorem MZ {C:Checked} {os:Os} (started:os.Started) {f:FuncId} {fn:Func} {s:ChangeSpec} {conds:List PathCond} {again:Bool} {tb:TypeId}
 (own:ownKnob C.prog.godebug=none) (Wl:C.prog.inits.idxOf? f=none) (n9:C.prog.funcs[f]? =some fn)
 (witness:∃(w:World) (tape:Tape) (i:Input),w.os=os /\ (w.forCall tape i).Shaped C.prog /\ i.vars= [] /\ Input.okWide C.prog (w.forCall tape i) .any w.heap.size f i /\
  s.pre6 enc C.prog fn conds false (w.forCall tape i).memory i.args /\ (({}:Assume)).holds C.prog (lone (Frame.enter C.prog f i.args .normal) [] (w.forCall tape i)))
 (af:fn.resultTypes= #[tb]) (bh:C.prog.underlying tb=some .bool) (ah:laidOutB C.prog=true)
 (aR:∀t∈fn.params.toList,C.prog.readableRec t=true /\ t < C.prog.types.size)
 (ak:s.vars= [])
 (aG:∀d_:List (DataW H),d_.length=fn.params.size -> s.fn H d_= { results:= [.lit (.bool true)],args:=d_,vars:= []})
 (key:∀(W:World) (args:Array Value) (d_:List (DataW H)) (ps:List MemPlace),DataW.TrodAll enc C.prog W 0 (fun _=>true) true fn.params.toList args.toList d_ ps ->
  (∀(j:Nat) t v,fn.params[j]? =some t -> args[j]? =some v -> ∃base,Value.okWide C.prog W .any base t v) ->
  (DataW.weightsEach C.prog fn.params.toList d_).all (· ≤reachBytes)=true ->
  Calls C.prog f args W fun e qK=>e= .returned (.bool true) /\ Below W.heap.size W qK):
 ReturnsInHanded {} C os f .any (s.pre6 enc C.prog fn conds false) (s.post enc C.prog fn false true false again):=by
 refine returnsInHanded_of_change_sized (C:=C) own started Wl n9 witness ?_
 intro W base args d_ gs before zW L_ afo u9 _
 have Lo:=L_
 obtain ⟨p,q,fX,pD,rfl,e3,lc⟩:=L_
 rw [ak] at pD
 obtain ⟨rfl,rfl⟩:=trodVars_none pD
 have hlen:∀ {bp:List TypeId} {vs:List Value} {d_:List (DataW H)} {ps:List MemPlace},DataW.TrodAll enc C.prog W 0 (fun _=>true) true bp vs d_ ps -> d_.length=bp.length:=by
  intro bp
  induction bp with
  | nil=>intro vs d_ ps h; cases vs <;> cases d_ <;> first | rfl | cases h
  | cons t bp aH=>
   intro vs d_ ps h
   cases vs with
   | nil=>cases h
   | cons v vs=>
    cases d_ with
    | nil=>cases h
    | cons d d_=>obtain ⟨p,q,_,O,_⟩:=h; simp [aH O]
 have r7:=aG d_ (by have:=hlen fX; simpa using this)
 have adt:s.plain.varTypes C.prog= []:=by
  show (s.plain.vars.filterMap _)= []
  rw [show s.plain.vars=s.vars from rfl,ak]; rfl
 rw [adt,List.append_nil,List.append_nil] at u9
 refine (key W args d_ p fX (fun j t v J O=>⟨base,zW j t v J O⟩) u9).mono fun e qK ⟨he,U⟩=> ?_
 subst he
 have aF:∀x∈p,x.block < W.heap.size:=fun x R=>Lo.lt x (by simpa using R)
 have mm:∀sp:Nat -> Bool,(∀x∈p,sp x.block=true) -> DataW.TrodAll enc C.prog qK 0 sp true fn.params.toList args.toList d_ p:=F1 ah U U.size aR fX aF
 have rF:∀(b:Nat) (sp:Nat -> Bool) (aw:Bool),DataW.TrodAll enc C.prog qK b sp aw fn.resultTypes.toList ((Value.bool true).resultList fn.resultTypes.size) [.lit (.bool true)] []:=by
  intro b sp aw
  rw [af]
  exact trodAll_cons_mk (shut_bool bh _) trodAll_mk0
 have JM:∀sp:Nat -> Bool,DataW.TrodVars enc C.prog qK sp s.vars [] []:=by intro sp; rw [ak]; rfl
 refine ⟨_,rfl,d_,[],p ++ [],[],p,[],Lo,?_,?_,?_,?_,fun _=>⟨?_,?_⟩⟩
 ·
  rw [List.append_nil,r7]; exact rF _ _ _
 ·
  rw [List.append_nil,r7]; exact mm _ fun x R=>by simpa using aF x R
 ·
  rw [List.append_nil,r7]; exact JM _
 ·
  exact World.keptBut_mono (fun x R=>R.elim) (U.frame fun _=>False)
 ·
  exact ok_one af rfl (okWide_bool_mk bh _)
 ·
  refine ⟨[.lit (.bool true)] ++ d_,[],([] ++ p) ++ [],⟨[] ++ p,[],trodAll_append (mm _ fun _ _=>rfl) (rF _ _ _),JM _,rfl,fun b off R=> ?_,fun R=>(by cases R)⟩,fun x R _=>by simpa using R⟩
  have jD:MemPlace.cell b off∈p:=by simpa using R
  rw [U.frozen (aF _ jD)]
  exact e3 b off (by simpa using jD)
end
end Go.az
namespace Go.az
open Go.RowKit Go.ChangeShapes Go.WideShapes Go.ChangeAt
noncomputable section
section
variable {H:Type} {enc:TypeId × Value -> H} {P:Program} {W:World}
theorem yW {b o:Nat} {v:Value} (h:W.cell? ⟨b,o,none⟩=some v):∃arr e fz,W.heap[b]? =some (.cells arr e fz) /\ arr[o]? =some v /\ (i9 W).m.get b=some (.cells (arr.toList.map (ga W.heap.size)) e true false):=by
 unfold World.cell? at h
 split at h
 ·
  rename_i c t fz U
  simp at h
  refine ⟨c,t,fz,U,h,?_⟩
  rw [wk,U]; rfl
 ·
  cases h
theorem Ia {base:Nat} {a:Addr} {n:Nat} {cs:List Value} (h:W.cells? base a n=some cs):cs.length=n /\ ∀j,j < n -> W.cell? (a.add j)=cs[j]? :=by
 unfold World.cells? at h
 split at h
 ·
  refine ⟨by simpa using mapM_some_length h,fun j ax=>mapM_some_get h j j (by simp [ax])⟩
 ·
  cases h
theorem ok_slice {base:Nat} {t e:TypeId} {v:Value} (bh:P.underlying t=some (.slice e)) (ak:Value.okWide P W .any base t v):
 v= .slice none 0 0∨∃b o len cap,v= .slice (some ⟨b,o,none⟩) len cap /\ len≤cap /\ b < W.heap.size:=by
 have ak:Cell.okWide P W .any base t v:=by unfold Value.okWide at ak; rw [bh] at ak; exact ak
 cases v with
 | slice a len cap=>
  have ak:Cell.ok P W .any base t (.slice a len cap):=by simpa only [Cell.okWide,bh] using ak
  cases a with
  | none=>
   unfold Cell.ok at ak
   rw [bh] at ak
   cases len with
   | zero=>
    cases cap with
    | zero=>exact .inl rfl
    | succ c=>exact ak.elim
   | succ c=>exact ak.elim
  | some a=>
   have ak:len≤cap /\ (cap:Int)≤IntKind.i64.max /\ W.has P .any base a e cap:=by simpa only [Cell.ok,bh] using ak
   obtain ⟨J,O,_,ag,row,cells,aP,_⟩:=ak
   right
   obtain ⟨b,o,s⟩:=a
   have ag:s=none:=ag
   subst ag
   refine ⟨b,o,len,cap,rfl,J,?_⟩
   unfold World.shape? at aP
   split at aP
   ·
    rename_i U
    exact (Array.getElem?_eq_some_iff.1 U).1
   ·
    cases aP
 | _=>simp [Cell.okWide,Cell.ok,bh] at ak
end
end
end Go.az
