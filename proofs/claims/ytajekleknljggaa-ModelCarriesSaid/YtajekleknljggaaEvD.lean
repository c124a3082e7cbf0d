/-
  The evaluator is right about code and calls. No conditions.
-/
import Derived.Test.YtajekleknljggaaEvC
set_option linter.unusedVariables false
set_option linter.unusedSimpArgs false
namespace Go.az
variable {P:Program} {E:Env}
def bD (b:Frame) (ct:Array Value) (D:List Deferred) (todo:List Item):Frame:= { b with tmps:=ct,defers:=D,todo:=todo}
def k1 (ct:Array Value) (d:Option Tmp) (v:Value):Array Value:=match d with | some d=>ct.setIfInBounds d v | none=>ct
theorem BN (ct:Array Value) (d:Option Tmp) (v:Value):(k1 ct d v).size=ct.size:=by cases d <;> simp [k1]
section Xw
variable {b:Frame} {ct:Array Value} {D:List Deferred} {k:List Item} {cs:List Frame} {w:World}
theorem HV (x:Operand):(bD b ct D k).eval x=dR ct x:=by cases x <;> rfl
theorem Hb:(bD b ct D k).eval=dR ct:=funext HV
theorem Th (U:b.mode= .run):step P (lone (bD b ct D (.code .skip :: k)) cs w)= .next (lone (bD b ct D k) cs w):=
 step_lone_go (by simp [stepG,stepG.exec,bD,U])
theorem Rn (U:b.mode= .run) {l:Nat}:step P (lone (bD b ct D (.code (.label l) :: k)) cs w)= .next (lone (bD b ct D k) cs w):=
 step_lone_go (by simp [stepG,stepG.exec,bD,U])
theorem N0 (U:b.mode= .run) {id:Nat}:step P (lone (bD b ct D (.inBlock id :: k)) cs w)= .next (lone (bD b ct D k) cs w):=
 step_lone_go (by simp [stepG,stepG.exec,bD,U])
theorem N1 (U:b.mode= .run) {c:Code}:step P (lone (bD b ct D (.inScope c :: k)) cs w)= .next (lone (bD b ct D k) cs w):=
 step_lone_go (by simp [stepG,stepG.exec,bD,U])
theorem Ji (U:b.mode= .run) {x y:Code}:step P (lone (bD b ct D (.code (.seq x y) :: k)) cs w)= .next (lone (bD b ct D (.code x :: .code y :: k)) cs w):=
 step_lone_go (by simp [stepG,stepG.exec,bD,U])
theorem IF (U:b.mode= .run) {c:Operand} {x y:Code} {t:Bool} (h:dR ct c= .bool t):
 step P (lone (bD b ct D (.code (.cond c x y) :: k)) cs w)= .next (lone (bD b ct D (.code (if t then x else y) :: k)) cs w):=
 step_lone_go (by
  have:=HV (b:=b) (ct:=ct) (D:=D) (k:= .code (.cond c x y) :: k) c
  simp only [bD,U] at this
  simp [stepG,stepG.exec,bD,U,this,h])
theorem y3 (U:b.mode= .run) {id:Nat} {c:Code}:step P (lone (bD b ct D (.code (.block id c) :: k)) cs w)= .next (lone (bD b ct D (.code c :: .inBlock id :: k)) cs w):=
 step_lone_go (by simp [stepG,stepG.exec,bD,U])
theorem Ti (U:b.mode= .run) {c:Code}:step P (lone (bD b ct D (.code (.loop c) :: k)) cs w)= .next (lone (bD b ct D (.code c :: .inLoop c :: k)) cs w):=
 step_lone_go (by simp [stepG,stepG.exec,bD,U])
theorem Pr (U:b.mode= .run) {c:Code}:step P (lone (bD b ct D (.inLoop c :: k)) cs w)= .next (lone (bD b ct D (.code c :: .inLoop c :: k)) cs w):=
 step_lone_go (by simp [stepG,stepG.exec,bD,U])
theorem Ro (U:b.mode= .run) {c:Code}:step P (lone (bD b ct D (.code (.scope c) :: k)) cs w)= .next (lone (bD b ct D (.code c :: .inScope c :: k)) cs w):=
 step_lone_go (by simp [stepG,stepG.exec,bD,U])
theorem Tj (U:b.mode= .run) {id:Nat} {k':List Item} (h:exitTo id k=some k'):step P (lone (bD b ct D (.code (.exit id) :: k)) cs w)= .next (lone (bD b ct D k') cs w):=
 step_lone_go (by simp [stepG,stepG.exec,bD,U,h])
theorem Ps (U:b.mode= .run) {id:Nat} {ops:Array Oper}:step P (lone (bD b ct D (.code (.region id ops false) :: k)) cs w)= .next (lone (bD b ct D (.inRegion ops (List.range ops.size) :: k)) cs w):=
 step_lone_go (by simp [stepG,stepG.exec,bD,U])
theorem Tk (U:b.mode= .run) (hm:P.follows .mixedOrders=true) {id:Nat} {ops:Array Oper}:
 ∃t,step P (lone (bD b ct D (.code (.region id ops true) :: k)) cs w)= .next (lone (bD b ct D (.inRegion ops (Region.linearise .any ops t) :: k)) cs (jR w)):=
 ⟨w.tape w.drawn (.order b.fn id),step_lone_go (by simp [stepG,stepG.exec,bD,U,choose,Sem.run,Question.forced,Question.cut,Region.schedule,hm,jR])⟩
theorem F8 (U:b.mode= .run) {ops:Array Oper}:step P (lone (bD b ct D (.inRegion ops [] :: k)) cs w)= .next (lone (bD b ct D k) cs w):=
 step_lone_go (by simp [stepG,stepG.exec,bD,U])
theorem BA {ops:Array Oper} {i:Nat} {rest:List Nat} {o:Oper} (aC:ops[i]? =some o) (v:Value):
 (bD b ct D (.inRegion ops (i :: rest) :: k)).finish v=bD b (k1 ct o.dst v) D (.inRegion ops rest :: k):=by
 simp only [Frame.finish,bD,aC,Option.bind_some,k1]
 cases o.dst <;> rfl
theorem Gp (U:b.mode= .run) {ops:Array Oper} {i:Nat} {rest:List Nat} {o:Oper} (aC:ops[i]? =some o) (hw:Region.wanted o (yielded ops ct)=false):
 step P (lone (bD b ct D (.inRegion ops (i :: rest) :: k)) cs w)= .next (lone (bD b (k1 ct o.dst undef) D (.inRegion ops rest :: k)) cs w):=by
 rw [<- BA aC]
 exact step_lone_go (by
  simp only [bD] at *
  simp [stepG,stepG.exec,U,aC,hw])
theorem Jj (U:b.mode= .run) {ops:Array Oper} {i:Nat} {rest:List Nat} {o:Oper} (aC:ops[i]? =some o) (hw:Region.wanted o (yielded ops ct)=true) (aw:∀c,o.op≠ .defer c):
 stepG P true { frame:=bD b ct D (.inRegion ops (i :: rest) :: k),callers:=cs,status:= .running,dying:=none} w=
  stepG.apply P true (bD b ct D (.inRegion ops (i :: rest) :: k)) cs none (execOp (dR ct) o) w:=by
 have he:=Hb (b:=b) (ct:=ct) (D:=D) (k:= .inRegion ops (i :: rest) :: k)
 simp only [bD] at he
 simp only [stepG,stepG.exec,bD,U,aC,Option.map_some,hw,Option.getD_some,if_true,stepG.oper,Frame.oper?,he]
 split
 ·
  rename_i J O; exact absurd O (aw _)
 ·
  rfl
end Xw
structure tP where
 b:Frame
 D:List Deferred
 k:List Item
 cs:List Frame
 ops:Array Oper
 i:Nat
 rest:List Nat
def tP.zZ (x:tP) (o:Oper) (ct:Array Value):Prop:=x.b.mode= .run /\ x.ops[x.i]? =some o /\ Region.wanted o (yielded x.ops ct)=true
def kq (P:Program) (o:Oper) (x:tP) (ct:Array Value) (w:World) (c:Value) (w':World):Prop:=
 Steps P (lone (bD x.b ct x.D (.inRegion x.ops (x.i :: x.rest) :: x.k)) x.cs w) (lone (bD x.b (k1 ct o.dst c) x.D (.inRegion x.ops x.rest :: x.k)) x.cs w')
theorem kq.pI {o:Oper} {x:tP} {ct:Array Value} {w w':World} {n:Next} {c:Value} (R:x.zZ o ct) (h:(execOp (dR ct) o).run P w= .ok n w') (ah:Leaves n c) (aw:∀x,o.op≠ .defer x):kq P o x ct w c w':=by
 obtain ⟨U,aC,hw⟩:=R
 refine .one (step_lone_go ?_)
 rw [Jj U aC hw aw,<- BA aC]
 rcases ah with rfl | ⟨rfl,rfl⟩
 ·
  simp [stepG.apply,h]
 ·
  simp [stepG.apply,h]
def wH (P:Program) (nx:Next) (fr:Frame):Prop:=(∃f as,nx= .enter f as /\ fr=Frame.enter P f as .normal)∨(∃l f t a b,nx= .round l f t a b /\ fr=Frame.round l f t a b .normal)
def m2 (mP:Value) (args:Array Value):Sem Next:=do let d <- Deferred.ofValue mP args; invoke d.target d.args
def jP (P:Program) (E:Env) (call:dQ):Prop:=∀(gR:Frame) (cs:List Frame) gq args H v H' s w mP lD,call gq args H=some (v,H') -> bM E s H w -> a5 s gq=some mP -> bZ s args=some lD ->
 ∃s' w' c,a5 s' v=some c /\ bM E s' H' w' /\ Ext s H w s' H' w' /\
  ((∃nx fr,(m2 mP lD.toArray).run P w= .ok nx w /\ wH P nx fr /\ Steps P (lone fr (gR :: cs) w) (lone (gR.finish c) cs w'))∨
   ((m2 mP lD.toArray).run P w= .ok (.value c) w' /\ ∀l,args≠ [.yield l]))
theorem Gq {fr K_:Frame} {cs:List Frame} {m:Sem Next} {w:World} {nx:Next} (h:m.run P w= .ok nx w) (he:wH P nx K_) (bh:∀d r s k,fr.todo≠ .call d true r s :: k):
 (stepG.apply P true fr cs none m w).bare= .go { frame:=K_,callers:=fr :: cs,status:= .running,dying:=none} w:=by
 rcases he with ⟨f,as,rfl,rfl⟩ | ⟨l,f,t,a,b,rfl,rfl⟩
 ·
  simp only [stepG.apply,Sem.runT_eq,if_true,h,GStep.bare_after]
  rfl
 ·
  simp only [stepG.apply,Sem.runT_eq,if_true,h,GStep.bare_after]
  rfl
theorem kq.Tl {o:Oper} {x:tP} {ct:Array Value} {w w':World} {nx:Next} {fr:Frame} {c:Value} (R:x.zZ o ct) (h:(execOp (dR ct) o).run P w= .ok nx w) (he:wH P nx fr) (aw:∀x,o.op≠ .defer x)
 (aG:Steps P (lone fr (bD x.b ct x.D (.inRegion x.ops (x.i :: x.rest) :: x.k) :: x.cs) w) (lone ((bD x.b ct x.D (.inRegion x.ops (x.i :: x.rest) :: x.k)).finish c) x.cs w')):kq P o x ct w c w':=by
 obtain ⟨U,aC,hw⟩:=R
 have cq:step P (lone (bD x.b ct x.D (.inRegion x.ops (x.i :: x.rest) :: x.k)) x.cs w)= .next (lone fr (bD x.b ct x.D (.inRegion x.ops (x.i :: x.rest) :: x.k) :: x.cs) w):=by
  refine step_lone_go ?_
  rw [Jj U aC hw aw]
  exact Gq h he (fun _ _ _ _ h=>by cases h)
 refine .head cq ?_
 rw [<- BA aC]
 exact aG
theorem wu {s:bb} {N M:Nat} {T T':a'} {ct:Array Value} {d:Option Tmp} {v:I} {c:Value} (h:ev N M T d v=some T') (k:dD s M T ct) (b4:ct.size=N) (V:a5 s v=some c):
 dD s M T' (k1 ct d c):=by
 unfold ev sQ at h
 cases d with
 | none=>cases h; exact k
 | some t=>
  simp only at h
  split at h
  ·
   rename_i U
   have bh:t < ct.size:=by rw [b4]; exact (cZ _ _).1 U
   have:=dD.put k bh V
   split at h
   ·
    rename_i hm; cases h; simpa [a'.put,hm,k1] using this
   ·
    rename_i hm; cases h; simpa [a'.put,hm,k1] using this
  ·
   cases h
theorem Mz {H H':aa} {as:List I} {bp:List TypeId} {v:I} (h:fQ .append E H as bp=some (v,H')):∃s x t vc,as= [s,x] /\ bp=t :: vc /\ kg E H t vc s x=some (v,H'):=by
 cases as with
 | nil=>cases h
 | cons s r=>cases r with
  | nil=>cases h
  | cons x r=>cases r with
   | nil=>cases bp with
    | nil=>cases h
    | cons t bp=>exact ⟨s,x,t,bp,rfl,rfl,h⟩
   | cons _ _=>cases h
theorem M8 {H H':aa} {as:List I} {bp:List TypeId} {v:I} (h:fQ .copy E H as bp=some (v,H')):∃s x t vc,as= [s,x] /\ bp=t :: vc /\ pK E H t s x=some (v,H'):=by
 cases as with
 | nil=>cases h
 | cons s r=>cases r with
  | nil=>cases h
  | cons x r=>cases r with
   | nil=>cases bp with
    | nil=>cases h
    | cons t bp=>exact ⟨s,x,t,bp,rfl,rfl,h⟩
   | cons _ _=>cases h
theorem ML {H H':aa} {as:List I} {bp:List TypeId} {v:I} (h:fQ .clear E H as bp=some (v,H')):∃s t vc,as= [s] /\ bp=t :: vc /\ pH E H t s=some (v,H'):=by
 cases as with
 | nil=>cases h
 | cons s r=>cases r with
  | nil=>cases bp with
   | nil=>cases h
   | cons t bp=>exact ⟨s,t,bp,rfl,rfl,h⟩
  | cons x r=>cases h
theorem HW (a1:cU E P) {call:dQ} (fx:jP P E call) {s:bb} {H H':aa} {w:World} (r:bM E s H w) {M:Nat} {T:a'} {ct:Array Value} (ba:dD s M T ct) {o:Oper} {v:I} {x:tP} (R:x.zZ o ct)
 (h:oT M o.op E call T H=some (v,H')):
 ∃s' w' c,kq P o x ct w c w' /\ a5 s' v=some c /\ bM E s' H' w' /\ Ext s H w s' H' w':=by
 cases aC:o.op with
 | store t a aeY=>
  rw [aC] at h
  obtain ⟨p,aR,h⟩:=aO (show ((aK M a T).ac fun p=>(aK M aeY T).ac fun x=>gu E H t p x)=some (v,H') from h)
  obtain ⟨y,aj,h⟩:=aO h
  obtain ⟨w',b9,rfl,bi,x'⟩:=NY a1 r h (eF ba aR) (eF ba aj)
  refine ⟨s,w',undef,kq.pI (n:= .skip) R ?_ (.inr ⟨rfl,rfl⟩) (fun c V=>by rw [aC] at V; cases V),rfl,bi,x'⟩
  simp only [execOp,aC,Sem.run_bind,b9,Result.andThen_ok,Sem.run_pure]
 | call c=>
  rw [aC] at h
  replace h:=show (match c.callee with
   | .value f=>(aK M f T).ac fun f=>(c0 M c.args.toList T).ac fun as=>call f as H
   | .builtin b=>(c0 M c.args.toList T).ac fun as=>fQ b E H as c.argTypes.toList
   | _=>none)=some (v,H') from (by
    have aQ:=h
    unfold oT wE at aQ
    cases rE:c.callee <;> simp only [rE] at aQ ⊢ <;> exact aQ)
  have aw:∀x,o.op≠ .defer x:=fun x R=>by rw [aC] at R; cases R
  cases rE:c.callee with
  | value f=>
   rw [rE] at h
   obtain ⟨gq,EJ,h⟩:=aO h
   obtain ⟨as,has,h⟩:=aO h
   obtain ⟨s',w',tQ,V,bi,x',DQ⟩:=fx (bD x.b ct x.D (.inRegion x.ops (x.i :: x.rest) :: x.k)) x.cs gq as H v H' s w _ _ h r (eF ba EJ) (t8 ba has)
   rcases DQ with ⟨nx,fr,b9,xk,aG⟩ | ⟨b9,_⟩
   ·
    refine ⟨s',w',tQ,kq.Tl (nx:=nx) (fr:=fr) R ?_ xk aw aG,V,bi,x'⟩
    rw [mapA] at b9
    simpa only [execOp,aC,resolve,rE,m2] using b9
   ·
    refine ⟨s',w',tQ,kq.pI (n:= .value tQ) R ?_ (.inl rfl) aw,V,bi,x'⟩
    rw [mapA] at b9
    simpa only [execOp,aC,resolve,rE,m2] using b9
  | builtin io=>
   rw [rE] at h
   obtain ⟨as,has,h⟩:=aO h
   have DR:=t8 ba has
   have key:∀(consts:Array Bool) (type:TypeId),va P E s H w v H' (builtin io c.argTypes type consts (c.args.map (dR ct))):=by
    intro consts type
    cases io with
    | append=>
     obtain ⟨aA,dZ,t,bp,rfl,hS,h⟩:=Mz h
     obtain ⟨y,cf,aj,j4,a8⟩:=eO.1 DR
     obtain ⟨z,ck,ai,eJ,bk⟩:=eO.1 j4
     cases eJ
     have:c.args.map (dR ct)= #[y,z]:=by rw [<- mapA,a8,bk]
     rw [this]
     exact NX a1 r hS h aj ai
    | copy=>
     obtain ⟨aA,dZ,t,bp,rfl,hS,h⟩:=M8 h
     obtain ⟨y,cf,aj,j4,a8⟩:=eO.1 DR
     obtain ⟨z,ck,ai,eJ,bk⟩:=eO.1 j4
     cases eJ
     have:c.args.map (dR ct)= #[y,z]:=by rw [<- mapA,a8,bk]
     rw [this]
     exact Rm a1 r hS h aj ai
    | clear=>
     obtain ⟨aA,t,bp,rfl,hS,h⟩:=ML h
     obtain ⟨y,cf,aj,j4,a8⟩:=eO.1 DR
     cases j4
     have:c.args.map (dR ct)= #[y]:=by rw [<- mapA,a8]
     rw [this]
     exact Pq a1 r hS h aj
    | _=>cases h
   obtain ⟨s',w',n,tQ,b9,ah,V,bi,x'⟩:=key (c.args.map fun | .const _=>true | _=>false) o.type
   refine ⟨s',w',tQ,kq.pI (n:=n) R ?_ ah aw,V,bi,x'⟩
   simp only [execOp,aC,resolve,rE,Sem.run_bind,Sem.run_pure,Result.andThen_ok,invoke]
   exact b9
  | invoke r n=>rw [rE] at h; cases h
 | _=>rw [aC] at h; cases h
end Go.az
namespace Go.az
variable {P:Program} {E:Env}
theorem MA {s:bb} {v:I} {b:Bool} (h:a5 s v=some (.bool b)):v= .bool b:=by
 cases v with
 | bool x=>cases h; rfl
 | ptr x o=>obtain ⟨_,_,J⟩:=m0 h; cases J
 | slice x o n c=>obtain ⟨_,_,_,J,_⟩:=l7 h; cases J
 | func f a c=>obtain ⟨_,_,_,_,J⟩:=q2 h; cases J
 | yield l=>obtain ⟨d,_,J⟩:=map_some (show (s.cw l).map _=some (Value.bool b) from h); cases J
 | iface t x=>simp only [a5] at h; obtain ⟨y,_,J⟩:=map_some h; cases J
 | agg l=>obtain ⟨_,_,J⟩:=q6 h; cases J
 | tuple l=>obtain ⟨_,_,J⟩:=Bs h; cases J
 | _=>cases h
theorem F9 {ops:Array Oper} {ct:Array Value} {j:Nat} {b:Bool}:yielded ops ct j=some b↔∃d,(ops[j]?).bind (·.dst)=some d /\ ct[d]? =some (.bool b):=by
 unfold yielded
 cases aw:(ops[j]?).bind (·.dst) with
 | none=>simp
 | some d=>
  simp only [Option.bind_some]
  cases V:ct[d]? with
  | none=>simp [V]
  | some v=>
   cases v <;> simp [V]
theorem GM {s:bb} {M:Nat} {T:a'} {ct:Array Value} (ba:dD s M T ct) {ops:Array Oper} {g:Nat × Bool} {b:Bool} (h:mc M ops.toList T g=some b):(yielded ops ct g.1==some g.2)=b:=by
 unfold mc wc at h
 rw [Array.getElem?_toList] at h
 cases aw:(ops[g.1]?).bind (·.dst) with
 | none=>
  rw [aw] at h
  cases h
  have:yielded ops ct g.1=none:=by unfold yielded; rw [aw]; rfl
  rw [this]; rfl
 | some d=>
  rw [aw] at h
  obtain ⟨v,ak,U⟩:=bB h
  have V:=ba d v ak
  cases ae:e_ v with
  | none=>
   rw [ae] at U
   cases U
   cases aj:yielded ops ct g.1 with
   | none=>rfl
   | some cv=>
    obtain ⟨hI,fB,n8⟩:=F9.1 aj
    rw [aw] at fB; cases fB
    have:ct.getD d undef= .bool cv:=by simp [n8]
    rw [this] at V
    rw [MA V] at ae
    cases ae
  | some cv=>
   rw [ae] at U
   obtain rfl:=qT ae
   have b7:=t9 V
   have n8:ct[d]? =some (.bool cv):=by
    cases aB:ct[d]? with
    | none=>simp [aB,undef] at b7
    | some y=>simp [aB] at b7; rw [b7]
   have aj:=F9.2 ⟨d,aw,n8⟩
   rw [aj]
   have U:kT cv g.2=b:=U
   rw [<- U,oD]
   cases cv <;> cases g.2 <;> rfl
theorem N2 {s:bb} {M:Nat} {T:a'} {ct:Array Value} (ba:dD s M T ct) {ops:Array Oper} {o:Oper} {b:Bool} (h:cx M ops.toList T o=some b):Region.wanted o (yielded ops ct)=b:=by
 unfold cx at h
 unfold Region.wanted
 cases a4:o.guard with
 | none=>rw [a4] at h; cases h; rfl
 | some g=>rw [a4] at h; exact GM ba h
theorem Tm (a1:cU E P) {call:dQ} (fx:jP P E call) {s:bb} {S b':an} {w:World} {N M:Nat} (r:bM E s S.H w) {ct:Array Value} (ba:dD s M S.T ct) (b4:ct.size=N) {o:Oper} {x:tP} (R:x.zZ o ct)
 (h:jU E call N M o S=some b'):
 ∃s' w' c,kq P o x ct w c w' /\ bM E s' b'.H w' /\ Ext s S.H w s' b'.H w' /\ dD s' M b'.T (k1 ct o.dst c):=by
 unfold jU uG at h
 cases cP:cls o.op E with
 | pure=>
  rw [cP] at h
  obtain ⟨v,ak,h⟩:=aO h
  obtain ⟨T',ih,rfl⟩:=bB h
  obtain ⟨c,V,b9⟩:=G_ (P:=P) a1 ba ak cP w
  exact ⟨s,w,c,kq.pI R b9 (.inl rfl) (fun x R=>by rw [R] at ak; cases ak),r,Ext.refl _ _ _,wu ih ba b4 V⟩
 | read=>
  rw [cP] at h
  obtain ⟨v,ak,h⟩:=aO h
  obtain ⟨T',ih,rfl⟩:=bB h
  obtain ⟨w',c,b9,V,bi,x'⟩:=Ha a1 r ba ak
  exact ⟨s,w',c,kq.pI R b9 (.inl rfl) (fun x R=>by rw [R] at ak; cases ak),bi,x',wu ih ba b4 V⟩
 | alloc=>
  rw [cP] at h
  obtain ⟨p,aR,h⟩:=aO h
  obtain ⟨T',ih,rfl⟩:=bB h
  obtain ⟨ka,sz,obj,cl,c,dE,b9,vd⟩:=GL (P:=P) a1 (w:=w) ba (x:=p.1) (f:=p.2) aR
  have aM:cl.heap=w.heap:=by rcases dE with rfl | rfl <;> rfl
  have g0:Ext s S.H w s S.H cl:=by
   rcases dE with rfl | rfl
   ·
    exact Ext.refl _ _ _
   ·
    exact Ext.drew _ _ _
  have cf:=r.congr aM
  have eg:=(r.fr S.H.next (Nat.le_refl _)).1
  obtain ⟨V,U⟩:=vd s (bb.gi.refl s) S.H.next (eH cl obj) (by rw [<- aM]; exact v8 cl obj) eg
  rw [<- aM] at V U
  obtain ⟨ck,dL⟩:=bM.new cf U
  refine ⟨_,_,c,kq.pI R b9 (.inl rfl) (fun x R=>by rw [R] at aR; cases aR),ck,g0.trans dL,wu ih (ba.mono (pQ eg)) b4 V⟩
 | ha=>
  rw [cP] at h
  obtain ⟨p,aR,h⟩:=aO h
  obtain ⟨T',ih,rfl⟩:=bB h
  obtain ⟨s',w',c,eT,V,bi,x'⟩:=HW a1 fx r ba R (v:=p.1) (H':=p.2) aR
  exact ⟨s',w',c,eT,bi,x',wu ih (ba.mono (x'.vG r)) b4 V⟩
theorem N3 (call:dQ) (N M:Nat) (all:List Oper) (o:Oper) (l:List Oper) (S:an):pZ E call N M all (o :: l) S=wF E call N M all o (pZ E call N M all l) S:=rfl
theorem B1 (a1:cU E P) {call:dQ} (fx:jP P E call) {N M:Nat} {ops:Array Oper} {b:Frame} (U:b.mode= .run) {D:List Deferred} {k:List Item} {cs:List Frame}:
 ∀(l:List Oper) (j:Nat) (s:bb) (S b':an) (w:World) (ct:Array Value),ops.toList.drop j=l -> bM E s S.H w -> dD s M S.T ct -> ct.size=N -> pZ E call N M ops.toList l S=some b' ->
  ∃s' w' ey,Steps P (lone (bD b ct D (.inRegion ops (List.range' j l.length) :: k)) cs w) (lone (bD b ey D k) cs w') /\ bM E s' b'.H w' /\ Ext s S.H w s' b'.H w' /\ dD s' M b'.T ey /\ ey.size=N
 | [],j,s,S,b',w,ct,_,r,ba,b4,h=>by
  cases h
  exact ⟨s,w,ct,.one (F8 U),r,Ext.refl _ _ _,ba,b4⟩
 | o :: l,j,s,S,b',w,ct,ah,r,ba,b4,h=>by
  rw [N3] at h
  have aC:ops[j]? =some o:=by
   have:(ops.toList.drop j)[0]? =some o:=by rw [ah]; rfl
   rw [List.getElem?_drop] at this
   simpa using this
  have cC:ops.toList.drop (j + 1)=l:=by
   rw [<- List.drop_drop,ah]; rfl
  have adf:List.range' j (o :: l).length=j :: List.range' (j + 1) l.length:=by simp [List.range'_succ]
  rw [adf]
  have go:∀gF,jU E call N M o S=some gF -> pZ E call N M ops.toList l gF=some b' -> Region.wanted o (yielded ops ct)=true ->
   ∃s' w' ey,Steps P (lone (bD b ct D (.inRegion ops (j :: List.range' (j + 1) l.length) :: k)) cs w) (lone (bD b ey D k) cs w') /\ bM E s' b'.H w' /\ Ext s S.H w s' b'.H w' /\ dD s' M b'.T ey /\ ey.size=N:=by
   intro gF J O hw
   obtain ⟨s1,cl,c,eT,cf,cN,th⟩:=Tm a1 fx r ba b4 (x:=⟨b,D,k,cs,ops,j,List.range' (j + 1) l.length⟩) ⟨U,aC,hw⟩ J
   obtain ⟨s2,e8,nh,cq,ck,dL,qp,xQ⟩:=B1 a1 fx U l (j + 1) s1 gF b' cl _ cC cf th (by rw [BN]; exact b4) O
   exact ⟨s2,e8,nh,Steps.trans eT cq,ck,cN.trans dL,qp,xQ⟩
  unfold wF Cu at h
  cases a4:o.guard with
  | none=>
   rw [a4] at h
   obtain ⟨gF,J,O⟩:=aO h
   exact go gF J O (by unfold Region.wanted; rw [a4])
  | some g=>
   rw [a4] at h
   obtain ⟨io,j0,h⟩:=aO h
   have hw:=GM ba j0
   have mF:Region.wanted o (yielded ops ct)=io:=by unfold Region.wanted; rw [a4]; exact hw
   cases io with
   | true=>
    obtain ⟨gF,J,O⟩:=aO h
    exact go gF J O mF
   | false=>
    obtain ⟨ff,J,O⟩:=aO h
    obtain ⟨s2,e8,nh,cq,ck,dL,qp,xQ⟩:=B1 a1 fx U l (j + 1) s ⟨ff,S.H⟩ b' w _ cC r (wu J ba b4 (By s)) (by rw [BN]; exact b4) O
    exact ⟨s2,e8,nh,.head (Gp U aC mF) cq,ck,dL,qp,xQ⟩
end Go.az
namespace Go.az
variable {P:Program} {E:Env}
def Marks (s:bb) (H:aa) (w:World) (d':Nat) (D:List Deferred):Prop:=
 d'≤w.heap.size /\ ∃rs:List Nat,D=rs.map (fun r=> { target:= .collected r,args:= #[]}) /\ rs.Nodup /\
  ∀r∈rs,d'≤r /\ w.heap[r]? =some (Obj.deferred (some [])) /\ ∀a x,H.m.get a=some x -> m5 x -> s.cw a≠some r
theorem Marks.ext {s s':bb} {H H':aa} {w w':World} {d':Nat} {D:List Deferred} (m:Marks s H w d' D) (x:Ext s H w s' H' w'):Marks s' H' w' d' D:=by
 obtain ⟨aD,rs,hr,ar,af⟩:=m
 refine ⟨Nat.le_trans aD x.size,rs,hr,ar,fun r lU=> ?_⟩
 obtain ⟨J,O,ag⟩:=af r lU
 have aF:r < w.heap.size:=(Array.getElem?_eq_some_iff.1 O).1
 refine ⟨J,(x.b3 r aF ag).trans O,fun a y ae aC hm=> ?_⟩
 obtain ⟨a0,dZ,aP,bH,eC⟩:=x.mG a y r ae aC hm aF
 exact ag a0 dZ aP bH eC
def wv (b:Frame) (w:World):Prop:=∀l,b.roundOf=some l -> ∃r:Loop,w.heap[l]? =some (Obj.loop r)
theorem wv.ext {b:Frame} {s s':bb} {H H':aa} {w w':World} (m:wv b w) (x:Ext s H w s' H' w'):wv b w':=fun l ah=>by
 obtain ⟨r,af⟩:=m l ah
 exact x.loops l r af
def Ends (P:Program) (m:Machine) (b:Frame) (ct:Array Value) (D:List Deferred) (k:List Item) (cs:List Frame) (w:World):bu -> Prop
 | .normal=>Steps P m (lone (bD b ct D k) cs w)
 | .exit i=>∃k',exitTo i k'=exitTo i k /\ Steps P m (lone (bD b ct D (.code (.exit i) :: k')) cs w)
 | .ret=>∃k',Steps P m (lone (bD b ct D (.code .ret :: k')) cs w)
theorem Ends.of_steps {m bY:Machine} {b:Frame} {ct:Array Value} {D:List Deferred} {k:List Item} {cs:List Frame} {w:World} {e:bu} (h:Steps P m bY) (aQ:Ends P bY b ct D k cs w e):Ends P m b ct D k cs w e:=by
 cases e with
 | normal=>exact h.trans aQ
 | exit i=>obtain ⟨k',J,O⟩:=aQ; exact ⟨k',J,h.trans O⟩
 | ret=>obtain ⟨k',O⟩:=aQ; exact ⟨k',h.trans O⟩
theorem Ends.pass {m:Machine} {b:Frame} {ct:Array Value} {D:List Deferred} {k:List Item} {cs:List Frame} {w:World} {e:bu} {x:Item} (R:∀i,exitTo i (x :: k)=exitTo i k) (he:e≠ .normal)
 (h:Ends P m b ct D (x :: k) cs w e):Ends P m b ct D k cs w e:=by
 cases e with
 | normal=>exact absurd rfl he
 | exit i=>obtain ⟨k',J,O⟩:=h; exact ⟨k',J.trans (R i),O⟩
 | ret=>exact h
theorem bM.push {s:bb} {H:aa} {w:World} (r:bM E s H w) (o:Obj):bM E s H (eH w o) /\ Ext s H w s H (eH w o):=by
 have ab:∀c,c < w.heap.size -> (eH w o).heap[c]? =w.heap[c]? :=fun c V=>sn w o c V
 refine ⟨⟨fun a x c ae V=>IE ab (bb.gi.refl s) (r.lt a c V) rfl rfl (r.dr a x c ae V),r.inj,fun a c V=>by have:=r.lt a c V; simp [eH]; omega,r.fr⟩,?_⟩
 exact ⟨Nat.le_refl _,fun _ _=>⟨rfl,rfl,rfl⟩,by simp [eH],rfl,rfl,rfl,fun c V _=>ab c V,fun a x _ h o m _=>⟨a,x,h,o,m⟩,fun a x _ h o m _=>⟨a,x,h,o,m⟩,fun c q h=>⟨q,(ab c (Array.getElem?_eq_some_iff.1 h).1).trans h⟩⟩
theorem vQ {w:World} {l:Nat} {q:Loop} (h:w.heap[l]? =some (.loop q)):(Instr.getLoop l).run P w= .ok q w:=by
 have J:(getObj l).run P w= .ok (.loop q) w:=by simp [getObj,Sem.run,h]
 simp only [Instr.getLoop,Sem.run_bind,J,Result.andThen_ok]
 rfl
theorem Be {w:World} {l:Nat} {o:Obj} {q:Loop} (h:w.heap[l]? =some (.loop q)):(setObj l o).run P w= .ok () (dk w l o):=by
 simp [setObj,Sem.run,h,dk]
theorem bM.Cw {s:bb} {H:aa} {w:World} (r:bM E s H w) {a d:Nat} {x x':bf} {q q':Loop} (ae:H.m.get a=some x) (aC:m5 x) (aw:s.cw a=some d) (aM:w.heap[d]? =some (.loop q))
 (jD:x'= .dead∨∃f T N M ps as FB st ou,x'= .loop f T N M ps as FB st ou /\ q'= { state:=st,pending:=ou,fn:=f,tmps:=q'.tmps,params:=ps.toArray,assign:=as,body:=FB,defers:=q'.defers} /\ dD s M T q'.tmps /\ q'.tmps.size=N):
 bM E s (aN H a x') (dk w d (.loop q')) /\ Ext s H w s (aN H a x') (dk w d (.loop q')):=by
 have rD:=(Array.getElem?_eq_some_iff.1 aM).1
 have cp:∀b,(aN H a x').m.get b=if b=a then some x' else H.m.get b:=fun b=>bz.jo _ _ _ _
 have Xx:∀(c:Nat) (mM:Loop),w.heap[c]? =some (Obj.loop mM) -> ∃hq:Loop,(dk w d (.loop q')).heap[c]? =some (Obj.loop hq):=by
  intro c mM V
  rw [iT]
  by_cases J:c=d /\ d < w.heap.size
  ·
   rw [if_pos J]; exact ⟨q',rfl⟩
  ·
   rw [if_neg J]; exact ⟨mM,V⟩
 constructor
 ·
  refine ⟨?_,?_,fun b c V=>by rw [oE]; exact r.lt b c V,?_⟩
  ·
   intro b y c U V
   rw [cp] at U
   split at U
   ·
    rename_i he; subst he
    cases U
    rw [aw] at V; cases V
    rcases jD with rfl | ⟨f,T,N,M,ps,as,FB,st,ou,rfl,aB,ba,b4⟩
    ·
     trivial
    ·
     exact ⟨q'.tmps,q'.defers,by rw [iT,if_pos ⟨rfl,rD⟩]; exact congrArg (fun z=>some (Obj.loop z)) aB,ba,b4⟩
   ·
    rename_i bX
    have bw:y= .dead∨c≠d:=by
     cases y with
     | dead=>exact .inl rfl
     | cells tO dn dZ w0=>exact .inr fun bk=>bX (by subst bk; exact (r.inj a _ b _ c ae aC U trivial aw V).symm)
     | loop f0 t0 d' c1 Fy a0 sb K6 ac7=>exact .inr fun bk=>bX (by subst bk; exact (r.inj a _ b _ c ae aC U trivial aw V).symm)
    rcases bw with rfl | bw
    ·
     trivial
    ·
     have aD:=r.dr b y c U V
     have ab:(dk w d (.loop q')).heap[c]? =w.heap[c]? :=by rw [iT,if_neg (fun h=>bw h.1)]
     cases y with
     | cells=>obtain ⟨fq,eM,J,O⟩:=aD; exact ⟨fq,eM,ab.trans J,O⟩
     | loop=>obtain ⟨fq,eM,J,O⟩:=aD; exact ⟨fq,eM,ab.trans J,O⟩
     | dead=>trivial
  ·
   intro b y cv ch c U ni dx aaE V b7
   rw [cp] at U dx
   have J:∃z,H.m.get b=some z /\ m5 z:=by
    split at U
    ·
     rename_i he; subst he; exact ⟨_,ae,aC⟩
    ·
     exact ⟨y,U,ni⟩
   have O:∃z,H.m.get cv=some z /\ isLive z:=by
    split at dx
    ·
     rename_i he; subst he; exact ⟨_,ae,tZ aC⟩
    ·
     exact ⟨ch,dx,aaE⟩
   obtain ⟨z,ai,EE⟩:=J
   obtain ⟨kJ,fA,DM⟩:=O
   exact r.inj b z cv kJ c ai EE fA DM V b7
  ·
   intro b U
   have dx:H.next≤b:=U
   have:=r.C0 aw
   refine ⟨(r.fr b dx).1,?_⟩
   rw [cp,if_neg (by omega)]; exact (r.fr b dx).2
 ·
  refine ⟨Nat.le_refl _,fun _ _=>⟨rfl,rfl,rfl⟩,by rw [oE]; exact Nat.le_refl _,rfl,rfl,rfl,?_,?_,?_,Xx⟩
  ·
   intro c _ ar
   rw [iT,if_neg (fun h=>ar a _ ae aC (by rw [h.1]; exact aw))]
  ·
   intro b y c U ni V _
   rw [cp] at U
   split at U
   ·
    rename_i he; subst he; exact ⟨_,_,ae,aC,V⟩
   ·
    exact ⟨b,y,U,ni,V⟩
  ·
   intro b y c U ni V _
   rw [cp] at U
   split at U
   ·
    rename_i he; subst he; exact ⟨_,_,ae,tZ aC,V⟩
   ·
    exact ⟨b,y,U,ni,V⟩
def sJ (P:Program) (E:Env) (call:dQ):Prop:=∀(N M id:Nat) (ops:Array Oper) (b:Frame) (D:List Deferred) (k:List Item) (cs:List Frame) (s:bb) (S b':an) (w:World) (ct:Array Value),b.mode= .run ->
 bM E s S.H w -> dD s M S.T ct -> ct.size=N -> sF E call N M ops.toList S=some b' ->
  ∃s' w' ey,Steps P (lone (bD b ct D (.code (.region id ops true) :: k)) cs w) (lone (bD b ey D k) cs w') /\ bM E s' b'.H w' /\ Ext s S.H w s' b'.H w' /\ dD s' M b'.T ey /\ ey.size=N
def kl (P:Program) (E:Env) (fid:FuncId) (N M:Nat) (c:Code) (f:an -> Option (bu × an)):Prop:=
 ∀(S b':an) (e:bu),f S=some (e,b') -> ∀(b:Frame) (ct:Array Value) (D:List Deferred) (k:List Item) (cs:List Frame) (s:bb) (w:World) (d':Nat),b.fn=fid -> b.mode= .run -> bM E s S.H w -> dD s M S.T ct -> ct.size=N ->
  Marks s S.H w d' D -> wv b w ->
  ∃s' w' ey mQ,Ends P (lone (bD b ct D (.code c :: k)) cs w) b ey mQ k cs w' e /\ bM E s' b'.H w' /\ Ext s S.H w s' b'.H w' /\ dD s' M b'.T ey /\ ey.size=N /\ Marks s' b'.H w' d' mQ
end Go.az
namespace Go.az
variable {P:Program} {E:Env}
section
variable {call:dQ} {fid:FuncId} {N M:Nat}
theorem M9 (i:Nat) (c:Code) (k:List Item):exitTo i (.code c :: k)=exitTo i k:=rfl
theorem MB (i:Nat) (c:Code) (k:List Item):exitTo i (.inLoop c :: k)=exitTo i k:=rfl
theorem FV (i:Nat) (c:Code) (k:List Item):exitTo i (.inScope c :: k)=exitTo i k:=rfl
theorem F0 {aH:an -> Option (bu × an)} {r:Option (bu × an)} {e:bu} {b':an} (h:ss aH r=some (e,b')):
 (∃gF,r=some (.normal,gF) /\ aH gF=some (e,b'))∨(r=some (e,b') /\ e≠ .normal):=by
 obtain ⟨p,aR,h⟩:=aO h
 obtain ⟨a8,gF⟩:=p
 cases a8 with
 | normal=>exact .inl ⟨gF,aR,h⟩
 | exit i=>cases h; exact .inr ⟨aR,by simp⟩
 | ret=>cases h; exact .inr ⟨aR,by simp⟩
theorem Vz {a b:Code} {l1 il:an -> Option (bu × an)} (ae:kl P E fid N M a l1) (U:kl P E fid N M b il):kl P E fid N M (.seq a b) (fun S=>IA il (l1 S)):=by
 intro S b' e h fr ct D k cs s w d' ao hm r ba b4 bo fJ
 rcases F0 h with ⟨gF,J,O⟩ | ⟨J,bX⟩
 ·
  obtain ⟨s1,cl,fa,gS,a8,cf,cN,ff,gT,hs⟩:=ae S gF .normal J fr ct D (.code b :: k) cs s w d' ao hm r ba b4 bo fJ
  obtain ⟨s2,e8,nh,vI,bk,ck,dL,fK,pC,M2⟩:=U gF b' e O fr fa gS k cs s1 cl d' ao hm cf ff gT hs (fJ.ext cN)
  exact ⟨s2,e8,nh,vI,.of_steps (.head (Ji hm) a8) bk,ck,cN.trans dL,fK,pC,M2⟩
 ·
  obtain ⟨s1,cl,fa,gS,a8,cf,cN,ff,gT,hs⟩:=ae S b' e J fr ct D (.code b :: k) cs s w d' ao hm r ba b4 bo fJ
  exact ⟨s1,cl,fa,gS,.of_steps (.one (Ji hm)) (.pass (fun i=>M9 i b k) bX a8),cf,cN,ff,gT,hs⟩
theorem Tn {c:Operand} {a b:Code} {l1 il:an -> Option (bu × an)} (ae:kl P E fid N M a l1) (U:kl P E fid N M b il):kl P E fid N M (.cond c a b) (fun S=>HJ (aK M c S.T) l1 il S):=by
 intro S b' e h fr ct D k cs s w d' ao hm r ba b4 bo fJ
 obtain ⟨v,ak,h⟩:=aO h
 obtain ⟨t,bh,h⟩:=aO h
 obtain rfl:=qT bh
 have V:=t9 (eF ba ak)
 cases t with
 | true=>
  obtain ⟨s1,cl,fa,gS,a8,cf,cN,ff,gT,hs⟩:=ae S b' e h fr ct D k cs s w d' ao hm r ba b4 bo fJ
  exact ⟨s1,cl,fa,gS,.of_steps (.one (IF hm V)) a8,cf,cN,ff,gT,hs⟩
 | false=>
  obtain ⟨s1,cl,fa,gS,a8,cf,cN,ff,gT,hs⟩:=U S b' e h fr ct D k cs s w d' ao hm r ba b4 bo fJ
  exact ⟨s1,cl,fa,gS,.of_steps (.one (IF hm V)) a8,cf,cN,ff,gT,hs⟩
theorem Rp {id:Nat} {b:Code} {il:an -> Option (bu × an)} (U:kl P E fid N M b il):kl P E fid N M (.block id b) (fun S=>(il S).omap fun p=>l9 id p.1 p.2):=by
 intro S b' e h fr ct D k cs s w d' ao hm r ba b4 bo fJ
 obtain ⟨p,aR,h⟩:=bB h
 obtain ⟨dn,FC⟩:=p
 obtain ⟨s1,cl,fa,gS,a8,cf,cN,ff,gT,hs⟩:=U S FC dn aR fr ct D (.inBlock id :: k) cs s w d' ao hm r ba b4 bo fJ
 cases dn with
 | normal=>
  cases h
  exact ⟨s1,cl,fa,gS,.head (y3 hm) (Steps.trans a8 (.one (N0 hm))),cf,cN,ff,gT,hs⟩
 | ret=>
  cases h
  exact ⟨s1,cl,fa,gS,.of_steps (.one (y3 hm)) a8,cf,cN,ff,gT,hs⟩
 | exit i=>
  obtain ⟨k',J,O⟩:=a8
  have h:=show ap (Nat.beq i id) (bu.normal,FC) (.exit i,FC)=(e,b') from h
  cases ad:Nat.beq i id with
  | true=>
   rw [ad] at h
   cases h
   have b5:i=id:=Nat.eq_of_beq_eq_true ad
   subst b5
   refine ⟨s1,cl,fa,gS,.head (y3 hm) (Steps.trans O (.one (Tj hm ?_))),cf,cN,ff,gT,hs⟩
   rw [J]; simp [exitTo]
  | false=>
   rw [ad] at h
   cases h
   have b5:id≠i:=fun he=>by subst he; rw [Nat.beq_refl] at ad; cases ad
   refine ⟨s1,cl,fa,gS,⟨k',?_,.head (y3 hm) O⟩,cf,cN,ff,gT,hs⟩
   rw [J]; simp [exitTo,b5]
theorem Rq {b:Code} {il:an -> Option (bu × an)} (U:kl P E fid N M b il):kl P E fid N M (.scope b) il:=by
 intro S b' e h fr ct D k cs s w d' ao hm r ba b4 bo fJ
 obtain ⟨s1,cl,fa,gS,a8,cf,cN,ff,gT,hs⟩:=U S b' e h fr ct D (.inScope b :: k) cs s w d' ao hm r ba b4 bo fJ
 refine ⟨s1,cl,fa,gS,.of_steps (.one (Ro hm)) ?_,cf,cN,ff,gT,hs⟩
 cases e with
 | normal=>exact Steps.trans a8 (.one (N1 hm))
 | exit i=>exact .pass (fun i=>FV i b k) (by simp) a8
 | ret=>exact .pass (fun i=>FV i b k) (by simp) a8
theorem IG {b:Code} {il:an -> Option (bu × an)} (U:kl P E fid N M b il):∀(n:Nat) (S b':an) (e:bu),iter il n S=some (e,b') ->
 ∀(fr:Frame) (ct:Array Value) (D:List Deferred) (k:List Item) (cs:List Frame) (s:bb) (w:World) (d':Nat),fr.fn=fid -> fr.mode= .run -> bM E s S.H w -> dD s M S.T ct -> ct.size=N -> Marks s S.H w d' D -> wv fr w ->
 ∃s' w' ey mQ,Ends P (lone (bD fr ct D (.code b :: .inLoop b :: k)) cs w) fr ey mQ k cs w' e /\ bM E s' b'.H w' /\ Ext s S.H w s' b'.H w' /\ dD s' M b'.T ey /\ ey.size=N /\ Marks s' b'.H w' d' mQ
 | 0,S,b',e,h=>by cases h
 | n + 1,S,b',e,h=>by
  intro fr ct D k cs s w d' ao hm r ba b4 bo fJ
  have h:=show ss (iter il n) (il S)=some (e,b') from h
  rcases F0 h with ⟨gF,J,O⟩ | ⟨J,bX⟩
  ·
   obtain ⟨s1,cl,fa,gS,a8,cf,cN,ff,gT,hs⟩:=U S gF .normal J fr ct D (.inLoop b :: k) cs s w d' ao hm r ba b4 bo fJ
   obtain ⟨s2,e8,nh,vI,bk,ck,dL,fK,pC,M2⟩:=IG U n gF b' e O fr fa gS k cs s1 cl d' ao hm cf ff gT hs (fJ.ext cN)
   exact ⟨s2,e8,nh,vI,.of_steps (Steps.trans a8 (.one (Pr hm))) bk,ck,cN.trans dL,fK,pC,M2⟩
  ·
   obtain ⟨s1,cl,fa,gS,a8,cf,cN,ff,gT,hs⟩:=U S b' e J fr ct D (.inLoop b :: k) cs s w d' ao hm r ba b4 bo fJ
   exact ⟨s1,cl,fa,gS,.pass (fun i=>MB i b k) bX a8,cf,cN,ff,gT,hs⟩
theorem To {b:Code} {il:an -> Option (bu × an)} (U:kl P E fid N M b il) (n:Nat):kl P E fid N M (.loop b) (iter il n):=by
 intro S b' e h fr ct D k cs s w d' ao hm r ba b4 bo fJ
 obtain ⟨s1,cl,fa,gS,a8,cf,cN,ff,gT,hs⟩:=IG U n S b' e h fr ct D k cs s w d' ao hm r ba b4 bo fJ
 exact ⟨s1,cl,fa,gS,.of_steps (.one (Ti hm)) a8,cf,cN,ff,gT,hs⟩
theorem Pt (a1:cU E P) (fx:jP P E call) (mn:sJ P E call) (id:Nat) (ops:Array Oper) (draw:Bool):kl P E fid N M (.region id ops draw) (fun S=>IB E call N M ops draw S):=by
 intro S b' e h fr ct D k cs s w d' ao hm r ba b4 bo fJ
 cases draw with
 | false=>
  obtain ⟨gF,J,he⟩:=bB (show (pZ E call N M ops.toList ops.toList ⟨⟨.nil,S.T.G⟩,S.H⟩).omap (fun s=>(bu.normal,s))=some (e,b') from h)
  cases he
  obtain ⟨s1,cl,fa,a8,cf,cN,ff,gT⟩:=B1 a1 fx hm (D:=D) (k:=k) (cs:=cs) ops.toList 0 s ⟨⟨.nil,S.T.G⟩,S.H⟩ b' w ct (by simp) r ba.global b4 J
  refine ⟨s1,cl,fa,D,.head (Ps hm) ?_,cf,cN,ff,gT,bo.ext cN⟩
  rw [List.range_eq_range']
  simpa using a8
 | true=>
  obtain ⟨gF,J,he⟩:=bB (show (sF E call N M ops.toList ⟨⟨.nil,S.T.G⟩,S.H⟩).omap (fun s=>(bu.normal,s))=some (e,b') from h)
  cases he
  obtain ⟨s1,cl,fa,a8,cf,cN,ff,gT⟩:=mn N M id ops fr D k cs s ⟨⟨.nil,S.T.G⟩,S.H⟩ b' w ct hm r ba.global b4 J
  exact ⟨s1,cl,fa,D,a8,cf,cN,ff,gT,bo.ext cN⟩
end
def ww (fid:FuncId) (ct:Array Value) (ps:Array Tmp) (a b:Code) (d:Nat):Loop:= { state:= .ready,pending:=none,fn:=fid,tmps:=ct,params:=ps,assign:=a,body:=b,defers:=d}
theorem Mr {fid:FuncId} {ct:Array Value} {ps:Array Tmp} {a b:Code} {w:World}:
 (Instr.enterLoop fid ct ps a b none).run P w= .ok (w.heap.size + 1,[{ target:= .collected w.heap.size,args:= #[]}]) (eH (eH w (.deferred (some []))) (.loop (ww fid ct ps a b w.heap.size))):=by
 simp only [Instr.enterLoop,Sem.run_bind,run_newObj,Result.andThen_ok,Sem.run_pure]
 rw [Array.size_push]
 rfl
theorem Ms {fid:FuncId} {ct:Array Value} {ps:Array Tmp} {a b:Code} {w:World} {l:Nat} {q:Loop} (h:w.heap[l]? =some (.loop q)):
 (Instr.enterLoop fid ct ps a b (some l)).run P w= .ok (w.heap.size,[]) (eH w (.loop (ww fid ct ps a b q.defers))):=by
 simp only [Instr.enterLoop,Sem.run_bind,vQ h,run_newObj,Result.andThen_ok,Sem.run_pure]
 rfl
theorem M_ {w:World} {l:Nat} {q:Loop} (h:w.heap[l]? =some (.loop q)) (U:q.state≠ .busy):
 (Instr.endLoop l).run P w= .ok q.pending (dk w l (.loop { q with state:= .exhausted})):=by
 have dx:(q.state==LoopState.busy)=false:=by
  cases aG:q.state <;> first | rfl | exact absurd aG U
 simp only [Instr.endLoop,Sem.run_bind,vQ h,Result.andThen_ok,dx,Bool.false_eq_true,if_false,Be h,Sem.run_pure]
section
variable {fr:Frame} {ct:Array Value} {D:List Deferred} {k:List Item} {cs:List Frame} {w:World}
theorem M' (hm:fr.mode= .run) {l:Nat} {q:Loop} (h:w.heap[l]? =some (.loop q)) (U:q.state≠ .busy):
 step P (lone (bD fr ct D (.endRangeFunc l :: k)) cs w)= .next (lone (bD fr ct D ((q.pending.map Item.code).toList ++ k)) cs (dk w l (.loop { q with state:= .exhausted}))):=by
 refine step_lone_go ?_
 have af:=M_ (P:=P) h U
 simp only [stepG,stepG.exec,bD,hm,Sem.runT_eq,af,GStep.bare_after]
 rfl
theorem MC (mP:Value) (l:Nat) (f:Operand) (ao:dR ct f=mP) (todo:List Item):
 (do let d <- resolve (bD fr ct D todo).eval { callee:= .value f,args:= #[.const (.func (.yield l) #[] #[])],argTypes:= #[]} 0; invoke d.target d.args:Sem Next)=m2 mP #[.func (.yield l) #[] #[]]:=by
 rw [Hb]
 have J:Array.map (dR ct) #[.const (.func (.yield l) #[] #[])]= #[.func (.yield l) #[] #[]]:=by simp [dR]
 simp only [resolve,m2,ao,J]
theorem MM (hm:fr.mode= .run) {f:Operand} {ps:Array Tmp} {a b:Code} {l:Nat} {mark:List Deferred} {cl:World} {nx:Next} {Ar:Frame} (he:(Instr.enterLoop fr.fn ct ps a b fr.roundOf).run P w= .ok (l,mark) cl)
 (V:(m2 (dR ct f) #[.func (.yield l) #[] #[]]).run P cl= .ok nx cl) (xk:wH P nx Ar):
 step P (lone (bD fr ct D (.code (.rangeFunc f ps a b) :: k)) cs w)= .next (lone Ar (bD fr ct (mark ++ D) (.inRangeFunc l :: k) :: cs) cl):=by
 refine step_lone_go ?_
 have hT:=Gq (P:=P) (cs:=cs) (fr:=bD fr ct (mark ++ D) (.inRangeFunc l :: k)) (m:=m2 (dR ct f) #[.func (.yield l) #[] #[]]) V xk (fun _ _ _ _ h=>by cases h)
 rw [<- MC (fr:=fr) (D:=mark ++ D) (dR ct f) l f rfl (.inRangeFunc l :: k)] at hT
 simp only [stepG,stepG.exec,bD,hm,Sem.runT_eq,he,GStep.bare_after]
 simp only [bD,hm] at hT
 exact hT
end
end Go.az
namespace Go.az
variable {P:Program} {E:Env}
section
variable {call:dQ} {fid:FuncId} {N M:Nat}
theorem MD {T:a'} {H:aa} {id:Nat} {e:bu} {b':an} (h:pL T H id=some (e,b')):
 ∃f AU FD FE ps a b st ou,H.m.get id=some (.loop f AU FD FE ps a b st ou) /\ st≠ .busy /\ b'=⟨T,aN H id .dead⟩ /\
  ((ou=none /\ e= .normal)∨(∃i,ou=some (.exit i) /\ e= .exit i)∨(ou=some .ret /\ e= .ret)):=by
 obtain ⟨x,R,h⟩:=aO h
 cases x with
 | loop f AU FD FE ps a b st ou=>
  have cq:st≠ .busy:=by rintro rfl; cases h
  refine ⟨f,AU,FD,FE,ps,a,b,st,ou,R,cq,?_⟩
  cases ou with
  | none=>cases st <;> first | exact absurd rfl cq | (cases h; exact ⟨rfl,.inl ⟨rfl,rfl⟩⟩)
  | some c=>
   have aQ:(o0 c).omap (fun e=>(e,(⟨T,aN H id .dead⟩:an)))=some (e,b'):=by cases st <;> first | exact absurd rfl cq | exact h
   obtain ⟨dn,iC,h⟩:=bB aQ
   cases h
   refine ⟨rfl,.inr ?_⟩
   cases c <;> first | (cases iC; exact .inr ⟨rfl,rfl⟩) | (cases iC; exact .inl ⟨_,rfl,rfl⟩) | cases iC
 | cells=>cases h
 | dead=>cases h
theorem IH (fx:jP P E call) {f:Operand} {ps:Array Tmp} {a b:Code} {S b':an} {e:bu} (h:CX E call fid N M f ps a b S=some (e,b'))
 {fr:Frame} {ct:Array Value} {D mark:List Deferred} {k:List Item} {cs:List Frame} {s:bb} {w w0:World} {d' d:Nat} (hm:fr.mode= .run) (ba:dD s M S.T ct) (b4:ct.size=N)
 (he:(Instr.enterLoop fr.fn ct ps a b fr.roundOf).run P w= .ok (w0.heap.size,mark) (eH w0 (.loop (ww fid ct ps a b d)))) (fF:bM E s S.H w0) (dZ:Ext s S.H w s S.H w0) (bo:Marks s S.H w0 d' (mark ++ D)):
 ∃s' w' ey mQ,Ends P (lone (bD fr ct D (.code (.rangeFunc f ps a b) :: k)) cs w) fr ey mQ k cs w' e /\ bM E s' b'.H w' /\ Ext s S.H w s' b'.H w' /\ dD s' M b'.T ey /\ ey.size=N /\ Marks s' b'.H w' d' mQ:=by
 obtain ⟨gq,EJ,h⟩:=aO h
 obtain ⟨p,aR,h⟩:=aO h
 obtain ⟨v,ay⟩:=p
 have Kg:=(fF.fr S.H.next (Nat.le_refl _)).1
 have U:kp E (cj s S.H.next w0.heap.size 0 0) S.H.next w0.heap.size (eH w0 (.loop (ww fid ct ps a b d))) (.loop fid S.T N M ps.toList a b .ready none):=
  ⟨ct,d,by rw [v8]; simp [ww],ba.mono (pQ Kg),b4⟩
 obtain ⟨cf,cN⟩:=bM.new fF U
 have eh:(cj s S.H.next w0.heap.size 0 0).cw S.H.next=some w0.heap.size:=hf _ _ _ _ _
 have n7:bZ (cj s S.H.next w0.heap.size 0 0) [.yield S.H.next]=some [.func (.yield w0.heap.size) #[] #[]]:=by
  simp [bZ,a5,eh]
 obtain ⟨s2,e8,c,V,ck,dL,DQ⟩:=fx (bD fr ct (mark ++ D) (.inRangeFunc w0.heap.size :: k)) cs gq [.yield S.H.next] _ v ay _ _ _ _ aR cf (q1 (pQ Kg) _ _ (eF ba EJ)) n7
 obtain ⟨nx,Ar,b9,xk,aG⟩:∃nx Ar,_ /\ _ /\ _:=DQ.resolve_right fun k=>k.2 _ rfl
 have cq:=MM (P:=P) (k:=k) (cs:=cs) (D:=D) hm he b9 xk
 obtain ⟨f1,ff,gT,hs,K',bI,d8,kC,EK,cp,aaF,rfl,iz⟩:=MD h
 have Kh:s2.cw S.H.next=some w0.heap.size:=by
  rw [(dL.le S.H.next (Nat.lt_succ_self _)).1]; exact eh
 obtain ⟨fa,gS,aM,th,afQ⟩:=ck.dr _ _ _ cp Kh
 obtain ⟨kH,mR⟩:=ck.Cw (x':= .dead) (q':= { ({ state:=kC,pending:=EK,fn:=f1,tmps:=fa,params:=K'.toArray,assign:=bI,body:=d8,defers:=gS}:Loop) with state:= .exhausted}) cp trivial Kh aM (.inl rfl)
 have DL:(bD fr ct (mark ++ D) (.inRangeFunc w0.heap.size :: k)).finish c=bD fr ct (mark ++ D) (.endRangeFunc w0.heap.size :: k):=rfl
 have wI:Steps P (lone (bD fr ct D (.code (.rangeFunc f ps a b) :: k)) cs w) (lone (bD fr ct (mark ++ D) ((EK.map Item.code).toList ++ k)) cs (dk e8 w0.heap.size (.loop { ({ state:=kC,pending:=EK,fn:=f1,tmps:=fa,params:=K'.toArray,assign:=bI,body:=d8,defers:=gS}:Loop) with state:= .exhausted}))):=by
  refine .head cq (Steps.trans aG ?_)
  rw [DL]
  exact .one (M' hm aM aaF)
 have tR:=(cN.trans dL).trans mR
 refine ⟨s2,_,ct,mark ++ D,?_,kH,dZ.trans tR,ba.mono (tR.vG fF),b4,bo.ext tR⟩
 rcases iz with ⟨rfl,rfl⟩ | ⟨i,rfl,rfl⟩ | ⟨rfl,rfl⟩
 ·
  exact wI
 ·
  exact ⟨k,rfl,wI⟩
 ·
  exact ⟨k,wI⟩
theorem MN (fx:jP P E call) {f:Operand} {ps:Array Tmp} {a b:Code}:kl P E fid N M (.rangeFunc f ps a b) (fun S=>CX E call fid N M f ps a b S):=by
 intro S b' e h fr ct D k cs s w d' ao hm r ba b4 bo fJ
 cases jd:fr.roundOf with
 | none=>
  have he:=Mr (P:=P) (fid:=fr.fn) (ct:=ct) (ps:=ps) (a:=a) (b:=b) (w:=w)
  obtain ⟨fF,dZ⟩:=r.push (.deferred (some []))
  refine IH fx h (mark:= [{ target:= .collected w.heap.size,args:= #[]}]) (w0:=eH w (.deferred (some []))) (d:=w.heap.size) hm ba b4 ?_ fF dZ ?_
  ·
   rw [jd,he,ao]
   congr 2
   simp [eH]
  ·
   obtain ⟨aD,rs,hr,ar,af⟩:=bo.ext dZ
   have bm:(eH w (.deferred (some []))).heap.size=w.heap.size + 1:=by simp [eH]
   have ve:=bo.1
   refine ⟨aD,w.heap.size :: rs,by rw [hr]; rfl,?_,?_⟩
   ·
    refine List.nodup_cons.2 ⟨fun kY=> ?_,ar⟩
    obtain ⟨_,adg,La,_,lU⟩:=bo
    rw [hr] at La
    have r1:rs=adg:=by
     have:=congrArg (List.map fun (d:Deferred)=>match d.target with | .collected r=>r | _=>0) La
     simpa [List.map_map,Function.comp_def] using this
    subst r1
    have:=(Array.getElem?_eq_some_iff.1 (lU _ kY).2.1).1
    omega
   ·
    intro bi lU
    rcases List.mem_cons.1 lU with rfl | lU
    ·
     refine ⟨ve,v8 _ _,fun a x ae aC hm=> ?_⟩
     have:=r.lt a _ hm
     omega
    ·
     exact af bi lU
 | some l=>
  obtain ⟨q,aB⟩:=fJ l jd
  have he:=Ms (P:=P) (fid:=fr.fn) (ct:=ct) (ps:=ps) (a:=a) (b:=b) aB
  refine IH fx h (mark:= []) (w0:=w) (d:=q.defers) hm ba b4 ?_ r (Ext.refl _ _ _) bo
  rw [jd,he,ao]
theorem B2 (a1:cU E P) (fx:jP P E call) (mn:sJ P E call) (g1:Nat) (c:Code):kl P E fid N M c (fun S=>(lC E fid N M c).f call g1 S):=by
 induction c with
 | skip=>
  intro S b' e h fr ct D k cs s w d' ao hm r ba b4 bo fJ
  cases h
  exact ⟨s,w,ct,D,.one (Th hm),r,Ext.refl _ _ _,ba,b4,bo⟩
 | region id ops draw=>exact Pt a1 fx mn id ops draw
 | seq a b gr cH=>exact Vz gr cH
 | cond c a b gr cH=>exact Tn gr cH
 | block id b cH=>exact Rp cH
 | loop b cH=>exact To cH g1
 | rangeFunc f ps a b gr cH=>exact MN fx
 | exit i=>
  intro S b' e h fr ct D k cs s w d' ao hm r ba b4 bo fJ
  cases h
  exact ⟨s,w,ct,D,⟨k,rfl,.refl _ _⟩,r,Ext.refl _ _ _,ba,b4,bo⟩
 | scope b cH=>exact Rq cH
 | label l=>
  intro S b' e h fr ct D k cs s w d' ao hm r ba b4 bo fJ
  cases h
  exact ⟨s,w,ct,D,.one (Rn hm),r,Ext.refl _ _ _,ba,b4,bo⟩
 | goto l=>intro S b' e h; cases h
 | ret=>
  intro S b' e h fr ct D k cs s w d' ao hm r ba b4 bo fJ
  cases h
  exact ⟨s,w,ct,D,⟨k,.refl _ _⟩,r,Ext.refl _ _ _,ba,b4,bo⟩
 | refuse As=>intro S b' e h; cases h
end
end Go.az
namespace Go.az
variable {P:Program} {E:Env}
theorem N4 (M i:Nat) (T:a'):nF M [] i T=T:=rfl
theorem Gr (M:Nat) (x:I) (l:List I) (i:Nat) (T:a'):nF M (x :: l) i T=nF M l (i + 1) (a'.put M T x i):=rfl
theorem GN (M:Nat):∀(l:List I) (i:Nat) (T:a') (j:Nat),(nF M l i T).get M j=if i≤j /\ j < i + l.length then l[j - i]? else T.get M j
 | [],i,T,j=>by rw [N4,if_neg (by rintro ⟨J,O⟩; simp only [List.length_nil] at O; omega)]
 | x :: l,i,T,j=>by
  rw [Gr,GN M l (i + 1) (a'.put M T x i) j,a'.md]
  by_cases J:i + 1≤j /\ j < i + 1 + l.length
  ·
   rw [if_pos J,if_pos (by simp; omega)]
   have:j - i=(j - (i + 1)) + 1:=by omega
   rw [this]; simp
  ·
   rw [if_neg J]
   by_cases O:j=i
   ·
    subst O
    rw [if_pos rfl,if_pos (by simp)]; simp
   ·
    rw [if_neg (by omega),if_neg (by simp; omega)]
theorem N5 {s:bb} {M N:Nat} {as:List I} {ez:List Value} (h:bZ s as=some ez):dD s M (nF M as 0 ⟨.nil,.nil⟩) (ez.toArray ++ Array.replicate (N - ez.length) undef):=by
 intro j v ax
 rw [GN] at ax
 split at ax
 ·
  obtain ⟨c,V,hn⟩:=vZ h ax
  rw [hn]
  have aF:j < ez.length:=(List.getElem?_eq_some_iff.1 V).1
  have:(ez.toArray ++ Array.replicate (N - ez.length) undef)[j]? =some c:=by
   rw [Array.getElem?_append_left (by simpa using aF)]; simpa using V
  simp [this]
 ·
  exact dD.empty s M _ j v ax
theorem Pu (M:Nat) (T:a') (H:aa) (r:ResultVar) (l:List ResultVar):h0 E M T H (r :: l)=(match r with
 | .tmp t=>(a'.get M T t).ac fun v=>(h0 E M T H l).omap (v :: ·)
 | .cell a t=>(a'.get M T a).ac fun p=>(ec p).ac fun q=>(dw E H t q.1 q.2).ac fun v=>(h0 E M T H l).omap (v :: ·)):=rfl
def wJ (ct:Array Value) (r:ResultVar):Sem Value:=match r with
 | .tmp t=>pure (ct.getD t undef)
 | .cell a t=>do loadVar t (<- asAddr (ct.getD a undef))
theorem B3 (a1:cU E P) {s:bb} {M:Nat} {T:a'} {H:aa} {w:World} {ct:Array Value} (r:bM E s H w) (ba:dD s M T ct):∀(l:List ResultVar) (vs:List I),h0 E M T H l=some vs ->
 ∃cs,bZ s vs=some cs /\ (l.mapM (wJ ct)).run P w= .ok cs w
 | [],vs,h=>by cases h; exact ⟨[],rfl,rfl⟩
 | x :: l,vs,h=>by
  rw [Pu] at h
  cases x with
  | tmp t=>
   obtain ⟨v,ak,h⟩:=aO h
   obtain ⟨vf,lV,rfl⟩:=bB h
   obtain ⟨cs,cB,b9⟩:=B3 a1 r ba l vf lV
   refine ⟨_,eO.2 ⟨_,_,ba t v ak,cB,rfl⟩,?_⟩
   rw [List.mapM_cons]
   simp only [wJ,Sem.run_bind,Sem.run_pure,Result.andThen_ok,b9]
  | cell a t=>
   obtain ⟨p,aR,h⟩:=aO h
   obtain ⟨q,aB,h⟩:=aO h
   obtain ⟨v,ak,h⟩:=aO h
   obtain ⟨vf,lV,rfl⟩:=bB h
   obtain rfl:=l6 aB
   obtain ⟨d,aw,adh⟩:=m0 (ba a _ aR)
   obtain ⟨c,V,Dp⟩:=GG (P:=P) a1 r ak aw
   obtain ⟨cs,cB,b9⟩:=B3 a1 r ba l vf lV
   refine ⟨_,eO.2 ⟨_,_,V,cB,rfl⟩,?_⟩
   rw [List.mapM_cons]
   have ae:(asAddr (.pointer (some ⟨d,q.2,none⟩))).run P w= .ok ⟨d,q.2,none⟩ w:=rfl
   simp only [wJ,adh,Sem.run_bind,ae,Dp,Sem.run_pure,Result.andThen_ok,b9]
theorem Na {s:bb} {vs:List I} {cs:List Value} (h:bZ s vs=some cs):a5 s (single vs)=some (if h:cs.toArray.size=1 then cs.toArray[0] else .tuple cs.toArray):=by
 cases vs with
 | nil=>cases h; rfl
 | cons v l=>
  obtain ⟨c,cs',V,cB,rfl⟩:=eO.1 h
  cases l with
  | nil=>cases cB; simpa [single] using V
  | cons v2 hV=>
   obtain ⟨bV,Lb,hF,afm,rfl⟩:=eO.1 cB
   have:single (v :: v2 :: hV)= .tuple (v :: v2 :: hV):=rfl
   rw [this,a5,h]
   simp
theorem Nb (a1:cU E P) {s:bb} {M:Nat} {T:a'} {H:aa} {w:World} {ct:Array Value} (r:bM E s H w) (ba:dD s M T ct) {fn:Func} {vs:List I} (h:h0 E M T H fn.results.toList=some vs):
 ∃c,a5 s (single vs)=some c /\ (results fn ct).run P w= .ok c w:=by
 obtain ⟨cs,cB,b9⟩:=B3 a1 r ba _ _ h
 refine ⟨_,Na cB,?_⟩
 have J:(fn.results.mapM (wJ ct)).run P w= .ok cs.toArray w:=by
  rw [Array.mapM_eq_mapM_toList]
  simp only [Sem.run_map,b9,Result.andThen_ok]
 have O:(results fn ct).run P w=((fn.results.mapM (wJ ct)).run P w).andThen fun vs w=> .ok (if h:vs.size=1 then vs[0] else .tuple vs) w:=by
  unfold results
  rw [Sem.run_bind]
  rfl
 rw [O,J]
 rfl
def nI (b:Frame) (ct:Array Value) (D:List Deferred) (todo:List Item):Frame:= { bD b ct D todo with mode:= .returning}
theorem Tp {b:Frame} {ct:Array Value} {D:List Deferred} {todo:List Item} {cs:List Frame} {w:World} {r:Nat} (h:w.heap[r]? =some (Obj.deferred (some []))):
 step P (lone (nI b ct ({ target:= .collected r,args:= #[]} :: D) todo) cs w)= .next (lone (nI b ct D todo) cs (dk w r (.deferred none))):=by
 refine step_lone_go ?_
 have a4:(getObj r).run P w= .ok (.deferred (some [])) w:=by simp [getObj,Sem.run,h]
 have aG:(setObj r (.deferred none)).run P w= .ok () (dk w r (.deferred none)):=by simp [setObj,Sem.run,h,dk]
 have bh:(Instr.takeDeferred r).run P w= .ok [] (dk w r (.deferred none)):=by
  simp only [Instr.takeDeferred,Sem.run_bind,a4,Result.andThen_ok,aG,Sem.run_pure]
 simp only [stepG,nI,bD,unwind,Sem.runT_eq,bh,GStep.bare_after]
 rfl
theorem bM.other {s:bb} {H:aa} {w:World} (r:bM E s H w) {d:Nat} {o o':Obj} (aw:w.heap[d]? =some o) (V:∀a e f,o≠ .cells a e f) (ah:∀q,o≠ .loop q):bM E s H (dk w d o'):=by
 refine ⟨fun a x c ae b7=> ?_,r.inj,fun a c h=>by rw [oE]; exact r.lt a c h,r.fr⟩
 have aD:=r.dr a x c ae b7
 by_cases bw:c=d
 ·
  subst bw
  cases x with
  | cells=>obtain ⟨fq,eM,J,_⟩:=aD; rw [aw] at J; cases J; exact absurd rfl (V _ _ _)
  | loop=>obtain ⟨fq,eM,J,_⟩:=aD; rw [aw] at J; cases J; exact absurd rfl (ah _)
  | dead=>trivial
 ·
  have ab:(dk w d o').heap[c]? =w.heap[c]? :=by rw [iT,if_neg (fun h=>bw h.1)]
  cases x with
  | cells=>obtain ⟨fq,eM,J,O⟩:=aD; exact ⟨fq,eM,ab.trans J,O⟩
  | loop=>obtain ⟨fq,eM,J,O⟩:=aD; exact ⟨fq,eM,ab.trans J,O⟩
  | dead=>trivial
theorem Ext.other {s s0:bb} {H H0:aa} {w w0:World} (x:Ext s0 H0 w0 s H w) {d:Nat} {o o':Obj} (aD:w0.heap.size≤d) (aw:w.heap[d]? =some o) (ah:∀q,o≠ .loop q):Ext s0 H0 w0 s H (dk w d o') where
 nx:=x.nx
 le:=x.le
 size:=by rw [oE]; exact x.size
 os:=x.os
 tape:=x.tape
 output:=x.output
 b3 c V ar:=by rw [iT,if_neg (by omega)]; exact x.b3 c V ar
 mG:=x.mG
 nN:=x.nN
 loops c q V:=by
  obtain ⟨q',aB⟩:=x.loops c q V
  refine ⟨q',?_⟩
  rw [iT,if_neg,aB]
  rintro ⟨rfl,_⟩
  rw [aw] at aB; cases aB
  exact ah _ rfl
theorem Jk {b:Frame} {ct:Array Value} {todo:List Item} {cs:List Frame} {s s0:bb} {H H0:aa} {w0:World}:∀(rs:List Nat) (w:World),rs.Nodup -> (∀r∈rs,w0.heap.size≤r /\ w.heap[r]? =some (Obj.deferred (some []))) ->
 bM E s H w -> Ext s0 H0 w0 s H w ->
 ∃w',Steps P (lone (nI b ct (rs.map fun r=> { target:= .collected r,args:= #[]}) todo) cs w) (lone (nI b ct [] todo) cs w') /\ bM E s H w' /\ Ext s0 H0 w0 s H w'
 | [],w,_,_,r,x=>⟨w,.refl _ _,r,x⟩
 | d :: rs,w,ar,af,r,x=>by
  obtain ⟨J,O⟩:=af d (by simp)
  obtain ⟨lc,Aq⟩:=List.nodup_cons.1 ar
  have cf:=r.other (o':= .deferred none) O (by simp) (by simp)
  have cN:=x.other (o':= .deferred none) J O (by simp)
  obtain ⟨w',cq,bi,x'⟩:=Jk rs (dk w d (.deferred none)) Aq (fun hI fB=>by
   obtain ⟨ag,aP⟩:=af hI (by simp [fB])
   refine ⟨ag,?_⟩
   rw [iT,if_neg,aP]
   rintro ⟨rfl,_⟩
   exact lc fB) cf cN
  exact ⟨w',.head (Tp O) cq,bi,x'⟩
end Go.az
namespace Go.az
variable {P:Program} {E:Env}
def uJ (P:Program) (E:Env) (f:FuncId) (as:List I) (H:aa) (v:I) (H':aa):Prop:=∀(cs:List Frame) s w ez,bM E s H w -> bZ s as=some ez ->
 ∃s' w' c fr,(callFunc f ez.toArray).run P w= .ok (.enter f ez.toArray) w /\ a5 s' v=some c /\ bM E s' H' w' /\ Ext s H w s' H' w' /\
  Steps P (lone (Frame.enter P f ez.toArray .normal) cs w) (lone fr cs w') /\ fr.fn=f /\ fr.leaving P w' (.returned c)
def JG (P:Program) (E:Env) (f:FuncId) (as:List I) (H:aa) (v:I) (H':aa):Prop:=(∀l,I.yield l ∉ as) /\ ∀s w ez,bM E s H w -> bZ s as=some ez ->
 ∃s' w' c,(callFunc f ez.toArray).run P w= .ok (.value c) w' /\ a5 s' v=some c /\ bM E s' H' w' /\ Ext s H w s' H' w'
structure km (E:Env) (P:Program):Prop where
 types:cU E P
 fn:∀f fn,E.fn f=some fn -> P.funcs[f]? =some fn
 AV:∀f fn,E.fn f=some fn -> fn.body.isSome=true -> (fn.name== "runtime.NumGoroutine")=false
 mixed:P.follows .mixedOrders=true
 DS:∀f g,E.sum f=some g -> ∀as H v H',g as H=some (v,H') -> uJ P E f as H v H'∨JG P E f as H v H'
theorem MO {f:FuncId} {fn:Func} {args:Array Value} {c:Code} (ao:P.funcs[f]? =some fn) (ar:(fn.name== "runtime.NumGoroutine")=false) (U:fn.body=some c) (w:World):
 (callFunc f args).run P w= .ok (.enter f args) w:=by
 have J:program.run P w= .ok P w:=rfl
 simp only [callFunc,Sem.run_bind,J,Result.andThen_ok,ao,ar,Bool.false_eq_true,if_false,U,Option.isNone_some,Sem.run_pure]
theorem Nc {b:Frame} {ct:Array Value} {todo:List Item} {w:World} {fn:Func} {c:Value} (ab:b.kind= .normal) (ao:P.funcs[b.fn]? =some fn) (af:(results fn ct).run P w= .ok c w):
 (nI b ct [] todo).leaving P w (.returned c):=⟨rfl,rfl,ab,fn,ao,af⟩
theorem VA {b:Frame} {ct:Array Value} {D:List Deferred} {cs:List Frame} {w:World} (hm:b.mode= .run) (af:b.roundOf=none):step P (lone (bD b ct D []) cs w)= .next (lone (nI b ct D []) cs w):=
 step_lone_go (by simp [stepG,stepG.exec,bD,nI,hm,af])
theorem VB {b:Frame} {ct:Array Value} {D:List Deferred} {k:List Item} {cs:List Frame} {w:World} (hm:b.mode= .run) (af:b.roundOf=none):step P (lone (bD b ct D (.code .ret :: k)) cs w)= .next (lone (nI b ct D (.code .ret :: k)) cs w):=
 step_lone_go (by simp [stepG,stepG.exec,bD,nI,hm,af])
section
variable {call:dQ}
theorem BB (a1:km E P) (fx:jP P E call) (mn:sJ P E call) {g1:Nat} {f:FuncId} {as:List I} {H H':aa} {v:I} (aG:E.sum f=none) (h:rf E g1 call f as H=some (v,H')):uJ P E f as H v H':=by
 unfold rf sR at h
 rw [aG] at h
 cases n9:E.fn f with
 | none=>rw [n9] at h; cases h
 | some fn=>
  rw [n9] at h
  have h:=show (zA E f fn).f g1 call as H=some (v,H') from h
  unfold zA at h
  cases U:fn.body with
  | none=>rw [U] at h; cases h
  | some c=>
   rw [U] at h
   obtain ⟨hle,h⟩:=cd (show ap (Nat.ble (bJ as) fn.ntmps) (Dm E fn (sG E call g1 f fn.ntmps (E.mask fn) c ⟨nF (E.mask fn) as 0 ⟨.nil,.nil⟩,H⟩)) none=some (v,H') from h)
   obtain ⟨p,aR,h⟩:=aO h
   obtain ⟨e,b'⟩:=p
   have EL:=a1.fn f fn n9
   have adi:=a1.AV f fn n9 (by rw [U]; rfl)
   rw [eQ] at hle
   have hle:=de.1 hle
   have bX:pV e=false /\ ((h0 E (E.mask fn) b'.T b'.H fn.results.toList).omap fun l=>(single l,b'.H))=some (v,H'):=by
    have h:=show ap (pV e) none ((h0 E (E.mask fn) b'.T b'.H fn.results.toList).omap fun l=>(single l,b'.H))=some (v,H') from h
    cases R:pV e with
    | true=>rw [R] at h; cases h
    | false=>rw [R] at h; exact ⟨rfl,h⟩
   obtain ⟨bX,h⟩:=bX
   obtain ⟨vs,lV,he⟩:=bB h
   cases he
   intro cs s w ez r V
   have hlen:=hW V
   have cB:ez.toArray.size=ez.length:=by simp
   have eg:Frame.enter P f ez.toArray .normal=bD (Frame.enter P f ez.toArray .normal) (ez.toArray ++ Array.replicate (fn.ntmps - ez.length) undef) [] [.code c]:=by
    simp [Frame.enter,bD,EL,U]
   have Aj:Marks s H w w.heap.size []:=⟨Nat.le_refl _,[],rfl,List.nodup_nil,fun r af=>by cases af⟩
   obtain ⟨s1,cl,fa,gS,a8,cf,cN,ff,gT,hs⟩:=B2 (fid:=f) (N:=fn.ntmps) (M:=E.mask fn) a1.types fx mn g1 c ⟨nF (E.mask fn) as 0 ⟨.nil,.nil⟩,H⟩ b' e aR (Frame.enter P f ez.toArray .normal)
    (ez.toArray ++ Array.replicate (fn.ntmps - ez.length) undef) [] [] cs s w w.heap.size rfl rfl r (N5 V) (by simp; omega) Aj (fun l ah=>by cases ah)
   rw [<- eg] at a8
   have DT:∃todo,Steps P (lone (Frame.enter P f ez.toArray .normal) cs w) (lone (nI (Frame.enter P f ez.toArray .normal) fa gS todo) cs cl):=by
    cases e with
    | normal=>exact ⟨_,Steps.trans a8 (.one (VA rfl rfl))⟩
    | exit i=>cases bX
    | ret=>
     obtain ⟨k',O⟩:=a8
     exact ⟨_,Steps.trans O (.one (VB rfl rfl))⟩
   obtain ⟨todo,DT⟩:=DT
   obtain ⟨_,rs,hr,lc,r1⟩:=hs
   obtain ⟨e8,p9,ck,dL⟩:=Jk (P:=P) (E:=E) (b:=Frame.enter P f ez.toArray .normal) (ct:=fa) (todo:=todo) (cs:=cs) rs cl lc (fun d aw=>⟨(r1 d aw).1,(r1 d aw).2.1⟩) cf cN
   rw [<- hr] at p9
   obtain ⟨tQ,hn,rF⟩:=Nb a1.types ck ff lV
   exact ⟨s1,e8,tQ,_,MO EL adi U w,hn,ck,dL,Steps.trans DT p9,rfl,Nc rfl EL rF⟩
theorem Pv (a1:km E P) (fx:jP P E call) (mn:sJ P E call) {g1:Nat} {f:FuncId} {as:List I} {H H':aa} {v:I} (h:rf E g1 call f as H=some (v,H')):uJ P E f as H v H'∨JG P E f as H v H':=by
 cases aG:E.sum f with
 | some g=>
  unfold rf sR at h
  rw [aG] at h
  exact a1.DS f g aG as H v H' h
 | none=>exact .inl (BB a1 fx mn aG h)
theorem Mn (N M:Nat) (T:a') (v:I) (vs:List I):jj N M [] T (v :: vs)=none:=rfl
theorem Mo (N M:Nat) (T:a') (p:Tmp) (ps:List Tmp):jj N M (p :: ps) T []=none:=rfl
theorem Mm (N M:Nat) (T:a') (p:Tmp) (ps:List Tmp) (v:I) (vs:List I):jj N M (p :: ps) T (v :: vs)=ap (Nat.blt p N) (jj N M ps (a'.put M T v p) vs) none:=rfl
theorem F_ {s:bb} {N M:Nat}:∀ {ps:List Tmp} {T T':a'} {as:List I} {ez:List Value} {ct:Array Value},jj N M ps T as=some T' -> bZ s as=some ez -> dD s M T ct -> ct.size=N ->
 ez.length=ps.length /\ dD s M T' ((ps.zip ez).foldl (fun tmps p=>tmps.setIfInBounds p.1 p.2) ct) /\ ((ps.zip ez).foldl (fun tmps p=>tmps.setIfInBounds p.1 p.2) ct).size=N
 | [],T,T',[],ez,ct,h,V,ba,b4=>by cases h; cases V; exact ⟨rfl,ba,b4⟩
 | [],T,T',v :: vs,ez,ct,h,V,ba,b4=>by rw [Mn] at h; cases h
 | p :: ps,T,T',[],ez,ct,h,V,ba,b4=>by rw [Mo] at h; cases h
 | p :: ps,T,T',v :: vs,ez,ct,h,V,ba,b4=>by
  rw [Mm] at h
  obtain ⟨U,h⟩:=cd h
  obtain ⟨c,cs,hn,cB,rfl⟩:=eO.1 V
  have aR:p < ct.size:=by rw [b4]; exact (cZ _ _).1 U
  obtain ⟨J,O,ag⟩:=F_ h cB (dD.put ba aR hn) (by simpa using b4)
  exact ⟨by simp [J],by simpa using O,by simpa using ag⟩
theorem ME {b:Frame} {ct:Array Value} {D:List Deferred} {k:List Item} {cs:List Frame} {w:World} {l:Nat} {q:Loop} (hm:b.mode= .run) (af:b.roundOf=some l) (aB:w.heap[l]? =some (.loop q)) (aG:q.state= .ready):
 step P (lone (bD b ct D (.beginRound :: k)) cs w)= .next (lone (bD b ct D k) cs (dk w l (.loop { q with state:= .busy}))):=by
 refine step_lone_go ?_
 have J:(Instr.beginRound l).run P w= .ok () (dk w l (.loop { q with state:= .busy})):=by
  simp only [Instr.beginRound,Sem.run_bind,vQ aB,Be aB,Result.andThen_ok,aG,Sem.run_pure]
 have O:(do b.roundOf.elim (stuck "beginRound: no round") Instr.beginRound; pure .skip:Sem Next).run P w= .ok .skip (dk w l (.loop { q with state:= .busy})):=by
  simp only [af,Option.elim_some,Sem.run_bind,J,Result.andThen_ok,Sem.run_pure]
 simp only [stepG,stepG.exec,bD,hm,stepG.apply,Sem.runT_eq,if_true]
 rw [O]
 simp only [GStep.bare_after]
 rfl
theorem Bb {w:World} {l:Nat} {q:Loop} (aB:w.heap[l]? =some (.loop q)) (j:Option Code):
 (Instr.endRound l j).run P w= .ok (.bool j.isNone) (dk w l (.loop { q with state:=if j.isNone then .ready else .done,pending:=j})):=by
 simp only [Instr.endRound,Sem.run_bind,vQ aB,Be aB,Result.andThen_ok,Sem.run_pure]
theorem MF {b:Frame} {ct:Array Value} {D:List Deferred} {gR:Frame} {cs:List Frame} {w:World} {l:Nat} {q:Loop} (hm:b.mode= .run) (ab:b.kind= .normal) (af:b.roundOf=some l) (aB:w.heap[l]? =some (.loop q)):
 step P (lone (bD b ct D []) (gR :: cs) w)= .next (lone (gR.finish (.bool true)) cs (dk w l (.loop { q with state:= .ready,pending:=none}))):=by
 refine step_lone_go ?_
 simp only [stepG,stepG.exec,bD,hm,af,Sem.runT_eq,Bb aB,GStep.bare_after,doReturn,ab]
 rfl
theorem Nd {b:Frame} {ct:Array Value} {D:List Deferred} {k:List Item} {gR:Frame} {cs:List Frame} {w:World} {l:Nat} {q:Loop} (hm:b.mode= .run) (ab:b.kind= .normal) (af:b.roundOf=some l) (aB:w.heap[l]? =some (.loop q)):
 step P (lone (bD b ct D (.code .ret :: k)) (gR :: cs) w)= .next (lone (gR.finish (.bool false)) cs (dk w l (.loop { q with state:= .done,pending:=some .ret}))):=by
 refine step_lone_go ?_
 simp only [stepG,stepG.exec,bD,hm,af,Sem.runT_eq,Bb aB,GStep.bare_after,doReturn,ab]
 rfl
theorem MP {b:Frame} {ct:Array Value} {D:List Deferred} {k:List Item} {gR:Frame} {cs:List Frame} {w:World} {l i:Nat} {q:Loop} (hm:b.mode= .run) (ab:b.kind= .normal) (af:b.roundOf=some l) (aB:w.heap[l]? =some (.loop q)) (he:exitTo i k=none):
 step P (lone (bD b ct D (.code (.exit i) :: k)) (gR :: cs) w)= .next (lone (gR.finish (.bool false)) cs (dk w l (.loop { q with state:= .done,pending:=some (.exit i)}))):=by
 refine step_lone_go ?_
 simp only [stepG,stepG.exec,bD,hm,af,Sem.runT_eq,Bb aB,GStep.bare_after,doReturn,ab,he]
 rfl
end
end Go.az
namespace Go.az
variable {P:Program} {E:Env}
section
variable {call:dQ}
theorem Pw {d:Nat} {q:Loop} {args:Array Value} {w:World} (aB:w.heap[d]? =some (.loop q)) (ar:args.size=q.params.size):
 (m2 (.func (.yield d) #[] #[]) args).run P w= .ok (.round d q.fn ((q.params.zip args).foldl (fun tmps (t,a)=>tmps.setIfInBounds t a) q.tmps) q.assign q.body) w:=by
 simp only [m2,Deferred.ofValue,Sem.run_bind,Sem.run_pure,Result.andThen_ok,invoke,Array.empty_append,Instr.yield,vQ aB]
 rw [if_neg (by simp [ar])]
 rfl
theorem Mp {H H1:aa} {l:Nat} (h:qU H l=some H1):∃f T N M ps a b p,H.m.get l=some (.loop f T N M ps a b .ready p) /\ H1=aN H l (.loop f T N M ps a b .busy p):=by
 obtain ⟨x,R,h⟩:=aO h
 cases x with
 | loop f T N M ps a b st p=>
  cases st with
  | ready=>cases h; exact ⟨f,T,N,M,ps,a,b,p,R,rfl⟩
  | _=>cases h
 | _=>cases h
theorem Mt {H H1:aa} {l:Nat} {j:Option Code} (h:hx H l j=some H1):∃f T N M ps a b st p,H.m.get l=some (.loop f T N M ps a b st p) /\ H1=aN H l (.loop f T N M ps a b (lG j) j):=by
 obtain ⟨x,R,h⟩:=aO h
 cases x with
 | loop f T N M ps a b st p=>cases h; exact ⟨f,T,N,M,ps,a,b,st,p,R,rfl⟩
 | _=>cases h
theorem Bf {s:bb} {H H1:aa} {w:World} {l d:Nat} {j:Option Code} (r:bM E s H w) (h:hx H l j=some H1) (aw:s.cw l=some d):
 ∃q:Loop,w.heap[d]? =some (.loop q) /\ bM E s H1 (dk w d (.loop { q with state:=lG j,pending:=j})) /\ Ext s H w s H1 (dk w d (.loop { q with state:=lG j,pending:=j})):=by
 obtain ⟨f,T,N,M,ps,a,b,st,p,cp,rfl⟩:=Mt h
 obtain ⟨ct,D,aM,ba,b4⟩:=r.dr _ _ _ cp aw
 obtain ⟨cf,cN⟩:=r.Cw (x':= .loop f T N M ps a b (lG j) j) (q':= { ({ state:=st,pending:=p,fn:=f,tmps:=ct,params:=ps.toArray,assign:=a,body:=b,defers:=D}:Loop) with state:=lG j,pending:=j}) cp trivial aw aM
  (.inr ⟨f,T,N,M,ps,a,b,lG j,j,rfl,rfl,ba,b4⟩)
 exact ⟨_,aM,cf,cN⟩
theorem N6 (a1:km E P) (fx:jP P E call) (mn:sJ P E call) {g1 l:Nat} {args:List I} {H H':aa} {v:I} (h:wt E g1 call l args H=some (v,H'))
 (gR:Frame) (cs:List Frame) {s:bb} {w:World} {mP:Value} {lD:List Value} (r:bM E s H w) (At:a5 s (.yield l)=some mP) (zp:bZ s args=some lD):
 ∃s' w' c nx fr,(m2 mP lD.toArray).run P w= .ok nx w /\ wH P nx fr /\ a5 s' v=some c /\ bM E s' H' w' /\ Ext s H w s' H' w' /\
  Steps P (lone fr (gR :: cs) w) (lone (gR.finish c) cs w'):=by
 obtain ⟨d,aw,rfl⟩:=map_some (show (s.cw l).map (fun d=>Value.func (.yield d) #[] #[])=some mP from At)
 obtain ⟨x,R,h⟩:=aO h
 cases x with
 | cells=>cases h
 | dead=>cases h
 | loop fid T N M ps a b K6 Fy=>
  obtain ⟨T',ih,h⟩:=aO h
  obtain ⟨ct,agf,aM,ba,b4⟩:=r.dr _ _ _ R aw
  obtain ⟨hlen,Lc,Ld⟩:=F_ ih zp ba b4
  have b9:=Pw (P:=P) (args:=lD.toArray) aM (by simp [hlen])
  have JH:(((ps.toArray).zip lD.toArray).foldl (fun tmps (t,a)=>tmps.setIfInBounds t a) ct)=(ps.zip lD).foldl (fun tmps p=>tmps.setIfInBounds p.1 p.2) ct:=by
   simp
  generalize afn:(ps.zip lD).foldl (fun tmps p=>tmps.setIfInBounds p.1 p.2) ct=EM at Lc Ld JH
  simp only [JH] at b9
  let fr:=Frame.round d fid EM a b .normal
  have eg:fr=bD fr EM [] [.code a,.beginRound,.code b]:=rfl
  have adj:∀(s:bb) (H:aa) (w:World),Marks s H w 0 []:=fun s H w=>⟨Nat.zero_le _,[],rfl,List.nodup_nil,fun r af=>by cases af⟩
  cases EN:sG E call g1 fid N M a ⟨T',H⟩ with
  | none=>rw [EN] at h; cases h
  | some fq=>
   obtain ⟨a8,gF⟩:=fq
   rw [EN] at h
   cases a8 with
   | exit i=>cases h
   | ret=>cases h
   | normal=>
    obtain ⟨H1,adk,h⟩:=aO (show (qU gF.H l).ac (fun H1=>wd l (sG E call g1 fid N M b ⟨gF.T,H1⟩))=some (v,H') from h)
    obtain ⟨s1,cl,fa,gS,kC,cf,cN,adl,gT,hs⟩:=B2 (fid:=fid) (N:=N) (M:=M) a1.types fx mn g1 a ⟨T',H⟩ gF .normal EN fr EM [] [.beginRound,.code b] (gR :: cs) s w 0 rfl rfl r Lc Ld (adj _ _ _)
     (fun l' cC=>by cases cC; exact ⟨_,aM⟩)
    rw [<- eg] at kC
    have iB:s1.cw l=some d:=(cN.vG r l d aw).1
    obtain ⟨f2,fK,pC,M2,vg,bN,gQ,eM,JI,rfl⟩:=Mp adk
    obtain ⟨nh,vI,EO,qp,xQ⟩:=cf.dr _ _ _ JI iB
    obtain ⟨ck,dL⟩:=cf.Cw (x':= .loop f2 fK pC M2 vg bN gQ .busy eM) (q':= { ({ state:= .ready,pending:=eM,fn:=f2,tmps:=nh,params:=vg.toArray,assign:=bN,body:=gQ,defers:=vI}:Loop) with state:= .busy}) JI trivial iB EO
     (.inr ⟨f2,fK,pC,M2,vg,bN,gQ,.busy,eM,rfl,rfl,qp,xQ⟩)
    have r3:=ME (P:=P) (b:=fr) (ct:=fa) (D:=gS) (k:= [.code b]) (cs:=gR :: cs) rfl rfl EO rfl
    have p9:=Steps.trans kC (.one r3)
    generalize k7:dk cl d (.loop { ({ state:= .ready,pending:=eM,fn:=f2,tmps:=nh,params:=vg.toArray,assign:=bN,body:=gQ,defers:=vI}:Loop) with state:= .busy})=e8 at ck dL p9
    have VC:∃q:Loop,e8.heap[d]? =some (.loop q):=dL.loops d _ EO
    cases EP:sG E call g1 fid N M b ⟨gF.T,aN gF.H l (.loop f2 fK pC M2 vg bN gQ .busy eM)⟩ with
    | none=>rw [EP] at h; cases h
    | some tS=>
     obtain ⟨c3,AW⟩:=tS
     rw [EP] at h
     obtain ⟨sg,mS,afR,agh,ld,kH,mR,afS,agi,agj⟩:=B2 (fid:=fid) (N:=N) (M:=M) a1.types fx mn g1 b ⟨gF.T,aN gF.H l (.loop f2 fK pC M2 vg bN gQ .busy eM)⟩ AW c3 EP fr fa gS [] (gR :: cs) s1 e8 0 rfl rfl ck adl gT (hs.ext dL)
      (fun l' cC=>by cases cC; exact VC)
     have iH:sg.cw l=some d:=(mR.vG ck l d iB).1
     have tR:=(cN.trans dL).trans mR
     cases c3 with
     | normal=>
      obtain ⟨c_,iz,he⟩:=bB (show (hx AW.H l none).omap (fun H=>(I.bool true,H))=some (v,H') from h)
      cases he
      obtain ⟨q,aB,sh,qG⟩:=Bf kH iz iH
      exact ⟨sg,_,.bool true,_,fr,b9,.inr ⟨_,_,_,_,_,rfl,rfl⟩,rfl,sh,tR.trans qG,Steps.trans p9 (Steps.trans ld (.one (MF rfl rfl rfl aB)))⟩
     | exit i=>
      obtain ⟨c_,iz,he⟩:=bB (show (hx AW.H l (some (.exit i))).omap (fun H=>(I.bool false,H))=some (v,H') from h)
      cases he
      obtain ⟨q,aB,sh,qG⟩:=Bf kH iz iH
      obtain ⟨k',kA,ld⟩:=ld
      exact ⟨sg,_,.bool false,_,fr,b9,.inr ⟨_,_,_,_,_,rfl,rfl⟩,rfl,sh,tR.trans qG,Steps.trans p9 (Steps.trans ld (.one (MP rfl rfl rfl aB kA)))⟩
     | ret=>
      obtain ⟨c_,iz,he⟩:=bB (show (hx AW.H l (some .ret)).omap (fun H=>(I.bool false,H))=some (v,H') from h)
      cases he
      obtain ⟨q,aB,sh,qG⟩:=Bf kH iz iH
      obtain ⟨k',ld⟩:=ld
      exact ⟨sg,_,.bool false,_,fr,b9,.inr ⟨_,_,_,_,_,rfl,rfl⟩,rfl,sh,tR.trans qG,Steps.trans p9 (Steps.trans ld (.one (Nd rfl rfl rfl aB)))⟩
theorem F' {f:FuncId} {x y args:Array Value}:m2 (.func (.func f) x y) args=callFunc f (x ++ args ++ y):=rfl
theorem N7 (a1:km E P) (fx:jP P E call) (mn:sJ P E call) (g1:Nat):jP P E (fun f args H=>IC f E g1 call args H):=by
 intro gR cs gq args H v H' s w mP lD h r At zp
 replace h:=show bQ (uv gq) (bQ (y7 gq) none fun l=>wt E g1 call l args H) (fun p=>rf E g1 call p.1 (cb p.2.1 (cb args p.2.2)) H)=some (v,H') from h
 cases V:uv gq with
 | none=>
  rw [V,fM] at h
  cases aj:y7 gq with
  | none=>rw [aj] at h; cases h
  | some l=>
   rw [aj,fN] at h
   obtain rfl:=MH aj
   obtain ⟨s',w',c,nx,fr,J,O,ag,aP,bH,eC⟩:=N6 a1 fx mn h gR cs r At zp
   exact ⟨s',w',c,ag,aP,bH,.inl ⟨nx,fr,J,O,eC⟩⟩
 | some p=>
  rw [V,fN] at h
  obtain rfl:=Gl V
  obtain ⟨f,bI,bN⟩:=p
  obtain ⟨x,y,R,aj,rfl⟩:=q2 At
  rw [eZ,eZ] at h
  have kt:bZ s (bI ++ (args ++ bN))=some (x ++ (lD ++ y)):=nu.2 ⟨_,_,R,nu.2 ⟨_,_,zp,aj,rfl⟩,rfl⟩
  have Ki:x.toArray ++ lD.toArray ++ y.toArray=(x ++ (lD ++ y)).toArray:=by simp
  rcases Pv a1 fx mn h with h | h
  ·
   obtain ⟨s',w',c,fr,b9,b7,bi,x',cq,n9,ti⟩:=h (gR :: cs) s w _ r kt
   refine ⟨s',w',c,b7,bi,x',.inl ⟨_,_,?_,.inl ⟨f,_,rfl,rfl⟩,Steps.trans cq (.one (step_leave_returned ti))⟩⟩
   rw [F',Ki]
   exact b9
  ·
   obtain ⟨s',w',c,b9,b7,bi,x'⟩:=h.2 s w _ r kt
   refine ⟨s',w',c,b7,bi,x',.inr ⟨?_,fun l e=>h.1 l (by rw [e]; simp)⟩⟩
   rw [F',Ki]
   exact b9
end
def II (P:Program) (E:Env):Prop:=∀call,jP P E call -> sJ P E call
theorem C1 (a1:km E P) (hr:II P E):∀k,jP P E (app E k)
 | 0=>fun _ _ _ _ _ _ _ _ _ _ _ h=>by cases h
 | k + 1=>N7 a1 (C1 a1 hr k) (hr _ (C1 a1 hr k)) k
end Go.az
