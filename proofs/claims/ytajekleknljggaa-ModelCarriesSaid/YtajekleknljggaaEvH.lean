/-
  The calculus over slices by what they hold. No conditions.
-/
import Derived.Test.YtajekleknljggaaEvG
set_option linter.unusedVariables false
set_option linter.unusedSimpArgs false
namespace Go.az
noncomputable section
def fi (E:Env) (f:I) (as:List I) (H:aa) (K:I -> aa -> Prop):Prop:=
 ∀σ f1 fD H1,cW false σ H H1 -> al false σ H1 f f1 -> av false σ H1 as fD ->
  ic E f1 fD H1 fun v1 H1'=>∃bn v H',dh H1.next σ H H1 bn H' H1' /\ cW false bn H' H1' /\ al false bn H1' v v1 /\ K v H'
theorem fi.mono {E:Env} {f:I} {as:List I} {H:aa} {K cI:I -> aa -> Prop} (h:fi E f as H K) (k:∀v H,K v H -> cI v H):fi E f as H cI:=by
 intro σ f1 fD H1 r ao ae
 exact (h σ f1 fD H1 r ao ae).mono fun v1 H1' ⟨bn,v,H',J,O,ag,aP⟩=>⟨bn,v,H',J,O,ag,k _ _ aP⟩
def b0 (E:Env):Env:= { E with kO:=some (fi E)}
theorem zh (E:Env):m6 (b0 E):=fun _ _ _ _ _ h k=>fi.mono h k
theorem uM (E:Env) (o:Op):cls o (b0 E)=cls o E:=by cases o <;> rfl
theorem Ql (E:Env) (k:d5):dp k (b0 E)=dp k E:=by cases k <;> rfl
theorem Qm (E:Env) (k:d5):e9 k (b0 E)=e9 k E:=by cases k <;> rfl
theorem Sn (E:Env) (k:d5):mi k (b0 E)=mi k E:=by cases k <;> rfl
theorem So (E:Env) (k:d5):kU k (b0 E)=kU k E:=by cases k <;> rfl
theorem Un (E:Env) (k:d5):hh k (b0 E)=hh k E:=by cases k <;> rfl
theorem Qn (E:Env) (b:Builtin) (as:List I) (bp:List TypeId):jm b (b0 E) as bp=jm b E as bp:=by
 cases b <;> first
  | rfl
  | (
   cases as with
   | nil=>rfl
   | cons x r=>cases r with
    | cons=>rfl
    | nil=>cases bp with
     | nil=>rfl
     | cons t bp=>first | exact congrFun (Un E (aU E t)) x | rfl)
theorem Sp (E:Env) (k:dm):jr k (b0 E)=jr k E:=by cases k <;> rfl
theorem OE (E:Env):cJ (b0 E)=cJ E:=by
 funext H e s n new
 unfold cJ
 simp only [Sp]; rfl
theorem Qo (E:Env):kg (b0 E)=kg E:=by
 funext H t bp s x
 unfold kg
 rw [OE]; rfl
theorem Sq (E:Env) (M:Nat) (o:Op) (T:a'):lx M o (b0 E) T=lx M o E T:=by
 cases o with
 | build t ps=>
  show ap (re (aU E t)) ((cr E t).ac fun z=>(dV M (kU (aU E t) (b0 E)) T ps.toList z.cells).omap I.agg) none=_
  rw [So]; rfl
 | slice t x bd ad mx=>
  show ((aK M x T).ac fun x=>(fk M bd T).ac fun bd=>(fk M ad T).ac fun ad=>(fk M mx T).ac fun mx=>dp (aU E t) (b0 E) x bd ad mx)=_
  rw [Ql]; rfl
 | indexAddr t x i=>
  show ((aK M x T).ac fun x=>(aK M i T).ac fun i=>(dH i).ac fun i=>e9 (aU E t) (b0 E) x i)=_
  rw [Qm]; rfl
 | index t x i=>
  show ((aK M x T).ac fun x=>(aK M i T).ac fun i=>(dH i).ac fun i=>mi (aU E t) (b0 E) x i)=_
  rw [Sn]; rfl
 | call c=>
  show (match c.callee with | .builtin b=>(c0 M c.args.toList T).ac fun as=>jm b (b0 E) as c.argTypes.toList | _=>none)=(match c.callee with | .builtin b=>(c0 M c.args.toList T).ac fun as=>jm b E as c.argTypes.toList | _=>none)
  split
  ·
   simp only [Qn]
  ·
   rfl
 | _=>rfl
theorem If (E:Env) (M:Nat) (o:Op) (T:a') (H:aa):eG M o (b0 E) T H=eG M o E T H:=by cases o <;> rfl
theorem Hl (E:Env) (M:Nat) (o:Op) (T:a'):jn M o (b0 E) T=jn M o E T:=by cases o <;> rfl
theorem Sr (E:Env) (b:Builtin) (H:aa) (as:List I) (bp:List TypeId):fQ b (b0 E) H as bp=fQ b E H as bp:=by
 cases b <;> first
  | rfl
  | (
   cases as with
   | nil=>rfl
   | cons x r=>cases r with
    | nil=>rfl
    | cons y r=>cases r with
     | cons=>rfl
     | nil=>cases bp with
      | nil=>rfl
      | cons t bp=>show kg (b0 E) H t bp x y=kg E H t bp x y; rw [Qo])
theorem Ss (E:Env) (H:aa) (t:TypeId) (p x:I):gu (b0 E) H t p x=gu E H t p x:=rfl
theorem IU (E:Env) (o:Oper):fR (b0 E) o=fR E o:=by unfold fR; rw [uM]
theorem X_ (E:Env) (ops:List Oper):j2 (b0 E) ops=j2 E ops:=by
 unfold j2
 simp only [IU]
structure jL (M:Nat) (σ:bK) (s2 s1:an):Prop where
 t:g3 false σ s1.H M s2.T s1.T
 h:cW false σ s2.H s1.H
def EX (q:Bool) (n M:Nat) (σ:bK) (ay H1:aa) (K:an -> Prop) (s1:an):Prop:=∃bn s2,dh n σ ay H1 bn s2.H s1.H /\ jL M bn s2 s1 /\ (q=false -> ∀c,(∀b,bn b≠some c) -> (s1.H.m.get c).isSome=true -> (H1.m.get c).isSome=true) /\ K s2
def jM (n M:Nat) (σ:bK) (ay H1:aa) (K:an -> Prop) (s1:an):Prop:=∃bn s2,dh n σ ay H1 bn s2.H s1.H /\ jL M bn s2 s1 /\ K s2
section
variable {E:Env} {fid:FuncId} {N M:Nat} {σ:bK}
theorem C_ {w:Bool} {H:aa} {T T' fK:a'} {d:Option Tmp} {v a:I} (k:g3 w σ H M T T') (ak:al w σ H v a) (h:ev N M T d v=some fK):∃lW,ev N M T' d a=some lW /\ g3 w σ H M fK lW:=by
 cases d with
 | none=>cases h; exact ⟨T',rfl,k⟩
 | some t=>
  have e:∀(T:a') (v:I),ev N M T (some t) v=ap (Nat.blt t N) (some (T.put M v t)) none:=by
   intro T v
   unfold ev sQ a'.put
   cases U:Nat.blt t N with
   | false=>simp only [U]; rfl
   | true=>cases hm:Nat.testBit M t <;> simp only [U,hm] <;> rfl
  rw [e] at h ⊢
  obtain ⟨J,h⟩:=cd h
  cases h
  refine ⟨T'.put M a t,by rw [J]; rfl,?_⟩
  intro i x R
  rw [a'.md] at R ⊢
  split at R
  ·
   rename_i he; cases R; exact ⟨a,by rw [if_pos he],ak⟩
  ·
   rename_i he
   obtain ⟨y,aj,af⟩:=k i x R
   exact ⟨y,by rw [if_neg he]; exact aj,af⟩
theorem Wq {n:Nat} {T T':a'} {d:Option Tmp} {K:an -> Prop} {v a:I} {ay H1 kG vJ:aa} {xU:bK} (k:g3 false σ H1 M T T') (r:cW false σ ay H1) (ah:dh n xU kG vJ σ ay H1) (ak:al false σ H1 v a) (h:dI N M T d K v ay):
 dI N M T' d (jM n M xU kG vJ K) a H1:=by
 obtain ⟨fK,ba,ab⟩:=h
 obtain ⟨lW,ih,af⟩:=C_ k ak ba
 exact ⟨lW,ih,σ,⟨fK,ay⟩,ah,⟨af,r⟩,ab⟩
theorem wy {q:Bool} {n:Nat} {T T':a'} {d:Option Tmp} {K:an -> Prop} {v a:I} {ay H1 kG vJ:aa} {xU:bK} (k:g3 false σ H1 M T T') (r:cW false σ ay H1) (ah:dh n xU kG vJ σ ay H1) (ar:q=false -> ∀c,(∀b,σ b≠some c) -> (H1.m.get c).isSome=true -> (vJ.m.get c).isSome=true) (ak:al false σ H1 v a) (h:dI N M T d K v ay):
 dI N M T' d (EX q n M xU kG vJ K) a H1:=by
 obtain ⟨fK,ba,ab⟩:=h
 obtain ⟨lW,ih,af⟩:=C_ k ak ba
 exact ⟨lW,ih,σ,⟨fK,ay⟩,ah,⟨af,r⟩,ar,ab⟩
theorem St {w:Bool} {H:aa}:∀ {l r:List I},av w σ H l r -> al w σ H (single l) (single r)
 | [],_,h=>by rw [av.nil] at h; subst h; exact al.wm (av.nil.2 rfl)
 | [x],_,h=>by
  obtain ⟨y,bi,J,O,rfl⟩:=av.cons.1 h
  rw [av.nil] at O; subst O; exact J
 | x :: y :: l,_,h=>by
  have aD:=h
  obtain ⟨x',bi,J,O,rfl⟩:=av.cons.1 h
  obtain ⟨ch,afT,ag,aP,rfl⟩:=av.cons.1 O
  exact al.wm aD
theorem Uo (c4:E.kO=none) (eW:ly E) {o:Op} {s2 s1:an} {K:I -> aa -> Prop} (r:jL M σ s2 s1) (h:rq (b0 E) M o s2.T s2.H K):
 rq E M o s1.T s1.H fun a H1'=>∃bn v H',dh s1.H.next σ s2.H s1.H bn H' H1' /\ cW false bn H' H1' /\ al false bn H1' v a /\ (ra o=false -> ∀c,(∀b,bn b≠some c) -> (H1'.m.get c).isSome=true -> (s1.H.m.get c).isSome=true) /\ K v H':=by
 cases o with
 | store t x y=>
  obtain ⟨p,aR,v,ak,q,aB,ab⟩:=h
  obtain ⟨eV,jG,cf⟩:=eI r.t aR
  obtain ⟨cc,xV,ck⟩:=eI r.t ak
  rw [Ss] at aB
  obtain ⟨q',e4,bn,ah,aM,af⟩:=Sk r.h cf ck aB
  exact ⟨eV,jG,cc,xV,q',e4,bn,q.1,q.2,ah.todh,aM,af,fun _=>ah.qL,ab⟩
 | call c=>
  have h:=show (match c.callee with
   | .value f=>bl (aK M f s2.T) (wM (b0 E) M s2.T s2.H c.args.toList K)
   | .builtin b=>bl (c0 M c.args.toList s2.T) (s3 (b0 E) b s2.H c.argTypes.toList K)
   | _=>False) from h
  show (match c.callee with
   | .value f=>bl (aK M f s1.T) (wM E M s1.T s1.H c.args.toList _)
   | .builtin b=>bl (c0 M c.args.toList s1.T) (s3 E b s1.H c.argTypes.toList _)
   | _=>False)
  split at h
  ·
   rename_i f V
   obtain ⟨gq,ao,as,ae,h⟩:=h
   obtain ⟨gE,tg,cf⟩:=eI r.t ao
   obtain ⟨h7,cT,ck⟩:=uB r.t ae
   have h:=show fi E gq as s2.H K from h
   refine ⟨gE,tg,h7,cT,?_⟩
   show mo E gE h7 s1.H _
   rw [wx c4]
   refine (h σ gE h7 s1.H r.h cf ck).mono ?_
   rintro v1 H1' ⟨bn,v,H',J,O,ag,aP⟩
   exact ⟨bn,v,H',J,O,ag,fun aB=>absurd aB (by unfold ra; simp only [V]; decide),aP⟩
  ·
   rename_i b V
   obtain ⟨as,ae,q,aB,ab⟩:=h
   obtain ⟨h7,cT,ck⟩:=uB r.t ae
   rw [Sr] at aB
   obtain ⟨q',e4,bn,ah,aM,af⟩:=Sm eW r.h ck aB
   exact ⟨h7,cT,q',e4,bn,q.1,q.2,ah.todh,aM,af,fun _=>ah.qL,ab⟩
  ·
   exact h
 | _=>exact h.elim
theorem zi (c4:E.kO=none) (eW:ly E) {o:Oper} {s2 s1:an} {K:an -> Prop} (r:jL M σ s2 s1) (h:wpOp (b0 E) N M o s2 K):wpOp E N M o s1 (EX (ra o.op) s1.H.next M σ s2.H s1.H K):=by
 unfold wpOp at h ⊢
 rw [uM] at h
 cases V:cls o.op E with
 | pure=>
  rw [V] at h
  obtain ⟨v,ak,ab⟩:=h
  rw [Sq] at ak
  obtain ⟨a,ae,af⟩:=Sj eW r.t ak
  exact ⟨a,ae,wy r.t r.h (dh.refl _ _ _ _) (fun _ _ _ h=>h) af ab⟩
 | read=>
  rw [V] at h
  obtain ⟨v,ak,ab⟩:=h
  rw [If] at ak
  obtain ⟨a,ae,af⟩:=Ie r.h r.t ak
  exact ⟨a,ae,wy r.t r.h (dh.refl _ _ _ _) (fun _ _ _ h=>h) af ab⟩
 | alloc=>
  rw [V] at h
  obtain ⟨p,aR,ab⟩:=h
  rw [Hl] at aR
  obtain ⟨q,aB,U,ak⟩:=Hk eW r.t aR
  obtain ⟨bi,k'⟩:=r.h.new U
  exact ⟨q,aB,wy (r.t.mono k'.c7) bi k'.todh (fun _=>k'.qL) (ak _ _ _ _ (by simp [bK.add])) ab⟩
 | ha=>
  rw [V] at h
  refine yN (kh c4) (Uo c4 eW r h) fun a H1' ⟨bn,v,H',ah,aM,af,ar,ab⟩=> ?_
  exact wy (r.t.mono ah.c7) aM ah ar af ab
theorem Js (c4:E.kO=none) (eW:ly E) {o:Oper} {s2 s1:an} {K:an -> Prop} (r:jL M σ s2 s1) (h:wpOp (b0 E) N M o s2 K):wpOp E N M o s1 (jM s1.H.next M σ s2.H s1.H K):=
 wpOp_mono (kh c4) (zi c4 eW r h) fun _ ⟨bn,s2,J,O,_,ag⟩=>⟨bn,s2,J,O,ag⟩
theorem jM.bind {n:Nat} {ay H1:aa} {K cI:an -> Prop} {s1:an} {bn:bK} {s2:an} (ar:n≤H1.next) (ah:dh H1.next σ ay H1 bn s2.H s1.H) {t:an} (h:jM s1.H.next M bn s2.H s1.H K t) (k:∀s,K s -> cI s):jM n M σ ay H1 cI t:=by
 obtain ⟨jb,s,J,O,ag⟩:=h
 exact ⟨jb,s,(ah.then J).mono ar,O,k s ag⟩
theorem Cc {w:Bool} {H:aa} {T T':a'} (k:g3 w σ H M T T') {ops:List Oper} {g:Nat × Bool} {b:Bool} (h:mc M ops T g=some b):mc M ops T' g=some b:=by
 unfold mc wc at h ⊢
 cases aw:(ops[g.1]?).bind (·.dst) with
 | none=>rw [aw] at h; exact h
 | some d=>
  rw [aw] at h
  obtain ⟨v,ak,rfl⟩:=bB (show (a'.get M T d).omap _=some b from h)
  obtain ⟨a,ae,af⟩:=k d v ak
  show (a'.get M T' d).omap _=_
  rw [ae]
  show some (bQ (e_ a) false fun b=>kT b g.2)=_
  rw [af.asBool]
theorem IV (c4:E.kO=none) (eW:ly E) {all:List Oper} {K:an -> Prop}:∀ {l:List Oper} {σ:bK} {s2 s1:an},jL M σ s2 s1 -> wpOps (b0 E) N M all l s2 K -> wpOps E N M all l s1 (jM s1.H.next M σ s2.H s1.H K)
 | [],σ,s2,s1,r,h=>⟨σ,s2,dh.refl _ _ _ _,r,h⟩
 | o :: l,σ,s2,s1,r,h=>by
  have tail:∀t:an,jM s1.H.next M σ s2.H s1.H (fun s'=>wpOps (b0 E) N M all l s' K) t -> wpOps E N M all l t (jM s1.H.next M σ s2.H s1.H K):=by
   rintro t ⟨bn,s,J,O,ag⟩
   exact pG (kh c4) (fun u hu=>jM.bind (Nat.le_refl _) J hu fun _ h=>h) (IV c4 eW O ag)
  unfold wpOps at h ⊢
  split at h
  ·
   exact wpOp_mono (kh c4) (Js c4 eW r h) tail
  ·
   obtain ⟨b,U,h⟩:=h
   refine ⟨b,Cc r.t U,?_⟩
   cases b with
   | true=>exact wpOp_mono (kh c4) (Js c4 eW r (show wpOp (b0 E) N M o s2 _ from h)) tail
   | false=>
    have h:=show dI N M s2.T o.dst (fun s'=>wpOps (b0 E) N M all l s' K) .undef s2.H from h
    exact lp (show dI N M s1.T o.dst _ .undef s1.H from Wq r.t r.h (dh.refl _ _ _ _) al.undef h) tail
end
end
end Go.az
namespace Go.az
noncomputable section
section
variable {E:Env} {N M:Nat}
theorem IW {T T':a'} {d:Option Tmp} {v:I} (h:ev N M T d v=some T') (z:Tmp):aK M (.tmp z) T'=if d=some z then some v else aK M (.tmp z) T:=by
 rw [sD,sD,B6 h]
def h8 (M:Nat) (o:Oper) (s s':an):Prop:=∀z,o.dst≠some z -> aK M (.tmp z) s'.T=aK M (.tmp z) s.T
def AE (E:Env) (M:Nat) (o:Oper) (s s':an):Prop:=cls o.op E= .pure -> ∀r,o.dst=some r -> ∃v,lx M o.op E s.T=some v /\ aK M (.tmp r) s'.T=some v
theorem h8.put {o:Oper} {s:an} {T':a'} {v:I} {H:aa} (h:ev N M s.T o.dst v=some T'):h8 M o s ⟨T',H⟩:=fun z ai=>by
 show aK M (.tmp z) T'=_
 rw [IW h,if_neg ai]
theorem Wr {o:Oper} {s:an} {K:an -> Prop} {v:I} {H:aa} (h:dI N M s.T o.dst K v H):dI N M s.T o.dst (fun s'=>h8 M o s s' /\ K s') v H:=by
 obtain ⟨T',ba,ab⟩:=h
 exact ⟨T',ba,h8.put ba,ab⟩
theorem oO (bo:m6 E) {o:Oper} {s:an} {K:an -> Prop} (h:wpOp E N M o s K):wpOp E N M o s fun s'=>(h8 M o s s' /\ AE E M o s s') /\ K s':=by
 unfold wpOp at h ⊢
 split at h
 ·
  rename_i V
  obtain ⟨v,ak,T',ba,ab⟩:=h
  refine ⟨v,ak,T',ba,⟨h8.put ba,fun _ r af=>⟨v,ak,?_⟩⟩,ab⟩
  show aK M (.tmp r) T'=_
  rw [IW ba,if_pos af]
 ·
  rename_i V
  obtain ⟨v,ak,T',ba,ab⟩:=h
  exact ⟨v,ak,T',ba,⟨h8.put ba,fun h=>by rw [V] at h; cases h⟩,ab⟩
 ·
  rename_i V
  obtain ⟨v,ak,T',ba,ab⟩:=h
  exact ⟨v,ak,T',ba,⟨h8.put ba,fun h=>by rw [V] at h; cases h⟩,ab⟩
 ·
  rename_i V
  exact yN bo h fun v H ab=>by
   obtain ⟨T',ba,ab⟩:=ab
   exact ⟨T',ba,⟨h8.put ba,fun h=>by rw [V] at h; cases h⟩,ab⟩
end
theorem Ig:∀ {l:List Oper} {k a:Nat} {o:Oper},(a,o)∈jk k l -> k≤a /\ l[a - k]? =some o
 | [],_,_,_,h=>by cases h
 | x :: l,k,a,o,h=>by
  unfold jk at h
  rcases List.mem_cons.1 h with h | h
  ·
   cases h; exact ⟨Nat.le_refl _,by rw [Nat.sub_self]; rfl⟩
  ·
   obtain ⟨J,O⟩:=Ig h
   exact ⟨by omega,by rw [show a - k=(a - (k + 1)) + 1 by omega]; exact O⟩
theorem IX:∀ {l:List Oper} {k j:Nat} {y:Oper},l[j]? =some y -> (k + j,y)∈jk k l
 | [],_,_,_,h=>by cases h
 | x :: l,k,j,y,h=>by
  unfold jk
  cases j with
  | zero=>cases h; exact List.mem_cons_self
  | succ j=>exact List.mem_cons_of_mem _ (by have:=IX (k:=k + 1) (show l[j]? =some y from h); rwa [show k + 1 + j=k + (j + 1) by omega] at this)
theorem BS {r:Tmp} {o:Oper}:sS r o=true↔o.dst=some r:=by
 unfold sS
 cases o.dst with
 | none=>exact ⟨fun h=>(by cases h),fun h=>(by cases h)⟩
 | some d=>exact ⟨fun h=>congrArg some (Nat.eq_of_beq_eq_true h),fun h=>by cases h; exact Nat.beq_refl _⟩
theorem Hm {pre:List Oper} {r:Tmp} {p:Nat × Oper} (h:zF pre r= [p]):pre[p.1]? =some p.2 /\ p.2.dst=some r /\ ∀k y,pre[k]? =some y -> y.dst=some r -> k=p.1:=by
 unfold zF at h
 have aR:p∈(jk 0 pre).filter fun p=>sS r p.2:=by rw [h]; exact List.mem_singleton_self _
 obtain ⟨J,O⟩:=List.mem_filter.1 aR
 refine ⟨(Ig (o:=p.2) (a:=p.1) J).2,BS.1 O,fun k y ab aj=> ?_⟩
 have:(0 + k,y)∈(jk 0 pre).filter fun p=>sS r p.2:=List.mem_filter.2 ⟨IX ab,BS.2 aj⟩
 rw [h,List.mem_singleton] at this
 rw [<- this]; show k=0 + k; omega
structure Km (pre:List Oper) (o:Op) (z:Tmp):Prop where
 ex:∃(t:TypeId) (r:Tmp) (ty:TypeId) (q:Tmp) (yo:Operand) (i1 i2:Nat) (cN dL:Oper),o= .load t (.tmp r) /\ pre[i1]? =some cN /\ cN.dst=some r /\ cN.guard=none /\ cN.op= .indexAddr ty (.tmp q) yo /\ (∀(k:Nat) (y:Oper),pre[k]? =some y -> y.dst=some r -> k=i1) /\
  i2 < i1 /\ pre[i2]? =some dL /\ dL.dst=some q /\ dL.guard=none /\ dL.op= .move (.tmp z) /\ (∀(k:Nat) (y:Oper),k < i1 -> pre[k]? =some y -> y.dst=some q -> k=i2) /\ ∀(k:Nat) (y:Oper),pre[k]? =some y -> y.dst≠some z
theorem GT {pre:List Oper} {o:Op} {z:Tmp} (h:uK pre o=some z):Km pre o z:=by
 unfold uK at h
 split at h
 ·
  rename_i t r
  split at h
  ·
   rename_i p aR
   obtain ⟨bI,bN,dG⟩:=Hm aR
   unfold JL at h
   split at h
   ·
    cases h
   ·
    rename_i a4
    split at h
    ·
     rename_i ty q yo adD
     split at h
     ·
      rename_i eM iG
      obtain ⟨d8,gQ,qM⟩:=Hm iG
      unfold JK at h
      split at h
      ·
       cases h
      ·
       rename_i tm
       split at h
       ·
        rename_i kJ aa4
        cases EY:pre.any (sS kJ) with
        | true=>rw [EY] at h; cases h
        | false=>
         rw [EY] at h
         cases h
         refine ⟨t,r,ty,q,yo,p.1,eM.1,p.2,eM.2,rfl,bI,bN,a4,adD,dG,?_,?_,gQ,tm,aa4,fun k y ab aj=> ?_,fun k y aj aw=> ?_⟩
         ·
          have:=(List.getElem?_eq_some_iff.1 d8).1
          rw [List.length_take] at this; omega
         ·
          rw [List.getElem?_take] at d8
          split at d8
          ·
           exact d8
          ·
           cases d8
         ·
          exact qM k y (by rw [List.getElem?_take,if_pos ab]; exact aj)
         ·
          have:=List.any_eq_false.1 EY y (List.mem_of_getElem? aj)
          exact this (BS.2 aw)
       ·
        cases h
     ·
      cases h
    ·
     cases h
  ·
   cases h
 ·
  cases h
end
end Go.az
namespace Go.az
noncomputable section
theorem Up (c:dm):wZ c c=true:=by cases c <;> simp [wZ,oD]
mutual
theorem C':∀v:I,dX v v=true
 | .bool b=>by simp [dX,oD]
 | .int k n=>by simp [dX,H6,sH]
 | .str s=>by simp [dX,sv]
 | .cA | .aE | .dj | .dK=>rfl
 | .ptr b o=>by simp [dX]
 | .slice b o n c=>by simp [dX,Up]
 | .func f a c=>by simp [dX,rc a,rc c]
 | .yield l=>by simp [dX]
 | .iface t v=>by simp [dX,C' v]
 | .agg l=>by simp [dX,rc l]
 | .tuple l=>by simp [dX,rc l]
 | .dY a=>by simp [dX]
 | .aJ n l=>by simp [dX,rc l]
 | .c9 l o=>by simp [dX,rc l]
theorem rc:∀l:List I,kW l l=true
 | []=>rfl
 | x :: l=>by simp [kW,C' x,rc l]
end
theorem Cd {p:Nat -> Oper -> Bool}:∀ {l:List Oper} {k:Nat},(∀j y,l[j]? =some y -> p (k + j) y=true) -> allI p k l=true
 | [],_,_=>rfl
 | o :: l,k,h=>by
  unfold allI
  have aD:=h 0 o rfl
  rw [Nat.add_zero] at aD
  rw [aD]
  exact Cd fun j y ax=>by
   have:=h (j + 1) y (by simpa using ax)
   rwa [show k + (j + 1)=k + 1 + j by omega] at this
theorem Ce:∀ {l:List Oper} {k j:Nat} {y:Oper},l[j]? =some y -> (k + j,y)∈jk k l:=by
 intro l
 induction l with
 | nil=>intro k j y h; simp at h
 | cons o l aH=>
  intro k j y h
  unfold jk
  cases j with
  | zero=>
   have:o=y:=by simpa using h
   subst this; simp
  | succ j=>
   have:=aH (k:=k + 1) (show l[j]? =some y by simpa using h)
   rw [show k + 1 + j=k + (j + 1) by omega] at this
   exact List.mem_cons_of_mem _ this
theorem Qp {E:Env} {ops:List Oper} {e j:Nat} {x y:Oper} (R:ops[e]? =some x) (aj:ops[j]? =some y) (he:fR E x=true) (U:pX E (hk ops []) e j y=true):(e,j)∈loose E ops:=by
 unfold loose zq
 rw [List.mem_flatMap]
 refine ⟨(e,x),by simpa using Ce (k:=0) R,?_⟩
 simp only [he,uk]
 rw [List.mem_map]
 exact ⟨(j,y),List.mem_filter.2 ⟨by simpa using Ce (k:=0) aj,U⟩,rfl⟩
theorem Uq (E:Env) (ops:List Oper):loose (b0 E) ops=loose E ops:=by
 unfold loose zq pX
 simp only [IU,uM]
theorem Gb {E:Env} {M:Nat} {ops:List Oper} {a_:List an} {p:Nat × Nat}:∀ {l:List (Nat × Nat)},lq E M ops a_ l -> p∈l -> pS E M ops a_ p
 | q :: l,h,aR=>by
  rcases List.mem_cons.1 aR with rfl | aR
  ·
   exact h.1
  ·
   exact Gb h.2 aR
theorem Qq (E:Env) (M:Nat) (ops:List Oper) (a_:List an) (p:Nat × Nat):pS (b0 E) M ops a_ p=pS E M ops a_ p:=by
 unfold pS
 simp only [uM]
theorem Ih {E:Env} {M:Nat} {s d:TypeId} {x:Operand} {T:a'} {H:aa} {v:I} (ah:rg (.convert s d x)=true) (h:eG M (.convert s d x) E T H=some v):
 ∃y e,aK M x T=some y /\ (∀T' H',eG M (.convert s d x) E T' H'=(aK M x T').ac (jN e H')) /\ jN e H y=some v:=by
 have ah:Nat.beq s d=true:=ah
 obtain rfl:=Nat.eq_of_beq_eq_true ah
 have aw:∀T' H',eG M (.convert s s x) E T' H'=(match aU E s with
  | .slice e=>match hX (aU E e) with
   | true=>match aU E s with
    | .string=>(aK M x T').ac (strOf H')
    | .slice _=>match Nat.beq s s with | true=>(aK M x T').ac (jN e H') | false=>none
    | _=>none
   | false=>none
  | _=>none):=fun _ _=>rfl
 rw [aw] at h
 cases ab:aU E s with
 | slice e=>
  rw [ab] at h
  cases U:hX (aU E e) with
  | false=>simp only [U] at h; cases h
  | true=>
   simp only [U,Nat.beq_refl] at h
   obtain ⟨y,aj,h⟩:=aO h
   refine ⟨y,_,aj,fun T' H'=> ?_,h⟩
   rw [aw,ab]
   simp only [U,Nat.beq_refl]
 | _=>rw [ab] at h; cases h
theorem Nu {E:Env} {M:Nat} {o:Op} {T:a'} {H H':aa} {v:I} (ah:rg o=true) (h:eG M o E T H=some v) (U:∀b,iZ M o T=some b -> H'.m.get b=H.m.get b):eG M o E T H'=some v:=by
 cases o with
 | load t a=>
  obtain ⟨p,aR,h⟩:=aO (show ((aK M a T).ac fun v=>bQ (ec v) ((ju v).ac fun q=>ek E t q.1 q.2) fun q=>dw E H t q.1 q.2)=some v from h)
  show ((aK M a T).ac fun v=>bQ (ec v) ((ju v).ac fun q=>ek E t q.1 q.2) fun q=>dw E H' t q.1 q.2)=some v
  rw [aR]
  show bQ (ec p) ((ju p).ac fun q=>ek E t q.1 q.2) (fun q=>dw E H' t q.1 q.2)=some v
  cases aB:ec p with
  | none=>rw [aB] at h; exact h
  | some q=>
   rw [aB,fN] at h
   rw [fN]
   have ab:=U q.1 (by show (aK M a T).ac _=_; rw [aR]; show (ec p).omap _=_; rw [aB]; rfl)
   unfold dw rp at h ⊢
   cases ad:E.ty t with
   | none=>rw [ad] at h; cases h
   | some i=>
    rw [ad] at h
    simp only at h ⊢
    cases hE:i.agg with
    | true=>
     rw [hE] at h
     show (bA H' q.1 q.2 i.size).omap I.agg=_
     rw [Bk ab]; exact h
    | false=>
     rw [hE] at h
     show cellAt H' q.1 q.2=_
     rw [OA ab]; exact h
 | convert s d x=>
  obtain ⟨y,e,aj,aC,m_⟩:=Ih ah h
  rw [aC]
  obtain ⟨q,aB,X'⟩:=aO m_
  have ab:=U q.1 (by show (aK M x T).ac _=_; rw [aj]; show (asSlice y).omap _=_; rw [aB]; rfl)
  show (aK M x T).ac (jN e H')=_
  rw [aj]
  show (asSlice y).ac _=_
  rw [aB]
  show (H'.m.get q.1).ac _=_
  rw [ab]; exact X'
 | _=>cases ah
section
variable {E:Env} {N M:Nat}
abbrev fW:=bK × an × an
structure Way (E:Env) (M:Nat) (ops:List Oper) (base:Nat) (X:List fW):Prop where
 gD:∀(i:Nat) (a:fW),X[i]? =some a -> jL M a.1 a.2.1 a.2.2
 hole:ops.any (ls E)=true -> ∀(i:Nat) (a:fW) (k:Nat),X[i]? =some a -> i≤k -> k < ops.length -> a.2.2.H.m.get (base + k)=none
 room:∀(i:Nat) (a:fW),X[i]? =some a -> ops.any (ls E)=true -> base + ops.length≤a.2.2.H.next
 j':∀(i:Nat) (a b:fW),X[i]? =some a -> X[i + 1]? =some b -> dh base a.1 a.2.1.H a.2.2.H b.1 b.2.1.H b.2.2.H
 alloc:∀(i:Nat) (a b:fW) (y:Oper),X[i]? =some a -> X[i + 1]? =some b -> ops[i]? =some y -> cls y.op E= .alloc -> cx M ops a.2.2.T y=some true -> b.1 a.2.1.H.next=some (base + i)
 want:∀(i:Nat) (a b:fW) (y:Oper),X[i]? =some a -> X[i + 1]? =some b -> ops[i]? =some y -> ∃b,cx M ops a.2.2.T y=some b
 qL:∀(i:Nat) (a b:fW) (y:Oper),X[i]? =some a -> X[i + 1]? =some b -> ops[i]? =some y -> ra y.op=false -> ∀c,(∀k,b.1 k≠some c) -> (b.2.2.H.m.get c).isSome=true -> (a.2.2.H.m.get c).isSome=true
 AY:∀(i:Nat) (a b:fW) (y:Oper),X[i]? =some a -> X[i + 1]? =some b -> ops[i]? =some y -> h8 M y a.2.2 b.2.2 /\ (y.guard=none -> AE E M y a.2.2 b.2.2)
 read:∀(i:Nat) (a b:fW) (y:Oper),X[i]? =some a -> X[i + 1]? =some b -> ops[i]? =some y -> cls y.op E= .read -> cx M ops a.2.2.T y=some true -> ∃v,eG M y.op E a.2.1.T a.2.1.H=some v
theorem Way.h9 {ops:List Oper} {base:Nat} {X:List fW} (h:Way E M ops base X):∀(d:Nat) {i:Nat} {a b:fW},X[i]? =some a -> X[i + d]? =some b -> dh base a.1 a.2.1.H a.2.2.H b.1 b.2.1.H b.2.2.H:=by
 intro d
 induction d with
 | zero=>intro i a b ae U; rw [Nat.add_zero,ae] at U; cases U; exact dh.refl _ _ _ _
 | succ d aH=>
  intro i a b ae U
  have aF:i + d < X.length:=by have:=(List.getElem?_eq_some_iff.1 U).1; omega
  have V:=List.getElem?_eq_getElem aF
  exact (aH ae V).trans (h.j' (i + d) _ b V U)
theorem Way.aa5 {ops:List Oper} {base:Nat} {X:List fW} (h:Way E M ops base X) (hlen:X.length≤ops.length + 1):∀(d:Nat) {i:Nat} {a b:fW},ze ops i (i + d) -> X[i]? =some a -> X[i + d]? =some b -> ∀c,(∀k,b.1 k≠some c) -> (b.2.2.H.m.get c).isSome=true -> (a.2.2.H.m.get c).isSome=true:=by
 intro d
 induction d with
 | zero=>intro i a b _ ae U c _ aG; rw [Nat.add_zero,ae] at U; cases U; exact aG
 | succ d aH=>
  intro i a b ar ae U c V aG
  have aF:i + d < X.length:=by have:=(List.getElem?_eq_some_iff.1 U).1; omega
  have hm:=List.getElem?_eq_getElem aF
  have mu:i + d < ops.length:=by have:=(List.getElem?_eq_some_iff.1 U).1; omega
  have aj:=List.getElem?_eq_getElem mu
  have J:=h.qL (i + d) _ b _ hm U aj (ar _ _ (Nat.le_add_right _ _) (Nat.lt_succ_self _) aj) c V aG
  exact aH (fun k o J O=>ar k o J (by omega)) ae hm c (fun k ab=>V k ((h.j' (i + d) _ b hm U).c7.le _ _ ab)) J
theorem CL {σ:bK} {H:aa} {T T':a'} {o:Op} {c:Nat} {v:I} {ay:aa} (ah:rg o=true) (k:g3 false σ H M T T') (ak:eG M o E T ay=some v) (h:iZ M o T'=some c):(∃b,iZ M o T=some b /\ σ b=some c)∨(iZ M o T=none /\ ip σ H c):=by
 cases o with
 | load t x=>
  obtain ⟨p,aR,_⟩:=aO (show ((aK M x T).ac fun v=>bQ (ec v) ((ju v).ac fun q=>ek E t q.1 q.2) fun q=>dw E ay t q.1 q.2)=some v from ak)
  obtain ⟨eV,jG,af⟩:=eI k aR
  obtain ⟨fq,h3,h⟩:=aO (show ((aK M x T').ac fun v=>(ec v).omap (·.1))=some c from h)
  rw [jG] at h3; cases h3
  obtain ⟨⟨b1,AS⟩,aB,rfl⟩:=bB h
  obtain rfl:=l6 aB
  have Ya:iZ M (.load t x) T=(ec p).omap (·.1):=by show (aK M x T).ac _=_; rw [aR]; rfl
  rw [Ya]
  cases p with
  | ptr b o=>
   simp only [al] at af
   obtain ⟨b8,V,he⟩:=af
   cases he
   exact .inl ⟨b,rfl,V⟩
  | c9 cs off=>
   simp only [al] at af
   rcases af with ⟨hw,_⟩ | ⟨b8,o,cs',he,ao,_⟩
   ·
    cases hw
   ·
    cases he; exact .inr ⟨rfl,ao⟩
  | _=>
   simp only [al] at af
   first
    | (cases af; done)
    | (obtain ⟨_,_,he⟩:=af; cases he; done)
    | (obtain ⟨_,_,_,_,he⟩:=af; cases he; done)
    | (rcases af with ⟨hw,_⟩ | ⟨_,he | ⟨_,_,_,he,_⟩ | ⟨_,he⟩⟩ | ⟨_,_,_,_,_,_,he,_⟩ <;> first | cases hw | cases he)
 | convert s d x=>
  obtain ⟨y,e,aj,_,m_⟩:=Ih ah ak
  obtain ⟨q,aB,_⟩:=aO m_
  obtain ⟨b,o,n,nt⟩:=q
  obtain rfl:=hv aB
  obtain ⟨eV,jG,af⟩:=eI k aj
  obtain ⟨b8,V,rfl⟩:=af.slice
  obtain ⟨fq,h3,h⟩:=aO (show ((aK M x T').ac fun v=>(asSlice v).omap (·.1))=some c from h)
  rw [jG] at h3; cases h3
  cases h
  exact .inl ⟨b,by show (aK M x T).ac _=_; rw [aj]; rfl,V⟩
 | _=>cases ah
theorem Way.slot {ops:List Oper} {base:Nat} {X:List fW} (h:Way E M ops base X) (hlen:X.length≤ops.length + 1) {z:Tmp}:∀(d:Nat) {i:Nat} {a b:fW},X[i]? =some a -> X[i + d]? =some b -> (∀(k:Nat) (y:Oper),i≤k -> k < i + d -> ops[k]? =some y -> y.dst≠some z) -> aK M (.tmp z) b.2.2.T=aK M (.tmp z) a.2.2.T:=by
 intro d
 induction d with
 | zero=>intro i a b ae U _; rw [Nat.add_zero,ae] at U; cases U; rfl
 | succ d aH=>
  intro i a b ae U ai
  have aF:i + d < X.length:=by have:=(List.getElem?_eq_some_iff.1 U).1; omega
  have hm:=List.getElem?_eq_getElem aF
  have mu:i + d < ops.length:=by have:=(List.getElem?_eq_some_iff.1 U).1; omega
  have aj:=List.getElem?_eq_getElem mu
  exact ((h.AY (i + d) _ b _ hm U aj).1 z (ai _ _ (Nat.le_add_right _ _) (Nat.lt_succ_self _) aj)).trans (aH ae hm fun k y J O=>ai k y J (by omega))
theorem Qr {σ:bK} {H:aa} {sz:Nat} {l:List I} {a:I} {nt:d5} {i c off:Nat} (ak:al false σ H (.aJ sz l) a) (h:e9 nt E a i=some (.ptr c off)):ip σ H c:=by
 have xV:(false=true /\ ∃l',a= .aJ sz l' /\ av false σ H l l')∨(l= [] /\ (a= .aE∨(∃c o k,a= .slice c o 0 k /\ lE k sz /\ (sz=0 -> zI k))∨∃cm,a= .dY cm))∨(l≠ [] /\ ∃c o k,a= .slice c o l.length k /\ ip σ H c):=by
  by_cases ah:l= []
  ·
   subst ah
   rcases ak.nQ with ⟨hw,_⟩ | h | h | h
   ·
    cases hw
   ·
    exact .inr (.inl ⟨rfl,.inl h⟩)
   ·
    exact .inr (.inl ⟨rfl,.inr (.inl h)⟩)
   ·
    exact .inr (.inl ⟨rfl,.inr (.inr h)⟩)
  ·
   rcases ak.mB ah with ⟨hw,_⟩ | ⟨c,o,k,l',aD,_,J,_⟩
   ·
    cases hw
   ·
    exact .inr (.inr ⟨ah,c,o,k,aD,J⟩)
 rcases xV with ⟨hw,_⟩ | ⟨_,rfl | ⟨b8,o,k,rfl,_⟩ | ⟨cm,rfl⟩⟩ | ⟨_,b8,o,k,rfl,ao⟩
 ·
  cases hw
 ·
  cases nt with
  | slice e=>cases h
  | array n e=>exact absurd (show ap (Nat.blt i n) (none:Option I) none=some (.ptr c off) from h) (by cases Nat.blt i n <;> exact fun h=>by cases h)
  | _=>cases h
 ·
  cases nt with
  | slice e=>
   have h:ap (Nat.blt i 0) (some (I.ptr b8 (Nat.add o (Nat.mul i (au E e))))) none=some (.ptr c off):=h
   cases U:Nat.blt i 0 with
   | true=>rw [cZ] at U; omega
   | false=>rw [U] at h; cases h
  | array n e=>exact absurd (show ap (Nat.blt i n) (none:Option I) none=some (.ptr c off) from h) (by cases Nat.blt i n <;> exact fun h=>by cases h)
  | _=>cases h
 ·
  cases nt with
  | slice e=>cases h
  | array n e=>exact absurd (show ap (Nat.blt i n) (none:Option I) none=some (.ptr c off) from h) (by cases Nat.blt i n <;> exact fun h=>by cases h)
  | _=>cases h
 ·
  cases nt with
  | slice e=>
   have h:ap (Nat.blt i l.length) (some (I.ptr b8 (Nat.add o (Nat.mul i (au E e))))) none=some (.ptr c off):=h
   cases U:Nat.blt i l.length with
   | true=>rw [U] at h; cases h; exact ao
   | false=>rw [U] at h; cases h
  | array n e=>exact absurd (show ap (Nat.blt i n) (none:Option I) none=some (.ptr c off) from h) (by cases Nat.blt i n <;> exact fun h=>by cases h)
  | _=>cases h
theorem Way.root {ops:List Oper} {base:Nat} {X:List fW} (h:Way E M ops base X) (hlen:X.length≤ops.length + 1) {j:Nat} {a0 s:fW} {y:Oper} {z:Tmp} {c:Nat} (aD:X[0]? =some a0) (ax:X[j]? =some s) (af:Km (ops.take j) y.op z) (ah:bl (aK M (.tmp z) a0.2.1.T) zG) (V:iZ M y.op s.2.2.T=some c):ip a0.1 a0.2.2.H c:=by
 obtain ⟨t,r,ty,q,yo,i1,i2,cN,dL,dn,a8,bk,c3,eD,fZ,jh,AZ,ae4,ae5,Ak,adE,adF⟩:=af.ex
 have afU:=(List.getElem?_eq_some_iff.1 ax).1
 have cg:i1 < j:=by have:=(List.getElem?_eq_some_iff.1 a8).1; rw [List.length_take] at this; omega
 have AS:ops[i1]? =some cN:=by rw [List.getElem?_take,if_pos cg] at a8; exact a8
 have ot:ops[i2]? =some dL:=by rw [List.getElem?_take,if_pos (by omega)] at AZ; exact AZ
 have pre:∀ {k:Nat} {w:Oper},k < j -> ops[k]? =some w -> (ops.take j)[k]? =some w:=fun {k w} ab hw=>by rw [List.getElem?_take,if_pos ab]; exact hw
 have e7:∀k,k≤j -> ∃a,X[k]? =some a:=fun k ab=>⟨_,List.getElem?_eq_getElem (show k < X.length by omega)⟩
 obtain ⟨eu,qt⟩:=e7 i1 (by omega)
 obtain ⟨v1,h4⟩:=e7 (i1 + 1) (by omega)
 obtain ⟨iM,la⟩:=e7 i2 (by omega)
 obtain ⟨v2,Au⟩:=e7 (i2 + 1) (by omega)
 rw [dn] at V
 obtain ⟨fq,h3,V⟩:=aO (show ((aK M (.tmp r) s.2.2.T).ac fun v=>(ec v).omap (·.1))=some c from V)
 obtain ⟨⟨b1,o'⟩,aB,rfl⟩:=bB V
 obtain rfl:=l6 aB
 have s1:=h.slot hlen (j - (i1 + 1)) h4 (by rw [show i1 + 1 + (j - (i1 + 1))=j by omega]; exact ax) (z:=r) (fun k w J O hw aw=>by have:=fZ k w (pre (by omega) hw) aw; omega)
 obtain ⟨cl,f1,f2⟩:=(h.AY i1 eu v1 cN qt h4 AS).2 c3 (by rw [eD]; rfl) r bk
 rw [s1,f2] at h3
 cases h3
 rw [eD] at f1
 obtain ⟨ago,R,f1⟩:=aO (show ((aK M (.tmp q) eu.2.2.T).ac fun x=>(aK M yo eu.2.2.T).ac fun i=>(dH i).ac fun i=>e9 (aU E ty) E x i)=some _ from f1)
 obtain ⟨agp,_,f1⟩:=aO f1
 obtain ⟨i,_,f1⟩:=aO f1
 have s2:=h.slot hlen (i1 - (i2 + 1)) Au (by rw [show i2 + 1 + (i1 - (i2 + 1))=i1 by omega]; exact qt) (z:=q) (fun k w J O hw aw=>by have:=adE k w (by omega) (pre (by omega) hw) aw; omega)
 obtain ⟨e8,bc,a9⟩:=(h.AY i2 iM v2 dL la Au ot).2 ae5 (by rw [Ak]; rfl) q ae4
 rw [s2,a9] at R
 cases R
 rw [Ak] at bc
 have bc:aK M (.tmp z) iM.2.2.T=some _:=bc
 have sg:=h.slot hlen i2 aD (by rw [Nat.zero_add]; exact la) (z:=z) (fun k w J O hw=>adF k w (pre (by omega) hw))
 rw [sg] at bc
 obtain ⟨agq,ti,sz,l,rfl⟩:=ah
 obtain ⟨agr,ae,adG⟩:=eI (h.gD 0 a0 aD).t ti
 rw [bc] at ae
 cases ae
 exact Qr adG f1
theorem Way.qj {ops:List Oper} {base:Nat} {X:List fW} (h:Way E M ops base X) (e7:X.length=ops.length + 1) (ah:lq E M ops (X.map fun a=>a.2.1) (loose E ops)):qj E M ops base (X.map fun a=>a.2.2)=true:=by
 unfold Go.az.qj
 simp only
 refine Cd fun e x R=> ?_
 rw [Nat.zero_add]
 cases he:fR E x with
 | false=>rfl
 | true=>
  simp only
  refine Cd fun j y aj=> ?_
  rw [Nat.zero_add]
  cases U:Nat.beq e j || (jv (hk ops []) j e || jv (hk ops []) e j) with
  | true=>rfl
  | false=>
   simp only
   have afV:=(List.getElem?_eq_some_iff.1 R).1
   have Lf:=(List.getElem?_eq_some_iff.1 aj).1
   have iC:=List.getElem?_eq_getElem (show e < X.length by omega)
   have xW:=List.getElem?_eq_getElem (show e + 1 < X.length by omega)
   have ij:=List.getElem?_eq_getElem (show j < X.length by omega)
   have jH:=List.getElem?_eq_getElem (show j + 1 < X.length by omega)
   generalize X[e]=u at iC
   generalize X[e + 1]=v at xW
   generalize X[j]=s at ij
   generalize X[j + 1]=s' at jH
   have j5:e≠j:=by rintro rfl; rw [Nat.beq_refl] at U; cases U
   unfold zm
   have gP:(X.map fun a=>a.2.2)[j]? =some s.2.2:=by rw [List.getElem?_map,ij]; rfl
   have fe:(X.map fun a=>a.2.2)[e]? =some u.2.2:=by rw [List.getElem?_map,iC]; rfl
   have dU:(X.map fun a=>a.2.2)[e + 1]? =some v.2.2:=by rw [List.getElem?_map,xW]; rfl
   have hU:(X.map fun a=>a.2.1)[j]? =some s.2.1:=by rw [List.getElem?_map,ij]; rfl
   have oo:(X.map fun a=>a.2.1)[e]? =some u.2.1:=by rw [List.getElem?_map,iC]; rfl
   have pu:(X.map fun a=>a.2.1)[e + 1]? =some v.2.1:=by rw [List.getElem?_map,xW]; rfl
   have ok:∀j0:pX E (hk ops []) e j y=true,pS E M ops (X.map fun a=>a.2.1) (e,j):=fun j0=>Gb ah (Qp R aj he j0)
   simp only [pS,aj,hU,oo,pu] at ok
   unfold pX at ok
   rw [U] at ok
   have want:∀ {b},cx M ops s.2.1.T y=some b -> cx M ops s.2.2.T y=some b:=by
    intro b hw
    unfold cx at hw ⊢
    split at hw
    ·
     exact hw
    ·
     exact Cc (h.gD j s ij).t hw
   cases V:cls y.op E with
   | pure=>rfl
   | ha=>rfl
   | read=>
    rw [V] at ok
    simp only [gP,fe,dU]
    have ok:=ok rfl
    cases hw:cx M ops s.2.2.T y with
    | none=>obtain ⟨b,U⟩:=h.want j s s' y ij jH aj; rw [hw] at U; cases U
    | some b=>
     cases b with
     | false=>rfl
     | true=>
      simp only
      obtain ⟨kw,ok⟩:=ok
      have ok:=ok.resolve_left (fun k=>by rw [want k] at hw; cases hw)
      obtain ⟨dL,gN⟩:=h.read j s s' y ij jH aj V hw
      obtain ⟨cN,g0,_⟩:=Ie (h.gD j s ij).h (h.gD j s ij).t gN
      have same:∀ {H'},(∀c,iZ M y.op s.2.2.T=some c -> H'.m.get c=s.2.2.H.m.get c) -> uH (eG M y.op E s.2.2.T H') (eG M y.op E s.2.2.T s.2.2.H)=true:=by
       intro H' aM
       rw [g0,Nu kw g0 aM]
       exact C' cN
      cases aF:Nat.blt e j with
      | true=>
       rw [aF] at ok
       rcases (show (∃b,iZ M y.op s.2.1.T=some b /\ (s.2.1.H.m.get b).isSome=true /\ si b u.2.1.H s.2.1.H)∨(iZ M y.op s.2.1.T=none /\ ze ops e j)∨(iZ M y.op s.2.1.T=none /\ ∃z s0,uK (ops.take j) y.op=some z /\ (X.map fun a=>a.2.1)[0]? =some s0 /\ bl (aK M (.tmp z) s0.T) zG) from ok) with ⟨b,kx,jA,jB,l,rX,xX⟩ | ⟨fU,Ws⟩ | ⟨fU,z,s0,ai,Kn,aa6⟩
       rotate_right
       ·
        refine same fun c dS=> ?_
        rw [cZ] at aF
        have AF:=List.getElem?_eq_getElem (show 0 < X.length by omega)
        have aa7:X[0].2.1=s0:=by rw [List.getElem?_map,AF] at Kn; exact Option.some.inj Kn
        have e3:=h.root (Nat.le_of_eq e7) AF ij (GT ai) (by rw [aa7]; exact aa6) dS
        have cg:=((h.h9 e AF (by rw [Nat.zero_add]; exact iC)).c7.fz c e3).2
        have cn:=((h.h9 j AF (by rw [Nat.zero_add]; exact ij)).c7.fz c e3).2
        exact cg.trans cn.symm
       rotate_right
       ·
        refine same fun c dS=> ?_
        rw [cZ] at aF
        have j':=h.h9 (j - e) iC (by rw [show e + (j - e)=j by omega]; exact ij)
        rcases CL (E:=E) kw (h.gD j s ij).t gN dS with ⟨cv,pj,_⟩ | ⟨_,ao⟩
        ·
         rw [fU] at pj; cases pj
        ·
         have ii:=h.aa5 (Nat.le_of_eq e7) (j - e) (by rw [show e + (j - e)=j by omega]; exact Ws) iC (by rw [show e + (j - e)=j by omega]; exact ij) c ao.1 ao.2.2
         have d7:c < u.2.2.H.next:=by
          by_cases aM:c < u.2.2.H.next
          ·
           exact aM
          ·
           rw [(h.gD e u iC).h.ob c (by omega)] at ii; cases ii
         exact (j'.c7.fz c ⟨fun k ab=>ao.1 k (j'.c7.le _ _ ab),d7,ii⟩).2.symm
       refine same fun c dS=> ?_
       rw [cZ] at aF
       have j':=h.h9 (j - e) iC (by rw [show e + (j - e)=j by omega]; exact ij)
       rcases CL (E:=E) kw (h.gD j s ij).t gN dS with ⟨cv,pj,EZ⟩ | ⟨pj,_⟩
       ·
        rw [kx] at pj; cases pj
        obtain ⟨z,ai⟩:=Option.isSome_iff_exists.1 jA
        rw [ai] at jB
        obtain ⟨b8,_,b7,_⟩:=(h.gD e u iC).h.dr b z jB
        have mJ:b8=c:=by
         have:=j'.c7.le b b8 b7
         rw [EZ] at this; cases this; rfl
        subst mJ
        obtain ⟨l',oa,j3⟩:=j'.je
        have:l'=l:=List.append_cancel_right (oa.symm.trans rX)
        subst this
        exact (j3 b b8 b7 xX).symm
       ·
        rw [kx] at pj; cases pj
      | false=>
       rw [aF] at ok
       have ok:=(show ∀b,iZ M y.op s.2.1.T=some b -> si b s.2.1.H v.2.1.H from ok)
       refine same fun c dS=> ?_
       have mC:j < e:=by
        have:¬e < j:=fun k=>by rw [<- cZ,aF] at k; cases k
        omega
       have j':=h.h9 (e + 1 - j) ij (by rw [show j + (e + 1 - j)=e + 1 by omega]; exact xW)
       rcases CL (E:=E) kw (h.gD j s ij).t gN dS with ⟨b,pj,EZ⟩ | ⟨_,ao⟩
       ·
        obtain ⟨_,l,rX,xX⟩:=ok b pj
        obtain ⟨l',oa,j3⟩:=j'.je
        have:l'=l:=List.append_cancel_right (oa.symm.trans rX)
        subst this
        exact j3 b c EZ xX
       ·
        exact (j'.c7.fz c ao).2
   | alloc=>
    rw [V] at ok
    simp only [gP,fe,dU]
    cases hw:cx M ops s.2.2.T y with
    | none=>obtain ⟨b,U⟩:=h.want j s s' y ij jH aj; rw [hw] at U; cases U
    | some b=>
     cases b with
     | false=>rfl
     | true=>
      simp only
      cases aF:Nat.blt j e with
      | true=>
       have ok:=(ok (by simpa using aF)).resolve_left (fun k=>by rw [want k] at hw; cases hw)
       obtain ⟨⟨tO,dn,dZ,w0,zt⟩,_,l,rX,xX⟩:=ok
       rw [cZ] at aF
       have ae:=h.alloc j s s' y ij jH aj V hw
       have E0:=h.h9 (e - (j + 1)) jH (by rw [show j + 1 + (e - (j + 1))=e by omega]; exact iC)
       have j':=h.j' e u v iC xW
       have hu:=E0.c7.le _ _ ae
       obtain ⟨l',oa,j3⟩:=j'.je
       have:l'=l:=List.append_cancel_right (oa.symm.trans rX)
       subst this
       have oV:=j3 _ _ hu xX
       obtain ⟨b8,z,b7,ai,nr,rfl,_⟩:=(h.gD e u iC).h.dr _ _ zt
       rw [hu] at b7; cases b7
       rw [oV,ai]
       show (Nat.beq dn dn && (kT dZ dZ && (kT w0 w0 && kW nr nr)))=true
       rw [Nat.beq_refl,oD,oD,rc]; simp
      | false=>
       simp only
       have hle:¬j < e:=fun k=>by rw [<- cZ,aF] at k; cases k
       rw [h.hole (List.any_eq_true.2 ⟨y,List.mem_of_getElem? aj,by unfold ls; rw [V]⟩) e u j iC (by omega) Lf]
end
end
end Go.az
namespace Go.az
noncomputable section
section
variable {E:Env} {N M:Nat}
theorem Way.one {ops:List Oper} {base:Nat} {a:fW} (J:jL M a.1 a.2.1 a.2.2) (O:∀k,k < ops.length -> a.2.2.H.m.get (base + k)=none) (ag:ops.any (ls E)=true -> base + ops.length≤a.2.2.H.next):Way E M ops base [a]:=by
 have e:∀ {i:Nat} {x:fW},[a][i]? =some x -> i=0 /\ x=a:=by
  intro i x h
  cases i with
  | zero=>simp at h; exact ⟨rfl,h.symm⟩
  | succ i=>simp at h
 refine ⟨fun i x h=> ?_,fun _ i x k h ab ef=> ?_,fun i x h=> ?_,fun i x y h aQ=> ?_,fun i x y z h aQ=> ?_,fun i x y z h aQ=> ?_,fun i x y z h aQ=> ?_,fun i x y z h aQ=> ?_,fun i x y z h aQ=> ?_⟩
 ·
  obtain ⟨_,rfl⟩:=e h; exact J
 ·
  obtain ⟨_,rfl⟩:=e h; exact O k ef
 ·
  obtain ⟨_,rfl⟩:=e h; exact ag
 all_goals (obtain ⟨ad,_⟩:=e aQ; omega)
theorem Way.snoc {ops:List Oper} {base:Nat} {X:List fW} {a b:fW} {y:Oper} (h:Way E M ops base (X ++ [a])) (aj:ops[X.length]? =some y) (J:jL M b.1 b.2.1 b.2.2) (O:ops.any (ls E)=true -> ∀k,X.length + 1≤k -> k < ops.length -> b.2.2.H.m.get (base + k)=none)
 (ag:dh base a.1 a.2.1.H a.2.2.H b.1 b.2.1.H b.2.2.H) (aP:cls y.op E= .alloc -> cx M ops a.2.2.T y=some true -> b.1 a.2.1.H.next=some (base + X.length)) (bH:∃b,cx M ops a.2.2.T y=some b)
 (fd:ra y.op=false -> ∀c,(∀k,b.1 k≠some c) -> (b.2.2.H.m.get c).isSome=true -> (a.2.2.H.m.get c).isSome=true)
 (l2:h8 M y a.2.2 b.2.2 /\ (y.guard=none -> AE E M y a.2.2 b.2.2))
 (eC:cls y.op E= .read -> cx M ops a.2.2.T y=some true -> ∃v,eG M y.op E a.2.1.T a.2.1.H=some v):Way E M ops base (X ++ [a] ++ [b]):=by
 have f':(X ++ [a])[X.length]? =some a:=by simp
 have e:∀ {i:Nat} {x:fW},(X ++ [a] ++ [b])[i]? =some x -> (X ++ [a])[i]? =some x∨(i=X.length + 1 /\ x=b):=by
  intro i x R
  by_cases ad:i < (X ++ [a]).length
  ·
   rw [List.getElem?_append_left ad] at R; exact .inl R
  ·
   rw [List.getElem?_append_right (by omega)] at R
   have:i - (X ++ [a]).length=0:=by
    cases ab:i - (X ++ [a]).length with
    | zero=>rfl
    | succ k=>rw [ab] at R; simp at R
   rw [this] at R
   simp at R this ad
   exact .inr ⟨by omega,R.symm⟩
 have lt:∀ {i:Nat} {x:fW},(X ++ [a])[i]? =some x -> i≤X.length:=by
  intro i x R
  have:=(List.getElem?_eq_some_iff.1 R).1
  simp at this; omega
 have two:∀ {i:Nat} {x z:fW},(X ++ [a] ++ [b])[i]? =some x -> (X ++ [a] ++ [b])[i + 1]? =some z -> ((X ++ [a])[i]? =some x /\ (X ++ [a])[i + 1]? =some z)∨(i=X.length /\ x=a /\ z=b):=by
  intro i x z R ai
  rcases e ai with ai | ⟨ad,rfl⟩
  ·
   rcases e R with R | ⟨ad,_⟩
   ·
    exact .inl ⟨R,ai⟩
   ·
    have:=lt ai; omega
  ·
   rcases e R with R | ⟨b5,_⟩
   ·
    right
    obtain rfl:i=X.length:=by omega
    rw [f'] at R; cases R
    exact ⟨rfl,rfl,rfl⟩
   ·
    omega
 refine ⟨fun i x R=> ?_,fun gA i x k R ab ef=> ?_,fun i x R gA=> ?_,fun i x z R ai=> ?_,fun i x z w R ai hw=> ?_,fun i x z w R ai hw=> ?_,fun i x z w R ai hw=> ?_,fun i x z w R ai hw=> ?_,fun i x z w R ai hw=> ?_⟩
 ·
  rcases e R with R | ⟨_,rfl⟩
  ·
   exact h.gD i x R
  ·
   exact J
 ·
  rcases e R with R | ⟨rfl,rfl⟩
  ·
   exact h.hole gA i x k R ab ef
  ·
   exact O gA k ab ef
 ·
  rcases e R with R | ⟨_,rfl⟩
  ·
   exact h.room i x R gA
  ·
   exact Nat.le_trans (h.room _ a f' gA) ag.c7.next
 ·
  rcases two R ai with ⟨R,ai⟩ | ⟨_,rfl,rfl⟩
  ·
   exact h.j' i x z R ai
  ·
   exact ag
 ·
  rcases two R ai with ⟨R,ai⟩ | ⟨rfl,rfl,rfl⟩
  ·
   exact h.alloc i x z w R ai hw
  ·
   rw [aj] at hw; cases hw; exact aP
 ·
  rcases two R ai with ⟨R,ai⟩ | ⟨rfl,rfl,rfl⟩
  ·
   exact h.want i x z w R ai hw
  ·
   rw [aj] at hw; cases hw; exact bH
 ·
  rcases two R ai with ⟨R,ai⟩ | ⟨rfl,rfl,rfl⟩
  ·
   exact h.qL i x z w R ai hw
  ·
   rw [aj] at hw; cases hw; exact fd
 ·
  rcases two R ai with ⟨R,ai⟩ | ⟨rfl,rfl,rfl⟩
  ·
   exact h.AY i x z w R ai hw
  ·
   rw [aj] at hw; cases hw; exact l2
 ·
  rcases two R ai with ⟨R,ai⟩ | ⟨rfl,rfl,rfl⟩
  ·
   exact h.read i x z w R ai hw
  ·
   rw [aj] at hw; cases hw; exact eC
theorem Qs {σ:bK} {s2 s1:an} (r:jL M σ s2 s1) {ops:List Oper} {y:Oper} {b:Bool} (h:cx M ops s2.T y=some b):cx M ops s1.T y=some b:=by
 unfold cx at h ⊢
 split at h
 ·
  exact h
 ·
  exact Cc r.t h
theorem Wt (c4:E.kO=none) (eW:ly E) {ops:List Oper} {base:Nat} {K2 K1:List an -> Prop} {a0:fW}
 (iz:∀X,X.length=ops.length + 1 -> X[0]? =some a0 -> Way E M ops base X -> K2 (X.map fun a=>a.2.1) -> K1 (X.map fun a=>a.2.2)):∀(l:List Oper) {X:List fW} {a:fW},(X ++ [a])[0]? =some a0 -> X.length + l.length=ops.length -> (∀i,l[i]? =ops[X.length + i]?) ->
  base≤a.2.2.H.next -> Way E M ops base (X ++ [a]) -> gX (b0 E) N M ops l a.2.1 (X.map fun a=>a.2.1).reverse K2 -> m' E N M ops l (base + X.length) a.2.2 (X.map fun a=>a.2.2).reverse K1:=by
 intro l
 induction l with
 | nil=>
  intro X a aM hlen _ _ e7 h
  have h:=show K2 ((X.map fun a=>a.2.1).reverse.reverse ++ [a.2.1]) from h
  show K1 ((X.map fun a=>a.2.2).reverse.reverse ++ [a.2.2])
  rw [List.reverse_reverse] at h ⊢
  have:=iz (X ++ [a]) (by simp at hlen ⊢; omega) aM e7
  rw [List.map_append,List.map_append] at this
  exact this h
 | cons o l aH=>
  intro X a aM hlen cp jS e7 h
  have aj:ops[X.length]? =some o:=by have:=cp 0; simpa using this.symm
  have f':(X ++ [a])[X.length]? =some a:=by simp
  have adH:X.length < ops.length:=(List.getElem?_eq_some_iff.1 aj).1
  have r:=e7.gD _ a f'
  obtain ⟨b,hw,h⟩:=h
  have dE:=Qs r hw
  refine ⟨b,dE,?_⟩
  have next:∀c:fW,jL M c.1 c.2.1 c.2.2 -> dh base a.1 a.2.1.H a.2.2.H c.1 c.2.1.H c.2.2.H -> (ops.any (ls E)=true -> ∀k,X.length + 1≤k -> k < ops.length -> c.2.2.H.m.get (base + k)=none) ->
   (cls o.op E= .alloc -> b=true -> c.1 a.2.1.H.next=some (base + X.length)) -> (ra o.op=false -> ∀d,(∀k,c.1 k≠some d) -> (c.2.2.H.m.get d).isSome=true -> (a.2.2.H.m.get d).isSome=true) -> (h8 M o a.2.2 c.2.2 /\ (o.guard=none -> AE E M o a.2.2 c.2.2)) -> (cls o.op E= .read -> b=true -> ∃v,eG M o.op E a.2.1.T a.2.1.H=some v) ->
   gX (b0 E) N M ops l c.2.1 (a.2.1 :: (X.map fun a=>a.2.1).reverse) K2 -> m' E N M ops l (Nat.succ (base + X.length)) c.2.2 (a.2.2 :: (X.map fun a=>a.2.2).reverse) K1:=by
   intro c s_ AG Yb gA adI ew adJ h
   have:=aH (X:=X ++ [a]) (a:=c) (by
    rw [List.getElem?_append_left (by simp)]; exact aM) (by simp at hlen ⊢; omega) (fun i=>by
    have:=cp (i + 1)
    rw [List.getElem?_cons_succ] at this
    rw [this]; congr 1; simp; omega) (Nat.le_trans jS AG.c7.next)
    (e7.snoc aj s_ Yb AG (fun J O=>gA J (by rw [dE] at O; exact Option.some.inj O)) ⟨b,dE⟩ adI ew (fun J O=>adJ J (by rw [dE] at O; exact Option.some.inj O))) (by simpa using h)
   simpa [Nat.add_assoc] using this
  have h9:∀ {c:fW},dh a.2.2.H.next a.1 a.2.1.H a.2.2.H c.1 c.2.1.H c.2.2.H -> ops.any (ls E)=true -> ∀k,X.length + 1≤k -> k < ops.length -> c.2.2.H.m.get (base + k)=none:=by
   intro c AG gA k ab ef
   have:=e7.room _ a f' gA
   exact AG.hole _ (by omega) (e7.hole gA _ a k f' (by omega) ef)
  cases b with
  | false=>
   have h:=show dI N M a.2.1.T o.dst (fun s'=>gX (b0 E) N M ops l s' (a.2.1 :: (X.map fun a=>a.2.1).reverse) K2) .undef a.2.1.H from h
   have J:dI N M a.2.2.T o.dst (fun s'=>m' E N M ops l (base + X.length).succ s' (a.2.2 :: (X.map fun a=>a.2.2).reverse) K1) .undef a.2.2.H:=by
    refine lp (Wr (o:=o) (s:=a.2.2) (K:=EX false a.2.2.H.next M a.1 a.2.1.H a.2.2.H _) (wy r.t r.h (dh.refl _ _ _ _) (fun _ _ _ h=>h) al.undef h)) ?_
    rintro s1 ⟨ew,bn,s2,J,O,ar,ag⟩
    exact next (bn,s2,s1) O (J.mono jS) (h9 J) (fun _ h=>by cases h) (fun _=>ar rfl) ⟨ew,fun a4=>by
     unfold cx at dE
     rw [a4] at dE
     cases dE⟩ (fun _ h=>by cases h) ag
   exact J
  | true=>
   have h:=show wpOp (b0 E) N M o a.2.1 (fun s'=>gX (b0 E) N M ops l s' (a.2.1 :: (X.map fun a=>a.2.1).reverse) K2) from h
   refine (show p1 E N M (base + X.length) o a.2.2 _ from ?_)
   unfold p1
   cases V:cls o.op E with
   | alloc=>
    simp only
    have gA:ops.any (ls E)=true:=List.any_eq_true.2 ⟨o,List.mem_of_getElem? aj,by unfold ls; rw [V]⟩
    have zD:=e7.hole gA _ a X.length f' (Nat.le_refl _) adH
    have uI:=e7.room _ a f' gA
    refine ⟨zD,?_⟩
    unfold wpOp at h
    rw [uM,V] at h
    obtain ⟨p,aR,ab⟩:=h
    rw [Hl] at aR
    obtain ⟨q,aB,U,ak⟩:=Hk eW r.t aR
    have zC:∀b,a.1 b≠some (base + X.length):=by
     intro b U
     obtain ⟨y,aj⟩:=r.h.ex b _ U
     rw [zD] at aj; cases aj
    obtain ⟨bi,k'⟩:=cW.newAt (n:=base) (c:=base + X.length) (H1':=aN a.2.2.H (base + X.length) q.1) (Nat.le_add_right _ _) r.h U zD zC rfl (Nat.le_refl _) (by show base + X.length < a.2.2.H.next; omega)
    obtain ⟨fK,qp,ab⟩:=ab
    have xn:(a.1.add a.2.1.H.next (base + X.length)) a.2.1.H.next=some (base + X.length):=by simp [bK.add]
    obtain ⟨ff,th,tk⟩:=C_ (r.t.mono k'.c7) (ak _ (aN a.2.2.H (base + X.length) q.1) _ _ xn) qp
    refine ⟨q,aB,ff,th,?_⟩
    refine next (a.1.add a.2.1.H.next (base + X.length),⟨fK,(aS a.2.1.H p.1).2⟩,⟨ff,aN a.2.2.H (base + X.length) q.1⟩) ⟨tk,bi⟩ k'.todh (fun gA k ab ef=> ?_) (fun _ _=>xn) (fun _=>k'.qL) ⟨h8.put th,fun _ h=>by rw [V] at h; cases h⟩ (fun h=>by rw [V] at h; cases h) ab
    show (aN a.2.2.H (base + X.length) q.1).m.get (base + k)=none
    rw [gH,if_neg (by omega)]
    exact e7.hole gA _ a k f' (by omega) ef
   | pure=>
    simp only
    refine wpOp_mono (kh c4) (oO (kh c4) (zi c4 eW r h)) ?_
    rintro s1 ⟨ew,bn,s2,J,O,ar,ag⟩
    exact next (bn,s2,s1) O (J.mono jS) (h9 J) (fun h=>by rw [V] at h; cases h) ar ⟨ew.1,fun _=>ew.2⟩ (fun h=>by rw [V] at h; cases h) ag
   | ha=>
    simp only
    refine wpOp_mono (kh c4) (oO (kh c4) (zi c4 eW r h)) ?_
    rintro s1 ⟨ew,bn,s2,J,O,ar,ag⟩
    exact next (bn,s2,s1) O (J.mono jS) (h9 J) (fun h=>by rw [V] at h; cases h) ar ⟨ew.1,fun _=>ew.2⟩ (fun h=>by rw [V] at h; cases h) ag
   | read=>
    simp only
    have w6:∃v,eG M o.op E a.2.1.T a.2.1.H=some v:=by
     unfold wpOp at h
     rw [uM,V] at h
     obtain ⟨v,ak,_⟩:=h
     rw [If] at ak
     exact ⟨v,ak⟩
    refine wpOp_mono (kh c4) (oO (kh c4) (zi c4 eW r h)) ?_
    rintro s1 ⟨ew,bn,s2,J,O,ar,ag⟩
    exact next (bn,s2,s1) O (J.mono jS) (h9 J) (fun h=>by rw [V] at h; cases h) ar ⟨ew.1,fun _=>ew.2⟩ (fun _ _=>w6) ag
theorem Su {all:List Oper} {d:an} {K:an -> Prop} {K2:List an -> Prop} (bo:m6 E) (ab:∀a_,K (g9 a_ d) -> K2 a_):∀ {l:List Oper} {s:an} {acc:List an},wpOps E N M all l s K -> gX E N M all l s acc K2:=by
 intro l
 induction l with
 | nil=>
  intro s acc h
  refine ab _ ?_
  have:∀(l:List an) (x d:an),g9 (l ++ [x]) d=x:=by
   intro l; induction l with
   | nil=>intro x d; rfl
   | cons y l aH=>intro x d; exact aH x y
  rw [this]; exact h
 | cons o l aH=>
  intro s acc h
  unfold wpOps at h
  unfold gX
  cases a4:o.guard with
  | none=>
   rw [a4] at h
   exact ⟨true,by unfold cx; rw [a4],wpOp_mono bo h fun s' k=>aH k⟩
  | some g=>
   rw [a4] at h
   obtain ⟨b,U,h⟩:=h
   refine ⟨b,by unfold cx; rw [a4]; exact U,?_⟩
   cases b with
   | true=>exact wpOp_mono bo (show wpOp E N M o s _ from h) fun s' k=>aH k
   | false=>exact lp (show dI N M s.T o.dst (fun s'=>wpOps E N M all l s' K) .undef s.H from h) fun s' k=>aH k
theorem Wu (c4:E.kO=none) (eW:ly E) {ops:List Oper} {σ:bK} {s2 s1:an} {K:an -> Prop} (r:jL M σ s2 s1) (h:kr (b0 E) N M ops s2 K):C4 E N M ops s1 (jM s1.H.next M σ s2.H s1.H K):=by
 obtain ⟨h_,h⟩:=(show j2 (b0 E) ops=true /\ zH (b0 E) N M ops s2 K (loose (b0 E) ops) from h)
 rw [X_] at h_
 refine ⟨h_,?_⟩
 have h:gX (b0 E) N M ops ops s2 [] fun a_=>lq (b0 E) M ops a_ (loose (b0 E) ops) /\ K (g9 a_ s2):=by
  cases ah:loose (b0 E) ops with
  | nil=>rw [ah] at h; exact Su (d:=s2) (zh E) (fun a_ k=>⟨trivial,k⟩) h
  | cons p l=>rw [ah] at h; exact h
 have uI:iw E ops=0 /\ ops.any (ls E)=false∨iw E ops=ops.length:=by
  unfold iw
  cases ops.any (ls E) with
  | true=>exact .inr rfl
  | false=>exact .inl ⟨rfl,rfl⟩
 let gB:an:=⟨s1.T,⟨s1.H.m,Nat.add s1.H.next (iw E ops),s1.H.log⟩⟩
 have c7:jf σ s1.H σ gB.H:=⟨fun _ _ h=>h,Nat.le_add_right _ _,fun c V=>⟨V.1,rfl⟩⟩
 have E0:dh s1.H.next σ s2.H s1.H σ s2.H gB.H:=⟨c7,⟨[],rfl,fun _ _ _ _=>rfl⟩,fun _ _ h=>h⟩
 have bi:jL M σ s2 gB:=by
  refine ⟨r.t.mono c7,⟨fun b x R=> ?_,r.h.inj,fun b c V=> ?_,r.h.qq,r.h.lh,fun c V=> ?_,r.h.ex,r.h.qr⟩⟩
  ·
   obtain ⟨c,y,J,O,ag⟩:=r.h.dr b x R
   exact ⟨c,y,J,O,ag.mono c7⟩
  ·
   exact Nat.lt_of_lt_of_le (r.h.lt b c V) (Nat.le_add_right _ _)
  ·
   exact r.h.ob c (Nat.le_trans (Nat.le_add_right _ _) V)
 have base:Way E M ops s1.H.next [(σ,s2,gB)]:=by
  refine Way.one bi (fun k ab=>r.h.ob _ (Nat.le_add_right _ _)) (fun gA=> ?_)
  rcases uI with ⟨_,h⟩ | h
  ·
   rw [h] at gA; cases gA
  ·
   show s1.H.next + ops.length≤Nat.add s1.H.next (iw E ops)
   rw [h]; exact Nat.le_refl _
 have:=Wt (N:=N) (K1:=Jo E M ops s1.H.next s1 (jM s1.H.next M σ s2.H s1.H K)) (a0:=(σ,s2,gB)) c4 eW (ops:=ops) (base:=s1.H.next) (K2:=fun a_=>lq (b0 E) M ops a_ (loose (b0 E) ops) /\ K (g9 a_ s2)) ?_ ops (X:= []) (a:=(σ,s2,gB)) rfl (by simp) (fun i=>by simp) (Nat.le_add_right _ _) base h
 ·
  exact this
 ·
  intro X hlen aD e7 ⟨ah,ab⟩
  rw [Uq] at ah
  have ah:lq E M ops (X.map fun a=>a.2.1) (loose E ops):=by
   have:∀l,lq (b0 E) M ops (X.map fun a=>a.2.1) l -> lq E M ops (X.map fun a=>a.2.1) l:=by
    intro l
    induction l with
    | nil=>exact fun _=>trivial
    | cons p l aH=>exact fun h=>⟨by have:=h.1; rwa [Qq] at this,aH h.2⟩
   exact this _ ah
  refine ⟨e7.qj hlen ah,?_⟩
  have f':=List.getElem?_eq_getElem (show ops.length < X.length by omega)
  have e:∀(f:fW -> an) (d:an),g9 (X.map f) d=f X[ops.length]:=by
   intro f d
   have:∀(l:List an) (d:an),l≠ [] -> g9 l d=l.getLast?.getD d:=by
    intro l
    induction l with
    | nil=>intro d h; exact absurd rfl h
    | cons y l aH=>
     intro d _
     cases l with
     | nil=>rfl
     | cons z l=>
      rw [show g9 (y :: z :: l) d=g9 (z :: l) y from rfl,aH y (by simp),List.getLast?_cons_cons]
      obtain ⟨u,hu⟩:=Option.isSome_iff_exists.1 (by simp:((z :: l).getLast?).isSome=true)
      rw [hu]; rfl
   rw [this _ _ (by intro h; have:=congrArg List.length h; simp at this; rw [this] at hlen; simp at hlen)]
   have O:(X.map f).getLast?=some (f X[ops.length]):=by
    rw [List.getLast?_eq_getElem?,List.length_map,List.getElem?_map,show X.length - 1=ops.length by omega,f']; rfl
   rw [O]; rfl
  rw [e] at ab ⊢
  have j':=e7.h9 ops.length aD (by rw [Nat.zero_add]; exact f')
  exact ⟨X[ops.length].1,X[ops.length].2.1,E0.trans j',e7.gD _ _ f',ab⟩
end
end
end Go.az
namespace Go.az
noncomputable section
def bK.comp (gt σ:bK):bK:=fun b=>(gt b).bind σ
theorem Ur {w:Bool} {σ:bK} {H:aa} {v a:I} (h:al w σ H v a) (k:gI v=none):gI a=none:=by
 cases v <;> simp only [al] at h <;> first
  | (cases k; done)
  | (subst h; rfl)
  | (obtain ⟨_,_,rfl⟩:=h; rfl)
  | (obtain ⟨_,_,_,_,rfl⟩:=h; rfl)
  | (rcases h with ⟨_,_,rfl,_⟩ | ⟨_,rfl | ⟨_,_,_,rfl,_⟩ | ⟨_,rfl⟩⟩ | ⟨_,_,_,_,_,_,rfl,_⟩ <;> rfl)
  | (rcases h with ⟨_,_,rfl,_⟩ | ⟨_,_,_,rfl,_⟩ <;> rfl)
theorem Hn {v:I} (h:gI v=none):v.cells= [v]:=by unfold I.cells; rw [h]; rfl
theorem CM {w:Bool} {σ:bK} {H:aa}:∀ {l cs:List I},av w σ H (a3 l) cs -> ∃l',av w σ H l l' /\ a3 l'=cs
 | [],cs,h=>by
  have h:=show av w σ H [] cs from h
  rw [av.nil] at h; subst h
  exact ⟨[],av.nil.2 rfl,rfl⟩
 | x :: l,cs,h=>by
  have h:=show av w σ H (cb x.cells (a3 l)) cs from h
  rw [eZ] at h
  obtain ⟨p,q,aR,aB,rfl⟩:=av.split h
  obtain ⟨l',cC,rfl⟩:=CM aB
  have R:∃y,al w σ H x y /\ y.cells=p:=by
   cases ae:gI x with
   | some c=>
    obtain rfl:=nv ae
    exact ⟨.agg p,al.mf aR,rfl⟩
   | none=>
    rw [Hn ae] at aR
    obtain ⟨y,r,J,O,rfl⟩:=av.cons.1 aR
    rw [av.nil] at O; subst O
    exact ⟨y,J,Hn (Ur J ae)⟩
  obtain ⟨y,J,O⟩:=R
  refine ⟨y :: l',av.cons.2 ⟨y,l',J,cC,rfl⟩,?_⟩
  show cb y.cells (a3 l')=_
  rw [eZ,O]
theorem Bm {w:Bool} {σ:bK} {H:aa} {sz:Nat}:∀ {l l':List I},av w σ H l l' -> (∀x∈l,x.cells.length=sz) -> ∀x∈l',x.cells.length=sz
 | [],_,h,_=>by rw [av.nil] at h; subst h; simp
 | x :: l,_,h,k=>by
  obtain ⟨y,r,J,O,rfl⟩:=av.cons.1 h
  intro z ai
  rcases List.mem_cons.1 ai with rfl | ai
  ·
   rw [J.cells.len]; exact k x (by simp)
  ·
   exact Bm O (fun u hu=>k u (by simp [hu])) z ai
section
variable {gt σ:bK} {H H1:aa}
theorem Ho (r:cW false σ H H1) {b c:Nat} (U:σ b=some c) (ao:ip gt H b):ip (gt.comp σ) H1 c:=by
 refine ⟨fun a ae=> ?_,r.lt _ _ U,?_⟩
 ·
  unfold bK.comp at ae
  obtain ⟨d,aw,he⟩:=Option.bind_eq_some_iff.1 ae
  obtain rfl:=r.inj _ _ _ he U
  exact ao.1 a aw
 ·
  obtain ⟨y,aj⟩:=r.ex _ _ U; rw [aj]; rfl
theorem Hp {c:Nat} (ao:ip σ H1 c):ip (gt.comp σ) H1 c:=by
 refine ⟨fun a ae=> ?_,ao.2⟩
 unfold bK.comp at ae
 obtain ⟨d,_,he⟩:=Option.bind_eq_some_iff.1 ae
 exact ao.1 d he
mutual
theorem al.comp (r:cW false σ H H1):∀(v u a:I),al true gt H v u -> al false σ H1 u a -> al false (gt.comp σ) H1 v a
 | .bool _,_,_,h,k=>by simp only [al] at h; subst h; simpa only [al] using k
 | .int _ _,_,_,h,k=>by simp only [al] at h; subst h; simpa only [al] using k
 | .str _,_,_,h,k=>by simp only [al] at h; subst h; simpa only [al] using k
 | .cA,_,_,h,k=>by simp only [al] at h; subst h; simpa only [al] using k
 | .aE,_,_,h,k=>by simp only [al] at h; subst h; simpa only [al] using k
 | .dY _,_,_,h,k=>by simp only [al] at h; subst h; simpa only [al] using k
 | .dj,_,_,h,k=>by simp only [al] at h; subst h; simpa only [al] using k
 | .dK,_,_,h,k=>by simp only [al] at h; subst h; simpa only [al] using k
 | .ptr _ _,_,_,h,k=>by
  obtain ⟨d,aw,rfl⟩:=h.ptr
  obtain ⟨c,V,rfl⟩:=k.ptr
  exact al.uA (by unfold bK.comp; rw [aw]; exact V)
 | .slice _ _ _ _,_,_,h,k=>by
  obtain ⟨d,aw,rfl⟩:=h.slice
  obtain ⟨c,V,rfl⟩:=k.slice
  exact al.kR (by unfold bK.comp; rw [aw]; exact V)
 | .yield _,_,_,h,k=>by
  obtain ⟨d,aw,rfl⟩:=h.yield
  obtain ⟨c,V,rfl⟩:=k.yield
  simp only [al]
  exact ⟨c,by unfold bK.comp; rw [aw]; exact V,rfl⟩
 | .func _ x y,_,_,h,k=>by
  obtain ⟨x',ch,J,O,rfl⟩:=h.func
  obtain ⟨dL,A0,bc,a9,rfl⟩:=k.func
  simp only [al]
  exact ⟨dL,A0,av.comp r x x' dL J bc,av.comp r y ch A0 O a9,rfl⟩
 | .iface _ v,_,_,h,k=>by
  simp only [al] at h
  obtain ⟨cc,J,rfl⟩:=h
  simp only [al] at k
  obtain ⟨v2,bc,rfl⟩:=k
  simp only [al]
  exact ⟨v2,al.comp r v cc v2 J bc,rfl⟩
 | .agg l,_,_,h,k=>by
  obtain ⟨l',J,rfl⟩:=h.agg
  obtain ⟨hV,bc,rfl⟩:=k.agg
  exact al.mf (av.comp r l l' hV J bc)
 | .tuple l,_,_,h,k=>by
  obtain ⟨l',J,rfl⟩:=h.tuple
  obtain ⟨hV,bc,rfl⟩:=k.tuple
  exact al.wm (av.comp r l l' hV J bc)
 | .aJ sz l,_,_,h,k=>by
  simp only [al] at h
  rcases h with ⟨_,l',rfl,J⟩ | ⟨rfl,J⟩ | ⟨ah,ai,b,o,nt,l',rfl,ao,aG,hle,J,O,ag⟩
  ·
   by_cases ah:l'= []
   ·
    subst ah
    have:l= []:=List.eq_nil_of_length_eq_zero (by rw [<- J.len]; rfl)
    subst this
    rcases k.nQ with ⟨hw,_⟩ | k
    ·
     cases hw
    ·
     exact al.fP k
   ·
    have hR:l≠ []:=by rintro rfl; rw [av.nil] at J; exact ah J
    rcases k.mB ah with ⟨hw,_⟩ | ⟨c,o,nt,hV,rfl,ai,ao,aG,hle,bc,a9,bt⟩
    ·
     cases hw
    ·
     rw [J.len] at hle bt ⊢
     exact al.nD hR ai (Hp ao) aG hle (av.comp r l l' hV J bc) a9 bt
  ·
   rcases J with rfl | ⟨b,o,nt,rfl,O,ag⟩ | ⟨cm,rfl⟩
   rotate_right
   ·
    simp only [al] at k; subst k
    exact al.fP (.inr (.inr ⟨cm,rfl⟩))
   ·
    simp only [al] at k; subst k
    exact al.fP (.inl rfl)
   ·
    obtain ⟨c,V,rfl⟩:=k.slice
    exact al.fP (.inr (.inl ⟨c,o,nt,rfl,O,ag⟩))
  ·
   obtain ⟨c,V,rfl⟩:=k.slice
   obtain ⟨cs,cB,af⟩:=r.cells V ag
   obtain ⟨hV,bc,rfl⟩:=CM af
   exact al.nD ah ai (Ho r V ao) aG hle (av.comp r l l' hV J bc) (Bm bc O) cB
 | .c9 cs off,_,_,h,k=>by
  simp only [al] at h
  rcases h with ⟨_,l',rfl,J⟩ | ⟨b,o,cs',rfl,ao,J,O⟩
  ·
   rcases k.c9 with ⟨hw,_⟩ | ⟨c,o,hV,rfl,ao,bc,a9⟩
   ·
    cases hw
   ·
    rw [J.len] at a9
    exact al.C8 (Hp ao) (av.comp r cs l' hV J bc) a9
  ·
   obtain ⟨c,V,rfl⟩:=k.ptr
   obtain ⟨Lb,cB,af⟩:=r.cells V O
   exact al.C8 (Ho r V ao) (av.comp r cs cs' Lb J af) cB
theorem av.comp (r:cW false σ H H1):∀(l m n:List I),av true gt H l m -> av false σ H1 m n -> av false (gt.comp σ) H1 l n
 | [],_,_,h,k=>by rw [av.nil] at h; subst h; rw [av.nil] at k; subst k; exact av.nil.2 rfl
 | x :: l,_,_,h,k=>by
  obtain ⟨y,bi,J,O,rfl⟩:=av.cons.1 h
  obtain ⟨z,ck,bc,a9,rfl⟩:=av.cons.1 k
  exact av.cons.2 ⟨z,ck,al.comp r x y z J bc,av.comp r l bi ck O a9,rfl⟩
end
theorem cW.comp {H0:aa} (h:cW true gt H0 H) (r:cW false σ H H1):cW false (gt.comp σ) H0 H1:=by
 have a_:∀ {M:Nat} {T T' fK:a'},g3 true gt H M T T' -> g3 false σ H1 M T' fK -> g3 false (gt.comp σ) H1 M T fK:=by
  intro M T T' fK J bc i v ak
  obtain ⟨u,hu,O⟩:=J i v ak
  obtain ⟨a,ae,ag⟩:=bc i u hu
  exact ⟨a,ae,al.comp r v u a O ag⟩
 have un:∀ {b c},(gt.comp σ) b=some c -> ∃d,gt b=some d /\ σ d=some c:=fun U=>Option.bind_eq_some_iff.1 U
 refine ⟨fun b x R=> ?_,fun b cv c U dx=> ?_,fun b c U=> ?_,fun b c U=> ?_,h.lh,r.ob,fun b c U=> ?_,fun b c U=> ?_⟩
 ·
  obtain ⟨d,y,aw,aj,af⟩:=h.dr b x R
  obtain ⟨c,z,V,ai,eJ⟩:=r.dr d y aj
  refine ⟨c,z,by unfold bK.comp; rw [aw]; exact V,ai,?_⟩
  cases x with
  | cells l e ex wr=>
   obtain ⟨l',rfl,J⟩:=af
   obtain ⟨hV,rfl,O⟩:=eJ
   exact ⟨hV,rfl,av.comp r l l' hV J O⟩
  | loop f T n m ps a b st p=>
   obtain ⟨T',rfl,J⟩:=af
   obtain ⟨fK,rfl,O⟩:=eJ
   exact ⟨fK,rfl,a_ J O⟩
  | dead=>trivial
 ·
  obtain ⟨d,J,O⟩:=un U
  obtain ⟨hI,ag,aP⟩:=un dx
  obtain rfl:=r.inj _ _ _ O aP
  exact h.inj _ _ _ J ag
 ·
  obtain ⟨d,J,O⟩:=un U; exact r.lt _ _ O
 ·
  obtain ⟨d,J,O⟩:=un U; exact h.qq _ _ J
 ·
  obtain ⟨d,J,O⟩:=un U; exact r.ex _ _ O
 ·
  obtain ⟨d,J,O⟩:=un U; exact h.qr _ _ J
end
structure L' (H0:aa) (gt:bK) (H' H:aa):Prop where
 af:cW true gt H' H
 id:∀b x,H0.m.get b=some x -> gt b=some b
 je:∃l,H'.log=l ++ H0.log /\ ∀l',H.log=l' ++ H0.log -> ∀b x,H0.m.get b=some x -> b∈l' -> b∈l
theorem dh.out {σ bn gt:bK} {H0 H1 H H1' H':aa} (fF:cW false σ H0 H1) (h:dh H1.next σ H0 H1 bn H H1') (x:L' H0 gt H' H):dh H1.next σ H0 H1 (gt.comp bn) H' H1':=by
 obtain ⟨l,J,O⟩:=h.je
 obtain ⟨l',ag,aP⟩:=x.je
 refine ⟨⟨fun b c U=> ?_,h.c7.next,fun c V=>⟨fun b U=> ?_,(h.c7.fz c V).2⟩⟩,⟨l',ag,fun b c U ar=> ?_⟩,h.hole⟩
 ·
  obtain ⟨y,aj⟩:=fF.qr b c U
  unfold bK.comp
  rw [x.id b y aj]; exact h.c7.le b c U
 ·
  unfold bK.comp at U
  obtain ⟨d,_,aw⟩:=Option.bind_eq_some_iff.1 U
  exact (h.c7.fz c V).1 d aw
 ·
  obtain ⟨y,aj⟩:=fF.qr b c U
  exact O b c U fun hm=>ar (aP l J b y aj hm)
end
end Go.az
namespace Go.az
noncomputable section
section
variable {E:Env} {fid:FuncId} {N M:Nat}
theorem jL.Ko {σ:bK} {s2 s1:an} (r:jL M σ s2 s1):jL M σ ⟨⟨.nil,s2.T.G⟩,s2.H⟩ ⟨⟨.nil,s1.T.G⟩,s1.H⟩:=by
 refine ⟨fun i v ak=> ?_,r.h⟩
 unfold a'.get at ak
 cases U:Nat.testBit M i with
 | false=>rw [U] at ak; cases ak
 | true=>
  rw [U] at ak
  obtain ⟨a,ae,h⟩:=r.t i v (by unfold a'.get; rw [U]; exact ak)
  refine ⟨a,?_,h⟩
  unfold a'.get at ae ⊢
  rw [U] at ae ⊢; exact ae
theorem jM.out {n:Nat} {σ:bK} {ay H1:aa} {K:an -> Prop} {s1:an} {bn:bK} {s2:an} (ah:dh n σ ay H1 bn s2.H s1.H) (ar:n≤s1.H.next) {t:an} (h:jM s1.H.next M bn s2.H s1.H K t):jM n M σ ay H1 K t:=by
 obtain ⟨jb,s,J,O,ag⟩:=h
 exact ⟨jb,s,ah.trans (J.mono ar),O,ag⟩
theorem Dw (c4:E.kO=none) (eW:ly E) (c:Code):∀ {σ:bK} {s2 s1:an} {K:bu -> an -> Prop},jL M σ s2 s1 -> ds (b0 E) fid N M c s2 K -> ds E fid N M c s1 fun e=>jM s1.H.next M σ s2.H s1.H (K e):=by
 have bo:m6 E:=kh c4
 induction c with
 | skip=>intro σ s2 s1 K r h; exact ⟨σ,s2,dh.refl _ _ _ _,r,h⟩
 | region id ops draw=>
  intro σ s2 s1 K r h
  cases draw with
  | false=>exact IV c4 eW (K:=i5 K) (s2:=⟨⟨.nil,s2.T.G⟩,s2.H⟩) (s1:=⟨⟨.nil,s1.T.G⟩,s1.H⟩) r.Ko h
  | true=>
   show kr E N M ops.toList ⟨⟨.nil,s1.T.G⟩,s1.H⟩ _
   unfold kr
   rw [c4]
   exact Wu c4 eW (K:=i5 K) (s2:=⟨⟨.nil,s2.T.G⟩,s2.H⟩) (s1:=⟨⟨.nil,s1.T.G⟩,s1.H⟩) r.Ko h
 | seq a b gr cH=>
  intro σ s2 s1 K r h
  refine kQ bo a (gr (K:=rI (ds (b0 E) fid N M b) K) r h) ?_
  rintro e t ⟨bn,s,J,O,ag⟩
  cases e with
  | normal=>exact kQ bo b (cH O ag) fun e u hu=>jM.out J J.c7.next hu
  | exit i=>exact ⟨bn,s,J,O,ag⟩
  | ret=>exact ⟨bn,s,J,O,ag⟩
 | cond c a b gr cH=>
  intro σ s2 s1 K r h
  obtain ⟨v,ak,t,bh,h⟩:=h
  obtain ⟨cc,xV,af⟩:=eI r.t ak
  refine ⟨cc,xV,t,by rw [af.asBool]; exact bh,?_⟩
  cases t with
  | true=>exact gr r h
  | false=>exact cH r h
 | block id b cH=>
  intro σ s2 s1 K r h
  refine kQ bo b (cH (K:=nP id K) r h) ?_
  rintro e t ⟨bn,s,J,O,ag⟩
  show jM s1.H.next M σ s2.H s1.H (K (l9 id e t).1) (l9 id e t).2
  cases e with
  | normal=>exact ⟨bn,s,J,O,ag⟩
  | ret=>exact ⟨bn,s,J,O,ag⟩
  | exit i=>
   have a8:∀s:an,l9 id (.exit i) s=ap (Nat.beq i id) (.normal,s) (.exit i,s):=fun _=>rfl
   have ag:=show K (l9 id (.exit i) s).1 (l9 id (.exit i) s).2 from ag
   rw [a8] at ag ⊢
   cases U:Nat.beq i id with
   | true=>rw [U] at ag; exact ⟨bn,s,J,O,ag⟩
   | false=>rw [U] at ag; exact ⟨bn,s,J,O,ag⟩
 | loop b cH=>
  intro σ s2 s1 K r h
  obtain ⟨cX,m,aD,c'⟩:=h
  refine ⟨fun n t=>∃bn s,dh s1.H.next σ s2.H s1.H bn s.H t.H /\ jL M bn s t /\ cX n s,m,⟨σ,s2,dh.refl _ _ _ _,r,aD⟩,?_⟩
  rintro n t ⟨bn,s,J,O,ag⟩
  refine kQ bo b (cH O (c' n s ag)) ?_
  rintro e u ⟨jb,s',bc,a9,bt⟩
  have ah:=J.trans (bc.mono J.c7.next)
  cases e with
  | normal=>
   obtain ⟨bY,hm,bt⟩:=bt
   exact ⟨bY,hm,jb,s',ah,a9,bt⟩
  | exit i=>exact ⟨jb,s',ah,a9,bt⟩
  | ret=>exact ⟨jb,s',ah,a9,bt⟩
 | rangeFunc f ps a b gr cH=>
  intro σ s2 s1 K r h
  obtain ⟨gq,ao,h⟩:=h
  obtain ⟨E1,tg,af⟩:=eI r.t ao
  have h:=show fi E gq [.yield s2.H.next] (aS s2.H (.loop fid s2.T N M ps.toList a b .ready none)).2 (z2 s2.T s2.H.next K) from h
  obtain ⟨bi,k'⟩:=r.h.new (x:= .loop fid s2.T N M ps.toList a b .ready none) (y:= .loop fid s1.T N M ps.toList a b .ready none) ⟨s1.T,rfl,r.t⟩
  have xn:(σ.add s2.H.next s1.H.next) s2.H.next=some s1.H.next:=by simp [bK.add]
  refine ⟨E1,tg,?_⟩
  show mo E E1 [.yield s1.H.next] (aS s1.H (.loop fid s1.T N M ps.toList a b .ready none)).2 _
  rw [wx c4]
  refine (h _ E1 [.yield s1.H.next] _ bi (al.mono k'.c7 _ _ af) (av.one (by simp only [al]; exact ⟨_,xn,rfl⟩))).mono ?_
  rintro v H1' ⟨bn,u,H',J,O,_,q,aB,ab⟩
  obtain ⟨x,R,aB⟩:=aO aB
  obtain ⟨c,y,V,aj,U⟩:=O.dr _ x R
  have:=J.c7.le _ _ xn
  rw [V] at this; cases this
  cases x with
  | cells=>cases aB
  | dead=>cases aB
  | loop gE T n m pk cF cv st jy=>
   obtain ⟨T',rfl,_⟩:=U
   obtain ⟨ck,a9⟩:=O.set (n:=s1.H.next) (x:= .dead) (y:= .dead) R V trivial
   have ah:dh s1.H.next σ s2.H s1.H bn (aN H' s2.H.next .dead) (aN H1' s1.H.next .dead):=(k'.todh.trans (J.mono (Nat.le_succ _))).trans a9.todh
   have c7:=ah.c7
   have fin:∀e,K e ⟨s2.T,aN H' s2.H.next .dead⟩ -> jM s1.H.next M σ s2.H s1.H (K e) ⟨s1.T,aN H1' s1.H.next .dead⟩:=fun e ab=>⟨bn,⟨s2.T,aN H' s2.H.next .dead⟩,ah,⟨r.t.mono c7,ck⟩,ab⟩
   show bl (pL s1.T H1' s1.H.next) _
   unfold pL
   rw [aj]
   cases st with
   | busy=>cases aB
   | exhausted=>
    cases jy with
    | none=>cases aB; exact ⟨_,rfl,fin _ ab⟩
    | some c=>
     obtain ⟨e,he,rfl⟩:=bB (show (o0 c).omap (fun e=>(e,(⟨s2.T,aN H' s2.H.next .dead⟩:an)))=some q from aB)
     exact ⟨(e,⟨s1.T,aN H1' s1.H.next .dead⟩),by show (o0 c).omap _=_; rw [he]; rfl,fin _ ab⟩
   | ready=>
    cases jy with
    | none=>cases aB; exact ⟨_,rfl,fin _ ab⟩
    | some c=>
     obtain ⟨e,he,rfl⟩:=bB (show (o0 c).omap (fun e=>(e,(⟨s2.T,aN H' s2.H.next .dead⟩:an)))=some q from aB)
     exact ⟨(e,⟨s1.T,aN H1' s1.H.next .dead⟩),by show (o0 c).omap _=_; rw [he]; rfl,fin _ ab⟩
   | done=>
    cases jy with
    | none=>cases aB; exact ⟨_,rfl,fin _ ab⟩
    | some c=>
     obtain ⟨e,he,rfl⟩:=bB (show (o0 c).omap (fun e=>(e,(⟨s2.T,aN H' s2.H.next .dead⟩:an)))=some q from aB)
     exact ⟨(e,⟨s1.T,aN H1' s1.H.next .dead⟩),by show (o0 c).omap _=_; rw [he]; rfl,fin _ ab⟩
 | exit i=>intro σ s2 s1 K r h; exact ⟨σ,s2,dh.refl _ _ _ _,r,h⟩
 | scope b cH=>intro σ s2 s1 K r h; exact cH r h
 | label l=>intro σ s2 s1 K r h; exact ⟨σ,s2,dh.refl _ _ _ _,r,h⟩
 | goto l=>intro σ s2 s1 K r h; exact h.elim
 | ret=>intro σ s2 s1 K r h; exact ⟨σ,s2,dh.refl _ _ _ _,r,h⟩
 | refuse As=>intro σ s2 s1 K r h; exact h.elim
theorem Gu {σ:bK} {H:aa}:∀ {ps:List Tmp} {T T' fK:a'} {as h7:List I},g3 false σ H M T T' -> av false σ H as h7 -> jj N M ps T as=some fK -> ∃lW,jj N M ps T' h7=some lW /\ g3 false σ H M fK lW
 | [],T,T',fK,as,h7,k,ae,h=>by
  cases as with
  | nil=>rw [av.nil] at ae; subst ae; cases h; exact ⟨T',rfl,k⟩
  | cons=>cases h
 | p :: ps,T,T',fK,as,h7,k,ae,h=>by
  cases as with
  | nil=>cases h
  | cons x as=>
   obtain ⟨y,r,J,O,rfl⟩:=av.cons.1 ae
   obtain ⟨aR,h⟩:=cd (show ap (Nat.blt p N) (jj N M ps (a'.put M T x p) as) none=some fK from h)
   have k':g3 false σ H M (T.put M x p) (T'.put M y p):=by
    intro i v ak
    rw [a'.md] at ak ⊢
    split at ak
    ·
     rename_i he; cases ak; exact ⟨y,by rw [if_pos he],J⟩
    ·
     rename_i he
     obtain ⟨a,ae,af⟩:=k i v ak
     exact ⟨a,by rw [if_neg he]; exact ae,af⟩
   obtain ⟨lW,ba,af⟩:=Gu k' O h
   exact ⟨lW,by show ap (Nat.blt p N) (jj N M ps (a'.put M T' y p) r) none=_; rw [aR]; exact ba,af⟩
theorem MW (c4:E.kO=none) (eW:ly E) {l:Nat} {T:a'} {ps:List Tmp} {a b:Code} {st:LoopState} {se:Option Code} {as:List I} {H:aa} {K:I -> aa -> Prop} (ah:H.m.get l=some (.loop fid T N M ps a b st se))
 (h:bl (jj N M ps T as) fun T'=>ds (b0 E) fid N M a ⟨T',H⟩ (z3 (b0 E) fid N M b l K)):fi E (.yield l) as H K:=by
 intro σ f1 fD H1 r ao ae
 obtain ⟨c,V,rfl⟩:=ao.yield
 obtain ⟨b8,y,b7,aj,U⟩:=r.dr l _ ah
 rw [V] at b7; cases b7
 obtain ⟨ff,rfl,th⟩:=U
 obtain ⟨fK,qp,h⟩:=h
 obtain ⟨lW,aa8,ba⟩:=Gu th ae qp
 refine Nj c4 aj ⟨lW,aa8,?_⟩
 refine kQ (kh c4) a (Dw c4 eW a (s2:=⟨fK,H⟩) (s1:=⟨lW,H1⟩) ⟨ba,r⟩ h) ?_
 rintro e t ⟨bn,s,J,O,he,G,aZ,ab⟩
 have he:=show e= .normal from he
 subst he
 refine ⟨rfl,?_⟩
 obtain ⟨x,R,aZ⟩:=aO aZ
 obtain ⟨d,z,aw,ai,E2⟩:=O.h.dr l x R
 cases x with
 | cells=>cases aZ
 | dead=>cases aZ
 | loop gE T' n m pk cF cv adK eV=>
  obtain ⟨vK,rfl,adL⟩:=E2
  cases adK with
  | busy=>cases aZ
  | done=>cases aZ
  | exhausted=>cases aZ
  | ready=>
   cases aZ
   have mH:d=c:=by
    have:=J.c7.le _ _ V
    rw [aw] at this; exact Option.some.inj this
   subst mH
   obtain ⟨ck,a9⟩:=O.h.set (n:=H1.next) (x:= .loop gE T' n m pk cF cv .busy eV) (y:= .loop gE vK n m pk cF cv .busy eV) R aw ⟨vK,rfl,adL⟩
   refine ⟨aN t.H d (.loop gE vK n m pk cF cv .busy eV),by unfold qU; rw [ai]; rfl,?_⟩
   have ab:=show ds (b0 E) fid N M b ⟨s.T,aN s.H l (.loop gE T' n m pk cF cv .busy eV)⟩ (sK l K) from ab
   show ds E fid N M b ⟨t.T,aN t.H d (.loop gE vK n m pk cF cv .busy eV)⟩ (sK d _)
   have j3:dh H1.next σ H H1 bn (aN s.H l (.loop gE T' n m pk cF cv .busy eV)) (aN t.H d (.loop gE vK n m pk cF cv .busy eV)):=J.trans a9.todh
   refine kQ (kh c4) b (Dw c4 eW b (s2:=⟨s.T,aN s.H l (.loop gE T' n m pk cF cv .busy eV)⟩) (s1:=⟨t.T,aN t.H d (.loop gE vK n m pk cF cv .busy eV)⟩) ⟨O.t.mono a9.c7,ck⟩ ab) ?_
   rintro e u ⟨Ls,v,cg,cn,bW⟩
   have AT:dh H1.next σ H H1 Ls v.H u.H:=j3.trans (cg.mono j3.c7.next)
   have iz:∀j io,bl (hx v.H l j) (K (.bool io)) -> bl (hx u.H d j) fun H1'=>∃bn v H',dh H1.next σ H H1 bn H' H1' /\ cW false bn H' H1' /\ al false bn H1' v (.bool io) /\ K v H':=by
    rintro j io ⟨G,aZ,ab⟩
    obtain ⟨x,R,aZ⟩:=aO aZ
    obtain ⟨hI,z,fB,ai,E2⟩:=cn.h.dr l x R
    have mH:hI=d:=by
     have:=AT.c7.le _ _ V
     rw [fB] at this; exact Option.some.inj this
    subst mH
    cases x with
    | cells=>cases aZ
    | dead=>cases aZ
    | loop E3 adM n m D3 E4 E5 afp afW=>
     obtain ⟨FG,rfl,adN⟩:=E2
     cases aZ
     obtain ⟨kH,bt⟩:=cn.h.set (n:=H1.next) (x:= .loop E3 adM n m D3 E4 E5 (lG j) j) (y:= .loop E3 FG n m D3 E4 E5 (lG j) j) R fB ⟨FG,rfl,adN⟩
     exact ⟨aN u.H hI (.loop E3 FG n m D3 E4 E5 (lG j) j),by unfold hx; rw [ai]; rfl,Ls,.bool io,_,AT.trans bt.todh,kH,al.bool,ab⟩
   cases e with
   | normal=>exact iz none true bW
   | exit i=>exact iz _ false bW
   | ret=>exact iz _ false bW
end
theorem Jt {w:Bool} {σ:bK} {H:aa}:∀ {l r:List I} {k:Nat} {G gg:ca},av w σ H l r -> (∀i v,G.get i=some v -> ∃a,gg.get i=some a /\ al w σ H v a) -> ∀i v,(mA l k G).get i=some v -> ∃a,(mA r k gg).get i=some a /\ al w σ H v a
 | [],_,_,_,_,h,k=>by rw [av.nil] at h; subst h; exact k
 | x :: l,_,n,G,gg,h,k=>by
  obtain ⟨y,bi,J,O,rfl⟩:=av.cons.1 h
  refine Jt (k:=n + 1) O fun i v ak=> ?_
  rw [ca.md] at ak ⊢
  split at ak
  ·
   rename_i he; cases ak; exact ⟨y,by rw [if_pos he],J⟩
  ·
   rename_i he
   obtain ⟨a,ae,af⟩:=k i v ak
   exact ⟨a,by rw [if_neg he]; exact ae,af⟩
theorem Da {E:Env} {M:Nat} {σ:bK} {T T':a'} {ay H1:aa} (k:g3 false σ H1 M T T') (r:cW false σ ay H1):∀ {l:List ResultVar} {vs:List I},h0 E M T ay l=some vs -> ∃us,h0 E M T' H1 l=some us /\ av false σ H1 vs us
 | [],vs,h=>by cases h; exact ⟨[],rfl,av.nil.2 rfl⟩
 | .tmp t :: l,vs,h=>by
  obtain ⟨v,ak,h⟩:=aO (show ((a'.get M T t).ac fun v=>(h0 E M T ay l).omap (v :: ·))=some vs from h)
  obtain ⟨vs,lV,rfl⟩:=bB h
  obtain ⟨a,ae,af⟩:=k t v ak
  obtain ⟨us,ng,eJ⟩:=Da k r lV
  exact ⟨a :: us,by show ((a'.get M T' t).ac fun v=>(h0 E M T' H1 l).omap (v :: ·))=_; rw [ae]; show (h0 E M T' H1 l).omap _=_; rw [ng]; rfl,av.cons.2 ⟨a,us,af,eJ,rfl⟩⟩
 | .cell t ty :: l,vs,h=>by
  obtain ⟨p,aR,h⟩:=aO (show ((a'.get M T t).ac fun p=>(ec p).ac fun q=>(dw E ay ty q.1 q.2).ac fun v=>(h0 E M T ay l).omap (v :: ·))=some vs from h)
  obtain ⟨q,aB,h⟩:=aO h
  obtain ⟨v,ak,h⟩:=aO h
  obtain ⟨vs,lV,rfl⟩:=bB h
  obtain rfl:=l6 aB
  obtain ⟨a,ae,af⟩:=k t _ aR
  obtain ⟨c,V,rfl⟩:=af.ptr
  obtain ⟨u,hu,j4⟩:=r.load V ak
  obtain ⟨us,ng,eJ⟩:=Da k r lV
  refine ⟨u :: us,?_,av.cons.2 ⟨u,us,j4,eJ,rfl⟩⟩
  show ((a'.get M T' t).ac fun p=>(ec p).ac fun q=>(dw E H1 ty q.1 q.2).ac fun v=>(h0 E M T' H1 l).omap (v :: ·))=_
  rw [ae]
  show ((dw E H1 ty c q.2).ac fun v=>(h0 E M T' H1 l).omap (v :: ·))=_
  rw [hu]; show (h0 E M T' H1 l).omap _=_
  rw [ng]; rfl
end
end Go.az
namespace Go.az
noncomputable section
def od (H0:aa):bK:=fun b=>if (H0.m.get b).isSome then some b else none
theorem ug {H0:aa} {b:Nat} {x:bf} (h:H0.m.get b=some x):od H0 b=some b:=by unfold od; rw [h]; rfl
theorem sM {H0:aa} {b c:Nat} (h:od H0 b=some c):c=b /\ ∃x,H0.m.get b=some x:=by
 unfold od at h
 split at h
 ·
  rename_i aG; cases h; exact ⟨rfl,Option.isSome_iff_exists.1 aG⟩
 ·
  cases h
mutual
theorem al.lu {σ gt:bK} {H H1:aa} (h:∀b c,σ b=some c -> gt b=some b):∀(v a:I),al false σ H1 v a -> al true gt H v v
 | .bool _,_,_=>al.bool
 | .int _ _,_,_=>al.int
 | .str _,_,_=>al.str
 | .cA,_,_=>by simp only [al]
 | .aE,_,_=>by simp only [al]
 | .dY _,_,_=>by simp only [al]
 | .dj,_,_=>by simp only [al]
 | .dK,_,_=>by simp only [al]
 | .ptr _ _,_,k=>by obtain ⟨c,V,_⟩:=k.ptr; exact al.uA (h _ _ V)
 | .slice _ _ _ _,_,k=>by obtain ⟨c,V,_⟩:=k.slice; exact al.kR (h _ _ V)
 | .yield _,_,k=>by obtain ⟨c,V,_⟩:=k.yield; simp only [al]; exact ⟨_,h _ _ V,rfl⟩
 | .func _ x y,_,k=>by
  obtain ⟨x',ch,J,O,_⟩:=k.func
  simp only [al]; exact ⟨x,y,av.lu h x x' J,av.lu h y ch O,rfl⟩
 | .iface _ v,_,k=>by
  simp only [al] at k ⊢
  obtain ⟨cc,J,_⟩:=k
  exact ⟨v,al.lu h v cc J,rfl⟩
 | .agg l,_,k=>by obtain ⟨l',J,_⟩:=k.agg; exact al.mf (av.lu h l l' J)
 | .tuple l,_,k=>by obtain ⟨l',J,_⟩:=k.tuple; exact al.wm (av.lu h l l' J)
 | .aJ sz l,_,k=>by
  simp only [al] at k
  rcases k with ⟨hw,_⟩ | ⟨rfl,_⟩ | ⟨_,_,_,_,_,l',_,_,_,_,J,_⟩
  ·
   cases hw
  ·
   exact al.oJ rfl (av.nil.2 rfl)
  ·
   exact al.oJ rfl (av.lu h l l' J)
 | .c9 l off,_,k=>by
  simp only [al] at k
  rcases k with ⟨hw,_⟩ | ⟨_,_,l',_,_,J,_⟩
  ·
   cases hw
  ·
   exact al.CH rfl (av.lu h l l' J)
theorem av.lu {σ gt:bK} {H H1:aa} (h:∀b c,σ b=some c -> gt b=some b):∀(l r:List I),av false σ H1 l r -> av true gt H l l
 | [],_,_=>av.nil.2 rfl
 | x :: l,_,k=>by
  obtain ⟨y,bi,J,O,_⟩:=av.cons.1 k
  exact av.cons.2 ⟨x,l,al.lu h x y J,av.lu h l bi O,rfl⟩
end
theorem ns.lu {σ gt:bK} {H H1:aa} (h:∀b c,σ b=some c -> gt b=some b) {x y:bf} (k:ns false σ H1 x y):ns true gt H x x:=by
 cases x with
 | cells l e ex wr=>obtain ⟨l',_,J⟩:=k; exact ⟨l,rfl,av.lu h l l' J⟩
 | loop f T n m ps a b st p=>
  obtain ⟨T',_,J⟩:=k
  exact ⟨T,rfl,fun i v ak=>by obtain ⟨a,_,O⟩:=J i v ak; exact ⟨v,ak,al.lu h v a O⟩⟩
 | dead=>trivial
structure qN (H0 H' H:aa):Prop where
 nx:H'.next=H0.next
 adO:H0.next≤H.next
 dr:∀b x,H0.m.get b=some x -> (H.m.get b=some x /\ H'.m.get b=some x)∨∃y ch,H.m.get b=some y /\ H'.m.get b=some ch /\ ns true (od H0) H ch y
 Ma:∀b,H0.m.get b=Option.none -> H'.m.get b=Option.none
 je:∃l,H'.log=l ++ H0.log /\ ∀l',H.log=l' ++ H0.log -> ∀b x,H0.m.get b=some x -> b∈l' -> b∈l
theorem qN.sk {σ:bK} {H0 H1 H' H:aa} (r:cW false σ H0 H1) (g2:∀c,H.next≤c -> H.m.get c=none) (h:qN H0 H' H):L' H0 (od H0) H' H:=by
 have ky:∀b c,σ b=some c -> od H0 b=some b:=fun b c U=>by obtain ⟨x,R⟩:=r.qr b c U; exact ug R
 have lt:∀b x,H0.m.get b=some x -> b < H0.next:=fun b x R=>by
  rcases Nat.lt_or_ge b H0.next with h | h
  ·
   exact h
  ·
   rw [r.lh b h] at R; cases R
 refine ⟨⟨fun b x R=> ?_,fun b cv c U dx=> ?_,fun b c U=> ?_,fun b c U=> ?_,fun b U=> ?_,fun c V=>g2 c V,fun b c U=> ?_,fun b c U=> ?_⟩,fun b x R=>ug R,h.je⟩
 ·
  cases aD:H0.m.get b with
  | none=>rw [h.Ma b aD] at R; cases R
  | some z=>
   rcases h.dr b z aD with ⟨J,O⟩ | ⟨y,ch,J,O,ag⟩
   ·
    rw [O] at R
    obtain ⟨c,y,_,_,U⟩:=r.dr b z aD
    have ai:z=x:=Option.some.inj R
    rw [<- ai]
    exact ⟨b,z,ug aD,J,U.lu ky⟩
   ·
    rw [O] at R; cases R
    exact ⟨b,y,ug aD,J,ag⟩
 ·
  rw [<- (sM U).1,<- (sM dx).1]
 ·
  obtain ⟨rfl,x,R⟩:=sM U
  exact Nat.lt_of_lt_of_le (lt _ x R) h.adO
 ·
  obtain ⟨rfl,x,R⟩:=sM U
  rw [h.nx]; exact lt _ x R
 ·
  rw [h.nx] at U; exact h.Ma b (r.lh b U)
 ·
  obtain ⟨rfl,x,R⟩:=sM U
  rcases h.dr _ x R with ⟨J,_⟩ | ⟨y,_,J,_⟩
  ·
   exact ⟨x,J⟩
  ·
   exact ⟨y,J⟩
 ·
  obtain ⟨rfl,x,R⟩:=sM U
  rcases h.dr _ x R with ⟨_,J⟩ | ⟨_,y,_,J,_⟩
  ·
   exact ⟨x,J⟩
  ·
   exact ⟨y,J⟩
theorem qN.same {H0 H:aa} (h:Fr H0 H) (aF:∀b x,H0.m.get b=some x -> b < H0.next):qN H0 H0 H:=by
 refine ⟨rfl,h.1,fun b x R=> .inl ⟨by rw [h.2 b (aF b x R)]; exact R,R⟩,fun b U=>U,[],rfl,fun l' ah b x R U=> ?_⟩
 obtain ⟨l,J,O⟩:=h.je
 have:l'=l:=List.append_cancel_right (ah.symm.trans J)
 subst this
 have:=O b U
 have:=aF b x R
 omega
def b_ (H0 H:aa) (cc v:I):Prop:=al true (od H0) H cc v
def gO (H0 H:aa) (l' l:List I):Prop:=av true (od H0) H l' l
def ji (H0:aa) (K:I -> aa -> Prop) (v:I) (H:aa):Prop:=
 K v H∨(Fr H0 H /\ ∃cc,b_ H0 H cc v /\ K cc H0)∨∃H' cc,qN H0 H' H /\ b_ H0 H cc v /\ K cc H'
def A1 (E:Env) (H0:aa) (l:List ResultVar) (K:I -> aa -> Prop) (e:bu) (s:an):Prop:=pV e=false /\ s.T.L= .nil /\ bl (jz E s.T.G s.H l) fun vs=>ji H0 K (single vs) s.H
def w7 (H0:aa) (K:I -> aa -> Prop) (H:aa) (vs:List I):Prop:=ji H0 K (single vs) H
theorem aa9 {E:Env} {H0:aa} {l:List ResultVar} {K:I -> aa -> Prop} {G:ca} {H:aa}:A1 E H0 l K .ret ⟨⟨.nil,G⟩,H⟩=bl (jz E G H l) (w7 H0 K H):=propext ⟨fun h=>h.2.2,fun h=>⟨rfl,rfl,h⟩⟩
theorem aa_ {E:Env} {H0:aa} {l:List ResultVar} {K:I -> aa -> Prop} {G:ca} {H:aa}:A1 E H0 l K .normal ⟨⟨.nil,G⟩,H⟩=bl (jz E G H l) (w7 H0 K H):=propext ⟨fun h=>h.2.2,fun h=>⟨rfl,rfl,h⟩⟩
theorem Us {H0:aa} {K:I -> aa -> Prop} {H:aa}:w7 H0 K H []=ji H0 K (.tuple []) H:=rfl
theorem Ut {H0:aa} {K:I -> aa -> Prop} {H:aa} {v:I}:w7 H0 K H [v]=ji H0 K v H:=rfl
theorem Uu {H0:aa} {K:I -> aa -> Prop} {H:aa} {v u:I} {l:List I}:w7 H0 K H (v :: u :: l)=ji H0 K (.tuple (v :: u :: l)) H:=rfl
def WF (H:aa):Prop:=∀b,H.next≤b -> H.m.get b=none
theorem Wv {P:Program} {dP:FuncId -> Bool} {f:FuncId} {fn:Func} {c:Code} {bI bN as:List I} {H:aa} {K:I -> aa -> Prop} {N:Nat} {l:List ResultVar} (eW:ly (g_ P dP)) (hw:dP f=false) (ao:(g_ P dP).fn f=some fn) (U:fn.body=some c) (b4:fn.ntmps=N) (af:fn.results=l.toArray)
 (ah:Nat.ble (cb bI (cb as bN)).length N=true) (jd:Du N l=true) (h:WF H -> ds (b0 (g_ P dP)) f N (c8 N) c ⟨⟨.nil,mA (cb bI (cb as bN)) 0 .nil⟩,H⟩ (A1 (b0 (g_ P dP)) H l K)):fi (g_ P dP) (.func f bI bN) as H K:=by
 intro σ f1 fD H1 r xY ae
 have key:ic (g_ P dP) f1 fD H1 fun v1 H1'=>∃bn v H',dh H1.next σ H H1 bn H' H1' /\ cW false bn H' H1' /\ al false bn H1' v v1 /\ ji H K v H':=by
  obtain ⟨x,y,R,aj,rfl⟩:=xY.func
  have hm:(g_ P dP).mask fn=c8 N:=by rw [<- b4]; rfl
  have mm:av false σ H1 (cb bI (cb as bN)) (cb x (cb fD y)):=by
   rw [eZ,eZ,eZ,eZ]; exact av.app R (av.app ae aj)
  refine H5 rfl (by show ap (dP f) _ none=none; rw [hw]; rfl) ao U (by rw [eQ,mm.len,b4]; exact ah) ?_
  rw [hm,b4,Bj (by have:=de.1 ah; rw [mm.len]; omega)]
  have ba:g3 false σ H1 (c8 N) ⟨.nil,mA (cb bI (cb as bN)) 0 .nil⟩ ⟨.nil,mA (cb x (cb fD y)) 0 .nil⟩:=by
   intro i v ak
   unfold a'.get at ak ⊢
   cases U:Nat.testBit (c8 N) i with
   | false=>rw [U] at ak; cases ak
   | true=>
    rw [U] at ak
    exact Jt mm (fun i v h=>by cases h) i v ak
  refine kQ (kh rfl) c (Dw (E:=g_ P dP) rfl eW c (s1:=⟨⟨.nil,mA (cb x (cb fD y)) 0 .nil⟩,H1⟩) ⟨ba,r⟩ (h r.lh)) ?_
  rintro e t ⟨bn,⟨⟨L,G⟩,H'⟩,J,O,he,ht,vs,lV,ab⟩
  obtain rfl:L= .nil:=ht
  refine ⟨he,?_⟩
  have DZ:∀r∈l,match r with | .tmp t=>t < N | .cell a _=>a < N:=by
   intro r af
   have:=List.all_eq_true.1 jd r af
   cases r with
   | tmp t=>exact (cZ _ _).1 this
   | cell a t=>exact (cZ _ _).1 this
  have rF:h0 (g_ P dP) (c8 N) ⟨.nil,G⟩ H' l=some vs:=by
   rw [zr DZ]
   have lV:=show jz (b0 (g_ P dP)) G H' l=some vs from lV
   have:∀l,jz (b0 (g_ P dP)) G H' l=jz (g_ P dP) G H' l:=by
    intro l
    induction l with
    | nil=>rfl
    | cons r l aH=>cases r <;> simp only [jz,aH] <;> rfl
   rw [this] at lV; exact lV
  obtain ⟨us,ng,eJ⟩:=Da O.t O.h rF
  rw [hm,af]
  exact ⟨us,by simpa using ng,bn,single vs,H',J,O.h,St eJ,ab⟩
 refine key.mono ?_
 rintro v1 H1' ⟨bn,v,H',J,O,ag,ab⟩
 have aF:∀b x,H.m.get b=some x -> b < H.next:=fun b x R=>by
  rcases Nat.lt_or_ge b H.next with h | h
  ·
   exact h
  ·
   rw [r.lh b h] at R; cases R
 have fin:∀ {dF cc},qN H dF H' -> b_ H H' cc v -> K cc dF -> ∃bn v H',dh H1.next σ H H1 bn H' H1' /\ cW false bn H' H1' /\ al false bn H1' v v1 /\ K v H':=by
  intro dF cc R ak ab
  have sk:=R.sk r O.lh
  exact ⟨(od H).comp bn,cc,dF,dh.out r J sk,sk.af.comp O,al.comp O _ _ _ ak ag,ab⟩
 rcases ab with ab | ⟨ao,cc,ak,ab⟩ | ⟨dF,cc,R,ak,ab⟩
 ·
  exact ⟨bn,v,H',J,O,ag,ab⟩
 ·
  exact fin (qN.same ao aF) ak ab
 ·
  exact fin R ak ab
section
variable {H0 H:aa}
theorem b_.int {k:IntKind} {n:Int}:b_ H0 H (.int k n) (.int k n):=al.int
theorem b_.bool {b:Bool}:b_ H0 H (.bool b) (.bool b):=al.bool
theorem b_.str {s:List UInt8}:b_ H0 H (.str s) (.str s):=al.str
theorem b_.cA:b_ H0 H .cA .cA:=by unfold b_; simp only [al]
theorem b_.aE:b_ H0 H .aE .aE:=al.CI
theorem b_.aJ {sz:Nat} {l l':List I} (h:gO H0 H l l'):b_ H0 H (.aJ sz l) (.aJ sz l'):=al.oJ rfl h
theorem b_.agg {l l':List I} (h:gO H0 H l l'):b_ H0 H (.agg l) (.agg l'):=al.mf h
theorem b_.tuple {l l':List I} (h:gO H0 H l l'):b_ H0 H (.tuple l) (.tuple l'):=al.wm h
theorem b_.ptr {b o:Nat} {x:bf} (h:H0.m.get b=some x):b_ H0 H (.ptr b o) (.ptr b o):=al.uA (ug h)
theorem b_.slice {b o n:Nat} {k:dm} {x:bf} (h:H0.m.get b=some x):b_ H0 H (.slice b o n k) (.slice b o n k):=al.kR (ug h)
theorem gO.nil:gO H0 H [] []:=av.nil.2 rfl
theorem gO.cons {x y:I} {l r:List I} (h:b_ H0 H x y) (k:gO H0 H l r):gO H0 H (x :: l) (y :: r):=av.cons.2 ⟨y,r,h,k,rfl⟩
theorem b_.zJ {sz:Nat}:b_ H0 H (.aJ sz []) .aE:=al.fP (.inl rfl)
theorem gO.map {α:Type} {f g:α -> I} {l:List α} (h:∀a∈l,b_ H0 H (f a) (g a)):gO H0 H (l.map f) (l.map g):=by
 induction l with
 | nil=>exact gO.nil
 | cons a l aH=>exact gO.cons (h a (by simp)) (aH fun b U=>h b (by simp [U]))
theorem cz.fz {sz e n:Nat} {v:I} {cs:List I} (h:cz H H0.next e sz v n cs) (bU:0 < sz) (aF:∀b,H0.next≤b -> H0.m.get b=none) {l l':List I} (ah:l.length=n) (nR:a3 l=cs) (hlen:∀x∈l,x.cells.length=sz) (e3:gO H0 H l' l):b_ H0 H (.aJ sz l') v:=by
 have cC:l'.length=n:=by rw [<- ah]; exact (av.len e3).symm
 rcases h.2 with ⟨rfl,rfl⟩ | ⟨b,x,J,O,rfl,ag⟩
 ·
  obtain rfl:=List.eq_nil_of_length_eq_zero cC
  exact b_.zJ
 ·
  by_cases aD:n=0
  ·
   subst aD
   obtain rfl:=List.eq_nil_of_length_eq_zero cC
   refine al.fP (.inr (.inl ⟨b,0,_,rfl,?_,fun h=>absurd h (by omega)⟩))
   cases x <;> first | trivial | rfl
  ·
   have ar:l'≠ []:=by rintro rfl; exact aD cC.symm
   rw [<- cC]
   refine al.nD ar bU ⟨fun a ae=> ?_,O,by rw [ag]; rfl⟩ ?_ ?_ e3 hlen ?_
   ·
    obtain ⟨rfl,y,aj⟩:=sM ae
    rw [aF _ J] at aj; cases aj
   ·
    cases x <;> first | trivial | rfl
   ·
    cases x <;> exact Nat.le_refl _
   ·
    have V:cs.length=l'.length * sz:=by rw [h.1,cC]
    rw [nR,l5 (by rw [<- V,h.1]; exact Nat.ne_of_gt (Nat.mul_pos (Nat.pos_of_ne_zero aD) bU))]
    show (H.m.get b).ac (m4 0 _)=_
    rw [ag]
    show m4 0 _ (.cells cs e x true)=_
    rw [sy,CG,Hg V]
end
section
variable {E:Env} {e sz n i:Nat} {l:List I} {v:I} {H:aa}
theorem CN:hh (.slice e) E (.aJ sz l)=some (.int .i64 (l.length:Int)):=by
 show some (I.int .i64 (.ofNat (bJ l)))=_
 rw [eQ]; rfl
theorem Ww (h:l[i]? =some v):e9 (.slice e) E (.aJ sz l) i=ap (Nat.beq sz (au E e)) (some (.c9 v.cells 0)) none:=by
 show ap (Nat.beq sz (au E e)) ((fy l i).omap fun v=>I.c9 v.cells 0) none=_
 rw [ke,h]; rfl
theorem fh {α:Type} {f:α -> I} {xs:List α} (h:i < xs.length):e9 (.slice e) E (.aJ sz (xs.map f)) i=ap (Nat.beq sz (au E e)) (some (.c9 (f xs[i]).cells 0)) none:=by
 rw [Ww (v:=f xs[i])]
 rw [List.getElem?_map,List.getElem?_eq_getElem h]; rfl
theorem IY:fu E H e (.aJ sz l)=ap (Nat.beq sz (au E e)) (some (l.length,a3 l)) none:=by
 show ap (Nat.beq sz (au E e)) (some (bJ l,a3 l)) none=_
 rw [eQ]
theorem Sv {cs:List I} {o:Nat}:nE (.c9 cs o)=some (.c9 cs o):=rfl
theorem Uv:b2 (.aJ sz l)=true:=rfl
theorem Uw {cs:List I} {o:Nat}:b2 (.c9 cs o)=true:=rfl
theorem Qt:(I.aJ sz l).cells= [.aJ sz l]:=rfl
theorem OF {cs:List I} {o:Nat} {r:List I -> Option (List I)}:ix (.aJ sz l) cs r (o,1)=(dC [.aJ sz l] o cs).ac r:=rfl
theorem OG {b o:Nat}:dW H 1 (.ptr b o) (.aJ sz l)=(bT H b o [.aJ sz l]).omap fun H=>(.undef,H):=rfl
theorem Qu:asSlice (.aJ sz l)=none:=rfl
theorem Ux {bS:Option (Bool × Nat)} {op:BinOp} {y:I}:hN (.slice e) bS op (.aJ sz l) y=m8 op (gx (.slice e) bS (.aJ sz l) y):=rfl
theorem Yc {bS:Option (Bool × Nat)} {x:I}:gx (.slice e) bS (.aJ sz (x :: l)) .aE=some false:=rfl
theorem Uy {bS:Option (Bool × Nat)} {op:BinOp} {y:I} {cs:List I} {o:Nat}:hN (.ptr e) bS op (.c9 cs o) y=m8 op (gx (.ptr e) bS (.c9 cs o) y):=rfl
theorem Yd {bS:Option (Bool × Nat)} {cs:List I} {o:Nat}:gx (.ptr e) bS (.c9 cs o) .cA=some false:=rfl
def D1 (sz:Nat) (l:List I) (a b:Nat):Option I:=if a≤b /\ b≤l.length then some (.aJ sz ((l.take b).drop a)) else none
theorem wR (a b:Nat) (ad:b≤l.length) (oe:a≤b) {k k':IntKind} (aG:sz=au E e):dp (.slice e) E (.aJ sz l) (some (.int k (a:Int))) (some (.int k' (b:Int))) none=some (.aJ sz ((l.take b).drop a)):=by
 show ap (Nat.beq sz (au E e)) ((bF (bJ l) (bJ l) (some (.int k (a:Int))) (some (.int k' (b:Int))) none).omap fun r=>I.aJ sz (co r.1 (g8 r.2.1 l))) none=_
 have:bF (bJ l) (bJ l) (some (.int k (a:Int))) (some (.int k' (b:Int))) none=some (a,b,bJ l):=by
  show (ap (Nat.ble b (bJ l)) (some b) none).ac (fun h=>(ap (Nat.ble a h) (some a) none).omap fun l'=>(l',h,bJ l))=_
  rw [eQ,de.2 ad]
  show (ap (Nat.ble a b) (some a) none).omap _=_
  rw [de.2 oe]; rfl
 rw [aG,Nat.beq_refl,this]
 show some (I.aJ _ (co a (g8 b l)))=_
 rw [dz,it]
theorem BG (a:Nat) (oe:a≤l.length) {k:IntKind} (aG:sz=au E e):dp (.slice e) E (.aJ sz l) (some (.int k (a:Int))) none none=some (.aJ sz (l.drop a)):=by
 show ap (Nat.beq sz (au E e)) ((bF (bJ l) (bJ l) (some (.int k (a:Int))) none none).omap fun r=>I.aJ sz (co r.1 (g8 r.2.1 l))) none=_
 have:bF (bJ l) (bJ l) (some (.int k (a:Int))) none none=some (a,bJ l,bJ l):=by
  show (ap (Nat.ble a (bJ l)) (some a) none).omap _=_
  rw [eQ,de.2 oe]; rfl
 rw [aG,Nat.beq_refl,this]
 show some (I.aJ _ (co a (g8 (bJ l) l)))=_
 rw [dz,it,eQ,List.take_length]
theorem Hq (b:Nat) (ad:b≤l.length) {k:IntKind} (aG:sz=au E e):dp (.slice e) E (.aJ sz l) none (some (.int k (b:Int))) none=some (.aJ sz (l.take b)):=by
 show ap (Nat.beq sz (au E e)) ((bF (bJ l) (bJ l) none (some (.int k (b:Int))) none).omap fun r=>I.aJ sz (co r.1 (g8 r.2.1 l))) none=_
 have:bF (bJ l) (bJ l) none (some (.int k (b:Int))) none=some (0,b,bJ l):=by
  show (ap (Nat.ble b (bJ l)) (some b) none).ac (fun h=>(some 0).omap fun l'=>(l',h,bJ l))=_
  rw [eQ,de.2 ad]; rfl
 rw [aG,Nat.beq_refl,this]
 show some (I.aJ _ (co 0 (g8 b l)))=_
 rw [dz,it]; rfl
end
attribute [go_sem] CN IY Sv Uv Uw Qt OF OG Qu Ux Yc Uy Yd aa9 aa_ Us Ut Uu
theorem Wx {E:Env} {fid:FuncId} {N M:Nat} {ps:List Tmp} {a b:Code} {s:an} {K:bu -> an -> Prop} {gq:I}:C5 E fid N M ps a b s K gq=mo E gq [.yield s.H.next] (aS s.H (.loop fid s.T N M ps a b .ready none)).2 (z2 s.T s.H.next K):=rfl
theorem Uz {E:Env} {N M:Nat} {ops:List Oper} {s:an} {K:an -> Prop} (h_:j2 (b0 E) ops=true) (ah:loose (b0 E) ops= []) (h:wpOps (b0 E) N M ops ops s K):kr (b0 E) N M ops s K:=
 ⟨h_,by rw [ah]; exact h⟩
theorem Sw {E:Env} {N M:Nat} {ops:List Oper} {s:an} {K:an -> Prop} {p:Nat × Nat} {l:List (Nat × Nat)} (h_:j2 (b0 E) ops=true) (ah:loose (b0 E) ops=p :: l) (h:gX (b0 E) N M ops ops s [] fun a_=>lq (b0 E) M ops a_ (p :: l) /\ K (g9 a_ s)):kr (b0 E) N M ops s K:=
 ⟨h_,by rw [ah]; exact h⟩
theorem si.refl (b:Nat) (H:aa):si b H H:=⟨rfl,[],rfl,by simp⟩
theorem Gi {P:Program} {dP:FuncId -> Bool} {f:FuncId} (hw:dP f=true) {H:aa} {K:I -> aa -> Prop} (h:K (.bool true) H):fi (g_ P dP) (.func f [] []) [] H K:=by
 intro σ f1 fD H1 r ao ae
 obtain ⟨x,y,R,aj,rfl⟩:=ao.func
 rw [av.nil] at R aj ae
 subst R; subst aj; subst ae
 exact Ol hw ⟨σ,.bool true,H,dh.refl _ _ _ _,r,al.bool,h⟩
theorem Qv (P:Program) (dP:FuncId -> Bool):ly (g_ P dP):=by
 intro w σ H t z ai
 unfold cr at ai
 obtain ⟨i,ad,ai⟩:=aO ai
 obtain ⟨j,ax,qk⟩:=He (P:=P) ad
 unfold xg at qk
 obtain ⟨d,aw,rfl⟩:=Option.map_eq_some_iff.1 qk
 obtain ⟨a,ae,ao⟩:=Option.bind_eq_some_iff.1 (show (j.zero.bind (h2 3)).bind (xf j.size)=some z from ai)
 obtain ⟨v,_,ak⟩:=Option.bind_eq_some_iff.1 ae
 unfold xf at ao
 split at ao
 ·
  cases ao; exact Jp 3 v _ ak
 ·
  cases ao
end
end Go.az
namespace Go.az
noncomputable section
def hP (l:List Oper):List Nat:=List.rec [] (fun o _ aH=>match o.dst with | some d=>d :: aH | none=>aH) l
def k2 (c:Code):List Nat:=
 Code.rec (motive:=fun _=>List Nat) [] (fun _ ops _=>hP ops.toList) (fun _ _ a b=>a ++ b) (fun _ _ _ a b=>a ++ b) (fun _ _ a=>a) (fun _ a=>a)
  (fun _ _ _ _ _ _=> []) (fun _=> []) (fun _ a=>a) (fun _=> []) (fun _=> []) [] (fun _=> []) c
section
variable {E:Env} {fid:FuncId} {N:Nat}
def Kept (D:List Nat) (G gg:ca):Prop:=∀j,gL j D=false -> gg.get j=G.get j
theorem Kept.refl (D:List Nat) (G:ca):Kept D G G:=fun _ _=>rfl
theorem sA {j:Nat}:∀ {l:List Nat},gL j l=true↔j∈l
 | []=>by simp [gL]
 | x :: l=>by
  unfold gL
  cases h:Nat.beq j x with
  | true=>simp [Nat.eq_of_beq_eq_true h]
  | false=>
   have:j≠x:=fun e=>by subst e; rw [Nat.beq_refl] at h; cases h
   simp [this,sA (l:=l)]
theorem uh {j:Nat} {l r:List Nat}:gL j (l ++ r)=(gL j l || gL j r):=by
 rw [Bool.eq_iff_iff]; simp [sA]
theorem Kept.mono {D mQ:List Nat} {G gg:ca} (h:Kept D G gg) (k:∀j,gL j mQ=false -> gL j D=false):Kept mQ G gg:=fun j ax=>h j (k j ax)
theorem Kept.trans {D:List Nat} {G gg Lt:ca} (h:Kept D G gg) (k:Kept D gg Lt):Kept D G Lt:=fun j ax=>(k j ax).trans (h j ax)
theorem Sx {T:a'} {d:Option Tmp} {v:I} {T':a'} (h:ev N (c8 N) T d v=some T'):(∀j,d≠some j -> T'.G.get j=T.G.get j) /\ T'.L=T.L:=by
 cases d with
 | none=>cases h; exact ⟨fun _ _=>rfl,rfl⟩
 | some t=>
  unfold ev sQ at h
  cases U:Nat.blt t N with
  | false=>simp only [U] at h; cases h
  | true=>
   have hm:Nat.testBit (c8 N) t=true:=ue ((cZ _ _).1 U)
   simp only [U,hm] at h
   cases h
   refine ⟨fun j ax=> ?_,rfl⟩
   show (T.G.put v t).get j=_
   rw [ca.md,if_neg (by rintro rfl; exact ax rfl)]
def A2 (D:List Nat) (s0:an) (K:an -> Prop) (s:an):Prop:=K s /\ Kept D s0.T.G s.T.G /\ s.T.L=s0.T.L
theorem t' {T:a'} {H:aa} {d:Option Tmp} {K:an -> Prop} {v:I} (h:dI N (c8 N) T d K v H) {s0:an} (ba:s0.T=T):dI N (c8 N) T d (fun s=>K s /\ (∀j,d≠some j -> s.T.G.get j=s0.T.G.get j) /\ s.T.L=s0.T.L) v H:=by
 obtain ⟨T',J,O⟩:=h
 subst ba
 exact ⟨T',J,O,Sx J⟩
theorem BT (bo:m6 E) {o:Oper} {s:an} {K:an -> Prop} (h:wpOp E N (c8 N) o s K):wpOp E N (c8 N) o s fun s'=>K s' /\ (∀j,o.dst≠some j -> s'.T.G.get j=s.T.G.get j) /\ s'.T.L=s.T.L:=by
 unfold wpOp at h ⊢
 split at h
 ·
  exact fO h fun _ h=>t' h rfl
 ·
  exact fO h fun _ h=>t' h rfl
 ·
  exact fO h fun _ h=>t' h rfl
 ·
  exact yN bo h fun _ _ h=>t' h rfl
theorem Ii {o:Oper} {l:List Oper} {G gg:ca} (h:∀j,o.dst≠some j -> gg.get j=G.get j):Kept (hP (o :: l)) G gg:=by
 intro j ax
 refine h j fun aw=> ?_
 have:hP (o :: l)=j :: hP l:=by show (match o.dst with | some d=>d :: hP l | none=>hP l)=_; rw [aw]
 rw [this] at ax
 have:=(sA (l:=j :: hP l)).2 List.mem_cons_self
 rw [this] at ax; cases ax
theorem Qw {o:Oper} {l:List Oper} {G gg:ca} (h:Kept (hP l) G gg):Kept (hP (o :: l)) G gg:=by
 refine h.mono fun j ax=> ?_
 have:hP (o :: l)=(match o.dst with | some d=>d :: hP l | none=>hP l):=rfl
 rw [this] at ax
 cases aw:o.dst with
 | none=>rw [aw] at ax; exact ax
 | some d=>
  rw [aw] at ax
  rw [Bool.eq_false_iff] at ax ⊢
  exact fun hm=>ax (sA.2 (List.mem_cons_of_mem _ (sA.1 hm)))
theorem GU (bo:m6 E) {all:List Oper} {K:an -> Prop}:∀ {l:List Oper} {s:an},wpOps E N (c8 N) all l s K -> wpOps E N (c8 N) all l s (A2 (hP l) s K):=by
 intro l
 induction l with
 | nil=>intro s h; exact ⟨h,Kept.refl _ _,rfl⟩
 | cons o l aH=>
  intro s h
  have step:∀s':an,(wpOps E N (c8 N) all l s' K /\ (∀j,o.dst≠some j -> s'.T.G.get j=s.T.G.get j) /\ s'.T.L=s.T.L) -> wpOps E N (c8 N) all l s' (A2 (hP (o :: l)) s K):=by
   rintro s' ⟨J,O,ag⟩
   refine pG bo (fun t bh=> ?_) (aH J)
   exact ⟨bh.1,(Ii O).trans (Qw bh.2.1),bh.2.2.trans ag⟩
  unfold wpOps at h ⊢
  split at h
  ·
   exact wpOp_mono bo (BT bo h) step
  ·
   obtain ⟨b,U,h⟩:=h
   refine ⟨b,U,?_⟩
   cases b with
   | true=>exact wpOp_mono bo (BT bo (show wpOp E N (c8 N) o s _ from h)) step
   | false=>exact lp (t' (show dI N (c8 N) s.T o.dst (fun s'=>wpOps E N (c8 N) all l s' K) .undef s.H from h) (s0:=s) rfl) step
theorem OH (l:List an) (x d:an):g9 (l ++ [x]) d=x:=by
 induction l generalizing d with
 | nil=>rfl
 | cons y l aH=>exact aH y
theorem GV {M:Nat} (bo:m6 E) {all:List Oper}:∀ {l:List Oper} {s:an} {acc:List an} {K cI:List an -> Prop},(∀t,K t -> cI t) -> gX E N M all l s acc K -> gX E N M all l s acc cI:=by
 intro l
 induction l with
 | nil=>intro s acc K cI k h; exact k _ h
 | cons o l aH=>
  intro s acc K cI k h
  refine fO h fun b h=> ?_
  cases b with
  | false=>exact lp (show dI N M s.T o.dst (fun s'=>gX E N M all l s' (s :: acc) K) .undef s.H from h) fun s h=>aH k h
  | true=>exact wpOp_mono bo (show wpOp E N M o s (fun s'=>gX E N M all l s' (s :: acc) K) from h) fun s h=>aH k h
theorem Qx {T:a'} {H:aa} {l:Nat} {r:bu × an} (h:pL T H l=some r):r.2.T=T:=by
 obtain ⟨x,R,h⟩:=aO h
 cases x with
 | cells=>cases h
 | dead=>cases h
 | loop f AU n m ps a b st jy=>
  cases st <;> cases jy <;> first
   | (cases h; done)
   | (cases h; rfl)
   | (rename_i c; obtain ⟨e,_,rfl⟩:=bB (show (o0 c).omap (fun e=>(e,(⟨T,aN H l .dead⟩:an)))=some r from h); rfl)
theorem OI (bo:m6 E) {all:List Oper} {K:List an -> Prop} {s0:an}:∀ {l:List Oper} {s:an} {acc:List an} {D:List Nat},Kept D s0.T.G s.T.G -> s.T.L=s0.T.L -> (∀j,gL j (D ++ hP l)=false -> gL j D=false /\ gL j (hP l)=false) -> gX E N (c8 N) all l s acc K ->
 gX E N (c8 N) all l s acc fun a_=>K a_ /\ A2 (D ++ hP l) s0 (fun _=>True) (g9 a_ s0):=by
 intro l
 induction l with
 | nil=>
  intro s acc D ab ht hr h
  refine ⟨h,?_⟩
  rw [OH]
  exact ⟨trivial,ab.mono fun j ax=>(hr j ax).1,ht⟩
 | cons o l aH=>
  intro s acc D ab ht hr h
  obtain ⟨b,U,h⟩:=h
  refine ⟨b,U,?_⟩
  have step:∀s':an,(gX E N (c8 N) all l s' (s :: acc) K /\ (∀j,o.dst≠some j -> s'.T.G.get j=s.T.G.get j) /\ s'.T.L=s.T.L) -> gX E N (c8 N) all l s' (s :: acc) fun a_=>K a_ /\ A2 (D ++ hP (o :: l)) s0 (fun _=>True) (g9 a_ s0):=by
   rintro s' ⟨J,O,ag⟩
   have D4:∀j,gL j (D ++ hP (o :: l))=false -> gL j D=false /\ gL j (hP (o :: l))=false:=by
    intro j ax; rw [uh,Bool.or_eq_false_iff] at ax; exact ax
   refine GV bo (fun t bh=>⟨bh.1,bh.2.1,?_,bh.2.2.2⟩) (aH (D:=D ++ hP (o :: l)) ((ab.mono fun j ax=>(D4 j ax).1).trans ((Ii (l:=l) O).mono fun j ax=>(D4 j ax).2)) (ag.trans ht) (fun j ax=>by rw [uh,Bool.or_eq_false_iff] at ax; exact ax) J)
   intro j ax
   refine bh.2.2.1 j ?_
   rw [uh,Bool.or_eq_false_iff]
   refine ⟨ax,?_⟩
   have:=(D4 j ax).2
   rw [Bool.eq_false_iff] at this ⊢
   intro hm
   refine this (sA.2 ?_)
   have hm:=sA.1 hm
   show j∈(match o.dst with | some d=>d :: hP l | none=>hP l)
   cases o.dst with
   | none=>exact hm
   | some d=>exact List.mem_cons_of_mem _ hm
  cases b with
  | true=>exact wpOp_mono bo (BT bo (show wpOp E N (c8 N) o s _ from h)) step
  | false=>exact lp (t' (show dI N (c8 N) s.T o.dst (fun s'=>gX E N (c8 N) all l s' (s :: acc) K) .undef s.H from h) (s0:=s) rfl) step
end
theorem Sy {bE:Env} {fid:FuncId} {N:Nat} (c:Code):∀ {G:ca} {H:aa} {K:bu -> an -> Prop},ds (b0 bE) fid N (c8 N) c ⟨⟨.nil,G⟩,H⟩ K -> ds (b0 bE) fid N (c8 N) c ⟨⟨.nil,G⟩,H⟩ fun e s=>K e s /\ Kept (k2 c) G s.T.G /\ s.T.L= .nil:=by
 have bo:=zh bE
 induction c with
 | skip=>intro G H K h; exact ⟨h,Kept.refl _ _,rfl⟩
 | region id ops draw=>
  intro G H K h
  cases draw with
  | false=>exact pG bo (fun s k=>⟨k.1,k.2.1,k.2.2⟩) (GU bo (K:=i5 K) h)
  | true=>
   obtain ⟨h_,h⟩:=(show j2 (b0 bE) ops.toList=true /\ zH (b0 bE) N (c8 N) ops.toList ⟨⟨.nil,G⟩,H⟩ (i5 K) (loose (b0 bE) ops.toList) from h)
   refine (show j2 (b0 bE) ops.toList=true /\ zH (b0 bE) N (c8 N) ops.toList ⟨⟨.nil,G⟩,H⟩ (i5 _) (loose (b0 bE) ops.toList) from ⟨h_,?_⟩)
   cases ah:loose (b0 bE) ops.toList with
   | nil=>rw [ah] at h; exact pG bo (fun s k=>⟨k.1,k.2.1,k.2.2⟩) (GU bo (K:=i5 K) h)
   | cons p l=>
    rw [ah] at h
    have:=OI (s0:=⟨⟨.nil,G⟩,H⟩) (D:= []) bo (Kept.refl _ _) rfl (fun j ax=>⟨rfl,ax⟩) (show gX (b0 bE) N (c8 N) ops.toList ops.toList ⟨⟨.nil,G⟩,H⟩ [] (fun a_=>lq (b0 bE) (c8 N) ops.toList a_ (p :: l) /\ i5 K (g9 a_ ⟨⟨.nil,G⟩,H⟩)) from h)
    exact GV bo (fun t bh=>⟨bh.1.1,bh.1.2,bh.2.2.1,bh.2.2.2⟩) this
 | seq a b gr cH=>
  intro G H K h
  refine kQ bo a (gr (K:=rI (ds (b0 bE) fid N (c8 N) b) K) h) ?_
  rintro e ⟨⟨L,gg⟩,H'⟩ ⟨J,O,ag⟩
  obtain rfl:L= .nil:=ag
  have a8:Kept (k2 (.seq a b)) G gg:=O.mono fun j ax=>by
   have:gL j (k2 a ++ k2 b)=false:=ax
   rw [uh,Bool.or_eq_false_iff] at this; exact this.1
  cases e with
  | normal=>
   refine kQ bo b (cH J) fun e s k=>⟨k.1,a8.trans (k.2.1.mono fun j ax=> ?_),k.2.2⟩
   have:gL j (k2 a ++ k2 b)=false:=ax
   rw [uh,Bool.or_eq_false_iff] at this; exact this.2
  | exit i=>exact ⟨J,a8,rfl⟩
  | ret=>exact ⟨J,a8,rfl⟩
 | cond c a b gr cH=>
  intro G H K h
  refine fO h fun v h=>fO h fun t h=> ?_
  have qO:∀j,gL j (k2 (.cond c a b))=false -> gL j (k2 a)=false /\ gL j (k2 b)=false:=by
   intro j ax
   have:gL j (k2 a ++ k2 b)=false:=ax
   rw [uh,Bool.or_eq_false_iff] at this; exact this
  cases t with
  | true=>exact kQ bo a (gr h) fun e s k=>⟨k.1,k.2.1.mono fun j ax=>(qO j ax).1,k.2.2⟩
  | false=>exact kQ bo b (cH h) fun e s k=>⟨k.1,k.2.1.mono fun j ax=>(qO j ax).2,k.2.2⟩
 | block id b cH=>
  intro G H K h
  refine kQ bo b (cH (K:=nP id K) h) fun e s k=> ?_
  have a8:(l9 id e s).2=s:=by
   cases e with
   | normal=>rfl
   | ret=>rfl
   | exit i=>show (ap (Nat.beq i id) (bu.normal,s) (.exit i,s)).2=s; cases Nat.beq i id <;> rfl
  exact ⟨k.1,by rw [a8]; exact k.2.1,by rw [a8]; exact k.2.2⟩
 | loop b cH=>
  intro G H K h
  obtain ⟨cX,m,aD,c'⟩:=h
  refine ⟨fun n s=>cX n s /\ Kept (k2 b) G s.T.G /\ s.T.L= .nil,m,⟨aD,Kept.refl _ _,rfl⟩,?_⟩
  rintro n ⟨⟨L,gg⟩,H'⟩ ⟨J,O,ag⟩
  obtain rfl:L= .nil:=ag
  refine kQ bo b (cH (c' n _ J)) ?_
  rintro e s ⟨bc,a9,bt⟩
  cases e with
  | normal=>obtain ⟨bY,hm,bc⟩:=bc; exact ⟨bY,hm,bc,O.trans a9,bt⟩
  | exit i=>exact ⟨bc,O.trans a9,bt⟩
  | ret=>exact ⟨bc,O.trans a9,bt⟩
 | rangeFunc f ps a b gr cH=>
  intro G H K h
  refine fO h fun gq h=>bo _ _ _ _ _ h fun v H' h=> ?_
  obtain ⟨r,af,ab⟩:=h
  refine ⟨r,af,ab,?_⟩
  have:r.2.T=⟨.nil,G⟩:=Qx af
  rw [this]
  exact ⟨Kept.refl _ _,rfl⟩
 | exit i=>intro G H K h; exact ⟨h,Kept.refl _ _,rfl⟩
 | scope b cH=>intro G H K h; exact cH h
 | label l=>intro G H K h; exact ⟨h,Kept.refl _ _,rfl⟩
 | goto l=>intro G H K h; exact h.elim
 | ret=>intro G H K h; exact ⟨h,Kept.refl _ _,rfl⟩
 | refuse As=>intro G H K h; exact h.elim
def xZ (cX:Nat -> ca -> aa -> Prop) (m:Nat) (K:bu -> an -> Prop) (e:bu) (s:an):Prop:=match e with | .normal=>∃bY,bY < m /\ cX bY s.T.G s.H | e=>K e s
theorem Ye {cX:Nat -> ca -> aa -> Prop} {m:Nat} {K:bu -> an -> Prop} {s:an}:xZ cX m K .normal s=∃bY,bY < m /\ cX bY s.T.G s.H:=rfl
theorem Yf {cX:Nat -> ca -> aa -> Prop} {m i:Nat} {K:bu -> an -> Prop} {s:an}:xZ cX m K (.exit i) s=K (.exit i) s:=rfl
theorem Yg {cX:Nat -> ca -> aa -> Prop} {m:Nat} {K:bu -> an -> Prop} {s:an}:xZ cX m K .ret s=K .ret s:=rfl
def z4 (l:List Nat):Nat:=List.rec 0 (fun d _ n=>Nat.lor (Nat.pow 2 d) n) l
theorem Ij {j:Nat}:∀ {l:List Nat},Nat.testBit (z4 l) j=gL j l
 | []=>by show Nat.testBit 0 j=false; exact Nat.zero_testBit j
 | d :: l=>by
  show Nat.testBit (Nat.pow 2 d ||| z4 l) j=(match Nat.beq j d with | true=>true | false=>gL j l)
  rw [Nat.testBit_or,Ij,show Nat.pow 2 d=2 ^ d from rfl,Nat.testBit_two_pow]
  cases h:Nat.beq j d with
  | true=>have:=Nat.eq_of_beq_eq_true h; subst this; simp
  | false=>
   have:¬d=j:=fun e=>by subst e; rw [Nat.beq_refl] at h; cases h
   simp [this]
theorem Wy {bE:Env} {fid:FuncId} {N:Nat} {c:Code} {K:bu -> an -> Prop} {G:ca} {H:aa} (D:Nat) (hr:z4 (k2 c)=D) (cX:Nat -> ca -> aa -> Prop) (m:Nat) (aD:cX m G H)
 (c':∀m gg H',(∀j,Nat.testBit D j=false -> gg.get j=G.get j) -> cX m gg H' -> ds (b0 bE) fid N (c8 N) c ⟨⟨.nil,gg⟩,H'⟩ (xZ cX m K)):wN (ds (b0 bE) fid N (c8 N) c) ⟨⟨.nil,G⟩,H⟩ K:=by
 subst hr
 refine ⟨fun n s=>s.T.L= .nil /\ Kept (k2 c) G s.T.G /\ cX n s.T.G s.H,m,⟨rfl,Kept.refl _ _,aD⟩,?_⟩
 rintro n ⟨⟨L,gg⟩,H'⟩ ⟨ht,ab,E6⟩
 obtain rfl:L= .nil:=ht
 refine kQ (zh bE) c (Sy c (c' n gg H' (fun j ax=>ab j (by rw [Ij] at ax; exact ax)) E6)) ?_
 rintro e s ⟨J,O,ag⟩
 cases e with
 | normal=>obtain ⟨bY,hm,J⟩:=J; exact ⟨bY,hm,ag,ab.trans O,J⟩
 | exit i=>exact J
 | ret=>exact J
theorem Sz {E:Env} {N M:Nat} {o:Oper} {s:an} {K:an -> Prop} {p:Prop} [Decidable p]:ml E N M o s K (decide p)=((p -> wpOp E N M o s K) /\ (¬p -> dI N M s.T o.dst K .undef s.H)):=by
 by_cases h:p
 ·
  rw [decide_eq_true h]; exact propext ⟨fun k=>⟨fun _=>k,fun n=>absurd h n⟩,fun k=>k.1 h⟩
 ·
  rw [decide_eq_false h]; exact propext ⟨fun k=>⟨fun n=>absurd n h,fun _=>k⟩,fun k=>k.2 h⟩
theorem Yh {l4 fY:mU} {s:an} {K:bu -> an -> Prop} {p:Prop} [Decidable p]:xR l4 fY s K (decide p)=((p -> l4 s K) /\ (¬p -> fY s K)):=by
 by_cases h:p
 ·
  rw [decide_eq_true h]; exact propext ⟨fun k=>⟨fun _=>k,fun n=>absurd h n⟩,fun k=>k.1 h⟩
 ·
  rw [decide_eq_false h]; exact propext ⟨fun k=>⟨fun n=>absurd n h,fun _=>k⟩,fun k=>k.2 h⟩
attribute [go_sem] Ye Yf Yg
end
end Go.az
namespace Go.az
noncomputable section
section
variable {E:Env} {N M:Nat} {d:Option Tmp} {t:TypeId} {p:String} {a:Array Edge} {g:Option (Nat × Bool)} {s:an} {K:an -> Prop}
theorem MX {H:aa} {t t2 e:TypeId} {u x:I} (h:aU E t= .slice e):fQ .copy E H [u,x] [t,t2]=(fu E H e x).ac fun p=>uw E H e u p:=by
 show pK E H t u x=_
 unfold pK
 rw [h]
def ut (E:Env) (H:aa) (e:TypeId) (d:I):Option (I × aa):=(cr E e).ac fun z=>bQ (asSlice d) (ap (du d) (some (.undef,H)) none)
 fun q=>ap (Nat.beq q.2.2.1 0) (some (.undef,H)) ((bT H q.1 q.2.1 (cR q.2.2.1 z.cells)).omap fun H=>(.undef,H))
theorem A_ {H:aa} {t e:TypeId} {u:I} (h:aU E t= .slice e):fQ .clear E H [u] [t]=ut E H e u:=by
 show pH E H t u=_
 unfold pH
 rw [h]; rfl
theorem Qy {gD d_ e:TypeId} {x:Operand} (h:aU E gD= .slice e) (U:hX (aU E e)=true) (aQ:aU E d_= .string):wpOp E N M ⟨d,.convert gD d_ x,t,p,a,g⟩ s K=bl ((aK M x s.T).ac (strOf s.H)) (e1 N M s.T d s.H K):=by
 have V:cls (.convert gD d_ x) E= .read:=by unfold cls; simp only [h]
 unfold wpOp; simp only [V]; unfold eG y'; simp only [h,U,aQ]
theorem OJ {gD e:TypeId} {x:Operand} (h:aU E gD= .slice e) (U:hX (aU E e)=true):wpOp E N M ⟨d,.convert gD gD x,t,p,a,g⟩ s K=bl ((aK M x s.T).ac (jN e s.H)) (e1 N M s.T d s.H K):=by
 have V:cls (.convert gD gD x) E= .read:=by unfold cls; simp only [h]
 unfold wpOp; simp only [V]; unfold eG y'; simp only [h,U,Nat.beq_refl]
def SA (e:TypeId) (v:I):Option (bf × (Nat -> I)):=match v with
 | .str l=>some (.cells (l.map fun c=> .int .u8 (.ofNat c.toNat)) e false true,fun b=> .slice b 0 l.length (.rest 0 1 l.length))
 | _=>none
theorem OK {e:TypeId} {l:List UInt8}:SA e (.str l)=some (.cells (l.map fun c=> .int .u8 (.ofNat c.toNat)) e false true,fun b=> .slice b 0 l.length (.rest 0 1 l.length)):=rfl
variable {H H':aa} {base e sz n m:Nat} {v:I} {cs new:List I}
def iI (E:Env) (H:aa) (e:TypeId) (v:I) (m:Nat) (new:List I):aa:=((cJ E H e v m new).map (·.2)).getD H
theorem cz.app (h:cz H base e sz v n cs) (bm:au E e=sz) (bU:0 < sz) (a4:jw E e=true) (ar:n + m≤1048576) (jS:base≤H.next) (hm:0 < m) (ah:new.length=m * sz) (ao:br new=true):
 cJ E H e v m new=some (.slice H.next 0 (n + m) (.rest 0 sz (n + m)),iI E H e v m new):=by
 obtain ⟨H',J,_⟩:=h.append bm bU hm ah ao (oy a4 ar) jS
 unfold iI
 rw [J]; rfl
theorem cz.IZ (h:cz H base e sz v n cs) (bm:au E e=sz) (bU:0 < sz) (a4:jw E e=true) (ar:n + m≤1048576) (jS:base≤H.next) (hm:0 < m) (ah:new.length=m * sz) (ao:br new=true):
 cz (iI E H e v m new) base e sz (.slice H.next 0 (n + m) (.rest 0 sz (n + m))) (n + m) (cs ++ new) /\ eK base H (iI E H e v m new):=by
 obtain ⟨H',J,O,ag,_⟩:=h.append bm bU hm ah ao (oy a4 ar) jS
 unfold iI
 rw [J]; exact ⟨O,ag⟩
end
attribute [go_sem] OK Yh Sz Nat.add_zero Nat.zero_add
end
end Go.az
namespace Go.az
noncomputable section
structure Acc (E:Env) (H0 H:aa) (e sz:Nat) (v:I) (l:List I):Prop where
 fr:Fr H0 H
 own:cz H H0.next e sz v l.length (a3 l)
 el:∀x∈l,x.cells.length=sz
 bm:au E e=sz
 bU:0 < sz
 a4:jw E e=true
theorem v_ (l r:List I):a3 (l ++ r)=a3 l ++ a3 r:=by rw [hL,hL,hL,List.flatMap_append]
theorem SB (x:I):a3 [x]=x.cells:=by rw [hL]; simp
theorem Cf {sz:Nat}:∀ {l:List I} {i o:Nat} {x y:I},(∀z∈l,z.cells.length=sz) -> (ad:i < l.length) -> o < sz -> y.cells=l[i].cells.set o x -> (a3 l).set (i * sz + o) x=a3 (l.set i y)
 | z :: l,0,o,x,y,h,ad,aC,aj=>by
  have ai:=h z (by simp)
  have aj:y.cells=z.cells.set o x:=aj
  show (cb z.cells (a3 l)).set (0 * sz + o) x=cb y.cells (a3 l)
  rw [eZ,eZ,aj,Nat.zero_mul,Nat.zero_add,List.set_append_left _ _ (by omega)]
 | z :: l,i + 1,o,x,y,h,ad,aC,aj=>by
  have ai:=h z (by simp)
  show (cb z.cells (a3 l)).set ((i + 1) * sz + o) x=cb z.cells (a3 (l.set i y))
  rw [eZ,eZ,List.set_append_right _ _ (by rw [ai,Nat.add_mul]; omega),ai]
  congr 1
  rw [<- Cf (sz:=sz) (fun w hw=>h w (by simp [hw])) (by simpa using ad) aC (by simpa using aj)]
  congr 1
  rw [Nat.add_mul]; omega
def jI (E:Env) (H:aa) (e:TypeId) (v:I) (new:List I):aa:=iI E (aS H (.cells new e true true)).2 e v 1 new
def og (H:aa) (v:I) (i:Nat) (x:I):aa:=(bT H (aY v) (fg v + i) [x]).getD H
section
variable {E:Env} {H0 H:aa} {e sz:Nat} {v:I} {l:List I}
theorem Acc.nil (J:au E e=sz) (O:0 < sz) (ag:jw E e=true):Acc E H0 H0 e sz .aE []:=⟨Fr.refl _,cz.nil,by simp,J,O,ag⟩
theorem Acc.z5 (ao:Fr H0 H) (J:au E e=sz) (O:0 < sz) (ag:jw E e=true):Acc E H0 H e sz .aE []:=⟨ao,cz.nil,by simp,J,O,ag⟩
theorem Acc.b3 (h:Acc E H0 H e sz v l) {H':aa} (ao:Fr H H'):Acc E H0 H' e sz v l:=⟨h.fr.trans ao,h.own.b3 ao,h.el,h.bm,h.bU,h.a4⟩
theorem Acc.push (h:Acc E H0 H e sz v l) (ar:l.length < 1048576):∀new:List I,new.length=sz -> br new=true -> cJ E (aS H (.cells new e true true)).2 e v 1 new=some (.slice (H.next + 1) 0 (l.length + 1) (.rest 0 sz (l.length + 1)),jI E H e v new):=fun new ah ao=>
 (h.own.b3 (Fr.alloc H _)).app h.bm h.bU h.a4 ar (Nat.le_succ_of_le h.fr.nx) (by decide) (by rw [ah,Nat.one_mul]) ao
theorem Acc.wS (h:Acc E H0 H e sz v l) (ar:l.length < 1048576) {new:List I} (x:I) (R:x.cells=new) (ah:new.length=sz) (ao:br new=true):Acc E H0 (jI E H e v new) e sz (.slice (H.next + 1) 0 (l.length + 1) (.rest 0 sz (l.length + 1))) (l ++ [x]):=by
 obtain ⟨J,O⟩:=(h.own.b3 (Fr.alloc H (.cells new e true true))).IZ h.bm h.bU h.a4 ar (Nat.le_succ_of_le h.fr.nx) (m:=1) (by decide) (by rw [ah,Nat.one_mul]) ao
 refine ⟨(h.fr.ce _).AA O,?_,fun y aj=> ?_,h.bm,h.bU,h.a4⟩
 ·
  rw [v_,SB,R,List.length_append]; exact J
 ·
  rcases List.mem_append.1 aj with aj | aj
  ·
   exact h.el y aj
  ·
   rw [List.mem_singleton] at aj; subst aj; rw [R]; exact ah
theorem Acc.many (h:Acc E H0 H e sz v l) {m:Nat} (ar:l.length + m≤1048576) (hm:0 < m):∀new:List I,new.length=m * sz -> br new=true -> cJ E H e v m new=some (.slice H.next 0 (l.length + m) (.rest 0 sz (l.length + m)),iI E H e v m new):=fun _ ah ao=>
 h.own.app h.bm h.bU h.a4 ar h.fr.nx hm ah ao
theorem Acc.Db (h:Acc E H0 H e sz v l) {m:Nat} (ar:l.length + m≤1048576) (hm:0 < m) {new:List I} (r:List I) (af:a3 r=new) (k9:r.length=m) (e':∀x∈r,x.cells.length=sz) (ao:br new=true):Acc E H0 (iI E H e v m new) e sz (.slice H.next 0 (l.length + m) (.rest 0 sz (l.length + m))) (l ++ r):=by
 have ah:new.length=m * sz:=by rw [<- af,(fv e').1,k9]
 obtain ⟨J,O⟩:=h.own.IZ h.bm h.bU h.a4 ar h.fr.nx hm ah ao
 refine ⟨h.fr.AA O,?_,fun y aj=> ?_,h.bm,h.bU,h.a4⟩
 ·
  rw [v_,af,List.length_append,k9]; exact J
 ·
  rcases List.mem_append.1 aj with aj | aj
  ·
   exact h.el y aj
  ·
   exact e' y aj
theorem Acc.zK (h:Acc E H0 H e sz v l) (U:wO E e=true) {m:Nat} (ar:l.length + m≤140737488351232) (hm:0 < m):∀new:List I,new.length=m * sz -> br new=true -> cJ E H e v m new=some (.slice H.next 0 (l.length + m) (.rest 0 sz (l.length + m)),iI E H e v m new):=fun new ah ao=>by
 obtain ⟨H',J,_⟩:=h.own.append h.bm h.bU hm ah ao (H9 U ar) h.fr.nx
 unfold iI
 rw [J]; rfl
theorem Acc.zj (h:Acc E H0 H e sz v l) (U:wO E e=true) {m:Nat} (ar:l.length + m≤140737488351232) (hm:0 < m) {new:List I} (r:List I) (af:a3 r=new) (k9:r.length=m) (e':∀x∈r,x.cells.length=sz) (ao:br new=true):Acc E H0 (iI E H e v m new) e sz (.slice H.next 0 (l.length + m) (.rest 0 sz (l.length + m))) (l ++ r):=by
 have ah:new.length=m * sz:=by rw [<- af,(fv e').1,k9]
 have adP:cz (iI E H e v m new) H0.next e sz (.slice H.next 0 (l.length + m) (.rest 0 sz (l.length + m))) (l.length + m) (a3 l ++ new) /\ eK H0.next H (iI E H e v m new):=by
  obtain ⟨H',J,O,ag,_⟩:=h.own.append h.bm h.bU hm ah ao (H9 U ar) h.fr.nx
  unfold iI
  rw [J]; exact ⟨O,ag⟩
 obtain ⟨J,O⟩:=adP
 refine ⟨h.fr.AA O,?_,fun y aj=> ?_,h.bm,h.bU,h.a4⟩
 ·
  rw [v_,af,List.length_append,k9]; exact J
 ·
  rcases List.mem_append.1 aj with aj | aj
  ·
   exact h.el y aj
  ·
   exact e' y aj
theorem Acc.len (h:Acc E H0 H e sz v l) {ty:TypeId}:hh (.slice ty) E v=some (.int .i64 (l.length:Int)):=h.own.ks.len
theorem Acc.idx (h:Acc E H0 H e sz v l) {ty:TypeId} {i:Nat} (ad:i < l.length):e9 (.slice ty) E v i=some (.ptr (aY v) (fg v + i * au E ty)):=h.own.ks.idx ad
theorem Acc.cells (h:Acc E H0 H e sz v l) {i:Nat} (ad:i < l.length):bA H (aY v) (fg v + i * sz) sz=some l[i].cells:=by
 have J:=h.own.cells (i:=i * sz) (k:=sz) (by rw [<- Nat.succ_mul]; exact Nat.mul_le_mul_right _ ad) (by omega)
 rw [J,((fv h.el).2 i).1,List.drop_eq_getElem_cons ad]
 congr 1
 show (cb l[i].cells _).take sz=_
 rw [eZ,List.take_append_of_le_length (by rw [h.el _ (List.getElem_mem ad)]; exact Nat.le_refl _),List.take_of_length_le (by rw [h.el _ (List.getElem_mem ad)]; exact Nat.le_refl _)]
theorem Acc.cell (h:Acc E H0 H e sz v l) {i o:Nat} (ad:i < l.length) (aC:o < sz):cellAt H (aY v) (fg v + i * sz + o)=l[i].cells[o]? :=ln (h.cells ad) aC
theorem Acc.put (h:Acc E H0 H e sz v l) {i o:Nat} (ad:i < l.length) (aC:o < sz) {x:I} (R:b2 x=true):bT H (aY v) (fg v + i * sz + o) [x]=some (og H v (i * sz + o) x):=by
 have U:i * sz + o < l.length * sz:=Nat.lt_of_lt_of_le (Nat.add_lt_add_left aC _) (by rw [<- Nat.succ_mul]; exact Nat.mul_le_mul_right _ ad)
 obtain ⟨H',J,_⟩:=h.own.put U R
 unfold og
 rw [J,Nat.add_assoc,J]; rfl
theorem Acc.zw (h:Acc E H0 H e sz v l) {i o:Nat} (ad:i < l.length) (aC:o < sz) {x:I} (R:b2 x=true) (y:I) (aj:y.cells=l[i].cells.set o x):Acc E H0 (og H v (i * sz + o) x) e sz v (l.set i y):=by
 have U:i * sz + o < l.length * sz:=Nat.lt_of_lt_of_le (Nat.add_lt_add_left aC _) (by rw [<- Nat.succ_mul]; exact Nat.mul_le_mul_right _ ad)
 obtain ⟨H',J,O,ag,_⟩:=h.own.put U R
 have a8:og H v (i * sz + o) x=H':=by unfold og; rw [J]; rfl
 rw [a8]
 refine ⟨h.fr.AA ag,?_,fun z ai=> ?_,h.bm,h.bU,h.a4⟩
 ·
  rw [List.length_set,<- Cf h.el ad aC aj]; exact O
 ·
  rcases List.mem_or_eq_of_mem_set ai with ai | rfl
  ·
   exact h.el z ai
  ·
   rw [aj,List.length_set]; exact h.el _ (List.getElem_mem ad)
theorem Acc.out {K:I -> aa -> Prop} (h:Acc E H0 H e sz v l) (bC:WF H0) {l':List I} (e3:gO H0 H l' l) (ab:K (.aJ sz l') H0):ji H0 K v H:=
 .inr (.inl ⟨h.fr,_,h.own.fz h.bU bC rfl rfl h.el e3,ab⟩)
end
def nJ (v:I):Bool:=match v with | .bool _ | .int .. | .str _ | .cA | .dj | .dK=>true | _=>false
def iV (v:I):Bool:=match v with | .agg l=>l.all nJ | v=>nJ v
theorem b_.hj {H0 H:aa} {v:I} (h:nJ v=true):b_ H0 H v v:=by
 cases v <;> first | (cases h; done) | (unfold b_; simp only [al]; done)
theorem b_.plain {H0 H:aa} {v:I} (h:iV v=true):b_ H0 H v v:=by
 cases v with
 | agg l=>
  have h:=show l.all nJ=true from h
  have:=gO.map (H0:=H0) (H:=H) (f:=id) (g:=id) (l:=l) fun x R=>b_.hj (List.all_eq_true.1 h x R)
  exact b_.agg (by simpa using this)
 | bool b=>exact b_.hj rfl
 | int k n=>exact b_.hj rfl
 | str s=>exact b_.hj rfl
 | cA=>exact b_.hj rfl
 | dj=>exact b_.hj rfl
 | dK=>exact b_.hj rfl
 | _=>cases h
theorem kb {α:Type} {f:α -> I} {l:List α} (h:∀a,iV (f a)=true):∀x∈l.map f,iV x=true:=by
 intro x R
 obtain ⟨a,_,rfl⟩:=List.mem_map.1 R
 exact h a
theorem gO.plain {H0 H:aa} {l:List I} (h:∀x∈l,iV x=true):gO H0 H l l:=by
 have:=gO.map (H0:=H0) (H:=H) (f:=id) (g:=id) (l:=l) fun x R=>b_.plain (h x R)
 simpa using this
theorem Acc.q3 {E:Env} {H0 H:aa} {e sz:Nat} {v:I} {l:List I} {K:I -> aa -> Prop} (h:Acc E H0 H e sz v l) (bC:WF H0) (aR:∀x∈l,iV x=true) (ab:K (.aJ sz l) H0):ji H0 K v H:=h.out bC (gO.plain aR) ab
theorem Cg {α:Type} {f:α -> I} {g:α -> List I} (h:∀a,(f a).cells=g a):∀l:List α,a3 (l.map f)=l.flatMap g
 | []=>rfl
 | a :: l=>by
  show cb (f a).cells (a3 (l.map f))=_
  rw [eZ,h,Cg h l,List.flatMap_cons]
end
end Go.az
namespace Go.az
theorem Qz {i:Nat} (h:1≤i):i_ ((i:Int) - 1)=some (i - 1):=by
 rw [B_ (by omega)]; congr 1; omega
theorem QA {i j:Nat} (h:j≤i):i_ ((i:Int) - (j:Int))=some (i - j):=by
 rw [B_ (by omega)]; congr 1; omega
theorem QB {i:Nat}:i_ ((i:Int) + 1)=some (i + 1):=rfl
theorem QC {i j:Nat}:i_ ((i:Int) + (j:Int))=some (i + j):=rfl
attribute [go_sem] mW Qz QA QB QC
attribute [go_sem 100] B_
end Go.az
namespace Go.az
theorem Ch {p:Prop} [Decidable p] (h:p):decide p=true:=decide_eq_true h
theorem Ci {p:Prop} [Decidable p] (h:¬p):decide p=false:=decide_eq_false h
attribute [go_sem] Ch Ci
end Go.az
namespace Go.az
theorem am {p:Prop} (h:p):p:=h
theorem a6 {b c:Bool} (h:b=c):b=c:=h
theorem a7 {a b:Nat} (h:a=b):a=b:=h
end Go.az
