/-
  Contracts in the place of code; slices by what they hold. No conditions.
-/
import Derived.Test.YtajekleknljggaaEvF
set_option linter.unusedVariables false
set_option linter.unusedSimpArgs false
namespace Go.az
noncomputable section
end
end Go.az
namespace Go.az
noncomputable section
def Old (H K:aa):Prop:=∀c,c < H.next -> K.m.get c=H.m.get c
def Lp (H:aa):Prop:=∀c,H.next≤c -> H.m.get c=none
def JN (v:I):Bool:=match v with | .bool _=>true | .int _ _=>true | .str _=>true | .cA=>true | .aE=>true | .dj=>true | .dK=>true | _=>false
theorem Oz {s s':bb} {v:I} {c:Value} (ak:JN v=true) (h:a5 s v=some c):a5 s' v=some c:=by
 cases v <;> first | (cases ak; done) | exact h
theorem Sg {s s':bb} (hle:s.gi s') {l:List I} {vs vf:List Value} (h:bZ s l=some vs) (aQ:bZ s' l=some vf):vf=vs:=by
 rw [nw hle _ _ h] at aQ; exact (Option.some.inj aQ).symm
theorem IN {s s':bb} (hle:s.gi s') {v:I} {c b8:Value} (h:a5 s v=some c) (aQ:a5 s' v=some b8):b8=c:=by
 rw [q1 hle _ _ h] at aQ; exact (Option.some.inj aQ).symm
theorem kp.back {E:Env} {s s':bb} (hle:s.gi s') {a c:Nat} {w w':World} {x:bf} (ab:s'.ka a=s.ka a) (ai:s'.sz a=s.sz a) (h:kp E s a c w x) (aQ:kp E s' a c w' x):kp E s a c w' x:=by
 cases x with
 | cells l e x wr=>
  obtain ⟨arr,fz,J,O,ag,aP,bH,eC,fd⟩:=h
  obtain ⟨arr',mK,bc,a9,bt,gC,kM,sj,tU⟩:=aQ
  refine ⟨arr',mK,bc,?_,bt,gC,kM,fun R=>by rw [<- ab,<- ai]; exact sj R,tU⟩
  cases wr with
  | true=>
   have e:=Sg hle (show bZ s l=some _ from O) (show bZ s' l=some _ from a9)
   show bZ s l=some _
   rw [e]; exact O
  | false=>
   refine ⟨a9.1,fun i v ak aC=> ?_⟩
   obtain ⟨u,hu,V⟩:=O.2 i v ak aC
   obtain ⟨fs,d3,b7⟩:=a9.2 i v ak aC
   obtain rfl:=IN hle V b7
   exact ⟨_,d3,V⟩
 | loop f T N M ps KZ body st se=>
  obtain ⟨ct,D,J,O,ag⟩:=h
  obtain ⟨ey,mQ,bc,a9,bt⟩:=aQ
  refine ⟨ey,mQ,bc,fun i v ak=> ?_,bt⟩
  rw [IN hle (O i v ak) (a9 i v ak)]
  exact O i v ak
 | dead=>trivial
theorem Qi {E:Env} {s s':bb} {H H':aa} {w w':World} (r:bM E s H w) (x:Ext s H w s' H' w'):s.gi s':=fun a c h=>by
 have aF:a < H.next:=by
  rcases Nat.lt_or_ge a H.next with J | J
  ·
   exact J
  ·
   rw [(r.fr a J).1] at h; cases h
 obtain ⟨J,O,ag⟩:=x.le a aF
 exact ⟨by rw [J]; exact h,O,ag⟩
end
end Go.az
namespace Go.az
noncomputable section
abbrev bK:=Nat -> Option Nat
def ip (σ:bK) (H:aa) (c:Nat):Prop:=(∀b,σ b≠some c) /\ c < H.next /\ (H.m.get c).isSome=true
def lE (k:dm) (sz:Nat):Prop:=match k with | .rest _ s _=>s=sz | .ex _=>True | .tail .. =>True
def zI (k:dm):Prop:=match k with | .ex c=>c=0 | .tail _ _ _ z=>z=true | .rest .. =>False
def rr (k:dm) (n:Nat):Prop:=match k with | .ex c=>n≤c | .rest _ _ cQ=>n≤cQ | .tail .. =>False
mutual
def al (w:Bool) (σ:bK) (H:aa):I -> I -> Prop
 | .bool b,a=>a= .bool b
 | .int k n,a=>a= .int k n
 | .str s,a=>a= .str s
 | .cA,a=>a= .cA
 | .ptr b o,a=>∃c,σ b=some c /\ a= .ptr c o
 | .aE,a=>a= .aE
 | .slice b o n k,a=>∃c,σ b=some c /\ a= .slice c o n k
 | .func f x y,a=>∃x' ch,av w σ H x x' /\ av w σ H y ch /\ a= .func f x' ch
 | .yield l,a=>∃c,σ l=some c /\ a= .yield c
 | .dj,a=>a= .dj
 | .iface t v,a=>∃cc,al w σ H v cc /\ a= .iface t cc
 | .dK,a=>a= .dK
 | .agg l,a=>∃l',av w σ H l l' /\ a= .agg l'
 | .tuple l,a=>∃l',av w σ H l l' /\ a= .tuple l'
 | .aJ sz l,a=>(w=true /\ ∃l',a= .aJ sz l' /\ av w σ H l l')∨(l= [] /\ (a= .aE∨(∃c o k,a= .slice c o 0 k /\ lE k sz /\ (sz=0 -> zI k))∨∃cm,a= .dY cm))∨
  (l≠ [] /\ 0 < sz /\ ∃c o k l',a= .slice c o l.length k /\ ip σ H c /\ lE k sz /\ rr k l.length /\ av w σ H l l' /\ (∀x∈l',x.cells.length=sz) /\ bA H c o (l.length * sz)=some (a3 l'))
 | .dY cm,a=>a= .dY cm
 | .c9 cs off,a=>(w=true /\ ∃cs',a= .c9 cs' off /\ av w σ H cs cs')∨∃c o cs',a= .ptr c (o + off) /\ ip σ H c /\ av w σ H cs cs' /\ bA H c o cs.length=some cs'
def av (w:Bool) (σ:bK) (H:aa):List I -> List I -> Prop
 | [],r=>r= []
 | x :: l,r=>∃y bi,al w σ H x y /\ av w σ H l bi /\ r=y :: bi
end
structure jf (σ:bK) (H:aa) (bn:bK) (H':aa):Prop where
 le:∀b c,σ b=some c -> bn b=some c
 next:H.next≤H'.next
 fz:∀c,ip σ H c -> (∀b,bn b≠some c) /\ H'.m.get c=H.m.get c
theorem jf.refl (σ:bK) (H:aa):jf σ H σ H:=⟨fun _ _ h=>h,Nat.le_refl _,fun _ h=>⟨h.1,rfl⟩⟩
theorem jf.mK {σ bn:bK} {H H':aa} (h:jf σ H bn H') {c:Nat} (V:ip σ H c):ip bn H' c:=
 ⟨(h.fz c V).1,Nat.lt_of_lt_of_le V.2.1 h.next,by rw [(h.fz c V).2]; exact V.2.2⟩
theorem jf.trans {σ bn jb:bK} {H H' dF:aa} (h:jf σ H bn H') (k:jf bn H' jb dF):jf σ H jb dF:=
 ⟨fun b c U=>k.le _ _ (h.le _ _ U),Nat.le_trans h.next k.next,fun c V=>⟨(k.fz c (h.mK V)).1,(k.fz c (h.mK V)).2.trans (h.fz c V).2⟩⟩
structure dh (n:Nat) (σ:bK) (ay H1:aa) (bn:bK) (lg H1':aa):Prop where
 c7:jf σ H1 bn H1'
 je:∃l,lg.log=l ++ ay.log /\ ∀b c,σ b=some c -> b ∉ l -> H1'.m.get c=H1.m.get c
 hole:∀c,c < n -> H1.m.get c=none -> H1'.m.get c=none
theorem dh.refl (n:Nat) (σ:bK) (ay H1:aa):dh n σ ay H1 σ ay H1:=⟨jf.refl _ _,⟨[],rfl,fun _ _ _ _=>rfl⟩,fun _ _ h=>h⟩
theorem dh.trans {n:Nat} {σ bn jb:bK} {ay H1 lg H1' rJ rK:aa} (h:dh n σ ay H1 bn lg H1') (k:dh n bn lg H1' jb rJ rK):dh n σ ay H1 jb rJ rK:=by
 obtain ⟨l,J,O⟩:=h.je
 obtain ⟨l',ag,aP⟩:=k.je
 refine ⟨h.c7.trans k.c7,⟨l' ++ l,by rw [ag,J,List.append_assoc],fun b c U ar=> ?_⟩,fun c V aD=>k.hole c V (h.hole c V aD)⟩
 rw [List.mem_append,not_or] at ar
 exact (aP b c (h.c7.le _ _ U) ar.1).trans (O b c U ar.2)
theorem dh.mono {n hc:Nat} {σ bn:bK} {ay H1 lg H1':aa} (h:dh n σ ay H1 bn lg H1') (ar:hc≤n):dh hc σ ay H1 bn lg H1':=⟨h.c7,h.je,fun c V=>h.hole c (Nat.lt_of_lt_of_le V ar)⟩
theorem dh.then {σ bn jb:bK} {ay H1 lg H1' rJ rK:aa} (h:dh H1.next σ ay H1 bn lg H1') (k:dh H1'.next bn lg H1' jb rJ rK):dh H1.next σ ay H1 jb rJ rK:=h.trans (k.mono h.c7.next)
structure jg (n:Nat) (σ:bK) (ay H1:aa) (bn:bK) (lg H1':aa):Prop extends dh n σ ay H1 bn lg H1' where
 qL:∀c,(∀b,bn b≠some c) -> (H1'.m.get c).isSome=true -> (H1.m.get c).isSome=true
theorem jg.refl (n:Nat) (σ:bK) (ay H1:aa):jg n σ ay H1 σ ay H1:=⟨dh.refl _ _ _ _,fun _ _ h=>h⟩
theorem jg.trans {n:Nat} {σ bn jb:bK} {ay H1 lg H1' rJ rK:aa} (h:jg n σ ay H1 bn lg H1') (k:jg n bn lg H1' jb rJ rK):jg n σ ay H1 jb rJ rK:=
 ⟨h.todh.trans k.todh,fun c V aG=>h.qL c (fun b U=>V b (k.c7.le _ _ U)) (k.qL c V aG)⟩
theorem Bk {H H':aa} {c:Nat} (h:H'.m.get c=H.m.get c) (o n:Nat):bA H' c o n=bA H c o n:=by rw [oA,oA,h]
theorem OA {H H':aa} {c:Nat} (h:H'.m.get c=H.m.get c) (o:Nat):cellAt H' c o=cellAt H c o:=by rw [lo,lo,h]
mutual
theorem al.mono {w:Bool} {σ bn:bK} {H H':aa} (h:jf σ H bn H'):∀(v a:I),al w σ H v a -> al w bn H' v a
 | .bool _,_,k=>k
 | .int _ _,_,k=>k
 | .str _,_,k=>k
 | .cA,_,k=>k
 | .ptr _ _,_,k=>by simp only [al] at k ⊢; obtain ⟨c,J,O⟩:=k; exact ⟨c,h.le _ _ J,O⟩
 | .aE,_,k=>k
 | .dY _,_,k=>by simp only [al] at k ⊢; exact k
 | .slice _ _ _ _,_,k=>by simp only [al] at k ⊢; obtain ⟨c,J,O⟩:=k; exact ⟨c,h.le _ _ J,O⟩
 | .func _ x y,_,k=>by simp only [al] at k ⊢; obtain ⟨x',ch,J,O,ag⟩:=k; exact ⟨x',ch,av.mono h x x' J,av.mono h y ch O,ag⟩
 | .yield _,_,k=>by simp only [al] at k ⊢; obtain ⟨c,J,O⟩:=k; exact ⟨c,h.le _ _ J,O⟩
 | .dj,_,k=>k
 | .iface _ v,_,k=>by simp only [al] at k ⊢; obtain ⟨cc,J,O⟩:=k; exact ⟨cc,al.mono h v cc J,O⟩
 | .dK,_,k=>k
 | .agg l,_,k=>by simp only [al] at k ⊢; obtain ⟨l',J,O⟩:=k; exact ⟨l',av.mono h l l' J,O⟩
 | .tuple l,_,k=>by simp only [al] at k ⊢; obtain ⟨l',J,O⟩:=k; exact ⟨l',av.mono h l l' J,O⟩
 | .aJ sz l,_,k=>by
  simp only [al] at k ⊢
  rcases k with ⟨J,l',O,ag⟩ | J | ⟨J,O,c,o,k,l',ag,aP,bH,eC,fd,l2,iq⟩
  ·
   exact .inl ⟨J,l',O,av.mono h l l' ag⟩
  ·
   exact .inr (.inl J)
  ·
   exact .inr (.inr ⟨J,O,c,o,k,l',ag,h.mK aP,bH,eC,av.mono h l l' fd,l2,by rw [Bk (h.fz c aP).2]; exact iq⟩)
 | .c9 cs off,_,k=>by
  simp only [al] at k ⊢
  rcases k with ⟨J,l',O,ag⟩ | ⟨c,o,cs',J,O,ag,aP⟩
  ·
   exact .inl ⟨J,l',O,av.mono h cs l' ag⟩
  ·
   exact .inr ⟨c,o,cs',J,h.mK O,av.mono h cs cs' ag,by rw [Bk (h.fz c O).2]; exact aP⟩
theorem av.mono {w:Bool} {σ bn:bK} {H H':aa} (h:jf σ H bn H'):∀(l r:List I),av w σ H l r -> av w bn H' l r
 | [],_,k=>k
 | x :: l,_,k=>by simp only [av] at k ⊢; obtain ⟨y,bi,J,O,ag⟩:=k; exact ⟨y,bi,al.mono h x y J,av.mono h l bi O,ag⟩
end
section
variable {w:Bool} {σ:bK} {H:aa} {v a:I} {l l' r bi:List I}
theorem av.nil:av w σ H [] l↔l= []:=by simp only [av]
theorem av.cons {x:I}:av w σ H (x :: l) r↔∃y bi,al w σ H x y /\ av w σ H l bi /\ r=y :: bi:=by simp only [av]
theorem av.len:∀ {l r:List I},av w σ H l r -> r.length=l.length
 | [],_,h=>by rw [av.nil] at h; subst h; rfl
 | x :: l,_,h=>by obtain ⟨y,bi,_,O,rfl⟩:=av.cons.1 h; simp [av.len O]
theorem av.get:∀ {l r:List I} {i:Nat} {v:I},av w σ H l r -> l[i]? =some v -> ∃a,r[i]? =some a /\ al w σ H v a
 | [],_,_,_,_,h=>by simp at h
 | x :: l,_,i,v,h,ak=>by
  obtain ⟨y,bi,J,O,rfl⟩:=av.cons.1 h
  cases i with
  | zero=>simp at ak; subst ak; exact ⟨y,rfl,J⟩
  | succ i=>simp at ak; obtain ⟨a,ae,ag⟩:=av.get O ak; exact ⟨a,by simpa using ae,ag⟩
theorem av.app:∀ {l r m n:List I},av w σ H l r -> av w σ H m n -> av w σ H (l ++ m) (r ++ n)
 | [],_,_,_,h,k=>by rw [av.nil] at h; subst h; exact k
 | x :: l,_,_,_,h,k=>by
  obtain ⟨y,bi,J,O,rfl⟩:=av.cons.1 h
  exact av.cons.2 ⟨y,_,J,av.app O k,rfl⟩
theorem av.split:∀ {l m r:List I},av w σ H (l ++ m) r -> ∃x y,av w σ H l x /\ av w σ H m y /\ r=x ++ y
 | [],m,r,h=>⟨[],r,av.nil.2 rfl,h,rfl⟩
 | a :: l,m,r,h=>by
  obtain ⟨y,bi,J,O,rfl⟩:=av.cons.1 (show av w σ H (a :: (l ++ m)) r from h)
  obtain ⟨x,z,ag,aP,rfl⟩:=av.split O
  exact ⟨y :: x,z,av.cons.2 ⟨y,x,J,ag,rfl⟩,aP,rfl⟩
theorem av.drop:∀ {l r:List I} (n:Nat),av w σ H l r -> av w σ H (l.drop n) (r.drop n)
 | [],_,n,h=>by rw [av.nil] at h; subst h; simp [av.nil]
 | x :: l,_,0,h=>h
 | x :: l,_,n + 1,h=>by obtain ⟨y,bi,_,O,rfl⟩:=av.cons.1 h; exact av.drop n O
theorem av.take:∀ {l r:List I} (n:Nat),av w σ H l r -> av w σ H (l.take n) (r.take n)
 | [],_,n,h=>by rw [av.nil] at h; subst h; simp [av.nil]
 | x :: l,_,0,h=>by simp [av.nil]
 | x :: l,_,n + 1,h=>by obtain ⟨y,bi,J,O,rfl⟩:=av.cons.1 h; exact av.cons.2 ⟨y,_,J,av.take n O,rfl⟩
theorem av.one (h:al w σ H v a):av w σ H [v] [a]:=av.cons.2 ⟨a,[],h,av.nil.2 rfl,rfl⟩
theorem av.rep (h:av w σ H l r):∀n,av w σ H (cR n l) (cR n r)
 | 0=>av.nil.2 rfl
 | n + 1=>by
  show av w σ H (cb l (cR n l)) (cb r (cR n r))
  rw [eZ,eZ]; exact av.app h (av.rep h n)
theorem al.asInt (h:al w σ H v a):ej a=ej v:=by
 cases v <;> simp only [al] at h <;> (try subst h) <;> try rfl
 all_goals first
  | (obtain ⟨_,_,rfl⟩:=h; rfl)
  | (obtain ⟨_,_,_,_,rfl⟩:=h; rfl)
  | (rcases h with ⟨_,_,rfl,_⟩ | ⟨_,rfl | ⟨_,_,_,rfl,_⟩ | ⟨_,rfl⟩⟩ | ⟨_,_,_,_,_,_,rfl,_⟩ <;> rfl)
  | (rcases h with ⟨_,_,rfl,_⟩ | ⟨_,_,_,rfl,_⟩ <;> rfl)
theorem al.asBool (h:al w σ H v a):e_ a=e_ v:=by
 cases v <;> simp only [al] at h <;> (try subst h) <;> try rfl
 all_goals first
  | (obtain ⟨_,_,rfl⟩:=h; rfl)
  | (obtain ⟨_,_,_,_,rfl⟩:=h; rfl)
  | (rcases h with ⟨_,_,rfl,_⟩ | ⟨_,rfl | ⟨_,_,_,rfl,_⟩ | ⟨_,rfl⟩⟩ | ⟨_,_,_,_,_,_,rfl,_⟩ <;> rfl)
  | (rcases h with ⟨_,_,rfl,_⟩ | ⟨_,_,_,rfl,_⟩ <;> rfl)
theorem al.uL (h:al w σ H v a):f_ a=f_ v:=by
 cases v <;> simp only [al] at h <;> (try subst h) <;> try rfl
 all_goals first
  | (obtain ⟨_,_,rfl⟩:=h; rfl)
  | (obtain ⟨_,_,_,_,rfl⟩:=h; rfl)
  | (rcases h with ⟨_,_,rfl,_⟩ | ⟨_,rfl | ⟨_,_,_,rfl,_⟩ | ⟨_,rfl⟩⟩ | ⟨_,_,_,_,_,_,rfl,_⟩ <;> rfl)
  | (rcases h with ⟨_,_,rfl,_⟩ | ⟨_,_,_,rfl,_⟩ <;> rfl)
theorem al.b2 (h:al w σ H v a):b2 a=b2 v:=by
 cases v <;> simp only [al] at h <;> (try subst h) <;> try rfl
 all_goals first
  | (obtain ⟨_,_,rfl⟩:=h; rfl)
  | (obtain ⟨_,_,_,_,rfl⟩:=h; rfl)
  | (rcases h with ⟨_,_,rfl,_⟩ | ⟨_,rfl | ⟨_,_,_,rfl,_⟩ | ⟨_,rfl⟩⟩ | ⟨_,_,_,_,_,_,rfl,_⟩ <;> rfl)
  | (rcases h with ⟨_,_,rfl,_⟩ | ⟨_,_,_,rfl,_⟩ <;> rfl)
theorem al.cells (h:al w σ H v a):av w σ H v.cells a.cells:=by
 have one:∀v:I,gI v=none -> v.cells= [v]:=by intro v h; unfold I.cells; rw [h]; rfl
 have key:∀v a:I,al w σ H v a -> gI v=none -> gI a=none -> av w σ H v.cells a.cells:=by
  intro v a h J O; rw [one v J,one a O]; exact av.one h
 have aD:=h
 cases v <;> simp only [al] at h
 case agg l=>obtain ⟨l',J,rfl⟩:=h; exact J
 case aJ=>rcases h with ⟨_,_,rfl,_⟩ | ⟨_,rfl | ⟨_,_,_,rfl,_⟩ | ⟨_,rfl⟩⟩ | ⟨_,_,_,_,_,_,rfl,_⟩ <;> exact key _ _ aD rfl rfl
 case c9=>rcases h with ⟨_,_,rfl,_⟩ | ⟨_,_,_,rfl,_⟩ <;> exact key _ _ aD rfl rfl
 all_goals first
  | (subst h; exact key _ _ aD rfl rfl)
  | (obtain ⟨_,_,rfl⟩:=h; exact key _ _ aD rfl rfl)
  | (obtain ⟨_,_,_,_,rfl⟩:=h; exact key _ _ aD rfl rfl)
theorem al.fP {sz:Nat} (h:a= .aE∨(∃c o k,a= .slice c o 0 k /\ lE k sz /\ (sz=0 -> zI k))∨∃cm,a= .dY cm):al w σ H (.aJ sz []) a:=by
 unfold al; exact .inr (.inl ⟨rfl,h⟩)
theorem al.oJ {sz:Nat} (hw:w=true) (h:av w σ H l l'):al w σ H (.aJ sz l) (.aJ sz l'):=by
 unfold al; exact .inl ⟨hw,l',rfl,h⟩
theorem al.nD {sz c o:Nat} {k:dm} (ah:l≠ []) (ai:0 < sz) (J:ip σ H c) (O:lE k sz) (ag:rr k l.length) (aP:av w σ H l l') (bH:∀x∈l',x.cells.length=sz) (eC:bA H c o (l.length * sz)=some (a3 l')):
 al w σ H (.aJ sz l) (.slice c o l.length k):=by
 unfold al; exact .inr (.inr ⟨ah,ai,c,o,k,l',rfl,J,O,ag,aP,bH,eC⟩)
theorem al.CH {off:Nat} (hw:w=true) (h:av w σ H l l'):al w σ H (.c9 l off) (.c9 l' off):=by
 unfold al; exact .inl ⟨hw,l',rfl,h⟩
theorem al.C8 {off c o:Nat} (J:ip σ H c) (O:av w σ H l l') (ag:bA H c o l.length=some l'):al w σ H (.c9 l off) (.ptr c (o + off)):=by
 unfold al; exact .inr ⟨c,o,l',rfl,J,O,ag⟩
theorem al.uA {b o c:Nat} (h:σ b=some c):al w σ H (.ptr b o) (.ptr c o):=by unfold al; exact ⟨c,h,rfl⟩
theorem al.kR {b o n c:Nat} {k:dm} (h:σ b=some c):al w σ H (.slice b o n k) (.slice c o n k):=by unfold al; exact ⟨c,h,rfl⟩
theorem al.mf (h:av w σ H l l'):al w σ H (.agg l) (.agg l'):=by unfold al; exact ⟨l',h,rfl⟩
theorem al.wm (h:av w σ H l l'):al w σ H (.tuple l) (.tuple l'):=by unfold al; exact ⟨l',h,rfl⟩
theorem al.CI:al w σ H .aE .aE:=by unfold al; rfl
theorem al.ptr {b o:Nat} (h:al w σ H (.ptr b o) a):∃c,σ b=some c /\ a= .ptr c o:=by simpa only [al] using h
theorem al.slice {b o n:Nat} {k:dm} (h:al w σ H (.slice b o n k) a):∃c,σ b=some c /\ a= .slice c o n k:=by simpa only [al] using h
theorem al.agg (h:al w σ H (.agg l) a):∃l',av w σ H l l' /\ a= .agg l':=by simpa only [al] using h
theorem al.tuple (h:al w σ H (.tuple l) a):∃l',av w σ H l l' /\ a= .tuple l':=by simpa only [al] using h
theorem al.func {f:FuncId} (h:al w σ H (.func f l r) a):∃x y,av w σ H l x /\ av w σ H r y /\ a= .func f x y:=by simpa only [al] using h
theorem al.yield {n:Nat} (h:al w σ H (.yield n) a):∃c,σ n=some c /\ a= .yield c:=by simpa only [al] using h
theorem al.aE (h:al w σ H .aE a):a= .aE:=by simpa only [al] using h
theorem al.dY {cm:Addr} (h:al w σ H (.dY cm) a):a= .dY cm:=by simpa only [al] using h
theorem al.Wm {cm:Addr}:al w σ H (.dY cm) (.dY cm):=by unfold al; rfl
theorem al.int {k:IntKind} {n:Int}:al w σ H (.int k n) (.int k n):=by simp only [al]
theorem al.bool {b:Bool}:al w σ H (.bool b) (.bool b):=by simp only [al]
theorem al.str {s:List UInt8}:al w σ H (.str s) (.str s):=by simp only [al]
theorem al.undef:al w σ H .undef .undef:=by simp only [I.undef,al]; exact ⟨[],av.nil.2 rfl,rfl⟩
end
theorem hL:∀l:List I,a3 l=l.flatMap I.cells
 | []=>rfl
 | x :: l=>by
  show cb x.cells (a3 l)=_
  rw [eZ,hL l,List.flatMap_cons]
def g3 (w:Bool) (σ:bK) (H:aa) (M:Nat) (T T':a'):Prop:=∀i v,T.get M i=some v -> ∃a,T'.get M i=some a /\ al w σ H v a
def ns (w:Bool) (σ:bK) (H:aa):bf -> bf -> Prop
 | .cells l e x wr,y=>∃l',y= .cells l' e x wr /\ av w σ H l l'
 | .loop f T n m ps a b st p,y=>∃T',y= .loop f T' n m ps a b st p /\ g3 w σ H m T T'
 | .dead,_=>True
structure cW (w:Bool) (σ:bK) (ay H1:aa):Prop where
 dr:∀b x,ay.m.get b=some x -> ∃c y,σ b=some c /\ H1.m.get c=some y /\ ns w σ H1 x y
 inj:∀b cv c,σ b=some c -> σ cv=some c -> b=cv
 lt:∀b c,σ b=some c -> c < H1.next
 qq:∀b c,σ b=some c -> b < ay.next
 lh:∀b,ay.next≤b -> ay.m.get b=none
 ob:∀c,H1.next≤c -> H1.m.get c=none
 ex:∀b c,σ b=some c -> ∃y,H1.m.get c=some y
 qr:∀b c,σ b=some c -> ∃x,ay.m.get b=some x
theorem g3.mono {w:Bool} {σ bn:bK} {H H':aa} {M:Nat} {T T':a'} (h:jf σ H bn H') (k:g3 w σ H M T T'):g3 w bn H' M T T':=fun i v ak=>by
 obtain ⟨a,J,O⟩:=k i v ak
 exact ⟨a,J,al.mono h _ _ O⟩
theorem ns.mono {w:Bool} {σ bn:bK} {H H':aa} (h:jf σ H bn H'):∀ {x y:bf},ns w σ H x y -> ns w bn H' x y
 | .cells ..,_,⟨l',J,O⟩=>⟨l',J,av.mono h _ _ O⟩
 | .loop ..,_,⟨T',J,O⟩=>⟨T',J,g3.mono h O⟩
 | .dead,_,_=>trivial
end
end Go.az
namespace Go.az
noncomputable section
section
variable {w:Bool} {σ:bK} {H:aa} {M:Nat} {T T':a'} {E:Env}
theorem wP {f:Value -> Option I} (ao:∀v a,f v=some a -> al w σ H a a):∀(l:List Value) (r:List I),az.iE f l=some r -> av w σ H r r
 | [],r,h=>by simp [az.iE] at h; subst h; exact av.nil.2 rfl
 | x :: l,r,h=>by
  simp only [az.iE,Option.bind_eq_some_iff,Option.map_eq_some_iff] at h
  obtain ⟨y,aj,bi,af,rfl⟩:=h
  exact av.cons.2 ⟨y,bi,ao _ _ aj,wP ao l bi af,rfl⟩
theorem Jp:∀(d:Nat) (v:Value) (a:I),h2 d v=some a -> al w σ H a a:=by
 intro d
 induction d with
 | zero=>
  intro v a h
  unfold h2 at h
  split at h <;> first | (cases h <;> simp only [al]; done) | (simp at *; done)
 | succ d aH=>
  intro v a h
  unfold h2 at h
  split at h
  case h_8=>
   rename_i he
   obtain rfl:=Nat.succ.inj he
   simp only [Option.bind_eq_some_iff,Option.map_eq_some_iff] at h
   obtain ⟨x',R,ch,aj,rfl⟩:=h
   simp only [al]
   exact ⟨_,_,wP aH _ _ R,wP aH _ _ aj,rfl⟩
  case h_9=>
   rename_i he
   obtain rfl:=Nat.succ.inj he
   simp only [Option.map_eq_some_iff] at h
   obtain ⟨x',R,rfl⟩:=h
   simp only [al]
   exact ⟨_,wP aH _ _ R,rfl⟩
  case h_10=>
   rename_i he
   obtain rfl:=Nat.succ.inj he
   simp only [Option.map_eq_some_iff] at h
   obtain ⟨x',R,rfl⟩:=h
   simp only [al]
   exact ⟨_,wP aH _ _ R,rfl⟩
  all_goals (cases h <;> simp only [al]; done)
theorem eI (k:g3 w σ H M T T') {o:Operand} {v:I} (h:aK M o T=some v):∃a,aK M o T'=some a /\ al w σ H v a:=by
 cases o with
 | tmp t=>rw [sD] at h ⊢; exact k t v h
 | const c=>exact ⟨v,h,Jp 3 c v h⟩
 | global g=>cases h
 | func f=>cases h; exact ⟨_,rfl,by simp only [al]; exact ⟨[],[],av.nil.2 rfl,av.nil.2 rfl,rfl⟩⟩
theorem uB (k:g3 w σ H M T T'):∀ {l:List Operand} {r:List I},c0 M l T=some r -> ∃s,c0 M l T'=some s /\ av w σ H r s
 | [],r,h=>by cases h; exact ⟨[],rfl,av.nil.2 rfl⟩
 | o :: l,r,h=>by
  rw [yT] at h ⊢
  simp only [Option.bind_eq_some_iff,Option.map_eq_some_iff] at h
  obtain ⟨y,aj,bi,af,rfl⟩:=h
  obtain ⟨a,ae,J⟩:=eI k aj
  obtain ⟨s,aG,O⟩:=uB k af
  exact ⟨a :: s,by rw [ae]; show (c0 M l T').map _=_; rw [aG]; rfl,av.cons.2 ⟨a,s,J,O,rfl⟩⟩
def j_ (w:Bool) (σ:bK) (H:aa):Option I -> Option I -> Prop
 | none,y=>y=none
 | some x,y=>∃a,y=some a /\ al w σ H x a
theorem CJ (k:g3 w σ H M T T') {o:Option Operand} {v:Option I} (h:fk M o T=some v):∃a,fk M o T'=some a /\ j_ w σ H v a:=by
 cases o with
 | none=>cases h; exact ⟨none,rfl,rfl⟩
 | some o=>
  obtain ⟨x,R,rfl⟩:=bB (show (aK M o T).omap some=some v from h)
  obtain ⟨a,ae,J⟩:=eI k R
  exact ⟨some a,by show (aK M o T').omap some=_; rw [ae]; rfl,a,rfl,J⟩
theorem ur {v a:I} (h:al w σ H v a):dH a=dH v:=by unfold dH; rw [h.asInt]
theorem wo {x y:Option I} (h:j_ w σ H x y) (d m:Nat):di y d m=di x d m:=by
 cases x with
 | none=>cases (show y=none from h); rfl
 | some x=>
  obtain ⟨a,rfl,J⟩:=(show ∃a,y=some a /\ al w σ H x a from h)
  unfold di; simp only; rw [ur J]
theorem is {bd ad mx cM b5 d4:Option I} (J:j_ w σ H bd cM) (O:j_ w σ H ad b5) (ag:j_ w σ H mx d4) (n c:Nat):bF n c cM b5 d4=bF n c bd ad mx:=by
 cases mx with
 | none=>
  cases (show d4=none from ag)
  unfold bF; simp only [wo J,wo O]
 | some x=>
  obtain ⟨a,rfl,_⟩:=(show ∃a,d4=some a /\ al w σ H x a from ag)
  cases ad with
  | none=>cases (show b5=none from O); rfl
  | some y=>
   obtain ⟨b,rfl,_⟩:=(show ∃a,b5=some a /\ al w σ H y a from O)
   unfold bF; simp only [wo J,wo O,wo ag]
theorem zv {l r:List I} {i:Nat} {v:I} (k:av w σ H l r) (h:fy l i=some v):∃a,fy r i=some a /\ al w σ H v a:=by
 rw [ke] at h ⊢; exact av.get k h
theorem IP {l r x:List I} {n:Nat} (k:av w σ H l r) (h:cG n l=some x):∃y,cG n r=some y /\ av w σ H x y:=by
 obtain ⟨J,rfl⟩:=oC h
 exact ⟨r.take n,by rw [fL,if_pos (by rw [k.len]; exact J)],av.take n k⟩
theorem IQ {l r:List I} (k:av w σ H l r) (n:Nat):av w σ H (co n l) (co n r):=by rw [dz,dz]; exact av.drop n k
theorem Ug {l r:List I} (k:av w σ H l r) (n:Nat):av w σ H (g8 n l) (g8 n r):=by rw [it,it]; exact av.take n k
theorem Jq {l r x y z:List I} {n:Nat} (k:av w σ H l r) (a9:av w σ H x y) (h:dC x n l=some z):∃u,dC y n r=some u /\ av w σ H z u:=by
 rw [uo] at h ⊢
 split at h
 ·
  cases h
  rename_i V
  refine ⟨_,if_pos (by rw [k.len,a9.len]; exact V),?_⟩
  rw [a9.len]
  exact av.app (av.take _ k) (av.app a9 (av.drop _ k))
 ·
  cases h
theorem rh {l r:List I} (k:av w σ H l r):bJ r=bJ l:=by rw [eQ,eQ,k.len]
theorem rb:∀ {l r:List I},av w σ H l r -> br r=br l
 | [],_,h=>by rw [av.nil] at h; subst h; rfl
 | x :: l,_,h=>by
  obtain ⟨y,bi,J,O,rfl⟩:=av.cons.1 h
  rw [t6,t6,J.b2,rb O]
theorem wQ:∀ {l r:List I},av w σ H l r -> av w σ H (a3 l) (a3 r)
 | [],_,h=>by rw [av.nil] at h; subst h; exact av.nil.2 rfl
 | x :: l,_,h=>by
  obtain ⟨y,bi,J,O,rfl⟩:=av.cons.1 h
  show av w σ H (cb x.cells (a3 l)) (cb y.cells (a3 bi))
  rw [eZ,eZ]
  exact av.app J.cells (wQ O)
theorem yO:∀ {l r:List I},av w σ H l r -> gG r=gG l
 | [],_,h=>by rw [av.nil] at h; subst h; rfl
 | x :: l,_,h=>by
  obtain ⟨y,bi,J,O,rfl⟩:=av.cons.1 h
  rw [A9,A9,J.asInt,yO O]
theorem Cb {l r:List I} {t:TypeId} {o:Nat} {v:I} (k:av w σ H l r) (h:ek E t l o=some v):∃a,ek E t r o=some a /\ al w σ H v a:=by
 unfold ek at h ⊢
 cases ad:E.ty t with
 | none=>rw [ad] at h; cases h
 | some i=>
  rw [ad] at h
  simp only at h ⊢
  cases hE:i.agg with
  | true=>
   rw [hE] at h
   obtain ⟨x,R,rfl⟩:=bB (show (cG i.size (co o l)).omap I.agg=some v from h)
   obtain ⟨y,aj,J⟩:=IP (IQ k o) R
   exact ⟨.agg y,by show (cG i.size (co o r)).omap I.agg=_; rw [aj]; rfl,by simp only [al]; exact ⟨y,J,rfl⟩⟩
  | false=>
   rw [hE] at h
   exact zv k h
theorem OB {bg:Bool} {x y x' ch:I} (h:al w σ H x x') (k:al w σ H y ch):oF bg x' ch=oF bg x y:=by
 cases bg with
 | true=>show (e_ x').ac _=(e_ x).ac _; rw [h.asBool,k.asBool]
 | false=>show (ej x').ac _=(ej x).ac _; rw [h.asInt,k.asInt]
theorem Hj {bg:Bool}:∀ {l r l' bi:List I},av w σ H l l' -> av w σ H r bi -> hd bg l' bi=hd bg l r
 | [],r,l',bi,h,k=>by
  rw [av.nil] at h; subst h
  cases r with
  | nil=>rw [av.nil] at k; subst k; rfl
  | cons x r=>obtain ⟨y,cf,_,_,rfl⟩:=av.cons.1 k; rfl
 | x :: l,r,l',bi,h,k=>by
  obtain ⟨x',nr,J,O,rfl⟩:=av.cons.1 h
  cases r with
  | nil=>rw [av.nil] at k; subst k; rfl
  | cons y r=>
   obtain ⟨ch,cf,bc,a9,rfl⟩:=av.cons.1 k
   show (oF bg x' ch).ac (fun a=>(hd bg nr cf).omap fun b=>a && b)=(oF bg x y).ac (fun a=>(hd bg l r).omap fun b=>a && b)
   rw [OB J bc,Hj O a9]
theorem IR {v a:I} (h:al w σ H v a) (k:mg v=true):mg a=true /\ mh a=mh v:=by
 cases v <;> simp only [al] at h <;> first
  | (cases k; done)
  | (subst h; exact ⟨rfl,rfl⟩)
  | (obtain ⟨_,_,rfl⟩:=h; exact ⟨rfl,rfl⟩)
  | (rcases h with ⟨_,_,rfl,_⟩ | ⟨_,_,_,rfl,_⟩ <;> exact ⟨rfl,rfl⟩)
theorem BQ {v a:I} (h:al w σ H v a) (k:g5 v=true):g5 a=true /\ mh a=mh v:=by
 cases v <;> simp only [al] at h
 case aJ sz l=>
  cases l with
  | nil=>cases k
  | cons x l=>
   rcases h with ⟨_,l',rfl,h⟩ | ⟨h,_⟩ | ⟨_,_,_,_,_,_,rfl,_⟩
   ·
    obtain ⟨_,_,_,_,rfl⟩:=av.cons.1 h; exact ⟨rfl,rfl⟩
   ·
    cases h
   ·
    exact ⟨rfl,rfl⟩
 all_goals first
  | (cases k; done)
  | (subst h; exact ⟨rfl,rfl⟩)
  | (obtain ⟨_,_,rfl⟩:=h; exact ⟨rfl,rfl⟩)
theorem Ib {v a:I} (h:al w σ H v a) (k:mb v=true):mb a=true /\ mh a=mh v:=by
 cases v <;> simp only [al] at h <;> first
  | (cases k; done)
  | (subst h; exact ⟨rfl,rfl⟩)
  | (obtain ⟨_,_,_,_,rfl⟩:=h; exact ⟨rfl,rfl⟩)
theorem CK {x y x' ch:I} (J:mh x'=mh x) (O:mh ch=mh y):kn x' ch=kn x y:=by unfold kn; rw [J,O]
theorem Wn {k:d5} {bS:Option (Bool × Nat)} {x y x' ch:I} {b:Bool} (R:al w σ H x x') (aj:al w σ H y ch) (h:gx k bS x y=some b):gx k bS x' ch=some b:=by
 have agg:∀ {b:Bool},oR bS x y=some b -> oR bS x' ch=some b:=by
  intro b h
  cases bS with
  | none=>cases h
  | some p=>
   obtain ⟨l,ah,h⟩:=aO (show ((gI x).ac fun l=>(gI y).ac fun r=>ap (Nat.beq (bJ l) p.2) (hd p.1 l r) none)=some b from h)
   obtain ⟨r,af,h⟩:=aO h
   obtain rfl:=nv ah
   obtain rfl:=nv af
   obtain ⟨l',cC,rfl⟩:=R.agg
   obtain ⟨bi,lU,rfl⟩:=aj.agg
   show ap (Nat.beq (bJ l') p.2) (hd p.1 l' bi) none=_
   rw [rh cC,Hj cC lU]; exact h
 cases k with
 | ptr e=>
  obtain ⟨J,O⟩:=cd (show ap (mg x && mg y) (kn x y) none=some b from h)
  rw [Bool.and_eq_true] at J
  have bI:=IR R J.1
  have bN:=IR aj J.2
  show ap (mg x' && mg ch) (kn x' ch) none=_
  rw [bI.1,bN.1,CK bI.2 bN.2]; exact O
 | slice e=>
  obtain ⟨J,O⟩:=cd (show ap (g5 x && g5 y) (kn x y) none=some b from h)
  rw [Bool.and_eq_true] at J
  have bI:=BQ R J.1
  have bN:=BQ aj J.2
  show ap (g5 x' && g5 ch) (kn x' ch) none=_
  rw [bI.1,bN.1,CK bI.2 bN.2]; exact O
 | func=>
  obtain ⟨J,O⟩:=cd (show ap (mb x && mb y) (kn x y) none=some b from h)
  rw [Bool.and_eq_true] at J
  have bI:=Ib R J.1
  have bN:=Ib aj J.2
  show ap (mb x' && mb ch) (kn x' ch) none=_
  rw [bI.1,bN.1,CK bI.2 bN.2]; exact O
 | bool=>
  show (e_ x').ac (fun a=>(e_ ch).omap fun b=>kT a b)=_
  rw [R.asBool,aj.asBool]; exact h
 | struct da=>exact agg h
 | array n e=>exact agg h
 | _=>cases h
theorem Kk {v a:I} (h:al w σ H v a) (k:(ej v).isSome=true∨(e_ v).isSome=true∨(f_ v).isSome=true):a=v:=by
 cases v <;> first
  | (simpa only [al] using h)
  | (rcases k with k | k | k <;> cases k)
theorem Uh {k:d5} {bS:Option (Bool × Nat)} {op:BinOp} {x y x' ch v:I} (R:al w σ H x x') (aj:al w σ H y ch) (h:hN k bS op x y=some v):∃a,hN k bS op x' ch=some a /\ al w σ H v a:=by
 unfold hN at h ⊢
 rw [R.asInt]
 cases ad:ej x with
 | some p=>
  rw [ad,fN] at h
  rw [fN]
  have e:hg op p.1 p.2 ch=hg op p.1 p.2 y:=by
   unfold hg y9
   cases y8 op <;> simp only <;> rw [aj.asInt]
  rw [e]
  refine ⟨v,h,?_⟩
  unfold hg y9 at h
  cases aG:y8 op with
  | true=>
   rw [aG] at h
   obtain ⟨q,_,h⟩:=aO (show ((ej y).ac fun q=>CW op p.1 p.2 q.2)=some v from h)
   obtain ⟨n,_,h⟩:=aO (show ((i_ q.2).ac fun n=>um op p.1 p.2 (gb n (iY p.1)))=some v from h)
   cases op <;> first | (cases h; done) | (cases h; exact al.int)
  | false=>
   rw [aG] at h
   obtain ⟨q,_,h⟩:=aO (show ((ej y).ac fun q=>ap (jO p.1 q.1) (pU op p.1 p.2 q.2) none)=some v from h)
   obtain ⟨_,h⟩:=cd h
   cases op <;> first
    | (cases h; done)
    | (cases h; exact al.int)
    | (cases h; exact al.bool)
    | (unfold pU ul at h; simp only at h; split at h <;> first | (cases h; done) | (cases h; exact al.int))
 | none=>
  rw [ad,fM] at h
  rw [fM]
  rw [R.uL]
  cases aG:f_ x with
  | some l=>
   rw [aG,fN] at h
   rw [fN,aj.uL]
   refine ⟨v,h,?_⟩
   obtain ⟨r,_,h⟩:=aO h
   cases op <;> first
    | (cases h; done)
    | (cases h; exact al.bool)
    | (unfold wY Jg at h; simp only at h; split at h <;> first | (cases h; done) | (cases h; exact al.str))
  | none=>
   rw [aG,fM] at h
   rw [fM]
   have:∃b,gx k bS x y=some b:=by
    cases aB:gx k bS x y with
    | some b=>exact ⟨b,rfl⟩
    | none=>rw [aB] at h; cases op <;> cases h
   obtain ⟨b,U⟩:=this
   rw [Wn R aj U]
   rw [U] at h
   refine ⟨v,h,?_⟩
   cases op <;> first | (cases h; done) | (cases h; exact al.bool)
theorem Wo {op:UnOp} {x x' v:I} (R:al w σ H x x') (h:p6 op x=some v):∃a,p6 op x'=some a /\ al w σ H v a:=by
 refine ⟨v,?_,?_⟩
 ·
  rw [<- h]
  cases op <;> first
   | rfl
   | (show (ej x').omap _=(ej x).omap _; rw [R.asInt])
   | (show (e_ x').omap _=(e_ x).omap _; rw [R.asBool])
 ·
  cases op <;> first
   | (cases h; done)
   | (obtain ⟨p,_,rfl⟩:=bB (show (ej x).omap _=some v from h); exact al.int)
   | (obtain ⟨p,_,rfl⟩:=bB (show (e_ x).omap _=some v from h); exact al.bool)
theorem Ui {jK tN:d5} {x x' v:I} (R:al w σ H x x') (h:kV jK tN x=some v):∃a,kV jK tN x'=some a /\ al w σ H v a:=by
 unfold kV Jh at h ⊢
 split at h
 ·
  split at h
  ·
   obtain ⟨p,aR,rfl⟩:=bB h
   exact ⟨_,by show (ej x').omap _=_; rw [R.asInt,aR]; rfl,al.int⟩
  ·
   cases h
 ·
  split at h
  ·
   obtain ⟨p,aR,rfl⟩:=bB h
   exact ⟨_,by show (f_ x').omap _=_; rw [R.uL,aR]; rfl,al.str⟩
  ·
   cases h
 ·
  cases h
theorem JO {f:Int -> Int -> Int} {k:IntKind}:∀ {l r:List I},av w σ H l r -> j1 f k r=j1 f k l
 | [],_,h=>by rw [av.nil] at h; subst h; rfl
 | x :: l,_,h=>by
  obtain ⟨y,bi,J,O,rfl⟩:=av.cons.1 h
  funext a
  show ((ej y).ac fun p=>ap (jO k p.1) (j1 f k bi (f a p.2)) none)=((ej x).ac fun p=>ap (jO k p.1) (j1 f k l (f a p.2)) none)
  rw [J.asInt,JO O]
theorem IS {f:Int -> Int -> Int} {k:IntKind}:∀ {l:List I} {a:Int} {v:I},j1 f k l a=some v -> ∃n,v= .int k n
 | [],a,v,h=>by cases h; exact ⟨a,rfl⟩
 | x :: l,a,v,h=>by
  obtain ⟨p,_,h⟩:=aO (show ((ej x).ac fun p=>ap (jO k p.1) (j1 f k l (f a p.2)) none)=some v from h)
  obtain ⟨_,h⟩:=cd h
  exact IS h
theorem Jr {f:Int -> Int -> Int} {l r:List I} {v:I} (k:av w σ H l r) (h:rA f l=some v):∃a,rA f r=some a /\ al w σ H v a:=by
 cases l with
 | nil=>cases h
 | cons x l=>
  obtain ⟨y,bi,J,O,rfl⟩:=av.cons.1 k
  obtain ⟨p,aR,h⟩:=aO (show ((ej x).ac fun p=>j1 f p.1 l p.2)=some v from h)
  refine ⟨v,?_,?_⟩
  ·
   show ((ej y).ac fun p=>j1 f p.1 bi p.2)=_
   rw [J.asInt,aR]; show j1 f p.1 bi p.2=_; rw [JO O]; exact h
  ·
   obtain ⟨n,rfl⟩:=IS h; exact al.int
end
end
end Go.az
namespace Go.az
noncomputable section
section
variable {w:Bool} {σ:bK} {H:aa} {M:Nat} {T T':a'} {E:Env}
theorem al.nQ {sz:Nat} {a:I} (h:al w σ H (.aJ sz []) a):(w=true /\ a= .aJ sz [])∨a= .aE∨(∃c o k,a= .slice c o 0 k /\ lE k sz /\ (sz=0 -> zI k))∨∃cm,a= .dY cm:=by
 simp only [al] at h
 rcases h with ⟨J,l',rfl,h⟩ | ⟨_,h⟩ | ⟨h,_⟩
 ·
  rw [av.nil] at h; subst h; exact .inl ⟨J,rfl⟩
 ·
  exact .inr h
 ·
  exact absurd rfl h
theorem al.mB {sz:Nat} {l:List I} {a:I} (h:al w σ H (.aJ sz l) a) (ah:l≠ []):(w=true /\ ∃l',a= .aJ sz l' /\ av w σ H l l')∨
 ∃c o k l',a= .slice c o l.length k /\ 0 < sz /\ ip σ H c /\ lE k sz /\ rr k l.length /\ av w σ H l l' /\ (∀x∈l',x.cells.length=sz) /\ bA H c o (l.length * sz)=some (a3 l'):=by
 simp only [al] at h
 rcases h with h | ⟨h,_⟩ | ⟨_,O,c,o,k,l',ag,aP⟩
 ·
  exact .inl h
 ·
  exact absurd h ah
 ·
  exact .inr ⟨c,o,k,l',ag,O,aP⟩
theorem al.c9 {cs:List I} {off:Nat} {a:I} (h:al w σ H (.c9 cs off) a):(w=true /\ ∃cs',a= .c9 cs' off /\ av w σ H cs cs')∨∃c o cs',a= .ptr c (o + off) /\ ip σ H c /\ av w σ H cs cs' /\ bA H c o cs.length=some cs':=by
 simpa only [al] using h
theorem Sh {x x' v:I} (R:al w σ H x x') (h:nE x=some v):∃a,nE x'=some a /\ al w σ H v a:=by
 have:v=x /\ ((∃b o,x= .ptr b o)∨(∃f a c,x= .func f a c)∨∃l o,x= .c9 l o):=by
  cases x <;> first | (cases h; done) | (cases h; exact ⟨rfl,by simp⟩)
 obtain ⟨rfl,J⟩:=this
 rcases J with ⟨b,o,rfl⟩ | ⟨f,a,c,rfl⟩ | ⟨l,o,rfl⟩
 ·
  obtain ⟨c,_,rfl⟩:=R.ptr; exact ⟨_,rfl,R⟩
 ·
  obtain ⟨_,_,_,_,rfl⟩:=R.func; exact ⟨_,rfl,R⟩
 ·
  rcases R.c9 with ⟨_,_,rfl,_⟩ | ⟨_,_,_,rfl,_⟩ <;> exact ⟨_,rfl,R⟩
theorem Ic {x x' v:I} {n:Nat} (R:al w σ H x x') (h:kk x n=some v):∃a,kk x' n=some a /\ al w σ H v a:=by
 have:(∃b o,x= .ptr b o /\ v= .ptr b (o + n))∨∃l o,x= .c9 l o /\ v= .c9 l (o + n):=by
  cases x <;> first | (cases h; done) | (cases h; simp)
 rcases this with ⟨b,o,rfl,rfl⟩ | ⟨l,o,rfl,rfl⟩
 ·
  obtain ⟨c,V,rfl⟩:=R.ptr; exact ⟨_,rfl,by simp only [al]; exact ⟨c,V,rfl⟩⟩
 ·
  rcases R.c9 with ⟨J,cs,rfl,O⟩ | ⟨c,ot,cs,rfl,O⟩
  ·
   exact ⟨_,rfl,by simp only [al]; exact .inl ⟨J,cs,rfl,O⟩⟩
  ·
   exact ⟨_,rfl,by simp only [al]; exact .inr ⟨c,ot,cs,by show I.ptr c (ot + o + n)=_; rw [Nat.add_assoc],O⟩⟩
theorem fv {l:List I} {sz:Nat} (h:∀x∈l,x.cells.length=sz):(a3 l).length=l.length * sz /\ ∀n,(a3 l).drop (n * sz)=a3 (l.drop n) /\ (a3 l).take (n * sz)=a3 (l.take n):=by
 rw [hL]
 constructor
 ·
  induction l with
  | nil=>simp
  | cons x l aH=>
   rw [List.flatMap_cons,List.length_append,h x (by simp),aH fun y aj=>h y (by simp [aj]),List.length_cons,Nat.add_mul]; omega
 ·
  intro n
  rw [hL,hL]
  induction l generalizing n with
  | nil=>simp
  | cons x l aH=>
   have aH:=aH (fun y aj=>h y (by simp [aj]))
   have R:=h x (by simp)
   cases n with
   | zero=>simp
   | succ n=>
    have e:(n + 1) * sz=sz + n * sz:=by rw [Nat.add_mul]; omega
    rw [List.flatMap_cons,e]
    constructor
    ·
     rw [List.drop_append,List.drop_of_length_le (by omega),List.nil_append,R,List.drop_succ_cons,<- (aH n).1]; congr 1; omega
    ·
     rw [List.take_append,List.take_of_length_le (by omega),R,List.take_succ_cons,List.flatMap_cons,<- (aH n).2]; congr 2; omega
theorem vP {c o n i k:Nat} {cs:List I} (h:bA H c o n=some cs) (ad:i + k≤n):bA H c (o + i) k=some ((cs.drop i).take k):=by
 by_cases aD:k=0
 ·
  subst aD; rw [mW]; simp
 rw [l5 (by omega)] at h
 rw [l5 aD]
 obtain ⟨y,aj,J⟩:=aO h
 obtain ⟨q,aB,O⟩:=aO J
 obtain ⟨l',ag,aP⟩:=aO O
 obtain ⟨rfl,dl⟩:=sm aP
 rw [dz] at ag
 obtain ⟨hle,rfl⟩:=oC ag
 rw [List.length_drop] at hle
 unfold q5
 rw [aj]
 show (kf y).ac _=_
 rw [aB]
 show (cG k (co (o + i) q.1)).ac (mz q.2.2.2)=_
 rw [dz,fL,if_pos (by rw [List.length_drop]; omega)]
 have e:((q.1.drop (o + i)).take k)=(((q.1.drop o).take n).drop i).take k:=by
  rw [List.drop_take,List.take_take,List.drop_drop]; congr 1; omega
 rw [e]
 show mz _ _=_
 cases hw:q.2.2.2 with
 | true=>rfl
 | false=>
  show ap (br _) _ none=_
  have:∀ {l:List I} n,br l=true -> br (l.drop n)=true:=by
   intro l n h
   induction l generalizing n with
   | nil=>simp; rfl
   | cons x l aH=>
    cases n with
    | zero=>exact h
    | succ n=>
     rw [t6] at h
     cases R:b2 x with
     | true=>rw [R] at h; exact aH n h
     | false=>rw [R] at h; cases h
  rw [yK (this i (dl hw)) k]; rfl
theorem Uj {x x' v:I} {i:Nat} {e:TypeId} (R:al w σ H x x') (h:uF (au E e) x i=some v):∃a,e9 (.slice e) E x' i=some a /\ al w σ H v a:=by
 obtain ⟨⟨sz,l⟩,aB,h⟩:=aO h
 obtain rfl:=q0 aB
 obtain ⟨bm,h⟩:=cd h
 obtain ⟨y,aj,rfl⟩:=bB h
 have bm:sz=au E e:=Nat.eq_of_beq_eq_true bm
 simp only at aj R
 rw [ke] at aj
 have aF:i < l.length:=(List.getElem?_eq_some_iff.1 aj).1
 rcases R.mB (by intro h; rw [h] at aF; simp at aF) with ⟨J,l',rfl,O⟩ | ⟨c,o,k,l',rfl,bU,J,_,_,O,ag,aP⟩
 ·
  obtain ⟨a,ae,ag⟩:=av.get O aj
  refine ⟨.c9 a.cells 0,?_,al.CH J ag.cells⟩
  show ap (Nat.beq sz (au E e)) ((fy l' i).omap fun v=>I.c9 v.cells 0) none=_
  rw [bm,Nat.beq_refl,ke,ae]; rfl
 ·
  obtain ⟨a,ae,bH⟩:=av.get O aj
  have j3:=O.len
  refine ⟨.ptr c (o + i * au E e),wj aF,?_⟩
  simp only [al]
  refine .inr ⟨c,o + i * au E e,a.cells,by rw [Nat.add_zero],J,bH.cells,?_⟩
  have cP:a.cells.length=sz:=ag a (List.mem_of_getElem? ae)
  have EC:y.cells.length=sz:=by rw [<- bH.cells.len]; exact cP
  rw [EC,<- bm]
  have xl:=fv ag
  have:=vP (i:=i * sz) (k:=sz) aP (by rw [<- Nat.succ_mul]; exact Nat.mul_le_mul_right _ aF)
  rw [this,(xl.2 i).1]
  congr 1
  have d7:i < l'.length:=by omega
  rw [List.drop_eq_getElem_cons d7]
  have e:l'[i]=a:=by rw [List.getElem?_eq_getElem d7] at ae; exact Option.some.inj ae
  rw [e,show a3 (a :: l'.drop (i + 1))=cb a.cells (a3 (l'.drop (i + 1))) from rfl,eZ,List.take_append_of_le_length (by omega),List.take_of_length_le (by omega)]
theorem Qj {k:d5} {x x' v:I} {i:Nat} (R:al w σ H x x') (h:e9 k E x i=some v):∃a,e9 k E x' i=some a /\ al w σ H v a:=by
 cases k with
 | array n e=>
  obtain ⟨J,O⟩:=cd (show ap (Nat.blt i n) (kk x (Nat.mul i (au E e))) none=some v from h)
  obtain ⟨a,ae,ag⟩:=Ic R O
  exact ⟨a,by show ap (Nat.blt i n) (kk x' (Nat.mul i (au E e))) none=_; rw [J,ae]; rfl,ag⟩
 | slice e=>
  cases aB:asSlice x with
  | some q=>
   obtain rfl:=hv aB
   obtain ⟨c,V,rfl⟩:=R.slice
   obtain ⟨J,O⟩:=cd (show ap (Nat.blt i q.2.2.1) (some (I.ptr q.1 (Nat.add q.2.1 (Nat.mul i (au E e))))) none=some v from h)
   cases O
   exact ⟨_,by show ap (Nat.blt i q.2.2.1) (some (I.ptr c (Nat.add q.2.1 (Nat.mul i (au E e))))) none=_; rw [J]; rfl,by simp only [al]; exact ⟨c,V,rfl⟩⟩
  | none=>
   replace h:=show bQ (asSlice x) (uF (au E e) x i) (fun q=>ap (Nat.blt i q.2.2.1) (some (I.ptr q.1 (Nat.add q.2.1 (Nat.mul i (au E e))))) none)=some v from h
   rw [aB,fM] at h
   exact Uj R h
 | _=>cases h
theorem Uk {k:dm} {es b c off len:Nat} {bd ad mx cM b5 d4:Option I} {v:I} (J:j_ w σ H bd cM) (O:j_ w σ H ad b5) (ag:j_ w σ H mx d4) (U:σ b=some c) (h:oS k es b off len bd ad mx=some v):
 ∃a,oS k es c off len cM b5 d4=some a /\ al w σ H v a:=by
 cases k with
 | ex n=>
  obtain ⟨r,af,rfl⟩:=bB (show (bF len n bd ad mx).omap _=some v from h)
  refine ⟨.slice c (addrAt r.2.2 r.1 off es) (Nat.sub r.2.1 r.1) (.ex (Nat.sub r.2.2 r.1)),?_,al.kR U⟩
  show (bF len n cM b5 d4).omap _=_
  rw [is J O ag,af]; rfl
 | rest dt sz cQ=>
  obtain ⟨aG,h⟩:=cd (show ap (Nat.beq sz es) _ none=some v from h)
  obtain ⟨r,af,h⟩:=aO h
  have key:∀(F:Nat -> I),(∀c b,σ b=some c -> al w σ H (F b) (F c)) -> ∃a,some (F c)=some a /\ al w σ H (F b) a:=fun F iP=>⟨_,rfl,iP c b U⟩
  have goal:∀G:Option I,(∃F:Nat -> I,(∀c b,σ b=some c -> al w σ H (F b) (F c)) /\ v=F b /\ G=some (F c)) ->
   ap (Nat.beq sz es) ((bF len cQ cM b5 d4).ac fun r=>bQ d4 (ap (Nat.blt r.1 cQ || Nat.beq r.1 0) (some (.slice c (Nat.add off (Nat.mul r.1 sz)) (Nat.sub r.2.1 r.1) (.rest (Nat.add dt r.1) sz (Nat.sub cQ r.1)))) (some (.slice c off 0 (.tail dt r.1 sz false))))
    (fun _=>some (.slice c (addrAt r.2.2 r.1 off sz) (Nat.sub r.2.1 r.1) (.ex (Nat.sub r.2.2 r.1))))) none=G -> ∃a,oS (.rest dt sz cQ) es c off len cM b5 d4=some a /\ al w σ H v a:=by
   rintro G ⟨F,iP,rfl,rfl⟩ aZ
   exact ⟨F c,aZ,iP c b U⟩
  refine goal _ ?_ rfl
  rw [aG,is J O ag,af]
  show ∃F:Nat -> I,_ /\ _ /\ bQ d4 _ _=some (F c)
  cases mx with
  | none=>
   cases (show d4=none from ag)
   rw [fM] at h
   cases dx:Nat.blt r.1 cQ || Nat.beq r.1 0 with
   | true=>
    rw [dx] at h; cases h
    exact ⟨fun b=> .slice b (Nat.add off (Nat.mul r.1 sz)) (Nat.sub r.2.1 r.1) (.rest (Nat.add dt r.1) sz (Nat.sub cQ r.1)),fun c b U=>al.kR U,rfl,by rw [fM]; rfl⟩
   | false=>
    rw [dx] at h; cases h
    exact ⟨fun b=> .slice b off 0 (.tail dt r.1 sz false),fun c b U=>al.kR U,rfl,by rw [fM]; rfl⟩
  | some m=>
   obtain ⟨bY,rfl,_⟩:=(show ∃a,d4=some a /\ al w σ H m a from ag)
   cases h
   exact ⟨fun b=> .slice b (addrAt r.2.2 r.1 off sz) (Nat.sub r.2.1 r.1) (.ex (Nat.sub r.2.2 r.1)),fun c b U=>al.kR U,rfl,rfl⟩
 | tail dt k sz z=>
  obtain ⟨aG,h⟩:=cd (show ap (Nat.beq len 0) ((bF 0 0 bd ad mx).omap fun _=>I.slice b off 0 (.tail dt k sz (bQ mx z fun _=>true))) none=some v from h)
  obtain ⟨r,af,rfl⟩:=bB h
  have hm:bQ d4 z (fun _=>true)=bQ mx z (fun _=>true):=by
   cases mx with
   | none=>cases (show d4=none from ag); rfl
   | some m=>obtain ⟨bY,rfl,_⟩:=(show ∃a,d4=some a /\ al w σ H m a from ag); rfl
  refine ⟨.slice c off 0 (.tail dt k sz (bQ mx z fun _=>true)),?_,al.kR U⟩
  show ap (Nat.beq len 0) ((bF 0 0 cM b5 d4).omap fun _=>I.slice c off 0 (.tail dt k sz (bQ d4 z fun _=>true))) none=_
  rw [aG,is J O ag,af,hm]; rfl
theorem nz {x:Option I} {d y n:Nat} (h:di x d y=some n) (aw:d≤y):n≤y:=by
 cases x with
 | none=>cases h; exact aw
 | some a=>
  obtain ⟨i,_,h⟩:=aO (show (dH a).ac (fun i=>ap (Nat.ble i y) (some i) none)=some n from h)
  obtain ⟨J,h⟩:=cd h
  cases h; exact de.1 J
theorem yH {x:Option I} {d y ch n:Nat} (h:di x d y=some n) (aj:y≤ch):di x d ch=some n:=by
 cases x with
 | none=>exact h
 | some a=>
  obtain ⟨i,ad,h⟩:=aO (show (dH a).ac (fun i=>ap (Nat.ble i y) (some i) none)=some n from h)
  obtain ⟨J,h⟩:=cd h
  cases h
  show (dH a).ac (fun i=>ap (Nat.ble i ch) (some i) none)=_
  rw [ad]
  show ap (Nat.ble n ch) (some n) none=_
  rw [de.2 (Nat.le_trans (de.1 J) aj)]; rfl
theorem yC {bd ad:Option I} {n c a b m:Nat} (h:bF n n bd ad none=some (a,b,m)) (V:n≤c):bF n c bd ad none=some (a,b,c) /\ a≤b /\ b≤n:=by
 obtain ⟨x,R,h⟩:=aO (show (di ad n n).ac (fun h=>(di bd 0 h).omap fun l=>(l,h,n))=some (a,b,m) from h)
 obtain ⟨y,aj,h⟩:=bB h
 cases h
 refine ⟨?_,nz aj (Nat.zero_le _),nz R (Nat.le_refl _)⟩
 show (di ad n c).ac (fun h=>(di bd 0 h).omap fun l=>(l,h,c))=_
 rw [yH R V]
 show (di bd 0 b).omap _=_
 rw [aj]; rfl
theorem Ga {bd ad:Option I} {x:I} {n c a b m:Nat} (h:bF n c bd ad (some x)=some (a,b,m)):(∀hc d,c≤d -> bF hc d bd ad (some x)=some (a,b,m)) /\ a≤b /\ b≤m /\ m≤c:=by
 cases ad with
 | none=>cases h
 | some ak=>
  obtain ⟨cN,g0,h⟩:=aO (show (di (some x) c c).ac (fun m=>(di (some ak) n m).ac fun h=>(di bd 0 h).omap fun l=>(l,h,m))=some (a,b,m) from h)
  obtain ⟨dL,gN,h⟩:=aO h
  obtain ⟨mR,ph,h⟩:=bB h
  cases h
  have bc:=nz g0 (Nat.le_refl _)
  have a9:b≤m:=nz (x:=some ak) (d:=0) gN (Nat.zero_le _)
  refine ⟨fun hc d aw=> ?_,nz ph (Nat.zero_le _),a9,bc⟩
  show (di (some x) d d).ac (fun m=>(di (some ak) hc m).ac fun h=>(di bd 0 h).omap fun l=>(l,h,m))=_
  rw [show di (some x) d d=some m from yH (d:=c) g0 aw]
  show (di (some ak) hc m).ac _=_
  rw [show di (some ak) hc m=some b from gN]
  show (di bd 0 b).omap _=_
  rw [ph]; rfl
theorem y6 {sz c o a b:Nat} {l l':List I} (J:ip σ H c) (O:av w σ H l l') (ag:∀x∈l',x.cells.length=sz) (aP:bA H c o (l.length * sz)=some (a3 l')) (ge:a≤b) (U:b≤l.length):
 av w σ H ((l.take b).drop a) ((l'.take b).drop a) /\ (∀x∈(l'.take b).drop a,x.cells.length=sz) /\ bA H c (o + a * sz) (((l.take b).drop a).length * sz)=some (a3 ((l'.take b).drop a)):=by
 refine ⟨av.drop _ (av.take _ O),fun x R=>ag x (List.mem_of_mem_take (List.mem_of_mem_drop R)),?_⟩
 have hlen:((l.take b).drop a).length=b - a:=by simp; omega
 rw [hlen,vP (i:=a * sz) (k:=(b - a) * sz) aP (by rw [<- Nat.add_mul]; exact Nat.mul_le_mul_right _ (by omega))]
 have aG:=fv ag
 have AC:=fv (l:=l'.drop a) (fun x R=>ag x (List.mem_of_mem_drop R))
 rw [(aG.2 a).1,(AC.2 (b - a)).2,List.drop_take]
theorem OC {x x' v:I} {e:TypeId} {bd ad mx cM b5 d4:Option I} (R:al w σ H x x') (J:j_ w σ H bd cM) (O:j_ w σ H ad b5) (ag:j_ w σ H mx d4) (h:uc (au E e) x bd ad mx=some v):
 ∃a,dp (.slice e) E x' cM b5 d4=some a /\ al w σ H v a:=by
 obtain ⟨⟨sz,l⟩,aB,h⟩:=aO h
 obtain rfl:=q0 aB
 obtain ⟨Kl,h⟩:=cd h
 have bm:sz=au E e:=Nat.eq_of_beq_eq_true Kl
 clear Kl
 simp only at h R bm
 have toL:∀l',dp (.slice e) E (.aJ sz l') cM b5 d4=m3 sz l' cM b5 d4:=by
  intro l'
  show ap (Nat.beq sz (au E e)) (m3 sz l' cM b5 d4) none=_
  rw [bm,Nat.beq_refl]; rfl
 unfold m3 at h
 cases mx with
 | some m=>
  obtain ⟨bY,rfl,hm⟩:=(show ∃a,d4=some a /\ al w σ H m a from ag)
  cases qn:bF 0 0 bd ad (some m) with
  | none=>
   have h:nC sz l bd ad m=some v:=by
    have h:bQ (bF 0 0 bd ad (some m)) (nC sz l bd ad m) (fun _=>some (I.aJ 0 []))=some v:=h
    rwa [qn] at h
   obtain ⟨⟨p,q,c1⟩,af,rfl⟩:=bB h
   rw [eQ] at af
   obtain ⟨U,ge,ql,adu⟩:=Ga af
   have dx:∀hc d,l.length≤d -> bF hc d cM b5 (some bY)=some (p,q,c1):=fun hc d aw=>by rw [is J O ag]; exact U hc d aw
   have c5:q≤l.length:=by omega
   rw [dz,it]
   cases l with
   | nil=>rw [show ([]:List I).length=0 from rfl,qn] at af; cases af
   | cons y l=>
    rcases R.mB (by simp) with ⟨hw,l',rfl,bH⟩ | ⟨c,o,k,l',rfl,bU,bH,eC,fd,l2,iq,vl⟩
    ·
     rw [toL]
     refine ⟨.aJ sz ((l'.take q).drop p),?_,al.oJ hw (av.drop _ (av.take _ bH))⟩
     show bQ (bF 0 0 cM b5 (some bY)) (nC sz l' cM b5 bY) (fun _=>some (I.aJ 0 []))=_
     rw [is J O ag,qn]
     show (bF (bJ l') (bJ l') cM b5 (some bY)).omap _=_
     rw [rh bH,eQ,dx _ _ (Nat.le_refl _)]
     show some (I.aJ sz (co p (g8 q l')))=_
     rw [dz,it]
    ·
     obtain ⟨cg,cn,bW⟩:=y6 bH l2 iq vl ge c5
     have hlen:(((y :: l).take q).drop p).length=q - p:=by rw [List.length_drop,List.length_take,Nat.min_eq_left c5]
     have aC:∀s,p < q -> addrAt c1 p o s=o + p * s:=fun s n2=>by
      unfold addrAt
      rw [show Nat.beq c1 p=false from by rw [pT]; simp; omega]; rfl
     have fin:al w σ H (.aJ sz (((y :: l).take q).drop p)) (.slice c (addrAt c1 p o sz) (q - p) (.ex (c1 - p))):=by
      by_cases n2:p < q
      ·
       rw [aC _ n2,<- hlen]
       refine al.nD (fun h=> ?_) bU bH trivial (show _≤c1 - p by rw [hlen]; omega) cg cn bW
       have:=congrArg List.length h
       rw [hlen] at this; simp at this; omega
      ·
       have dn:((y :: l).take q).drop p= []:=List.eq_nil_of_length_eq_zero (by rw [hlen]; omega)
       rw [dn,show q - p=0 by omega]
       exact al.fP (.inr (.inl ⟨_,_,_,rfl,trivial,fun h=>by omega⟩))
     refine ⟨_,?_,fin⟩
     cases k with
     | ex n=>
      show (bF (y :: l).length n cM b5 (some bY)).omap _=_
      rw [dx _ n fd,bm]; rfl
     | rest dt s cQ=>
      have aG:s=sz:=eC
      subst aG
      show ap (Nat.beq s (au E e)) ((bF (y :: l).length cQ cM b5 (some bY)).ac _) none=_
      rw [<- bm,Nat.beq_refl,dx _ cQ fd]; rfl
     | tail=>cases fd
  | some fF=>
  obtain ⟨p,q,c1⟩:=fF
  have af:=qn
  have ak:v= .aJ 0 []:=by
   have h:bQ (bF 0 0 bd ad (some m)) (nC sz l bd ad m) (fun _=>some (I.aJ 0 []))=some v:=h
   rw [qn] at h
   cases h; rfl
  subst ak
  have ai:∀n c,bF n c cM b5 (some bY)=some (0,0,0):=by
   intro n c
   rw [is J O ag]
   cases ad with
   | none=>cases af
   | some ak=>
    obtain ⟨cN,g0,af⟩:=aO (show (di (some m) 0 0).ac (fun m=>(di (some ak) 0 m).ac fun h=>(di bd 0 h).omap fun l=>(l,h,m))=some (p,q,c1) from af)
    obtain ⟨dL,gN,af⟩:=aO af
    obtain ⟨mR,ph,af⟩:=bB af
    have a8:cN=0:=Nat.le_zero.1 (nz g0 (Nat.le_refl _))
    subst a8
    have bk:dL=0:=Nat.le_zero.1 (nz gN (Nat.le_refl _))
    subst bk
    have c3:mR=0:=Nat.le_zero.1 (nz ph (Nat.le_refl _))
    subst c3
    show (di (some m) c c).ac (fun m=>(di (some ak) n m).ac fun h=>(di bd 0 h).omap fun l=>(l,h,m))=_
    have cg:di (some m) c c=some 0:=yH (d:=c) (y:=0) g0 (Nat.zero_le _)
    have cn:di (some ak) n 0=some 0:=gN
    rw [cg]; show (di (some ak) n 0).ac _=_
    rw [cn]; show (di bd 0 0).omap _=_
    rw [ph]; rfl
  have res:∀c o,al w σ H (.aJ 0 []) (.slice c o 0 (.ex 0)):=fun c o=>al.fP (.inr (.inl ⟨c,o,_,rfl,trivial,fun _=>rfl⟩))
  have aa0:al w σ H (.aJ 0 []) .aE:=al.fP (.inl rfl)
  have D0:∀c o k,lE k sz -> (∀a b c d,k≠ .tail a b c d) -> ∀n,∃a,dp (.slice e) E (.slice c o n k) cM b5 (some bY)=some a /\ al w σ H (.aJ 0 []) a:=by
   intro c o k ab bh n
   cases k with
   | ex hc=>
    refine ⟨.slice c (addrAt 0 0 o (au E e)) 0 (.ex 0),?_,res _ _⟩
    show (bF n hc cM b5 (some bY)).omap _=_
    rw [ai]; rfl
   | rest dt s cQ=>
    have ab:s=sz:=ab
    refine ⟨.slice c (addrAt 0 0 o s) 0 (.ex 0),?_,res _ _⟩
    show ap (Nat.beq s (au E e)) ((bF n cQ cM b5 (some bY)).ac _) none=_
    rw [ab,bm,Nat.beq_refl,ai]; rfl
   | tail=>exact absurd rfl (bh _ _ _ _)
  cases l with
  | nil=>
   rcases R.nQ with ⟨_,rfl⟩ | rfl | ⟨c,o,k,rfl,ab,pi⟩ | ⟨cm,rfl⟩
   rotate_right
   ·
    refine ⟨.dY cm,?_,al.fP (.inr (.inr ⟨cm,rfl⟩))⟩
    show (bF 0 0 cM b5 (some bY)).omap _=_
    rw [ai]; rfl
   ·
    rw [toL]
    refine ⟨.aJ 0 [],by show bQ (bF 0 0 cM b5 (some bY)) _ (fun _=>some (I.aJ 0 []))=_; rw [ai]; rfl,?_⟩
    exact al.oJ (by assumption) (av.nil.2 rfl)
   ·
    refine ⟨.aE,?_,aa0⟩
    show (bF 0 0 cM b5 (some bY)).omap _=_
    rw [ai]; rfl
   ·
    cases k with
    | tail dt g1 s z=>
     refine ⟨.slice c o 0 (.tail dt g1 s true),?_,?_⟩
     ·
      show ap (Nat.beq 0 0) ((bF 0 0 cM b5 (some bY)).omap _) none=_
      rw [ai]; rfl
     ·
      exact al.fP (.inr (.inl ⟨c,o,_,rfl,trivial,fun _=>rfl⟩))
    | ex n=>exact D0 c o _ ab (by simp) 0
    | rest=>exact D0 c o _ ab (by simp) 0
  | cons y l=>
   rcases R.mB (by simp) with ⟨hw,l',rfl,bH⟩ | ⟨c,o,k,l',rfl,bU,bH,eC,fd,_⟩
   ·
    rw [toL]
    refine ⟨.aJ 0 [],by show bQ (bF 0 0 cM b5 (some bY)) _ (fun _=>some (I.aJ 0 []))=_; rw [ai]; rfl,?_⟩
    exact al.oJ hw (av.nil.2 rfl)
   ·
    exact D0 c o k eC (by rintro a b c d rfl; exact fd) _
 | none=>
  cases (show d4=none from ag)
  obtain ⟨⟨p,q,c1⟩,af,rfl⟩:=bB (show (bF (bJ l) (bJ l) bd ad none).omap _=some v from h)
  rw [eQ] at af
  obtain ⟨_,ge,c5⟩:=yC af (Nat.le_refl _)
  rw [dz,it]
  have D1:∀l',av w σ H l l' -> w=true -> ∃a,m3 sz l' cM b5 none=some a /\ al w σ H (.aJ sz ((l.take q).drop p)) a:=by
   intro l' ah hw
   refine ⟨.aJ sz ((l'.take q).drop p),?_,al.oJ hw (av.drop _ (av.take _ ah))⟩
   show (bF (bJ l') (bJ l') cM b5 none).omap _=_
   rw [rh ah,eQ,is J O ag,af]
   show some (I.aJ sz (co p (g8 q l')))=_
   rw [dz,it]
  have emp:∀c o k,lE k sz -> (sz=0 -> False) -> al w σ H (.aJ sz []) (.slice c o 0 k):=fun c o k ab aD=>al.fP (.inr (.inl ⟨c,o,k,rfl,ab,fun h=>(aD h).elim⟩))
  cases l with
  | nil=>
   have kD:q=0:=by simpa using c5
   subst kD
   obtain rfl:p=0:=by omega
   simp only [List.take_nil,List.drop_nil]
   simp only [List.length_nil] at af
   have U:∀c,bF 0 c cM b5 none=some (0,0,c):=fun c=>by rw [is J O ag]; exact (yC af (Nat.zero_le _)).1
   rcases R.nQ with ⟨hw,rfl⟩ | rfl | ⟨c,o,k,rfl,ab,pi⟩ | ⟨cm,rfl⟩
   rotate_right
   ·
    exact ⟨.dY cm,by show (bF 0 0 cM b5 none).omap _=_; rw [U]; rfl,R⟩
   ·
    rw [toL]; exact D1 [] (av.nil.2 rfl) hw
   ·
    exact ⟨.aE,by show (bF 0 0 cM b5 none).omap _=_; rw [U]; rfl,R⟩
   ·
    cases k with
    | ex n=>
     exact ⟨.slice c (addrAt n 0 o (au E e)) 0 (.ex n),by show (bF 0 n cM b5 none).omap _=_; rw [U]; rfl,al.fP (.inr (.inl ⟨_,_,_,rfl,trivial,pi⟩))⟩
    | rest dt s cQ=>
     refine ⟨.slice c (o + 0 * s) 0 (.rest (dt + 0) s cQ),?_,?_⟩
     ·
      show ap (Nat.beq s (au E e)) ((bF 0 cQ cM b5 none).ac _) none=_
      have aG:s=au E e:=(show s=sz from ab).trans bm
      subst aG
      rw [Nat.beq_refl,U]
      show ap (Nat.blt 0 cQ || true) _ _=_
      rw [Bool.or_true]; rfl
     ·
      exact al.fP (.inr (.inl ⟨_,_,_,rfl,ab,fun h=>(pi h).elim⟩))
    | tail dt g1 s z=>
     refine ⟨.slice c o 0 (.tail dt g1 s z),?_,?_⟩
     ·
      show ap (Nat.beq 0 0) ((bF 0 0 cM b5 none).omap _) none=_
      rw [U]; rfl
     ·
      exact al.fP (.inr (.inl ⟨_,_,_,rfl,ab,pi⟩))
  | cons y l=>
   rcases R.mB (by simp) with ⟨hw,l',rfl,bH⟩ | ⟨c,o,k,l',rfl,bU,bH,eC,fd,l2,iq,vl⟩
   ·
    rw [toL]; exact D1 l' bH hw
   ·
    have U:∀c,(y :: l).length≤c -> bF (y :: l).length c cM b5 none=some (p,q,c):=fun c V=>by rw [is J O ag]; exact (yC af V).1
    obtain ⟨cg,cn,bW⟩:=y6 bH l2 iq vl ge c5
    have hlen:(((y :: l).take q).drop p).length=q - p:=by rw [List.length_drop,List.length_take,Nat.min_eq_left c5]
    have fin:∀o' k',lE k' sz -> (p < q -> o'=o + p * sz /\ rr k' (q - p)) -> al w σ H (.aJ sz (((y :: l).take q).drop p)) (.slice c o' (q - p) k'):=by
     intro o' k' kA adv
     by_cases n2:p < q
     ·
      obtain ⟨rfl,ef⟩:=adv n2
      rw [<- hlen] at ef ⊢
      refine al.nD (fun h=> ?_) bU bH kA ef cg cn bW
      have:=congrArg List.length h
      rw [hlen] at this; simp at this; omega
     ·
      have dn:((y :: l).take q).drop p= []:=List.eq_nil_of_length_eq_zero (by rw [hlen]; omega)
      rw [dn,show q - p=0 by omega]
      exact emp c o' k' kA (by omega)
    cases k with
    | ex n=>
     have ar:(y :: l).length≤n:=fd
     refine ⟨.slice c (addrAt n p o (au E e)) (q - p) (.ex (n - p)),by show (bF (y :: l).length n cM b5 none).omap _=_; rw [U n ar]; rfl,fin _ _ trivial fun n2=>⟨?_,show q - p≤n - p by omega⟩⟩
     unfold addrAt
     rw [show Nat.beq n p=false from by rw [pT]; simp; omega,bm]; rfl
    | rest dt s cQ=>
     have ar:(y :: l).length≤cQ:=fd
     have aG:s=sz:=eC
     have rF:dp (.slice e) E (.slice c o (y :: l).length (.rest dt s cQ)) cM b5 none=ap (Nat.blt p cQ || Nat.beq p 0) (some (I.slice c (Nat.add o (Nat.mul p s)) (Nat.sub q p) (.rest (Nat.add dt p) s (Nat.sub cQ p)))) (some (.slice c o 0 (.tail dt p s false))):=by
      show ap (Nat.beq s (au E e)) ((bF (y :: l).length cQ cM b5 none).ac _) none=_
      have vm:s=au E e:=aG.trans bm
      subst vm
      rw [Nat.beq_refl,U cQ ar]; rfl
     rw [rF]
     cases V:Nat.blt p cQ || Nat.beq p 0 with
     | true=>exact ⟨_,rfl,fin _ _ aG fun n2=>⟨by rw [<- aG]; rfl,show q - p≤cQ - p by omega⟩⟩
     | false=>
      rw [Bool.or_eq_false_iff] at V
      have aR:¬p < cQ:=fun h=>by rw [(cZ _ _).2 h] at V; cases V.1
      refine ⟨_,rfl,?_⟩
      have:q - p=0:=by omega
      have:=fin o (.tail dt p s false) trivial fun n2=>by omega
      rwa [show q - p=0 by omega] at this
    | tail=>cases fd
end
end
end Go.az
namespace Go.az
noncomputable section
section
variable {w:Bool} {σ:bK} {H:aa} {M:Nat} {T T':a'} {E:Env}
theorem eo {x:I} (h:b2 x=true):x.cells= [x]:=by cases x <;> first | rfl | cases h
theorem BR:∀ {l:List I},br l=true -> a3 l=l /\ ∀x∈l,x.cells.length=1
 | [],_=>⟨rfl,by simp⟩
 | x :: l,h=>by
  rw [t6] at h
  cases R:b2 x with
  | false=>rw [R] at h; cases h
  | true=>
   rw [R] at h
   obtain ⟨J,O⟩:=BR (show br l=true from h)
   refine ⟨?_,fun y aj=> ?_⟩
   ·
    show cb x.cells (a3 l)=_
    rw [J,eo R]; rfl
   ·
    rcases List.mem_cons.1 aj with rfl | aj
    ·
     rw [eo R]; rfl
    ·
     exact O y aj
theorem MV {bd ad:Option I} {m:I} {r:Nat × Nat × Nat} (af:bF 0 0 bd ad (some m)=some r) (n c:Nat):bF n c bd ad (some m)=some (0,0,0):=by
 cases ad with
 | none=>cases af
 | some ak=>
  obtain ⟨cN,g0,af⟩:=aO (show (di (some m) 0 0).ac (fun m=>(di (some ak) 0 m).ac fun h=>(di bd 0 h).omap fun l=>(l,h,m))=some r from af)
  obtain ⟨dL,gN,af⟩:=aO af
  obtain ⟨mR,ph,af⟩:=bB af
  have a8:cN=0:=Nat.le_zero.1 (nz g0 (Nat.le_refl _))
  subst a8
  have bk:dL=0:=Nat.le_zero.1 (nz gN (Nat.le_refl _))
  subst bk
  have c3:mR=0:=Nat.le_zero.1 (nz ph (Nat.le_refl _))
  subst c3
  show (di (some m) c c).ac (fun m=>(di (some ak) n m).ac fun h=>(di bd 0 h).omap fun l=>(l,h,m))=_
  have cg:di (some m) c c=some 0:=yH (d:=c) (y:=0) g0 (Nat.zero_le _)
  have cn:di (some ak) n 0=some 0:=gN
  rw [cg]; show (di (some ak) n 0).ac _=_
  rw [cn]; show (di bd 0 0).omap _=_
  rw [ph]; rfl
theorem IT {c o off n:Nat} {cs cs':List I} (e3:ip σ H c) (cB:av w σ H cs cs') (gW:bA H c o cs.length=some cs') (ao:br cs=true) (hle:n≤cs.length - off):
 av w σ H ((cs.drop off).take n) ((cs'.drop off).take n) /\ bA H c (o + off) (((cs.drop off).take n).length * 1)=some (a3 ((cs'.drop off).take n)) /\ ∀x∈(cs'.drop off).take n,x.cells.length=1:=by
 have fm:((cs.drop off).take n).length=n:=by simp; omega
 have uU:=av.take n (av.drop off cB)
 have aa1:br ((cs'.drop off).take n)=true:=by
  rw [rb uU]
  have:∀ {l:List I} n,br l=true -> br (l.drop n)=true:=by
   intro l n h
   induction l generalizing n with
   | nil=>simp; rfl
   | cons x l aH=>
    cases n with
    | zero=>exact h
    | succ n=>
     rw [t6] at h
     cases R:b2 x with
     | true=>rw [R] at h; exact aH n h
     | false=>rw [R] at h; cases h
  exact yK (this off ao) n
 obtain ⟨cg,cn⟩:=BR aa1
 have sL:bA H c (o + off) (((cs.drop off).take n).length * 1)=some (a3 ((cs'.drop off).take n)):=by
  rw [fm,Nat.mul_one,cg]
  by_cases aD:n=0
  ·
   subst aD; rw [mW]; simp
  ·
   exact vP gW (by omega)
 exact ⟨uU,sL,cn⟩
theorem OD {x x' v:I} {n:Nat} {e:TypeId} {bd ad mx cM b5 d4:Option I} (R:al w σ H x x') (J:j_ w σ H bd cM) (O:j_ w σ H ad b5) (ag:j_ w σ H mx d4) (h:ud x n (au E e) bd ad mx=some v):
 ∃a,dp (.array n e) E x' cM b5 d4=some a /\ al w σ H v a:=by
 obtain ⟨⟨cs,off⟩,aB,h⟩:=aO h
 obtain rfl:=GA aB
 simp only at h R
 obtain ⟨V,h⟩:=cd h
 rw [Bool.and_eq_true] at V
 obtain ⟨aG,ao⟩:=V
 have jY:au E e=1:=Nat.eq_of_beq_eq_true aG
 obtain ⟨l,ah,h⟩:=aO h
 rw [dz] at ah
 obtain ⟨xm,rfl⟩:=oC ah
 have hle:n≤cs.length - off:=by simpa using xm
 clear xm
 have fm:((cs.drop off).take n).length=n:=by simp; omega
 unfold m3 at h
 rcases R.c9 with ⟨hw,cs',rfl,cB⟩ | ⟨c,o,cs',rfl,e3,cB,gW⟩
 ·
  have na:∀ {a},m3 1 ((cs'.drop off).take n) cM b5 d4=some a -> dp (.array n e) E (.c9 cs' off) cM b5 d4=some a:=by
   intro a ae
   show ap (Nat.beq (au E e) 1 && br cs') ((cG n (co off cs')).ac fun l=>m3 1 l cM b5 d4) none=_
   rw [aG,rb cB,ao,dz,fL,if_pos (by rw [List.length_drop,cB.len]; omega)]
   exact ae
  have Lq:bJ ((cs'.drop off).take n)=n:=by rw [eQ]; simp; rw [cB.len]; omega
  cases mx with
  | some m=>
   obtain ⟨bY,rfl,hm⟩:=(show ∃a,d4=some a /\ al w σ H m a from ag)
   cases af:bF 0 0 bd ad (some m) with
   | some r=>
    have h:bQ (bF 0 0 bd ad (some m)) (nC 1 ((cs.drop off).take n) bd ad m) (fun _=>some (I.aJ 0 []))=some v:=h
    rw [af] at h
    cases h
    refine ⟨.aJ 0 [],na ?_,al.oJ hw (av.nil.2 rfl)⟩
    show bQ (bF 0 0 cM b5 (some bY)) _ (fun _=>some (I.aJ 0 []))=_
    rw [is J O ag,af]; rfl
   | none=>
    have h:bQ (bF 0 0 bd ad (some m)) (nC 1 ((cs.drop off).take n) bd ad m) (fun _=>some (I.aJ 0 []))=some v:=h
    rw [af] at h
    obtain ⟨⟨p,q,c1⟩,eJ,rfl⟩:=bB (show (bF (bJ ((cs.drop off).take n)) (bJ ((cs.drop off).take n)) bd ad (some m)).omap _=some v from h)
    refine ⟨.aJ 1 ((((cs'.drop off).take n).take q).drop p),na ?_,?_⟩
    ·
     show bQ (bF 0 0 cM b5 (some bY)) (nC 1 ((cs'.drop off).take n) cM b5 bY) (fun _=>some (I.aJ 0 []))=_
     rw [is J O ag,af]
     show (bF (bJ ((cs'.drop off).take n)) (bJ ((cs'.drop off).take n)) cM b5 (some bY)).omap _=_
     rw [eQ,fm] at eJ
     rw [Lq,is J O ag,eJ]
     show some (I.aJ 1 (co p (g8 q _)))=_
     rw [dz,it]
    ·
     rw [dz,it]
     exact al.oJ hw (av.drop _ (av.take _ (av.take _ (av.drop _ cB))))
  | none=>
   cases (show d4=none from ag)
   obtain ⟨⟨p,q,c1⟩,af,rfl⟩:=bB (show (bF (bJ ((cs.drop off).take n)) (bJ ((cs.drop off).take n)) bd ad none).omap _=some v from h)
   rw [eQ,fm] at af
   refine ⟨.aJ 1 ((((cs'.drop off).take n).take q).drop p),na ?_,?_⟩
   ·
    show (bF (bJ ((cs'.drop off).take n)) (bJ ((cs'.drop off).take n)) cM b5 none).omap _=_
    rw [Lq,is J O ag,af]
    show some (I.aJ 1 (co p (g8 q _)))=_
    rw [dz,it]
   ·
    rw [dz,it]
    exact al.oJ hw (av.drop _ (av.take _ (av.take _ (av.drop _ cB))))
 ·
  cases mx with
  | some m=>
   obtain ⟨bY,rfl,hm⟩:=(show ∃a,d4=some a /\ al w σ H m a from ag)
   cases af:bF 0 0 bd ad (some m) with
   | some r=>
    have h:bQ (bF 0 0 bd ad (some m)) (nC 1 ((cs.drop off).take n) bd ad m) (fun _=>some (I.aJ 0 []))=some v:=h
    rw [af] at h
    cases h
    refine ⟨.slice c (addrAt 0 0 (o + off) (au E e)) 0 (.ex 0),?_,al.fP (.inr (.inl ⟨_,_,_,rfl,trivial,fun _=>rfl⟩))⟩
    show (bF n n cM b5 (some bY)).omap _=_
    rw [is J O ag,MV af]; rfl
   | none=>
    have h:bQ (bF 0 0 bd ad (some m)) (nC 1 ((cs.drop off).take n) bd ad m) (fun _=>some (I.aJ 0 []))=some v:=h
    rw [af] at h
    obtain ⟨⟨p,q,c1⟩,eJ,rfl⟩:=bB (show (bF (bJ ((cs.drop off).take n)) (bJ ((cs.drop off).take n)) bd ad (some m)).omap _=some v from h)
    rw [eQ,fm] at eJ
    obtain ⟨U,ge,ql,adu⟩:=Ga eJ
    refine ⟨.slice c (addrAt c1 p (o + off) (au E e)) (q - p) (.ex (c1 - p)),?_,?_⟩
    ·
     show (bF n n cM b5 (some bY)).omap _=_
     rw [is J O ag,U n n (Nat.le_refl _)]; rfl
    ·
     rw [dz,it]
     obtain ⟨uU,sL,cn⟩:=IT e3 cB gW ao hle
     obtain ⟨bc,a9,bt⟩:=y6 e3 uU cn sL ge (by rw [fm]; omega)
     have hlen:((((cs.drop off).take n).take q).drop p).length=q - p:=by rw [List.length_drop,List.length_take,fm,Nat.min_eq_left (by omega)]
     by_cases n2:p < q
     ·
      have aC:addrAt c1 p (o + off) (au E e)=o + off + p * 1:=by
       unfold addrAt
       rw [show Nat.beq c1 p=false from by rw [pT]; simp; omega,jY]; rfl
      rw [aC,<- hlen]
      refine al.nD (fun h=> ?_) Nat.one_pos e3 trivial (show _≤c1 - p by rw [hlen]; omega) bc a9 bt
      have:=congrArg List.length h
      rw [hlen] at this; simp at this; omega
     ·
      have dn:((((cs.drop off).take n).take q).drop p)= []:=List.eq_nil_of_length_eq_zero (by rw [hlen]; omega)
      rw [dn,show q - p=0 by omega]
      exact al.fP (.inr (.inl ⟨_,_,_,rfl,trivial,fun h=>by cases h⟩))
  | none=>
   cases (show d4=none from ag)
   obtain ⟨⟨p,q,c1⟩,af,rfl⟩:=bB (show (bF (bJ ((cs.drop off).take n)) (bJ ((cs.drop off).take n)) bd ad none).omap _=some v from h)
   rw [eQ,fm] at af
   obtain ⟨U,ge,c5⟩:=yC af (Nat.le_refl _)
   refine ⟨.slice c (addrAt n p (o + off) (au E e)) (q - p) (.ex (n - p)),?_,?_⟩
   ·
    show (bF n n cM b5 none).omap _=_
    rw [is J O ag,U]; rfl
   ·
    rw [dz,it]
    obtain ⟨uU,sL,cn⟩:=IT e3 cB gW ao hle
    obtain ⟨bc,a9,bt⟩:=y6 e3 uU cn sL ge (by rw [fm]; exact c5)
    have hlen:((((cs.drop off).take n).take q).drop p).length=q - p:=by rw [List.length_drop,List.length_take,fm,Nat.min_eq_left c5]
    by_cases n2:p < q
    ·
     have aC:addrAt n p (o + off) (au E e)=o + off + p * 1:=by
      unfold addrAt
      rw [show Nat.beq n p=false from by rw [pT]; simp; omega,jY]; rfl
     rw [aC,<- hlen]
     refine al.nD (fun h=> ?_) Nat.one_pos e3 trivial (show _≤n - p by rw [hlen]; omega) bc a9 bt
     have:=congrArg List.length h
     rw [hlen] at this; simp at this; omega
    ·
     have dn:(((cs.drop off).take n).take q).drop p= []:=List.eq_nil_of_length_eq_zero (by rw [hlen]; omega)
     rw [dn,show q - p=0 by omega]
     exact al.fP (.inr (.inl ⟨_,_,_,rfl,trivial,fun h=>by cases h⟩))
theorem Qk {k:d5} {x x' v:I} {bd ad mx cM b5 d4:Option I} (R:al w σ H x x') (J:j_ w σ H bd cM) (O:j_ w σ H ad b5) (ag:j_ w σ H mx d4) (h:dp k E x bd ad mx=some v):
 ∃a,dp k E x' cM b5 d4=some a /\ al w σ H v a:=by
 cases k with
 | string=>
  obtain ⟨s,aG,h⟩:=aO (show ((f_ x).ac fun s=>match mx with
   | none=>(bF s.length s.length bd ad none).omap fun r=>I.str ((s.take r.2.1).drop r.1)
   | some _=>none)=some v from h)
  cases mx with
  | some m=>cases h
  | none=>
   cases (show d4=none from ag)
   obtain ⟨r,af,rfl⟩:=bB (show (bF s.length s.length bd ad none).omap _=some v from h)
   refine ⟨_,?_,al.str⟩
   show ((f_ x').ac fun s=>(bF s.length s.length cM b5 none).omap fun r=>I.str ((s.take r.2.1).drop r.1))=_
   rw [R.uL,aG]
   show (bF s.length s.length cM b5 none).omap _=_
   rw [is J O ag,af]; rfl
 | slice e=>
  cases aB:asSlice x with
  | some q=>
   obtain rfl:=hv aB
   obtain ⟨c,V,rfl⟩:=R.slice
   exact Uk J O ag V h
  | none=>
   replace h:=show bQ (asSlice x) (ap (du x) ((bF 0 0 bd ad mx).omap fun _=>x) (uc (au E e) x bd ad mx)) (fun q=>oS q.2.2.2 (au E e) q.1 q.2.1 q.2.2.1 bd ad mx)=some v from h
   rw [aB,fM] at h
   cases ar:du x with
   | true=>
    rw [ar] at h
    rcases iS ar with rfl | ⟨cm,rfl⟩
    ·
     obtain rfl:=R.aE
     obtain ⟨r,af,rfl⟩:=bB (show (bF 0 0 bd ad mx).omap _=some v from h)
     refine ⟨.aE,?_,al.CI⟩
     show (bF 0 0 cM b5 d4).omap _=_
     rw [is J O ag,af]; rfl
    ·
     obtain rfl:=R.dY
     obtain ⟨r,af,rfl⟩:=bB (show (bF 0 0 bd ad mx).omap _=some v from h)
     refine ⟨.dY cm,?_,al.Wm⟩
     show (bF 0 0 cM b5 d4).omap _=_
     rw [is J O ag,af]; rfl
   | false=>
    rw [ar] at h
    exact OC R J O ag h
 | array n e=>
  replace h:=show (bQ (ec x) (ud x n (au E e) bd ad mx) fun q=>(bF n n bd ad mx).omap fun r=>I.slice q.1 (addrAt r.2.2 r.1 q.2 (au E e)) (Nat.sub r.2.1 r.1) (.ex (Nat.sub r.2.2 r.1)))=some v from h
  cases aB:ec x with
  | some q=>
   rw [aB,fN] at h
   obtain rfl:=l6 aB
   obtain ⟨c,V,rfl⟩:=R.ptr
   obtain ⟨r,af,rfl⟩:=bB h
   refine ⟨.slice c (addrAt r.2.2 r.1 q.2 (au E e)) (Nat.sub r.2.1 r.1) (.ex (Nat.sub r.2.2 r.1)),?_,al.kR V⟩
   show (bF n n cM b5 d4).omap _=_
   rw [is J O ag,af]; rfl
  | none=>
   rw [aB,fM] at h
   exact OD R J O ag h
 | _=>cases h
theorem Wp {n:Nat} {x x' v:I} (R:al w σ H x x') (h:k0 n x=some v):∃a,k0 n x'=some a /\ al w σ H v a:=by
 unfold k0 at h
 cases aB:asSlice x with
 | some q=>
  rw [aB,fN] at h
  obtain rfl:=hv aB
  obtain ⟨c,V,rfl⟩:=R.slice
  cases bh:xe q.2.2.2 with
  | true=>rw [bh] at h; cases h
  | false=>
   rw [bh] at h
   replace h:=show ap (Nat.blt q.2.2.1 n) none (some (I.ptr q.1 q.2.1))=some v from h
   cases ah:Nat.blt q.2.2.1 n with
   | true=>rw [ah] at h; cases h
   | false=>
    rw [ah] at h; cases h
    refine ⟨.ptr c q.2.1,?_,al.uA V⟩
    show ap (xe q.2.2.2) none (ap (Nat.blt q.2.2.1 n) none (some (I.ptr c q.2.1)))=_
    rw [bh,ah]; rfl
 | none=>
  rw [aB,fM] at h
  obtain ⟨⟨sz,l⟩,ah,h⟩:=aO h
  obtain rfl:=q0 ah
  simp only at h R
  obtain ⟨V,h⟩:=cd h
  obtain ⟨r,af,rfl⟩:=bB h
  have AD:=V
  rw [Bool.and_eq_true,Bool.and_eq_true] at V
  obtain ⟨J,O,ag⟩:=V
  obtain rfl:sz=1:=Nat.eq_of_beq_eq_true J
  rw [cZ] at O
  obtain ⟨xm,rfl⟩:=oC af
  have hle:n≤l.length:=xm
  clear xm
  rcases R.mB (by intro h; rw [h] at hle; simp at hle; omega) with ⟨hw,l',rfl,cC⟩ | ⟨c,o,k,l',rfl,_,e3,_,ab,cC,pb,gW⟩
  ·
   refine ⟨.c9 (l'.take n) 0,?_,al.CH hw (av.take n cC)⟩
   show ap (Nat.beq 1 1 && (Nat.blt 0 n && br l')) ((cG n l').omap fun l=>I.c9 l 0) none=_
   rw [rb cC,AD,fL,if_pos (by rw [cC.len]; exact hle)]; rfl
  ·
   have tg:br l'=true:=by rw [rb cC]; exact ag
   obtain ⟨cg,_⟩:=BR tg
   rw [Nat.mul_one,cg] at gW
   refine ⟨.ptr c (o + 0),?_,al.C8 e3 (av.take n cC) ?_⟩
   ·
    have bh:xe k=false:=by cases k <;> first | rfl | exact ab.elim
    show ap (xe k) none (ap (Nat.blt l.length n) none (some (I.ptr c o)))=_
    rw [bh,show Nat.blt l.length n=false from Bool.eq_false_iff.2 fun h=>by rw [cZ] at h; omega]; rfl
   ·
    have:=vP (i:=0) (k:=n) gW (by omega)
    rw [show (l.take n).length=n by simp; omega]
    simpa using this
theorem Ul {k:d5} {x x' v:I} (R:al w σ H x x') (h:hh k E x=some v):hh k E x'=some v /\ al w σ H v v:=by
 cases k with
 | string=>
  obtain ⟨s,aG,rfl⟩:=bB (show (f_ x).omap _=some v from h)
  exact ⟨by show (f_ x').omap _=_; rw [R.uL,aG]; rfl,al.int⟩
 | array n e=>cases h; exact ⟨rfl,al.int⟩
 | ptr a=>
  replace h:=show (match aU E a with | .array n _=>some (I.int .i64 (.ofNat n)) | _=>none)=some v from h
  refine ⟨h,?_⟩
  split at h
  ·
   cases h; exact al.int
  ·
   cases h
 | slice e=>
  replace h:=show bQ (asSlice x) (ap (du x) (some (I.int .i64 (.ofNat 0))) ((fj x).omap fun q=> .int .i64 (.ofNat (bJ q.2)))) (fun q=>some (.int .i64 (.ofNat q.2.2.1)))=some v from h
  cases aB:asSlice x with
  | some q=>
   rw [aB] at h; cases h
   obtain rfl:=hv aB
   obtain ⟨c,V,rfl⟩:=R.slice
   exact ⟨rfl,al.int⟩
  | none=>
   rw [aB,fM] at h
   cases ar:du x with
   | true=>
    rw [ar] at h; cases h
    rcases iS ar with rfl | ⟨cm,rfl⟩
    ·
     obtain rfl:=R.aE
     exact ⟨rfl,al.int⟩
    ·
     obtain rfl:=R.dY
     exact ⟨rfl,al.int⟩
   | false=>
    rw [ar] at h
    obtain ⟨⟨sz,l⟩,ah,rfl⟩:=bB (show (fj x).omap _=some v from h)
    obtain rfl:=q0 ah
    refine ⟨?_,al.int⟩
    cases l with
    | nil=>rcases R.nQ with ⟨_,rfl⟩ | rfl | ⟨c,o,k,rfl,_⟩ | ⟨cm,rfl⟩ <;> rfl
    | cons y l=>
     rcases R.mB (by simp) with ⟨_,l',rfl,cC⟩ | ⟨c,o,k,l',rfl,_⟩
     ·
      show some (I.int .i64 (.ofNat (bJ l')))=_
      rw [rh cC]
     ·
      show some (I.int .i64 (.ofNat (y :: l).length))=some (I.int .i64 (.ofNat (bJ (y :: l))))
      rw [eQ]
 | _=>cases h
theorem Um {k:d5} {x x' v:I} (R:al w σ H x x') (h:rn k x=some v):rn k x'=some v /\ al w σ H v v:=by
 cases k with
 | slice e=>
  replace h:=show bQ (asSlice x) (ap (du x) (some (I.int .i64 (.ofNat 0))) none) (fun q=>zX q.2.2.2)=some v from h
  cases aB:asSlice x with
  | some q=>
   rw [aB,fN] at h
   obtain rfl:=hv aB
   obtain ⟨c,V,rfl⟩:=R.slice
   refine ⟨h,?_⟩
   unfold zX at h
   split at h
   ·
    cases h; exact al.int
   ·
    cases h
  | none=>
   rw [aB,fM] at h
   obtain ⟨ar,h⟩:=cd h
   cases h
   rcases iS ar with rfl | ⟨cm,rfl⟩
   ·
    obtain rfl:=R.aE
    exact ⟨rfl,al.int⟩
   ·
    obtain rfl:=R.dY
    exact ⟨rfl,al.int⟩
 | _=>cases h
theorem Si {k:d5} {x x' v:I} {i:Nat} (R:al w σ H x x') (h:mi k E x i=some v):∃a,mi k E x' i=some a /\ al w σ H v a:=by
 cases k with
 | string=>
  obtain ⟨s,aG,h⟩:=aO (show ((f_ x).ac fun s=>(s[i]?).omap fun c=>I.int .u8 (.ofNat c.toNat))=some v from h)
  obtain ⟨c,V,rfl⟩:=bB h
  refine ⟨_,?_,al.int⟩
  show ((f_ x').ac fun s=>(s[i]?).omap fun c=>I.int .u8 (.ofNat c.toNat))=_
  rw [R.uL,aG]; show (s[i]?).omap _=_; rw [V]; rfl
 | array n e=>
  obtain ⟨l,ah,h⟩:=aO (show ((gI x).ac fun cs=>ap (Nat.blt i n) (ek E e cs (Nat.mul i (au E e))) none)=some v from h)
  obtain rfl:=nv ah
  obtain ⟨l',cC,rfl⟩:=R.agg
  obtain ⟨J,O⟩:=cd h
  obtain ⟨a,ae,ag⟩:=Cb cC O
  exact ⟨a,by show ap (Nat.blt i n) (ek E e l' (Nat.mul i (au E e))) none=_; rw [J,ae]; rfl,ag⟩
 | _=>cases h
theorem Bl {pl:Nat -> Option (Nat × Nat)} (k:g3 w σ H M T T'):∀ {ps:List (Nat × Operand)} {l r x:List I},av w σ H l r -> dV M pl T ps l=some x -> ∃y,dV M pl T' ps r=some y /\ av w σ H x y
 | [],l,r,x,h,R=>by cases R; exact ⟨r,rfl,h⟩
 | (i,p) :: ps,l,r,x,h,R=>by
  rw [IM] at R ⊢
  obtain ⟨q,aB,R⟩:=aO R
  obtain ⟨v,ak,R⟩:=aO R
  obtain ⟨J,R⟩:=cd (show ap (Nat.beq (bJ v.cells) q.2) ((dC v.cells q.1 l).ac _) none=some x from R)
  obtain ⟨z,ai,R⟩:=aO R
  obtain ⟨a,ae,Lr⟩:=eI k ak
  obtain ⟨u,hu,adw⟩:=Jq h Lr.cells ai
  obtain ⟨y,aj,adx⟩:=Bl k adw R
  refine ⟨y,?_,adx⟩
  rw [aB]; show (aK M p T').ac _=_
  rw [ae]; show ap (Nat.beq (bJ a.cells) q.2) ((dC a.cells q.1 r).ac _) none=_
  rw [rh Lr.cells,J,hu]
  exact aj
def C9 (E:Env) (F:d5 -> I -> Option I) (as:List I) (bp:List TypeId):Option I:=match as with
 | x :: r=>(match r with | []=>(match bp with | t :: _=>F (aU E t) x | []=>none) | _ :: _=>none)
 | []=>none
def ly (E:Env):Prop:=∀w σ H t z,cr E t=some z -> al w σ H z z
theorem Sj (eW:ly E) (k:g3 w σ H M T T') {o:Op} {v:I} (h:lx M o E T=some v):∃a,lx M o E T'=some a /\ al w σ H v a:=by
 cases o with
 | move x=>exact eI k h
 | assign x=>exact eI k h
 | pick c x y=>
  obtain ⟨u,hu,h⟩:=aO (show ((aK M c T).ac fun v=>(e_ v).ac fun t=>ap t (aK M x T) (aK M y T))=some v from h)
  obtain ⟨t,bh,h⟩:=aO h
  obtain ⟨fs,d3,af⟩:=eI k hu
  show ∃a,((aK M c T').ac fun v=>(e_ v).ac fun t=>ap t (aK M x T') (aK M y T'))=some a /\ _
  rw [d3]
  show ∃a,((e_ fs).ac fun t=>ap t (aK M x T') (aK M y T'))=some a /\ _
  rw [af.asBool,bh]
  cases t with
  | true=>exact eI k h
  | false=>exact eI k h
 | nilCheck x=>
  obtain ⟨u,hu,h⟩:=aO (show (aK M x T).ac nE=some v from h)
  obtain ⟨fs,d3,af⟩:=eI k hu
  obtain ⟨a,ae,ak⟩:=Sh af h
  exact ⟨a,by show (aK M x T').ac nE=_; rw [d3]; exact ae,ak⟩
 | binOp op t x y L8=>
  obtain ⟨u,hu,h⟩:=aO (show ((aK M x T).ac fun x=>(aK M y T).ac fun y=>hN (aU E t) (E.flat t) op x y)=some v from h)
  obtain ⟨z,ai,h⟩:=aO h
  obtain ⟨fs,d3,af⟩:=eI k hu
  obtain ⟨kJ,fA,aG⟩:=eI k ai
  obtain ⟨a,ae,ak⟩:=Uh af aG h
  exact ⟨a,by show ((aK M x T').ac fun x=>(aK M y T').ac fun y=>hN (aU E t) (E.flat t) op x y)=_; rw [d3]; show (aK M y T').ac _=_; rw [fA]; exact ae,ak⟩
 | unOp op t x=>
  obtain ⟨u,hu,h⟩:=aO (show (aK M x T).ac (p6 op)=some v from h)
  obtain ⟨fs,d3,af⟩:=eI k hu
  obtain ⟨a,ae,ak⟩:=Wo af h
  exact ⟨a,by show (aK M x T').ac (p6 op)=_; rw [d3]; exact ae,ak⟩
 | convert s d x=>
  obtain ⟨u,hu,h⟩:=aO (show (aK M x T).ac (kV (aU E s) (aU E d))=some v from h)
  obtain ⟨fs,d3,af⟩:=eI k hu
  obtain ⟨a,ae,ak⟩:=Ui af h
  exact ⟨a,by show (aK M x T').ac (kV (aU E s) (aU E d))=_; rw [d3]; exact ae,ak⟩
 | makeFunc fn x y=>
  cases fn with
  | func f=>
   obtain ⟨u,hu,h⟩:=aO (show ((c0 M x.toList T).ac fun a=>(c0 M y.toList T).omap fun c=>I.func f a c)=some v from h)
   obtain ⟨z,ai,rfl⟩:=bB h
   obtain ⟨fs,d3,af⟩:=uB k hu
   obtain ⟨kJ,fA,aG⟩:=uB k ai
   refine ⟨.func f fs kJ,?_,by simp only [al]; exact ⟨fs,kJ,af,aG,rfl⟩⟩
   show ((c0 M x.toList T').ac fun a=>(c0 M y.toList T').omap fun c=>I.func f a c)=_
   rw [d3]; show (c0 M y.toList T').omap _=_; rw [fA]; rfl
  | _=>cases h
 | makeInterface t x=>
  obtain ⟨J,h⟩:=cd (show ap (ws (aU E t)) ((aK M x T).omap (I.iface t ·)) none=some v from h)
  obtain ⟨u,hu,rfl⟩:=bB h
  obtain ⟨fs,d3,af⟩:=eI k hu
  refine ⟨.iface t fs,?_,by simp only [al]; exact ⟨fs,af,rfl⟩⟩
  show ap (ws (aU E t)) ((aK M x T').omap (I.iface t ·)) none=_
  rw [J,d3]; rfl
 | fieldAddr s x f=>
  obtain ⟨p,aR,h⟩:=aO (show ((kS (aU E s) f).ac fun p=>ap (Nat.blt 0 (au E p.2)) ((aK M x T).ac fun v=>kk v p.1) none)=some v from h)
  obtain ⟨J,h⟩:=cd h
  obtain ⟨u,hu,h⟩:=aO h
  obtain ⟨fs,d3,af⟩:=eI k hu
  obtain ⟨a,ae,ak⟩:=Ic af h
  refine ⟨a,?_,ak⟩
  show ((kS (aU E s) f).ac fun p=>ap (Nat.blt 0 (au E p.2)) ((aK M x T').ac fun v=>kk v p.1) none)=_
  rw [aR]; show ap (Nat.blt 0 (au E p.2)) ((aK M x T').ac fun v=>kk v p.1) none=_
  rw [J,d3]; exact ae
 | field s x f=>
  obtain ⟨p,aR,h⟩:=aO (show ((kS (aU E s) f).ac fun p=>(aK M x T).ac fun v=>(gI v).ac fun cs=>ek E p.2 cs p.1)=some v from h)
  obtain ⟨u,hu,h⟩:=aO h
  obtain ⟨l,ah,h⟩:=aO h
  obtain rfl:=nv ah
  obtain ⟨fs,d3,af⟩:=eI k hu
  obtain ⟨l',cC,rfl⟩:=af.agg
  obtain ⟨a,ae,ak⟩:=Cb cC h
  refine ⟨a,?_,ak⟩
  show ((kS (aU E s) f).ac fun p=>(aK M x T').ac fun v=>(gI v).ac fun cs=>ek E p.2 cs p.1)=_
  rw [aR]; show ((aK M x T').ac fun v=>(gI v).ac fun cs=>ek E p.2 cs p.1)=_
  rw [d3]; exact ae
 | indexAddr t x i=>
  obtain ⟨u,hu,h⟩:=aO (show ((aK M x T).ac fun x=>(aK M i T).ac fun i=>(dH i).ac fun i=>e9 (aU E t) E x i)=some v from h)
  obtain ⟨z,ai,h⟩:=aO h
  obtain ⟨n,ar,h⟩:=aO h
  obtain ⟨fs,d3,af⟩:=eI k hu
  obtain ⟨kJ,fA,aG⟩:=eI k ai
  obtain ⟨a,ae,ak⟩:=Qj af h
  refine ⟨a,?_,ak⟩
  show ((aK M x T').ac fun x=>(aK M i T').ac fun i=>(dH i).ac fun i=>e9 (aU E t) E x i)=_
  rw [d3]; show ((aK M i T').ac fun i=>(dH i).ac fun i=>e9 (aU E t) E fs i)=_
  rw [fA]; show ((dH kJ).ac fun i=>e9 (aU E t) E fs i)=_
  rw [ur aG,ar]; exact ae
 | index t x i=>
  obtain ⟨u,hu,h⟩:=aO (show ((aK M x T).ac fun x=>(aK M i T).ac fun i=>(dH i).ac fun i=>mi (aU E t) E x i)=some v from h)
  obtain ⟨z,ai,h⟩:=aO h
  obtain ⟨n,ar,h⟩:=aO h
  obtain ⟨fs,d3,af⟩:=eI k hu
  obtain ⟨kJ,fA,aG⟩:=eI k ai
  obtain ⟨a,ae,ak⟩:=Si af h
  refine ⟨a,?_,ak⟩
  show ((aK M x T').ac fun x=>(aK M i T').ac fun i=>(dH i).ac fun i=>mi (aU E t) E x i)=_
  rw [d3]; show ((aK M i T').ac fun i=>(dH i).ac fun i=>mi (aU E t) E fs i)=_
  rw [fA]; show ((dH kJ).ac fun i=>mi (aU E t) E fs i)=_
  rw [ur aG,ar]; exact ae
 | slice t x bd ad mx=>
  obtain ⟨u,hu,h⟩:=aO (show ((aK M x T).ac fun x=>(fk M bd T).ac fun bd=>(fk M ad T).ac fun ad=>(fk M mx T).ac fun mx=>dp (aU E t) E x bd ad mx)=some v from h)
  obtain ⟨l,ah,h⟩:=aO h
  obtain ⟨aM,ady,h⟩:=aO h
  obtain ⟨m,hm,h⟩:=aO h
  obtain ⟨fs,d3,af⟩:=eI k hu
  obtain ⟨l',cC,cf⟩:=CJ k ah
  obtain ⟨EU,aa2,ck⟩:=CJ k ady
  obtain ⟨bY,EV,kH⟩:=CJ k hm
  obtain ⟨a,ae,ak⟩:=Qk af cf ck kH h
  refine ⟨a,?_,ak⟩
  show ((aK M x T').ac fun x=>(fk M bd T').ac fun bd=>(fk M ad T').ac fun ad=>(fk M mx T').ac fun mx=>dp (aU E t) E x bd ad mx)=_
  rw [d3,cC,aa2,EV]; exact ae
 | sliceToArrayPointer t x=>
  replace h:=show (match aU E t with | .array n _=>(aK M x T).ac (k0 n) | _=>none)=some v from h
  show ∃a,(match aU E t with | .array n _=>(aK M x T').ac (k0 n) | _=>none)=some a /\ _
  cases ab:aU E t with
  | array n e=>
   rw [ab] at h
   obtain ⟨u,hu,h⟩:=aO (show (aK M x T).ac (k0 n)=some v from h)
   obtain ⟨fs,d3,af⟩:=eI k hu
   obtain ⟨a,ae,ak⟩:=Wp af h
   exact ⟨a,by show (aK M x T').ac (k0 n)=_; rw [d3]; exact ae,ak⟩
  | _=>rw [ab] at h; cases h
 | extract x i=>
  obtain ⟨u,hu,h⟩:=aO (show ((aK M x T).ac fun v=>(sr v).ac fun l=>fy l i)=some v from h)
  obtain ⟨l,ah,h⟩:=aO h
  obtain rfl:=FW ah
  obtain ⟨fs,d3,af⟩:=eI k hu
  obtain ⟨l',cC,rfl⟩:=af.tuple
  obtain ⟨a,ae,ak⟩:=zv cC h
  exact ⟨a,by show ((aK M x T').ac fun v=>(sr v).ac fun l=>fy l i)=_; rw [d3]; exact ae,ak⟩
 | build t ps=>
  obtain ⟨J,h⟩:=cd (show ap (re (aU E t)) ((cr E t).ac fun z=>(dV M (kU (aU E t) E) T ps.toList z.cells).omap I.agg) none=some v from h)
  obtain ⟨z,ai,h⟩:=aO h
  obtain ⟨r,af,rfl⟩:=bB h
  obtain ⟨y,aj,ak⟩:=Bl k (eW w σ H t z ai).cells af
  refine ⟨.agg y,?_,al.mf ak⟩
  show ap (re (aU E t)) ((cr E t).ac fun z=>(dV M (kU (aU E t) E) T' ps.toList z.cells).omap I.agg) none=_
  rw [J,ai]; show (dV M (kU (aU E t) E) T' ps.toList z.cells).omap I.agg=_
  rw [aj]; rfl
 | call c=>
  replace h:=show (match c.callee with | .builtin b=>(c0 M c.args.toList T).ac fun as=>jm b E as c.argTypes.toList | _=>none)=some v from h
  show ∃a,(match c.callee with | .builtin b=>(c0 M c.args.toList T').ac fun as=>jm b E as c.argTypes.toList | _=>none)=some a /\ _
  split at h
  ·
   rename_i b U
   obtain ⟨as,has,h⟩:=aO h
   obtain ⟨h7,aa3,af⟩:=uB k has
   have fin:∀ {v},jm b E as c.argTypes.toList=some v -> ∃a,jm b E h7 c.argTypes.toList=some a /\ al w σ H v a:=by
    intro v h
    have one:∀(F:d5 -> I -> Option I),C9 E F as c.argTypes.toList=some v -> (∀ {k x x' v},al w σ H x x' -> F k x=some v -> F k x'=some v /\ al w σ H v v) ->
     ∃a,C9 E F h7 c.argTypes.toList=some a /\ al w σ H v a:=by
     intro F h iP
     cases as with
     | nil=>cases h
     | cons x r=>
      cases r with
      | cons=>cases h
      | nil=>
       obtain ⟨x',bi,R,lU,rfl⟩:=av.cons.1 af
       rw [av.nil] at lU; subst lU
       unfold C9 at h ⊢
       simp only at h ⊢
       cases hS:c.argTypes.toList with
       | nil=>rw [hS] at h; cases h
       | cons t bp=>
        rw [hS] at h
        obtain ⟨J,O⟩:=iP R h
        exact ⟨v,J,O⟩
    cases b with
    | len=>exact one (fun k x=>hh k E x) h (fun R h=>Ul R h)
    | cap=>exact one (fun k x=>rn k x) h (fun R h=>Um R h)
    | min=>exact Jr af h
    | max=>exact Jr af h
    | _=>cases h
   obtain ⟨a,ae,ak⟩:=fin h
   exact ⟨a,by rw [aa3]; exact ae,ak⟩
  ·
   cases h
 | _=>cases h
end
end
end Go.az
namespace Go.az
noncomputable section
section
variable {w:Bool} {σ:bK} {ay H1:aa} {M:Nat} {T T':a'} {E:Env}
theorem cW.cells {b c off n:Nat} {l:List I} (r:cW w σ ay H1) (U:σ b=some c) (h:bA ay b off n=some l):∃l',bA H1 c off n=some l' /\ av w σ H1 l l':=by
 by_cases aD:n=0
 ·
  subst aD; cases h; exact ⟨[],rfl,av.nil.2 rfl⟩
 rw [l5 aD] at h ⊢
 obtain ⟨x,R,h⟩:=aO h
 obtain ⟨q,aB,h⟩:=aO h
 obtain ⟨tO,O,ag⟩:=aO h
 obtain rfl:=pE aB
 obtain ⟨b8,y,V,aj,af⟩:=r.dr b _ R
 rw [U] at V; cases V
 obtain ⟨l',rfl,cC⟩:=af
 obtain ⟨y,vn,eJ⟩:=IP (IQ cC off) O
 refine ⟨y,?_,?_⟩
 ·
  unfold q5
  rw [aj]
  show (cG n (co off l')).ac (mz q.2.2.2)=_
  rw [vn]
  show mz q.2.2.2 y=_
  obtain ⟨rfl,ao⟩:=sm ag
  cases hw:q.2.2.2 with
  | true=>rfl
  | false=>show ap (br y) (some y) none=_; rw [rb eJ,ao hw]; rfl
 ·
  obtain ⟨rfl,_⟩:=sm ag
  exact eJ
theorem cW.cell {b c off:Nat} {v:I} (r:cW w σ ay H1) (U:σ b=some c) (h:cellAt ay b off=some v):∃a,cellAt H1 c off=some a /\ al w σ H1 v a:=by
 obtain ⟨x,R,h⟩:=aO h
 obtain ⟨q,aB,h⟩:=aO h
 obtain ⟨v0,O,ag⟩:=aO h
 obtain rfl:=pE aB
 obtain ⟨b8,y,V,aj,af⟩:=r.dr b _ R
 rw [U] at V; cases V
 obtain ⟨l',rfl,cC⟩:=af
 obtain ⟨a,ae,eJ⟩:=zv cC O
 have adz:v0=v /\ (q.2.2.2=false -> b2 v0=true):=by
  cases hw:q.2.2.2 with
  | true=>rw [hw] at ag; cases ag; exact ⟨rfl,fun h=>by cases h⟩
  | false=>
   rw [hw] at ag
   obtain ⟨aP,bH⟩:=cd (show ap (b2 v0) (some v0) none=some v from ag)
   cases bH; exact ⟨rfl,fun _=>aP⟩
 obtain ⟨rfl,eR⟩:=adz
 refine ⟨a,?_,eJ⟩
 unfold cellAt
 rw [aj]
 show (fy l' off).ac (sX q.2.2.2)=_
 rw [ae]
 show sX q.2.2.2 a=_
 cases hw:q.2.2.2 with
 | true=>rfl
 | false=>show ap (b2 a) (some a) none=_; rw [eJ.b2,eR hw]; rfl
theorem cW.load {t:TypeId} {b c off:Nat} {v:I} (r:cW w σ ay H1) (U:σ b=some c) (h:dw E ay t b off=some v):∃a,dw E H1 t c off=some a /\ al w σ H1 v a:=by
 unfold dw rp at h ⊢
 cases ad:E.ty t with
 | none=>rw [ad] at h; cases h
 | some i=>
  rw [ad] at h
  simp only at h ⊢
  cases hE:i.agg with
  | true=>
   rw [hE] at h
   obtain ⟨l,ah,rfl⟩:=bB (show (bA ay b off i.size).omap I.agg=some v from h)
   obtain ⟨l',cC,J⟩:=r.cells U ah
   exact ⟨.agg l',by show (bA H1 c off i.size).omap I.agg=_; rw [cC]; rfl,al.mf J⟩
  | false=>
   rw [hE] at h
   exact r.cell U h
theorem Nt {t:TypeId} {c o off:Nat} {cs l':List I} {v:I} (cB:av w σ H1 cs l') (gW:bA H1 c o cs.length=some l') (h:ek E t cs off=some v):∃a,dw E H1 t c (o + off)=some a /\ al w σ H1 v a:=by
 unfold ek at h
 unfold dw rp
 cases ad:E.ty t with
 | none=>rw [ad] at h; cases h
 | some i=>
  rw [ad] at h
  simp only at h ⊢
  cases hE:i.agg with
  | true=>
   rw [hE] at h
   obtain ⟨x,R,rfl⟩:=bB (show (cG i.size (co off cs)).omap I.agg=some v from h)
   rw [dz] at R
   obtain ⟨hle,rfl⟩:=oC R
   refine ⟨.agg ((l'.drop off).take i.size),?_,al.mf (av.take _ (av.drop _ cB))⟩
   show (bA H1 c (o + off) i.size).omap I.agg=_
   by_cases aD:i.size=0
   ·
    rw [aD,mW]; simp [Option.omap]
   ·
    rw [vP gW (by rw [List.length_drop] at hle; omega)]; rfl
  | false=>
   rw [hE] at h
   obtain ⟨a,ae,J⟩:=zv cB h
   rw [ke] at ae
   refine ⟨a,?_,J⟩
   show cellAt H1 c (o + off)=_
   rw [ln gW (by rw [<- cB.len]; exact (List.getElem?_eq_some_iff.1 ae).1)]; exact ae
theorem Ie (r:cW w σ ay H1) (k:g3 w σ H1 M T T') {o:Op} {v:I} (h:eG M o E T ay=some v):∃a,eG M o E T' H1=some a /\ al w σ H1 v a:=by
 cases o with
 | load t x=>
  obtain ⟨u,hu,h⟩:=aO (show ((aK M x T).ac fun v=>bQ (ec v) ((ju v).ac fun q=>ek E t q.1 q.2) fun q=>dw E ay t q.1 q.2)=some v from h)
  obtain ⟨fs,d3,af⟩:=eI k hu
  show ∃a,((aK M x T').ac fun v=>bQ (ec v) ((ju v).ac fun q=>ek E t q.1 q.2) fun q=>dw E H1 t q.1 q.2)=some a /\ _
  rw [d3]
  show ∃a,(bQ (ec fs) ((ju fs).ac fun q=>ek E t q.1 q.2) fun q=>dw E H1 t q.1 q.2)=some a /\ _
  cases aB:ec u with
  | some q=>
   rw [aB,fN] at h
   obtain rfl:=l6 aB
   obtain ⟨c,V,rfl⟩:=af.ptr
   exact r.load V h
  | none=>
   rw [aB,fM] at h
   obtain ⟨⟨cs,off⟩,ah,h⟩:=aO h
   obtain rfl:=GA ah
   rcases af.c9 with ⟨_,cs',rfl,J⟩ | ⟨c,o,cs',rfl,_,J,O⟩
   ·
    exact Cb J h
   ·
    exact Nt J O h
 | convert s d x=>
  replace h:=show (match aU E s with
   | .slice e=>match hX (aU E e) with
    | true=>match aU E d with
     | .string=>(aK M x T).ac (strOf ay)
     | .slice _=>match Nat.beq s d with | true=>(aK M x T).ac (jN e ay) | false=>none
     | _=>none
    | false=>none
   | _=>none)=some v from h
  show ∃a,(match aU E s with
   | .slice e=>match hX (aU E e) with
    | true=>match aU E d with
     | .string=>(aK M x T').ac (strOf H1)
     | .slice _=>match Nat.beq s d with | true=>(aK M x T').ac (jN e H1) | false=>none
     | _=>none
    | false=>none
   | _=>none)=some a /\ _
  have DU:∀ {y ch v},al w σ H1 y ch -> strOf ay y=some v -> strOf H1 ch=some v /\ al w σ H1 v v:=by
   intro y ch v af h
   replace h:=show bQ (asSlice y) (ap (du y) (some (I.str [])) ((fj y).ac fun q=>ap (Nat.beq q.1 1) ((gG (a3 q.2)).omap .str) none)) (fun q=>((bA ay q.1 q.2.1 q.2.2.1).ac gG).omap .str)=some v from h
   cases aB:asSlice y with
   | some q=>
    rw [aB,fN] at h
    obtain rfl:=hv aB
    obtain ⟨c,V,rfl⟩:=af.slice
    obtain ⟨bs,gz,rfl⟩:=bB h
    obtain ⟨l,ah,gz⟩:=aO gz
    obtain ⟨l',cC,eJ⟩:=r.cells V ah
    refine ⟨?_,al.str⟩
    show ((bA H1 c q.2.1 q.2.2.1).ac gG).omap I.str=_
    rw [cC]; show (gG l').omap I.str=_
    rw [yO eJ,gz]; rfl
   | none=>
    rw [aB,fM] at h
    cases ar:du y with
    | true=>
     rw [ar] at h; cases h
     rcases iS ar with rfl | ⟨cm,rfl⟩
     ·
      obtain rfl:=af.aE
      exact ⟨rfl,al.str⟩
     ·
      obtain rfl:=af.dY
      exact ⟨rfl,al.str⟩
    | false=>
     rw [ar] at h
     obtain ⟨⟨sz,l⟩,ah,h⟩:=aO (show ((fj y).ac fun q=>ap (Nat.beq q.1 1) ((gG (a3 q.2)).omap I.str) none)=some v from h)
     obtain rfl:=q0 ah
     obtain ⟨aG,h⟩:=cd h
     obtain rfl:sz=1:=Nat.eq_of_beq_eq_true aG
     obtain ⟨bs,gz,rfl⟩:=bB h
     refine ⟨?_,al.str⟩
     cases l with
     | nil=>
      have:bs= []:=by
       have gz:some []=some bs:=gz
       cases gz; rfl
      subst this
      rcases af.nQ with ⟨_,rfl⟩ | rfl | ⟨c,o,k,rfl,_⟩ | ⟨cm,rfl⟩ <;> rfl
     | cons z l=>
      rcases af.mB (by simp) with ⟨_,l',rfl,cC⟩ | ⟨c,o,k,l',rfl,_,_,_,_,cC,_,gW⟩
      ·
       show (gG (a3 l')).omap I.str=_
       rw [yO (wQ cC)]
       have gz:gG (a3 (z :: l))=some bs:=gz
       rw [gz]; rfl
      ·
       show ((bA H1 c o (z :: l).length).ac gG).omap I.str=_
       rw [Nat.mul_one] at gW
       rw [gW]
       show (gG (a3 l')).omap I.str=_
       rw [yO (wQ cC)]
       have gz:gG (a3 (z :: l))=some bs:=gz
       rw [gz]; rfl
  have m_:∀ {e y ch v},al w σ H1 y ch -> jN e ay y=some v -> ∃a,jN e H1 ch=some a /\ al w σ H1 v a:=by
   intro e y ch v af h
   obtain ⟨q,aB,h⟩:=aO h
   obtain ⟨x,R,h⟩:=aO h
   obtain ⟨p,aR,h⟩:=aO h
   obtain ⟨aC,h⟩:=cd h
   cases h
   obtain rfl:=hv aB
   obtain rfl:=pE aR
   obtain ⟨c,V,rfl⟩:=af.slice
   obtain ⟨b8,z,b7,ai,eJ⟩:=r.dr _ _ R
   rw [V] at b7; cases b7
   obtain ⟨l',rfl,_⟩:=eJ
   refine ⟨_,?_,af⟩
   show (H1.m.get c).ac _=_
   rw [ai]
   show ap (p.2.2.2 && Nat.beq p.2.1 e) _ none=_
   rw [aC]; rfl
  split at h
  ·
   rename_i e ab
   split at h
   ·
    rename_i U
    split at h
    ·
     rename_i aw
     obtain ⟨u,hu,h⟩:=aO h
     obtain ⟨fs,d3,af⟩:=eI k hu
     obtain ⟨J,O⟩:=DU af h
     exact ⟨v,by rw [d3]; exact J,O⟩
    ·
     rename_i aw
     split at h
     ·
      rename_i qh
      obtain ⟨u,hu,h⟩:=aO h
      obtain ⟨fs,d3,af⟩:=eI k hu
      obtain ⟨a,J,O⟩:=m_ af h
      exact ⟨a,by rw [d3]; exact J,O⟩
     ·
      cases h
    ·
     cases h
   ·
    cases h
  ·
   cases h
 | _=>cases h
theorem Hk (eW:ly E) (k:g3 w σ H1 M T T') {o:Op} {p:bf × (Nat -> I)} (h:jn M o E T=some p):
 ∃q,jn M o E T'=some q /\ ns w σ H1 p.1 q.1 /\ ∀bn H' b c,bn b=some c -> al w bn H' (p.2 b) (q.2 c):=by
 cases o with
 | alloc t=>
  obtain ⟨z,ai,rfl⟩:=bB (show ((cr E t).omap fun z=>(bf.cells z.cells t true true,fun b=>I.ptr b 0))=some p from h)
  refine ⟨(.cells z.cells t true true,fun b=> .ptr b 0),?_,⟨_,rfl,(eW w σ H1 t z ai).cells⟩,fun _ _ _ _ U=>al.uA U⟩
  show (cr E t).omap _=_
  rw [ai]; rfl
 | box t x=>
  obtain ⟨u,hu,rfl⟩:=bB (show ((aK M x T).omap fun v=>(bf.cells v.cells t true true,fun b=>I.ptr b 0))=some p from h)
  obtain ⟨fs,d3,af⟩:=eI k hu
  refine ⟨(.cells fs.cells t true true,fun b=> .ptr b 0),?_,⟨_,rfl,af.cells⟩,fun _ _ _ _ U=>al.uA U⟩
  show (aK M x T').omap _=_
  rw [d3]; rfl
 | buildSlice t n ps=>
  replace h:=show (match aU E t with
   | .slice e=>match Nat.ble (Nat.mul n (au E e)) 16777216 with
    | true=>(cr E e).ac fun z=>(dV M (fun i=>some (Nat.mul i (au E e),au E e)) T ps.toList (cR n z.cells)).omap fun l=>(bf.cells l e true true,fun b=>I.slice b 0 n (.ex n))
    | false=>none
   | _=>none)=some p from h
  show ∃q,(match aU E t with
   | .slice e=>match Nat.ble (Nat.mul n (au E e)) 16777216 with
    | true=>(cr E e).ac fun z=>(dV M (fun i=>some (Nat.mul i (au E e),au E e)) T' ps.toList (cR n z.cells)).omap fun l=>(bf.cells l e true true,fun b=>I.slice b 0 n (.ex n))
    | false=>none
   | _=>none)=some q /\ _
  split at h
  ·
   rename_i e ab
   split at h
   ·
    rename_i U
    obtain ⟨z,ai,h⟩:=aO h
    obtain ⟨l,ah,rfl⟩:=bB h
    obtain ⟨y,aj,af⟩:=Bl k (av.rep (eW w σ H1 e z ai).cells n) ah
    simp only [U]
    refine ⟨(.cells y e true true,fun b=> .slice b 0 n (.ex n)),?_,⟨_,rfl,af⟩,fun _ _ _ _ U=>al.kR U⟩
    rw [ai]; show (dV M _ T' ps.toList (cR n z.cells)).omap _=_
    rw [aj]; rfl
   ·
    cases h
  ·
   cases h
 | makeSlice t x y=>
  replace h:=show (match aU E t with
   | .slice e=>(cr E e).ac fun z=>(aK M x T).ac fun l=>(aK M y T).ac fun c=>(dH l).ac fun l=>(dH c).ac fun c=>
    match Nat.ble l c && (Nat.ble c 1048576 && Nat.ble (iU E e) 1048576) with
    | true=>some (bf.cells (cR c z.cells) e true true,fun b=>I.slice b 0 l (.ex c))
    | false=>none
   | _=>none)=some p from h
  show ∃q,(match aU E t with
   | .slice e=>(cr E e).ac fun z=>(aK M x T').ac fun l=>(aK M y T').ac fun c=>(dH l).ac fun l=>(dH c).ac fun c=>
    match Nat.ble l c && (Nat.ble c 1048576 && Nat.ble (iU E e) 1048576) with
    | true=>some (bf.cells (cR c z.cells) e true true,fun b=>I.slice b 0 l (.ex c))
    | false=>none
   | _=>none)=some q /\ _
  split at h
  ·
   rename_i e ab
   obtain ⟨z,ai,h⟩:=aO h
   obtain ⟨u,hu,h⟩:=aO h
   obtain ⟨s,aG,h⟩:=aO h
   obtain ⟨n,ar,h⟩:=aO h
   obtain ⟨m,hm,h⟩:=aO h
   obtain ⟨fs,d3,cf⟩:=eI k hu
   obtain ⟨s',vm,ck⟩:=eI k aG
   split at h
   ·
    rename_i U
    cases h
    refine ⟨(.cells (cR m z.cells) e true true,fun b=> .slice b 0 n (.ex m)),?_,⟨_,rfl,av.rep (eW w σ H1 e z ai).cells m⟩,fun _ _ _ _ U=>al.kR U⟩
    simp only [ai,d3,vm,Bh,ur cf,ur ck,ar,hm,U]
   ·
    cases h
  ·
   cases h
 | convert s d x=>
  replace h:=show (match aU E s with
   | .string=>match aU E d with
    | .slice e=>match hX (aU E e) && Nat.beq (au E e) 1 with
     | true=>(aK M x T).ac fun v=>match v with
      | .str l=>some (bf.cells (l.map fun c=> .int .u8 (.ofNat c.toNat)) e false true,fun b=>I.slice b 0 l.length (.rest 0 (au E e) l.length))
      | _=>none
     | false=>none
    | _=>none
   | _=>none)=some p from h
  show ∃q,(match aU E s with
   | .string=>match aU E d with
    | .slice e=>match hX (aU E e) && Nat.beq (au E e) 1 with
     | true=>(aK M x T').ac fun v=>match v with
      | .str l=>some (bf.cells (l.map fun c=> .int .u8 (.ofNat c.toNat)) e false true,fun b=>I.slice b 0 l.length (.rest 0 (au E e) l.length))
      | _=>none
     | false=>none
    | _=>none
   | _=>none)=some q /\ _
  split at h
  ·
   split at h
   ·
    rename_i e ab
    split at h
    ·
     rename_i U
     obtain ⟨u,hu,h⟩:=aO h
     split at h
     ·
      cases h
      obtain ⟨fs,d3,cf⟩:=eI k hu
      obtain rfl:=Kk cf (.inr (.inr rfl))
      rename_i l
      refine ⟨(.cells (l.map fun c=> .int .u8 (.ofNat c.toNat)) e false true,fun b=> .slice b 0 l.length (.rest 0 (au E e) l.length)),by simp only [U,d3,Bh],⟨_,rfl,?_⟩,fun _ _ _ _ U=>al.kR U⟩
      have:∀l:List UInt8,av w σ H1 (l.map fun c=>I.int .u8 (.ofNat c.toNat)) (l.map fun c=>I.int .u8 (.ofNat c.toNat)):=by
       intro l
       induction l with
       | nil=>exact av.nil.2 rfl
       | cons c l aH=>exact av.cons.2 ⟨_,_,al.int,aH,rfl⟩
      exact this l
     ·
      cases h
    ·
     cases h
   ·
    cases h
  ·
   cases h
 | _=>cases h
def bK.add (σ:bK) (b c:Nat):bK:=fun a=>if a=b then some c else σ a
theorem cW.newAt {x y:bf} {c n:Nat} {H1':aa} (ar:n≤c) (r:cW w σ ay H1) (U:ns w σ H1 x y) (aD:H1.m.get c=none) (J:∀b,σ b≠some c) (hm:H1'.m=H1.m.set y c) (O:H1.next≤H1'.next) (ag:c < H1'.next):
 cW w (σ.add ay.next c) (aS ay x).2 H1' /\ jg n σ ay H1 (σ.add ay.next c) (aS ay x).2 H1':=by
 have Aq:=ar
 have ar:σ ay.next=none:=by
  cases h:σ ay.next with
  | none=>rfl
  | some c=>exact absurd (r.qq _ _ h) (Nat.lt_irrefl _)
 have cp:∀a,H1'.m.get a=if a=c then some y else H1.m.get a:=fun a=>by rw [hm]; exact bz.jo _ _ _ _
 have hle:∀b b8,σ b=some b8 -> (σ.add ay.next c) b=some b8:=by
  intro b b8 h
  unfold bK.add
  rw [if_neg (by rintro rfl; rw [ar] at h; cases h)]; exact h
 have c7:jf σ H1 (σ.add ay.next c) H1':=by
  refine ⟨hle,O,fun d aw=> ?_⟩
  have xT:d≠c:=by rintro rfl; have:=aw.2.2; rw [aD] at this; cases this
  refine ⟨fun b U=> ?_,by rw [cp,if_neg xT]⟩
  unfold bK.add at U
  split at U
  ·
   cases U; exact xT rfl
  ·
   exact aw.1 b U
 refine ⟨⟨?_,?_,?_,?_,?_,?_,?_,?_⟩,⟨c7,⟨[ay.next],rfl,fun b d U _=>by rw [cp,if_neg (by rintro rfl; exact J b U)]⟩,fun d aw h=>by rw [cp,if_neg (by omega)]; exact h⟩,fun d aw aG=>by rw [cp,if_neg (by rintro rfl; exact aw ay.next (by simp [bK.add]))] at aG; exact aG⟩
 ·
  intro b z ai
  rw [g6] at ai
  split at ai
  ·
   rename_i he; subst he
   cases ai
   exact ⟨c,y,by simp [bK.add],by rw [cp,if_pos rfl],U.mono c7⟩
  ·
   rename_i he
   obtain ⟨d,u,aw,hu,af⟩:=r.dr b z ai
   refine ⟨d,u,hle _ _ aw,?_,af.mono c7⟩
   rw [cp,if_neg (by rintro rfl; exact J b aw)]; exact hu
 ·
  intro b cv d U dx
  unfold bK.add at U dx
  split at U <;> split at dx
  ·
   omega
  ·
   cases U; exact absurd dx (J _)
  ·
   cases dx; exact absurd U (J _)
  ·
   exact r.inj _ _ _ U dx
 ·
  intro b d U
  unfold bK.add at U
  split at U
  ·
   cases U; exact ag
  ·
   exact Nat.lt_of_lt_of_le (r.lt _ _ U) O
 ·
  intro b d U
  rw [aT]
  unfold bK.add at U
  split at U
  ·
   omega
  ·
   have:=r.qq _ _ U; omega
 ·
  intro b U
  rw [aT] at U
  rw [g6,if_neg (by omega)]
  exact r.lh b (by omega)
 ·
  intro d aw
  have aw:H1'.next≤d:=aw
  rw [cp,if_neg (by omega)]
  exact r.ob d (by omega)
 ·
  intro b d U
  rw [cp]
  split
  ·
   exact ⟨y,rfl⟩
  ·
   unfold bK.add at U
   split at U
   ·
    cases U; rename_i h; exact absurd rfl h
   ·
    exact r.ex _ _ U
 ·
  intro b d U
  rw [g6]
  split
  ·
   exact ⟨x,rfl⟩
  ·
   rename_i bX
   unfold bK.add at U
   rw [if_neg bX] at U
   exact r.qr _ _ U
theorem cW.new {x y:bf} (r:cW w σ ay H1) (U:ns w σ H1 x y):cW w (σ.add ay.next H1.next) (aS ay x).2 (aS H1 y).2 /\ jg H1.next σ ay H1 (σ.add ay.next H1.next) (aS ay x).2 (aS H1 y).2:=
 cW.newAt (Nat.le_refl _) r U (r.ob _ (Nat.le_refl _)) (fun b h=>Nat.lt_irrefl _ (r.lt _ _ h)) rfl (Nat.le_succ _) (Nat.lt_succ_self _)
theorem cW.set {x y z:bf} {b c n:Nat} (r:cW w σ ay H1) (ai:ay.m.get b=some z) (U:σ b=some c) (h:ns w σ H1 x y):cW w σ (aN ay b x) (aN H1 c y) /\ jg n σ ay H1 σ (aN ay b x) (aN H1 c y):=by
 have c7:jf σ H1 σ (aN H1 c y):=by
  refine ⟨fun _ _ h=>h,Nat.le_refl _,fun d aw=>⟨aw.1,?_⟩⟩
  rw [gH,if_neg (by rintro rfl; exact aw.1 b U)]
 refine ⟨⟨?_,r.inj,r.lt,r.qq,?_,?_,fun a d aw=> ?_,fun a d aw=> ?_⟩,⟨c7,⟨[b],rfl,fun a d aw ar=>by rw [gH,if_neg (by rintro rfl; exact ar (by rw [r.inj _ _ _ aw U]; simp))]⟩,fun d _ h=>by
  obtain ⟨b8,_,b7,mI,_⟩:=r.dr b z ai
  rw [U] at b7; cases b7
  rw [gH,if_neg (by rintro rfl; rw [h] at mI; cases mI)]; exact h⟩,fun d aw aG=>by rw [gH,if_neg (by rintro rfl; exact aw b U)] at aG; exact aG⟩
 ·
  intro a u hu
  rw [gH] at hu
  split at hu
  ·
   rename_i he; subst he
   cases hu
   exact ⟨c,y,U,by rw [gH,if_pos rfl],h.mono c7⟩
  ·
   rename_i he
   obtain ⟨d,v,aw,ak,af⟩:=r.dr a u hu
   refine ⟨d,v,aw,?_,af.mono c7⟩
   rw [gH,if_neg (by rintro rfl; exact he (r.inj _ _ _ aw U))]; exact ak
 ·
  intro a ae
  have aF:=r.qq _ _ U
  have ae:ay.next≤a:=ae
  rw [gH,if_neg (by omega)]
  exact r.lh a ae
 ·
  intro a ae
  have aF:=r.lt _ _ U
  have ae:H1.next≤a:=ae
  rw [gH,if_neg (by omega)]
  exact r.ob a ae
 ·
  rw [gH]
  split
  ·
   exact ⟨y,rfl⟩
  ·
   exact r.ex _ _ aw
 ·
  rw [gH]
  split
  ·
   exact ⟨x,rfl⟩
  ·
   exact r.qr _ _ aw
def vo (w:Bool) (σ:bK) (ay H1:aa) (p q:I × aa):Prop:=∃bn,jg H1.next σ ay H1 bn p.2 q.2 /\ cW w bn p.2 q.2 /\ al w bn q.2 p.1 q.1
theorem vX {b c off:Nat} {new gM:List I} {H':aa} (r:cW w σ ay H1) (U:σ b=some c) (ar:av w σ H1 new gM) (h:bT ay b off new=some H'):
 ∃dF,bT H1 c off gM=some dF /\ cW w σ H' dF /\ jg H1.next σ ay H1 σ H' dF:=by
 obtain ⟨x,R,h⟩:=aO h
 obtain ⟨q,aB,h⟩:=aO h
 obtain rfl:=pE aB
 obtain ⟨J,h⟩:=cd (show ap q.2.2.2 (ap (br new) ((dC new off q.1).omap fun l'=>aN ay b (.cells l' q.2.1 q.2.2.1 true)) none) none=some H' from h)
 obtain ⟨O,h⟩:=cd h
 obtain ⟨l,ah,rfl⟩:=bB h
 obtain ⟨b8,y,V,aj,af⟩:=r.dr b _ R
 rw [U] at V; cases V
 obtain ⟨l',rfl,cC⟩:=af
 obtain ⟨u,hu,adA⟩:=Jq cC ar ah
 obtain ⟨bi,k'⟩:=r.set (n:=H1.next) (x:= .cells l q.2.1 q.2.2.1 true) (y:= .cells u q.2.1 q.2.2.1 true) R U ⟨u,rfl,adA⟩
 refine ⟨_,?_,bi,k'⟩
 unfold bT
 rw [aj]
 show ap q.2.2.2 (ap (br gM) ((dC gM off l').omap fun l'=>aN H1 c (.cells l' q.2.1 q.2.2.1 true)) none) none=_
 rw [J,rb ar,O,hu]; rfl
theorem Sk {t:TypeId} {p x eV x':I} {q:I × aa} (r:cW w σ ay H1) (aR:al w σ H1 p eV) (R:al w σ H1 x x') (h:gu E ay t p x=some q):∃q',gu E H1 t eV x'=some q' /\ vo w σ ay H1 q q':=by
 obtain ⟨i,ad,h⟩:=aO h
 obtain ⟨a,ae,h⟩:=aO h
 obtain ⟨J,h⟩:=cd h
 obtain ⟨H',g2,rfl⟩:=bB h
 obtain rfl:=l6 ae
 obtain ⟨c,V,rfl⟩:=aR.ptr
 obtain ⟨dF,O,bi,k'⟩:=vX r V R.cells g2
 refine ⟨(.undef,dF),?_,σ,k',bi,al.undef⟩
 unfold gu
 rw [ad]
 show ap (Nat.beq (bJ x'.cells) i.size) ((bT H1 c a.2 x'.cells).omap fun H=>(I.undef,H)) none=_
 rw [rh R.cells,J,O]; rfl
theorem GR {e:TypeId} {x x':I} {p:Nat × List I} (r:cW w σ ay H1) (R:al w σ H1 x x') (h:fu E ay e x=some p):∃l',fu E H1 e x'=some (p.1,l') /\ av w σ H1 p.2 l':=by
 replace h:=show bQ (asSlice x) (bQ (f_ x) (ap (du x) (some (0,[])) ((fj x).ac fun q=>ap (Nat.beq q.1 (au E e)) (some (bJ q.2,a3 q.2)) none)) fun s=>ap (Nat.beq (au E e) 1) (some (s.length,s.map fun c=> .int .u8 (.ofNat c.toNat))) none)
  (fun q=>(bA ay q.1 q.2.1 (Nat.mul q.2.2.1 (au E e))).omap fun l=>(q.2.2.1,l))=some p from h
 cases aB:asSlice x with
 | some q=>
  rw [aB,fN] at h
  obtain rfl:=hv aB
  obtain ⟨c,V,rfl⟩:=R.slice
  obtain ⟨l,ah,rfl⟩:=bB h
  obtain ⟨l',cC,af⟩:=r.cells V ah
  refine ⟨l',?_,af⟩
  show (bA H1 c q.2.1 (Nat.mul q.2.2.1 (au E e))).omap _=_
  rw [cC]; rfl
 | none=>
  rw [aB,fM] at h
  cases aG:f_ x with
  | some s=>
   rw [aG,fN] at h
   obtain rfl:=qW aG
   obtain rfl:=Kk R (.inr (.inr rfl))
   obtain ⟨J,h⟩:=cd h
   cases h
   refine ⟨s.map fun c=> .int .u8 (.ofNat c.toNat),?_,?_⟩
   ·
    show ap (Nat.beq (au E e) 1) (some (s.length,s.map fun c=>I.int .u8 (.ofNat c.toNat))) none=_
    rw [J]; rfl
   ·
    have:∀l:List UInt8,av w σ H1 (l.map fun c=>I.int .u8 (.ofNat c.toNat)) (l.map fun c=>I.int .u8 (.ofNat c.toNat)):=by
     intro l
     induction l with
     | nil=>exact av.nil.2 rfl
     | cons c l aH=>exact av.cons.2 ⟨_,_,al.int,aH,rfl⟩
    exact this s
  | none=>
   rw [aG,fM] at h
   cases ar:du x with
   | true=>
    rw [ar] at h; cases h
    rcases iS ar with rfl | ⟨cm,rfl⟩
    ·
     obtain rfl:=R.aE
     exact ⟨[],rfl,av.nil.2 rfl⟩
    ·
     obtain rfl:=R.dY
     exact ⟨[],rfl,av.nil.2 rfl⟩
   | false=>
    rw [ar] at h
    obtain ⟨⟨sz,l⟩,ah,h⟩:=aO (show ((fj x).ac fun q=>ap (Nat.beq q.1 (au E e)) (some (bJ q.2,a3 q.2)) none)=some p from h)
    obtain rfl:=q0 ah
    obtain ⟨J,h⟩:=cd h
    cases h
    have bm:sz=au E e:=Nat.eq_of_beq_eq_true J
    simp only at R ⊢
    have toL:∀ {l'},av w σ H1 l l' -> fu E H1 e (.aJ sz l')=some (bJ l,a3 l'):=by
     intro l' cC
     show ap (Nat.beq sz (au E e)) (some (bJ l',a3 l')) none=_
     rw [bm,Nat.beq_refl,rh cC]; rfl
    cases l with
    | nil=>
     rcases R.nQ with ⟨_,rfl⟩ | rfl | ⟨c,o,k,rfl,_⟩ | ⟨cm,rfl⟩
     rotate_right
     ·
      exact ⟨[],rfl,av.nil.2 rfl⟩
     ·
      exact ⟨[],toL (av.nil.2 rfl),av.nil.2 rfl⟩
     ·
      exact ⟨[],rfl,av.nil.2 rfl⟩
     ·
      refine ⟨[],?_,av.nil.2 rfl⟩
      rw [yV,Nat.zero_mul,mW]; rfl
    | cons y l=>
     rcases R.mB (by simp) with ⟨_,l',rfl,cC⟩ | ⟨c,o,k,l',rfl,_,_,_,_,cC,_,gW⟩
     ·
      exact ⟨a3 l',toL cC,wQ cC⟩
     ·
      refine ⟨a3 l',?_,wQ cC⟩
      rw [yV,<- bm,gW,eQ]; rfl
theorem uf {e:TypeId} {need:Nat} {l l':List I} {q:I × aa} (r:cW w σ ay H1) (ah:av w σ H1 l l') (h:dA E ay e need l=some q):∃q',dA E H1 e need l'=some q' /\ vo w σ ay H1 q q' /\
 (∃bn,q'.2=(aS H1 (.cells l' e false true)).2 /\ q.2=(aS ay (.cells l e false true)).2 /\ bn=σ.add ay.next H1.next /\ jg H1.next σ ay H1 bn q.2 q'.2 /\ cW w bn q.2 q'.2 /\ al w bn q'.2 q.1 q'.1 /\ q'.1= .slice H1.next 0 need (.rest 0 (au E e) need) /\ q.1= .slice ay.next 0 need (.rest 0 (au E e) need)):=by
 obtain ⟨J,h⟩:=cd h
 cases h
 obtain ⟨bi,k'⟩:=r.new (x:= .cells l e false true) (y:= .cells l' e false true) ⟨l',rfl,ah⟩
 have ak:al w (σ.add ay.next H1.next) (aS H1 (.cells l' e false true)).2 (.slice ay.next 0 need (.rest 0 (au E e) need)) (.slice H1.next 0 need (.rest 0 (au E e) need)):=al.kR (by simp [bK.add])
 refine ⟨(.slice H1.next 0 need (.rest 0 (au E e) need),(aS H1 (.cells l' e false true)).2),?_,⟨_,k',bi,ak⟩,_,rfl,rfl,rfl,k',bi,ak,rfl,rfl⟩
 show ap (mj E e need) _ none=_
 rw [J]; rfl
theorem Sl {k:dm} {e:TypeId} {b c off len n:Nat} {new gM:List I} {q:I × aa} (r:cW w σ ay H1) (U:σ b=some c) (ar:av w σ H1 new gM) (h:jr k E ay e b off len n new=some q):
 ∃q',jr k E H1 e c off len n gM=some q' /\ vo w σ ay H1 q q':=by
 cases k with
 | ex hJ=>
  replace h:=show ap (Nat.ble (Nat.add len n) hJ) ((bT ay b (Nat.add off (Nat.mul len (au E e))) new).omap fun H'=>(I.slice b off (Nat.add len n) (.ex hJ),H'))
   ((bA ay b off (Nat.mul len (au E e))).ac fun old=>dA E ay e (Nat.add len n) (cb old new))=some q from h
  show ∃q',ap (Nat.ble (Nat.add len n) hJ) ((bT H1 c (Nat.add off (Nat.mul len (au E e))) gM).omap fun H'=>(I.slice c off (Nat.add len n) (.ex hJ),H'))
   ((bA H1 c off (Nat.mul len (au E e))).ac fun old=>dA E H1 e (Nat.add len n) (cb old gM))=some q' /\ _
  cases V:Nat.ble (Nat.add len n) hJ with
  | true=>
   rw [V] at h
   obtain ⟨H',aR,rfl⟩:=bB (show (bT ay b (Nat.add off (Nat.mul len (au E e))) new).omap _=some q from h)
   obtain ⟨dF,O,bi,k'⟩:=vX r U ar aR
   exact ⟨(.slice c off (Nat.add len n) (.ex hJ),dF),by show (bT H1 c _ gM).omap _=_; rw [O]; rfl,σ,k',bi,al.kR U⟩
  | false=>
   rw [V] at h
   obtain ⟨old,aC,h⟩:=aO (show (bA ay b off (Nat.mul len (au E e))).ac _=some q from h)
   obtain ⟨D2,h5,af⟩:=r.cells U aC
   rw [eZ] at h
   obtain ⟨q',e4,ao,_⟩:=uf r (av.app af ar) h
   refine ⟨q',?_,ao⟩
   show (bA H1 c off (Nat.mul len (au E e))).ac _=_
   rw [h5]; show dA E H1 e (Nat.add len n) (cb D2 gM)=_
   rw [eZ]; exact e4
 | rest dt sz cQ=>
  obtain ⟨p,aR,h⟩:=aO (show ((ay.m.get b).ac ownRow).ac _=some q from h)
  obtain ⟨J,h⟩:=cd (show ap (Nat.beq e p.2 && (Nat.blt 0 (au E e) && Nat.beq sz (au E e))) _ none=some q from h)
  obtain ⟨x,R,aR⟩:=aO aR
  obtain ⟨y,aj,aR⟩:=aO (show (kf x).ac _=some p from aR)
  obtain rfl:=pE aj
  have adB:y.2.2.1=false /\ y.2.2.2=true /\ p=(y.1,y.2.1):=by
   cases ag:y.2.2.1 with
   | true=>rw [ag] at aR; cases aR
   | false=>
    rw [ag] at aR
    obtain ⟨aP,aR⟩:=cd (show ap y.2.2.2 (some (y.1,y.2.1)) none=some p from aR)
    cases aR; exact ⟨rfl,aP,rfl⟩
  obtain ⟨EW,vn,rfl⟩:=adB
  obtain ⟨b8,z,V,ai,adC⟩:=r.dr b _ R
  rw [U] at V; cases V
  obtain ⟨l',rfl,cC⟩:=adC
  have gc:((H1.m.get c).ac ownRow)=some (l',y.2.1):=by
   rw [ai]
   show ap y.2.2.1 none (ap y.2.2.2 (some (l',y.2.1)) none)=_
   rw [EW,vn]; rfl
  have red:∀q',(ap (Nat.ble (Nat.add off (Nat.mul (Nat.add len n) (au E e))) (bJ l'))
   ((bT H1 c (Nat.add off (Nat.mul len (au E e))) gM).omap fun H'=>(I.slice c off (Nat.add len n) (.rest dt sz (ap (Nat.ble cQ (Nat.add len n)) (Nat.add len n) cQ)),H'))
   (ap (Nat.beq off 0 && br gM) ((bA H1 c off (Nat.mul len (au E e))).ac fun old=>(dA E H1 e (Nat.add len n) (cb old gM)).omap fun p=>(p.1,aN p.2 c .dead)) none))=some q' ->
   jr (.rest dt sz cQ) E H1 e c off len n gM=some q':=by
   intro q' e4
   show ((H1.m.get c).ac ownRow).ac _=_
   rw [gc]
   show ap (Nat.beq e y.2.1 && (Nat.blt 0 (au E e) && Nat.beq sz (au E e))) _ none=_
   rw [J]; exact e4
  have fm:bJ l'=bJ y.1:=rh cC
  cases V:Nat.ble (Nat.add off (Nat.mul (Nat.add len n) (au E e))) (bJ y.1) with
  | true=>
   simp only at h
   rw [V] at h
   obtain ⟨H',aR,rfl⟩:=bB (show (bT ay b (Nat.add off (Nat.mul len (au E e))) new).omap _=some q from h)
   obtain ⟨dF,O,bi,k'⟩:=vX r U ar aR
   refine ⟨(.slice c off (Nat.add len n) (.rest dt sz (ap (Nat.ble cQ (Nat.add len n)) (Nat.add len n) cQ)),dF),red _ ?_,σ,k',bi,al.kR U⟩
   rw [fm,V,O]; rfl
  | false=>
   simp only at h
   rw [V] at h
   obtain ⟨ag,h⟩:=cd (show ap (Nat.beq off 0 && br new) _ none=some q from h)
   obtain ⟨old,aC,h⟩:=aO h
   obtain ⟨p,aR,rfl⟩:=bB h
   obtain ⟨D2,h5,af⟩:=r.cells U aC
   rw [eZ] at aR
   obtain ⟨eV,jG,_,bn,a8,bk,c3,k',bi,ak,eD,fZ⟩:=uf r (av.app af ar) aR
   have rQ:b≠ay.next:=Nat.ne_of_lt (r.qq _ _ U)
   have dx:bn b=some c:=k'.c7.le _ _ U
   have hold:p.2.m.get b=some (.cells y.1 y.2.1 y.2.2.1 y.2.2.2):=by rw [bk,g6,if_neg rQ]; exact R
   obtain ⟨ck,a9⟩:=bi.set (n:=H1.next) (x:= .dead) (y:= .dead) hold dx trivial
   refine ⟨(eV.1,aN eV.2 c .dead),red _ ?_,bn,k'.trans a9,ck,al.mono a9.c7 _ _ ak⟩
   rw [fm,V,rb ar,ag,h5]
   show (dA E H1 e (Nat.add len n) (cb D2 gM)).omap _=_
   rw [eZ,jG]; rfl
 | tail dt l sz z=>
  obtain ⟨J,h⟩:=cd (show ap (z && Nat.beq len 0) (dA E ay e n new) none=some q from h)
  obtain ⟨q',e4,ao,_⟩:=uf r ar h
  exact ⟨q',by show ap (z && Nat.beq len 0) (dA E H1 e n gM) none=_; rw [J]; exact e4,ao⟩
theorem GS {e:TypeId} {s s':I} {n:Nat} {new gM:List I} {q:I × aa} (r:cW w σ ay H1) (aG:al w σ H1 s s') (ar:av w σ H1 new gM) (h:cJ E ay e s n new=some q):
 ∃q',cJ E H1 e s' n gM=some q' /\ vo w σ ay H1 q q':=by
 replace h:=show ap (Nat.beq n 0) (ap (g5 s || du s) (some (s,ay)) ((fj s).omap fun _=>(s,ay)))
  (bQ (asSlice s) (ap (du s) (dA E ay e n new) ((fj s).ac fun q=>ap (Nat.beq q.1 0) (dA E ay e n new) none)) fun q=>jr q.2.2.2 E ay e q.1 q.2.1 q.2.2.1 n new)=some q from h
 show ∃q',ap (Nat.beq n 0) (ap (g5 s' || du s') (some (s',H1)) ((fj s').omap fun _=>(s',H1)))
  (bQ (asSlice s') (ap (du s') (dA E H1 e n gM) ((fj s').ac fun q=>ap (Nat.beq q.1 0) (dA E H1 e n gM) none)) fun q=>jr q.2.2.2 E H1 e q.1 q.2.1 q.2.2.1 n gM)=some q' /\ _
 cases aD:Nat.beq n 0 with
 | true=>
  rw [aD] at h
  have same:q=(s,ay):=by
   cases ad:(g5 s || du s) with
   | true=>rw [ad] at h; cases h; rfl
   | false=>
    rw [ad] at h
    obtain ⟨p,_,rfl⟩:=bB (show (fj s).omap (fun _=>(s,ay))=some q from h)
    rfl
  subst same
  refine ⟨(s',H1),?_,σ,jg.refl _ _ _ _,r,aG⟩
  cases ad:(g5 s || du s) with
  | true=>
   rcases (Bool.or_eq_true _ _).mp ad with ad | ad
   ·
    rw [(BQ aG ad).1]; rfl
   ·
    rcases iS ad with rfl | ⟨cm,rfl⟩
    ·
     obtain rfl:=aG.aE; rfl
    ·
     obtain rfl:=aG.dY; rfl
  | false=>
   rw [ad] at h
   obtain ⟨p,aR,_⟩:=bB (show (fj s).omap (fun _=>(s,ay))=some (s,ay) from h)
   obtain rfl:=q0 aR
   have:∀x,g5 x=true∨(∃sz l,x= .aJ sz l) -> ap (g5 x || du x) (some (x,H1)) ((fj x).omap fun _=>(x,H1))=some (x,H1):=by
    rintro x (h | ⟨sz,l,rfl⟩)
    ·
     rw [h]; rfl
    ·
     cases l <;> rfl
   refine this s' ?_
   by_cases ah:p.2= []
   ·
    rw [ah] at aG
    rcases aG.nQ with ⟨_,rfl⟩ | rfl | ⟨c,o,k,rfl,_⟩ | ⟨cm,rfl⟩
    ·
     exact .inr ⟨_,_,rfl⟩
    ·
     exact .inl rfl
    ·
     exact .inl rfl
    ·
     exact .inl rfl
   ·
    rcases aG.mB ah with ⟨_,l',rfl,_⟩ | ⟨c,o,k,l',rfl,_⟩
    ·
     exact .inr ⟨_,_,rfl⟩
    ·
     exact .inl rfl
 | false=>
  rw [aD] at h
  cases aB:asSlice s with
  | some p=>
   rw [aB] at h
   obtain rfl:=hv aB
   obtain ⟨c,V,rfl⟩:=aG.slice
   exact Sl r V ar h
  | none=>
   rw [aB] at h
   cases ad:du s with
   | true=>
    rw [ad] at h
    rcases iS ad with rfl | ⟨cm,rfl⟩
    ·
     obtain rfl:=aG.aE
     obtain ⟨q',e4,ao,_⟩:=uf r ar h
     exact ⟨q',e4,ao⟩
    ·
     obtain rfl:=aG.dY
     obtain ⟨q',e4,ao,_⟩:=uf r ar h
     exact ⟨q',e4,ao⟩
   | false=>
    rw [ad] at h
    obtain ⟨⟨sz,l⟩,ah,h⟩:=aO (show ((fj s).ac fun q=>ap (Nat.beq q.1 0) (dA E ay e n new) none)=some q from h)
    obtain rfl:=q0 ah
    obtain ⟨J,h⟩:=cd h
    have J:sz=0:=Nat.eq_of_beq_eq_true J
    subst J
    obtain ⟨q',e4,ao,_⟩:=uf r ar h
    simp only at aG
    have r2:n≠0:=fun h=>by subst h; cases aD
    have toL:∀l',bQ (asSlice (.aJ 0 l')) (ap (du (.aJ 0 l')) (dA E H1 e n gM) ((fj (.aJ 0 l')).ac fun q=>ap (Nat.beq q.1 0) (dA E H1 e n gM) none)) (fun q=>jr q.2.2.2 E H1 e q.1 q.2.1 q.2.2.1 n gM)=some q':=fun l'=>e4
    by_cases ah:l= []
    ·
     subst ah
     rcases aG.nQ with ⟨_,rfl⟩ | rfl | ⟨c,o,k,rfl,_,ab⟩ | ⟨cm,rfl⟩
     rotate_right
     ·
      exact ⟨q',e4,ao⟩
     ·
      exact ⟨q',toL [],ao⟩
     ·
      exact ⟨q',e4,ao⟩
     ·
      refine ⟨q',?_,ao⟩
      cases k with
      | ex hJ=>
       have rV:hJ=0:=ab rfl
       subst rV
       show ap (Nat.ble (Nat.add 0 n) 0) _ ((bA H1 c o (Nat.mul 0 (au E e))).ac fun old=>dA E H1 e (Nat.add 0 n) (cb old gM))=_
       rw [show Nat.ble (Nat.add 0 n) 0=false from Bool.eq_false_iff.2 fun h=>by have:=de.1 h; simp at this; omega]
       rw [show Nat.mul 0 (au E e)=0 from Nat.zero_mul _,mW]
       show dA E H1 e (Nat.add 0 n) gM=_
       rw [show Nat.add 0 n=n from Nat.zero_add n]; exact e4
      | rest=>exact (ab rfl).elim
      | tail dt l sz z=>
       have ai:z=true:=ab rfl
       subst ai
       exact e4
    ·
     rcases aG.mB ah with ⟨_,l',rfl,_⟩ | ⟨_,_,_,_,_,h,_⟩
     ·
      exact ⟨q',toL l',ao⟩
     ·
      exact absurd h (Nat.lt_irrefl _)
theorem Sm (eW:ly E) {bg:Builtin} {as h7:List I} {bp:List TypeId} {q:I × aa} (r:cW w σ ay H1) (ae:av w σ H1 as h7) (h:fQ bg E ay as bp=some q):∃q',fQ bg E H1 h7 bp=some q' /\ vo w σ ay H1 q q':=by
 cases bg with
 | append=>
  cases as with
  | nil=>cases h
  | cons s as=>
  cases as with
  | nil=>cases h
  | cons x as=>
  cases as with
  | cons=>cases h
  | nil=>
  cases bp with
  | nil=>cases h
  | cons t bp=>
  obtain ⟨s',cf,aG,j4,rfl⟩:=av.cons.1 ae
  obtain ⟨x',ck,R,eJ,rfl⟩:=av.cons.1 j4
  rw [av.nil] at eJ; subst eJ
  replace h:=show kg E ay t bp s x=some q from h
  show ∃q',kg E H1 t bp s' x'=some q' /\ _
  unfold kg at h ⊢
  cases ab:aU E t with
  | slice e=>
   simp only [ab] at h ⊢
   cases bp with
   | nil=>cases h
   | cons t2 bp=>
    simp only at h ⊢
    have src:((fu E ay e x).ac fun p=>cJ E ay e s p.1 p.2)=some q -> ∃q',((fu E H1 e x').ac fun p=>cJ E H1 e s' p.1 p.2)=some q' /\ vo w σ ay H1 q q':=by
     intro h
     obtain ⟨p,aR,h⟩:=aO h
     obtain ⟨l',cC,af⟩:=GR r R aR
     obtain ⟨q',e4,ao⟩:=GS r aG af h
     exact ⟨q',by rw [cC]; exact e4,ao⟩
    cases ef:aU E t2 with
    | int k=>
     simp only [ef] at h ⊢
     obtain ⟨n,ar,h⟩:=aO h
     obtain ⟨z,ai,h⟩:=aO h
     split at h
     ·
      rename_i V
      obtain ⟨q',e4,ao⟩:=GS r aG (av.rep (eW w σ H1 e z ai).cells n) h
      refine ⟨q',?_,ao⟩
      rw [ur R,ar]; show (cr E e).ac _=_
      rw [ai]; show (match _ with | true=>_ | false=>_)=_
      rw [V]; exact e4
     ·
      cases h
    | other=>simp only [ef] at h; cases h
    | _=>simp only [ef] at h ⊢; exact src h
  | _=>simp only [ab] at h; cases h
 | copy=>
  cases as with
  | nil=>cases h
  | cons s as=>
  cases as with
  | nil=>cases h
  | cons x as=>
  cases as with
  | cons=>cases h
  | nil=>
  cases bp with
  | nil=>cases h
  | cons t bp=>
  obtain ⟨s',cf,aG,j4,rfl⟩:=av.cons.1 ae
  obtain ⟨x',ck,R,eJ,rfl⟩:=av.cons.1 j4
  rw [av.nil] at eJ; subst eJ
  replace h:=show pK E ay t s x=some q from h
  show ∃q',pK E H1 t s' x'=some q' /\ _
  unfold pK at h ⊢
  cases ab:aU E t with
  | slice e=>
   simp only [ab] at h ⊢
   obtain ⟨p,aR,iq⟩:=aO h
   clear h
   obtain ⟨l',cC,af⟩:=GR r R aR
   rw [cC]
   show ∃q',uw E H1 e s' (p.1,l')=some q' /\ _
   unfold uw at iq ⊢
   have h:=iq
   clear iq
   cases aB:asSlice s with
   | some y=>
    rw [aB,fN] at h
    obtain rfl:=hv aB
    obtain ⟨c,V,rfl⟩:=aG.slice
    show ∃q',ap (Nat.beq y.2.2.1 0) _ ((bT H1 c y.2.1 (g8 (Nat.mul (gb p.1 y.2.2.1) (au E e)) l')).omap fun H=>(I.int .i64 (.ofNat (gb p.1 y.2.2.1)),H))=some q' /\ _
    cases aD:Nat.beq y.2.2.1 0 with
    | true=>rw [aD] at h; cases h; exact ⟨_,rfl,σ,jg.refl _ _ _ _,r,al.int⟩
    | false=>
     rw [aD] at h
     obtain ⟨H',g2,rfl⟩:=bB (show (bT ay y.1 y.2.1 _).omap _=some q from h)
     obtain ⟨dF,O,bi,k'⟩:=vX r V (Ug af _) g2
     exact ⟨_,by show (bT H1 c y.2.1 _).omap _=_; rw [O]; rfl,σ,k',bi,al.int⟩
   | none=>
    rw [aB,fM] at h
    obtain ⟨ar,h⟩:=cd h
    cases h
    rcases iS ar with rfl | ⟨cm,rfl⟩
    ·
     obtain rfl:=aG.aE
     exact ⟨_,rfl,σ,jg.refl _ _ _ _,r,al.int⟩
    ·
     obtain rfl:=aG.dY
     exact ⟨_,rfl,σ,jg.refl _ _ _ _,r,al.int⟩
  | _=>simp only [ab] at h; cases h
 | clear=>
  cases as with
  | nil=>cases h
  | cons s as=>
  cases as with
  | cons=>cases h
  | nil=>
  cases bp with
  | nil=>cases h
  | cons t bp=>
  obtain ⟨s',cf,aG,j4,rfl⟩:=av.cons.1 ae
  rw [av.nil] at j4; subst j4
  replace h:=show pH E ay t s=some q from h
  show ∃q',pH E H1 t s'=some q' /\ _
  unfold pH at h ⊢
  cases ab:aU E t with
  | slice e=>
   simp only [ab] at h ⊢
   obtain ⟨z,ai,iq⟩:=aO h
   clear h
   have h:=iq
   clear iq
   rw [ai]
   show ∃q',(bQ (asSlice s') (ap (du s') (some (I.undef,H1)) none) fun q=>ap (Nat.beq q.2.2.1 0) (some (.undef,H1)) ((bT H1 q.1 q.2.1 (cR q.2.2.1 z.cells)).omap fun H=>(.undef,H)))=some q' /\ _
   cases aB:asSlice s with
   | some y=>
    rw [aB,fN] at h
    obtain rfl:=hv aB
    obtain ⟨c,V,rfl⟩:=aG.slice
    show ∃q',ap (Nat.beq y.2.2.1 0) _ ((bT H1 c y.2.1 (cR y.2.2.1 z.cells)).omap fun H=>(I.undef,H))=some q' /\ _
    cases aD:Nat.beq y.2.2.1 0 with
    | true=>rw [aD] at h; cases h; exact ⟨_,rfl,σ,jg.refl _ _ _ _,r,al.undef⟩
    | false=>
     rw [aD] at h
     obtain ⟨H',g2,rfl⟩:=bB (show (bT ay y.1 y.2.1 _).omap _=some q from h)
     obtain ⟨dF,O,bi,k'⟩:=vX r V (av.rep (eW w σ H1 e z ai).cells _) g2
     exact ⟨_,by show (bT H1 c y.2.1 _).omap _=_; rw [O]; rfl,σ,k',bi,al.undef⟩
   | none=>
    rw [aB,fM] at h
    obtain ⟨ar,h⟩:=cd h
    cases h
    rcases iS ar with rfl | ⟨cm,rfl⟩
    ·
     obtain rfl:=aG.aE
     exact ⟨_,rfl,σ,jg.refl _ _ _ _,r,al.undef⟩
    ·
     obtain rfl:=aG.dY
     exact ⟨_,rfl,σ,jg.refl _ _ _ _,r,al.undef⟩
  | _=>simp only [ab] at h; cases h
 | _=>cases h
end
end
end Go.az
