/-
  The evaluator is right about operations that look at no memory. No conditions.
-/
import Derived.Test.YtajekleknljggaaEvA
import Derived.Laws.StructEq
import Derived.ChangeKeysEq
import Derived.Lib.Strings
set_option linter.unusedVariables false
set_option linter.unusedSimpArgs false
namespace Go.az
variable {P:Program} {E:Env}
structure cU (E:Env) (P:Program):Prop where
 ty:∀t i,E.ty t=some i -> Ke P t i
 el:∀t e,(aU E t= .slice e∨∃n,aU E t= .array n e) -> ∃i,E.ty e=some i
 ac5:∀t da,aU E t= .struct da -> ∀p,p∈da -> ∃i,E.ty p.2=some i
 flat:∀t p,E.flat t=some p -> hz P p.1 8 t=true /\ p.2=P.cellsOf t
 depth:8≤P.depth
theorem bind_some {α β:Type} {o:Option α} {f:α -> Option β} {b:β} (h:o.bind f=some b):∃a,o=some a /\ f a=some b:=Option.bind_eq_some_iff.1 h
theorem map_some {α β:Type} {o:Option α} {f:α -> β} {b:β} (h:o.map f=some b):∃a,o=some a /\ f a=b:=Option.map_eq_some_iff.1 h
theorem cU.pe (a1:cU E P) {t:TypeId} {k:d5} (h:aU E t=k) (ab:k≠ .other):∃d,P.underlying t=some d /\ i' d=k:=by
 unfold aU at h
 cases ad:E.ty t with
 | none=>rw [ad] at h; exact absurd h.symm ab
 | some i=>
  rw [ad] at h
  obtain ⟨d,j,aw,_,_,_,_,kB,_⟩:=(a1.ty t i ad).ex
  exact ⟨d,aw,kB.symm.trans h⟩
theorem NM {d:TypeDesc} {e:TypeId} (h:i' d= .slice e):d= .slice e:=by cases d <;> simp_all [i']
theorem NN {d:TypeDesc} {e:TypeId} {n:Nat} (h:i' d= .array n e):d= .array n e:=by cases d <;> simp_all [i']
theorem Re {d:TypeDesc} {e:TypeId} (h:i' d= .ptr e):d= .pointer e:=by cases d <;> simp_all [i']
theorem Rf {d:TypeDesc} {k:IntKind} (h:i' d= .int k):d= .int k:=by cases d <;> simp_all [i']
theorem M1 {d:TypeDesc} (h:i' d= .string):d= .string:=by cases d <;> simp_all [i']
theorem Pd {d:TypeDesc} (h:i' d= .bool):d= .bool:=by cases d <;> simp_all [i']
theorem Pe {d:TypeDesc} (h:i' d= .func):∃a b c,d= .func a b c:=by cases d <;> simp_all [i']
theorem M3 {d:TypeDesc} {da:List (Nat × TypeId)} (h:i' d= .struct da):∃gs:Array Field,d= .struct gs /\ da=gs.toList.map fun f=>(f.offset,f.type):=by
 cases d <;> simp_all [i']
theorem cU.slice (a1:cU E P) {t e:TypeId} (h:aU E t= .slice e):P.underlying t=some (.slice e):=by
 obtain ⟨d,aw,ab⟩:=a1.pe h (by simp); rw [aw,NM ab]
theorem cU.array (a1:cU E P) {t e:TypeId} {n:Nat} (h:aU E t= .array n e):P.underlying t=some (.array n e):=by
 obtain ⟨d,aw,ab⟩:=a1.pe h (by simp); rw [aw,NN ab]
theorem cU.ptr (a1:cU E P) {t e:TypeId} (h:aU E t= .ptr e):P.underlying t=some (.pointer e):=by
 obtain ⟨d,aw,ab⟩:=a1.pe h (by simp); rw [aw,Re ab]
theorem cU.int (a1:cU E P) {t:TypeId} {k:IntKind} (h:aU E t= .int k):P.underlying t=some (.int k):=by
 obtain ⟨d,aw,ab⟩:=a1.pe h (by simp); rw [aw,Rf ab]
theorem cU.string (a1:cU E P) {t:TypeId} (h:aU E t= .string):P.underlying t=some .string:=by
 obtain ⟨d,aw,ab⟩:=a1.pe h (by simp); rw [aw,M1 ab]
theorem cU.bool (a1:cU E P) {t:TypeId} (h:aU E t= .bool):P.underlying t=some .bool:=by
 obtain ⟨d,aw,ab⟩:=a1.pe h (by simp); rw [aw,Pd ab]
theorem cU.func (a1:cU E P) {t:TypeId} (h:aU E t= .func):∃a b c,P.underlying t=some (.func a b c):=by
 obtain ⟨d,aw,ab⟩:=a1.pe h (by simp)
 obtain ⟨a,b,c,rfl⟩:=Pe ab
 exact ⟨a,b,c,aw⟩
theorem cU.struct (a1:cU E P) {t:TypeId} {da:List (Nat × TypeId)} (h:aU E t= .struct da):
 ∃gs:Array Field,P.underlying t=some (.struct gs) /\ da=gs.toList.map fun f=>(f.offset,f.type):=by
 obtain ⟨d,aw,ab⟩:=a1.pe h (by simp)
 obtain ⟨gs,rfl,ao⟩:=M3 ab
 exact ⟨gs,aw,ao⟩
theorem cU.info (a1:cU E P) {t:TypeId} {i:kI} (h:E.ty t=some i):∃j,P.info? t=some j /\ j.size=i.size /\ j.bytes=i.bytes /\
 (∀z,i.zero=some z -> ∃v,j.zero=some v /\ (∀s,a5 s z=some v) /\ z.cells.length=i.size):=by
 obtain ⟨d,j,_,ax,J,O,_,_,bH⟩:=(a1.ty t i h).ex
 refine ⟨j,ax,J.symm,O.symm,fun z ai=> ?_⟩
 rw [bH] at ai
 obtain ⟨a,ae,ao⟩:=bind_some ai
 obtain ⟨v,ak,iF⟩:=bind_some ae
 unfold xf at ao
 split at ao
 ·
  rename_i U
  cases ao
  exact ⟨v,ak,fun s=>HM 3 v _ iF,by rw [J]; exact Nat.eq_of_beq_eq_true U⟩
 ·
  cases ao
theorem cU.agg (a1:cU E P) {t:TypeId} {i:kI} (h:E.ty t=some i):∃d,P.underlying t=some d /\ i.agg=ko d:=by
 obtain ⟨d,j,aw,_,_,_,ae,_,_⟩:=(a1.ty t i h).ex
 exact ⟨d,aw,ae⟩
theorem df {t:TypeId} {d:TypeDesc} (h:P.underlying t=some d) (w:World):(underlying t).run P w= .ok d w:=by simp [underlying,h]
theorem wg {t:TypeId} {i:TypeInfo} (h:P.info? t=some i) (w:World):(typeInfo t).run P w= .ok i w:=by simp [typeInfo,h]
theorem y1 {t:TypeId} {i:TypeInfo} (h:P.info? t=some i) (w:World):(sizeOf t).run P w= .ok i.size w:=by simp [sizeOf,typeInfo,h]
theorem oG {t:TypeId} {i:TypeInfo} {v:Value} (h:P.info? t=some i) (ai:i.zero=some v) (w:World):(zeroValue t).run P w= .ok v w:=by simp [zeroValue,typeInfo,h,ai]
theorem cU.au (a1:cU E P) {t:TypeId} {i:kI} (h:E.ty t=some i) (w:World):(sizeOf t).run P w= .ok (az.au E t) w:=by
 obtain ⟨j,ax,aG,_⟩:=a1.info h
 rw [y1 ax,aG]; simp [az.au,h]
theorem v5 {t:TypeId} {d:TypeDesc} (h:P.underlying t=some d) (w:World):(isAgg t).run P w= .ok (ko d) w:=by
 simp only [isAgg,Sem.run_bind,df h,Result.andThen_ok]
 cases d <;> rfl
theorem sv:∀(a b:List UInt8),rm a b=(a==b)
 | [],[]=>rfl
 | [],_ :: _=>rfl
 | _ :: _,[]=>rfl
 | a :: l,b :: r=>by
  have h:rm (a :: l) (b :: r)=ap (Nat.beq a.toNat b.toNat) (rm l r) false:=rfl
  rw [h,sv l r]
  cases U:Nat.beq a.toNat b.toNat with
  | true=>
   obtain rfl:=UInt8.toNat_inj.1 (Nat.eq_of_beq_eq_true U)
   simp
  | false=>
   have bX:a≠b:=fun e=>by subst e; simp at U
   simp [bX]
theorem FS (l:List UInt8):(ByteArray.mk l.toArray).toList=l:=by rw [ByteArray.toList_eq]
theorem Gj {t:TypeId} {d:TypeDesc} (h:P.underlying t=some d):∃j,P.info? t=some j:=by
 unfold Program.underlying at h
 cases ax:P.info? t with
 | none=>rw [ax] at h; cases h
 | some j=>exact ⟨j,rfl⟩
def valOf (P:Program) (t:TypeId) (xs:List Value):Value:=
 match P.underlying t with
 | some d=>if ko d then .agg xs.toArray else xs.headD undef
 | none=>undef
theorem yA {t:TypeId} {d:TypeDesc} (h:P.underlying t=some d) (aw:ko d=false -> P.cellsOf t=1) (xs:List Value) (off:Nat) (aC:off + P.cellsOf t≤xs.length) (w:World):
 (part t xs.toArray off).run P w= .ok (valOf P t ((xs.drop off).take (P.cellsOf t))) w:=by
 obtain ⟨j,ax⟩:=Gj h
 have aG:P.cellsOf t=j.size:=by simp [Program.cellsOf,ax]
 simp only [part,Sem.run_bind,v5 h,Result.andThen_ok,valOf,h]
 cases ae:ko d with
 | true=>simp [y1 ax,aG,Nat.add_sub_cancel_left]
 | false=>
  rw [aw ae] at aC ⊢
  have aF:off < xs.length:=by omega
  simp [aF,List.head?_take,List.head?_drop,List.headD_eq_head?_getD]
theorem yF (bg:Bool):hd bg [] []=some true:=rfl
theorem vN (bg:Bool) (x y:I) (l r:List I):hd bg (x :: l) (y :: r)=(oF bg x y).bind fun a=>(hd bg l r).map fun b=>a && b:=by
 have h:hd bg (x :: l) (y :: r)=(oF bg x y).ac fun a=>(hd bg l r).omap fun b=>a && b:=rfl
 rw [h]; simp
theorem A6 {bg:Bool}:∀ {nr cf hV ck:List I} {b:Bool},nr.length=cf.length -> hd bg (nr ++ hV) (cf ++ ck)=some b -> ∃d8 gQ,hd bg nr cf=some d8 /\ hd bg hV ck=some gQ /\ b=(d8 && gQ)
 | [],[],hV,ck,b,_,h=>⟨true,b,rfl,h,by simp⟩
 | x :: nr,y :: cf,hV,ck,b,ah,h=>by
  simp only [List.cons_append,vN] at h
  obtain ⟨a,ae,h⟩:=bind_some h
  obtain ⟨c,V,rfl⟩:=map_some h
  obtain ⟨d8,gQ,J,O,rfl⟩:=A6 (by simpa using ah) V
  exact ⟨a && d8,gQ,by simp [vN,ae,J],O,by simp [Bool.and_assoc]⟩
 | [],_ :: _,_,_,_,ah,_=>by simp at ah
 | _ :: _,[],_,_,_,ah,_=>by simp at ah
theorem FU {bg:Bool}:∀ {l r:List I} {b:Bool},hd bg l r=some b -> l.length=r.length
 | [],[],_,_=>rfl
 | x :: l,y :: r,b,h=>by
  simp only [vN] at h
  obtain ⟨a,_,h⟩:=bind_some h
  obtain ⟨c,V,_⟩:=map_some h
  simp [FU V]
 | [],_ :: _,_,h=>by cases h
 | _ :: _,[],_,h=>by cases h
def DK (P:Program) (bg:Bool) (t:TypeId) (k:Nat):Prop:=
 ∀(l r:List I) (b:Bool) (s:bb) (xs eE:List Value) (j7:Nat) (w:World),k≤j7 -> hd bg l r=some b -> l.length=P.cellsOf t -> bZ s l=some xs -> bZ s r=some eE ->
  (Op.equalIn j7 t (valOf P t xs) (valOf P t eE)).run P w= .ok b w
theorem HO {bg:Bool} {t:TypeId}:∀ {d:Nat},hz P bg d t=true -> ∃e,P.underlying t=some e /\ (ko e=false -> P.cellsOf t=1)
 | 0,h=>by cases h
 | d + 1,h=>by
  unfold hz at h
  split at h
  ·
   rename_i e; rw [Bool.and_eq_true] at h; exact ⟨_,e,fun _=>Nat.eq_of_beq_eq_true h.2⟩
  ·
   rename_i e; rw [Bool.and_eq_true] at h; exact ⟨_,e,fun _=>Nat.eq_of_beq_eq_true h.2⟩
  ·
   rename_i e; exact ⟨_,e,fun h=>by cases h⟩
  ·
   rename_i e; exact ⟨_,e,fun h=>by cases h⟩
  ·
   cases h
theorem Gk {bg:Bool} {f:TypeId -> Bool} {k j7:Nat} (mH:k≤j7) (ao:∀t,f t=true -> DK P bg t k /\ ∃e,P.underlying t=some e /\ (ko e=false -> P.cellsOf t=1)):
 ∀(da:List Field) (off n:Nat) (l r:List I) (b:Bool) (s:bb) (xs eE:List Value) (w:World),hz.oM P f off n da=true -> off≤n -> l.length=n -> hd bg (l.drop off) (r.drop off)=some b -> r.length=n ->
  bZ s l=some xs -> bZ s r=some eE -> (Op.eqFields j7 xs.toArray eE.toArray da).run P w= .ok b w
 | [],off,n,l,r,b,s,xs,eE,w,h,_,ah,he,af,R,aj=>by
  simp only [hz.oM] at h
  have:off=n:=Nat.eq_of_beq_eq_true h
  subst this
  rw [List.drop_eq_nil_of_le (by omega),List.drop_eq_nil_of_le (by omega)] at he
  rw [yF] at he
  cases he
  simp [Op.eqFields]
 | g :: da,off,n,l,r,b,s,xs,eE,w,h,aC,ah,he,af,R,aj=>by
  simp only [hz.oM,Bool.and_eq_true] at h
  obtain ⟨J,O,ag,aP⟩:=h
  have J:g.offset=off:=Nat.eq_of_beq_eq_true J
  have ar:g.name≠ "_" :=by simpa using O
  obtain ⟨heq,e,hu,ae⟩:=ao _ ag
  have hle:off + P.cellsOf g.type≤n:=by
   clear he R aj
   have:∀(da:List Field) (a b:Nat),hz.oM P f a b da=true -> a≤b:=by
    intro da
    induction da with
    | nil=>intro a b h; simp only [hz.oM] at h; exact Nat.le_of_eq (Nat.eq_of_beq_eq_true h)
    | cons x da aH=>intro a b h; simp only [hz.oM,Bool.and_eq_true] at h; have:=aH _ _ h.2.2.2; omega
   exact this _ _ _ aP
  have k8:=hW R
  have EC:=hW aj
  rw [<- List.take_append_drop (P.cellsOf g.type) (l.drop off),<- List.take_append_drop (P.cellsOf g.type) (r.drop off)] at he
  obtain ⟨d8,gQ,a8,bk,rfl⟩:=A6 (by simp; omega) he
  rw [List.drop_drop,List.drop_drop] at bk
  have Dn:=heq _ _ d8 s _ _ j7 w mH a8 (by simp; omega) (oB (qZ R off) _) (oB (qZ aj off) _)
  have rB:=Gk mH ao da _ n l r gQ s xs eE w aP hle ah bk af R aj
  simp only [Op.eqFields,if_pos ar,Sem.run_bind,J]
  rw [yA hu ae xs off (by omega)]
  simp only [Result.andThen_ok]
  rw [yA hu ae eE off (by omega)]
  simp only [Result.andThen_ok,Dn]
  cases d8
  ·
   simp
  ·
   simpa using rB
theorem Gz {bg:Bool} {e:TypeId} {k j7:Nat} (mH:k≤j7) (heq:DK P bg e k) {Fz:TypeDesc} (hu:P.underlying e=some Fz) (ae:ko Fz=false -> P.cellsOf e=1):
 ∀(m i n:Nat) (l r:List I) (b:Bool) (s:bb) (xs eE:List Value) (w:World),i + m=n -> l.length=n * P.cellsOf e -> hd bg (l.drop (i * P.cellsOf e)) (r.drop (i * P.cellsOf e))=some b -> r.length=n * P.cellsOf e ->
  bZ s l=some xs -> bZ s r=some eE -> (Op.eqItems j7 e (P.cellsOf e) xs.toArray eE.toArray (List.range' i m)).run P w= .ok b w
 | 0,i,n,l,r,b,s,xs,eE,w,ad,ah,he,af,R,aj=>by
  obtain rfl:i=n:=by omega
  rw [List.drop_eq_nil_of_le (by omega),List.drop_eq_nil_of_le (by omega)] at he
  rw [yF] at he
  cases he
  simp [Op.eqItems]
 | m + 1,i,n,l,r,b,s,xs,eE,w,ad,ah,he,af,R,aj=>by
  have hle:i * P.cellsOf e + P.cellsOf e≤n * P.cellsOf e:=by
   have:(i + 1) * P.cellsOf e≤n * P.cellsOf e:=Nat.mul_le_mul_right _ (by omega)
   rwa [Nat.succ_mul] at this
  have k8:=hW R
  have EC:=hW aj
  rw [<- List.take_append_drop (P.cellsOf e) (l.drop (i * P.cellsOf e)),<- List.take_append_drop (P.cellsOf e) (r.drop (i * P.cellsOf e))] at he
  obtain ⟨d8,gQ,a8,bk,rfl⟩:=A6 (by simp; omega) he
  rw [List.drop_drop,List.drop_drop,<- Nat.succ_mul] at bk
  have Dn:=heq _ _ d8 s _ _ j7 w mH a8 (by simp; omega) (oB (qZ R _) _) (oB (qZ aj _) _)
  have rB:=Gz mH heq hu ae m (i + 1) n l r gQ s xs eE w (by omega) ah bk af R aj
  simp only [List.range'_succ,Op.eqItems,Sem.run_bind]
  rw [yA hu ae xs _ (by omega)]
  simp only [Result.andThen_ok]
  rw [yA hu ae eE _ (by omega)]
  simp only [Result.andThen_ok,Dn]
  cases d8
  ·
   simp
  ·
   simpa using rB
theorem mX {x:I} {p:IntKind × Int} (h:ej x=some p):x= .int p.1 p.2:=by cases x <;> first | (cases h; rfl) | cases h
theorem qT {x:I} {b:Bool} (h:e_ x=some b):x= .bool b:=by cases x <;> first | (cases h; rfl) | cases h
theorem l6 {x:I} {p:Nat × Nat} (h:ec x=some p):x= .ptr p.1 p.2:=by cases x <;> first | (cases h; rfl) | cases h
theorem q0 {x:I} {p:Nat × List I} (h:fj x=some p):x= .aJ p.1 p.2:=by cases x <;> first | (cases h; rfl) | cases h
theorem GA {x:I} {p:List I × Nat} (h:ju x=some p):x= .c9 p.1 p.2:=by cases x <;> first | (cases h; rfl) | cases h
theorem oN {s:bb} {x:I} {v:Value} (h:a5 s x=some v):fj x=none:=by
 cases x <;> first | rfl | (simp only [a5] at h; cases h; done)
theorem zn {s:bb} {x:I} {v:Value} (h:a5 s x=some v):ju x=none:=by
 cases x <;> first | rfl | (simp only [a5] at h; cases h; done)
theorem HP {s:bb} {x:I} {v:Value} (h:a5 s x=some v) (n:Nat):kk x n=(ec x).omap fun q=> .ptr q.1 (Nat.add q.2 n):=by
 unfold kk; rw [zn h]; cases ec x <;> rfl
theorem Te {s:bb} {x:I} {v:Value} (h:a5 s x=some v) (n i:Nat):uF n x i=none:=by
 unfold uF; rw [oN h]; rfl
theorem NO {s:bb} {x:I} {v:Value} (h:a5 s x=some v) (n:Nat) (bd ad mx:Option I):uc n x bd ad mx=none:=by
 unfold uc; rw [oN h]; rfl
theorem NP {s:bb} {x:I} {v:Value} (h:a5 s x=some v) (n m:Nat) (bd ad mx:Option I):ud x n m bd ad mx=none:=by
 unfold ud; rw [zn h]; rfl
theorem Vv {s:bb} {x:I} {v:Value} (h:a5 s x=some v) (n:Nat):DJ n x=none:=by
 unfold DJ; rw [oN h]; rfl
theorem y2 {α β:Type} (o:Option α) (f:α -> Option β):bQ o none f=o.ac f:=by cases o <;> rfl
theorem qW {x:I} {l:List UInt8} (h:f_ x=some l):x= .str l:=by cases x <;> first | (cases h; rfl) | cases h
theorem hv {x:I} {q:Nat × Nat × Nat × dm} (h:asSlice x=some q):x= .slice q.1 q.2.1 q.2.2.1 q.2.2.2:=by cases x <;> first | (cases h; rfl) | cases h
theorem nv {x:I} {l:List I} (h:gI x=some l):x= .agg l:=by cases x <;> first | (cases h; rfl) | cases h
theorem FW {x:I} {l:List I} (h:sr x=some l):x= .tuple l:=by cases x <;> first | (cases h; rfl) | cases h
theorem Gl {x:I} {q:FuncId × List I × List I} (h:uv x=some q):x= .func q.1 q.2.1 q.2.2:=by cases x <;> first | (cases h; rfl) | cases h
theorem MH {x:I} {l:Nat} (h:y7 x=some l):x= .yield l:=by cases x <;> first | (cases h; rfl) | cases h
theorem iS {x:I} (h:du x=true):x= .aE∨∃a,x= .dY a:=by cases x <;> first | exact .inl rfl | exact .inr ⟨_,rfl⟩ | cases h
theorem pE {x:bf} {q:List I × TypeId × Bool × Bool} (h:kf x=some q):x= .cells q.1 q.2.1 q.2.2.1 q.2.2.2:=by cases x <;> first | (cases h; rfl) | cases h
theorem G8 {n:Int} {k:Nat} (h:i_ n=some k):n=k:=by cases n <;> first | (cases h; rfl) | cases h
theorem GB {x:I} {n:Nat} (h:dH x=some n):∃k,x= .int k n:=by
 unfold dH at h
 rw [mZ] at h
 obtain ⟨p,aR,h⟩:=bind_some h
 exact ⟨p.1,by rw [mX aR,G8 h]⟩
theorem aO {α β:Type} {o:Option α} {f:α -> Option β} {b:β} (h:o.ac f=some b):∃a,o=some a /\ f a=some b:=by rw [mZ] at h; exact bind_some h
theorem bB {α β:Type} {o:Option α} {f:α -> β} {b:β} (h:o.omap f=some b):∃a,o=some a /\ f a=b:=by rw [nB] at h; exact map_some h
theorem cd {α:Type} {b:Bool} {x:Option α} {a:α} (h:ap b x none=some a):b=true /\ x=some a:=by cases b <;> first | exact ⟨rfl,h⟩ | cases h
theorem GC {bg:Bool} {x:I} {y:I} {b:Bool} (h:oF bg x y=some b):(bg=true /\ ∃p q,x= .bool p /\ y= .bool q /\ b=(p==q))∨(bg=false /\ ∃k p q,x= .int k p /\ y= .int k q /\ b=(p==q)):=by
 cases bg with
 | true=>
  have aQ:((e_ x).ac fun a=>(e_ y).omap fun b=>ap a b (!b))=some b:=h
  rw [mZ] at aQ
  obtain ⟨p,aR,aQ⟩:=bind_some aQ
  rw [nB] at aQ
  obtain ⟨q,aB,rfl⟩:=map_some aQ
  exact .inl ⟨rfl,p,q,qT aR,qT aB,by cases p <;> cases q <;> rfl⟩
 | false=>
  have aQ:((ej x).ac fun p=>(ej y).ac fun q=>ap (jO p.1 q.1) (some (lN p.2 q.2)) none)=some b:=h
  rw [mZ] at aQ
  obtain ⟨p,aR,aQ⟩:=bind_some aQ
  rw [mZ] at aQ
  obtain ⟨q,aB,aQ⟩:=bind_some aQ
  obtain ⟨ab,aQ⟩:=cd aQ
  cases aQ
  have ab:=v3.1 ab
  exact .inr ⟨rfl,p.1,p.2,q.2,mX aR,by rw [ab]; exact mX aB,by rw [sH]⟩
theorem zb {bg:Bool}:∀(d:Nat) (t:TypeId),hz P bg d t=true -> DK P bg t d
 | 0,t,h=>by cases h
 | d + 1,t,h=>by
  intro l r b s xs eE j7 w mH he ah R aj
  obtain ⟨j7,rfl⟩:∃m,j7=m + 1:=⟨j7 - 1,by omega⟩
  have k9:=FU he
  unfold hz at h
  split at h
  ·
   rename_i hu
   rw [Bool.and_eq_true] at h
   have J:P.cellsOf t=1:=Nat.eq_of_beq_eq_true h.2
   rw [J] at ah
   match l,r,ah,k9 with
   | [x],[y],_,_=>
    rw [vN,yF] at he
    obtain ⟨a,ae,he⟩:=bind_some he
    simp only [Option.map_some,Bool.and_true,Option.some.injEq] at he
    subst he
    obtain ⟨x',_,jD,u3,rfl⟩:=eO.1 R
    obtain ⟨ch,_,mI,ac6,rfl⟩:=eO.1 aj
    simp only [valOf,hu,ko,Bool.false_eq_true,if_false,List.headD_cons]
    rcases GC ae with ⟨c5,p,q,rfl,rfl,rfl⟩ | ⟨c5,k,p,q,rfl,rfl,rfl⟩
    ·
     simp only [a5,Option.some.injEq] at jD mI; subst jD; subst mI
     simp [Op.equalIn,df hu]
    ·
     rw [c5] at h; simp at h
  ·
   rename_i k hu
   rw [Bool.and_eq_true] at h
   have J:P.cellsOf t=1:=Nat.eq_of_beq_eq_true h.2
   rw [J] at ah
   match l,r,ah,k9 with
   | [x],[y],_,_=>
    rw [vN,yF] at he
    obtain ⟨a,ae,he⟩:=bind_some he
    simp only [Option.map_some,Bool.and_true,Option.some.injEq] at he
    subst he
    obtain ⟨x',_,jD,u3,rfl⟩:=eO.1 R
    obtain ⟨ch,_,mI,ac6,rfl⟩:=eO.1 aj
    simp only [valOf,hu,ko,Bool.false_eq_true,if_false,List.headD_cons]
    rcases GC ae with ⟨c5,p,q,rfl,rfl,rfl⟩ | ⟨c5,k,p,q,rfl,rfl,rfl⟩
    ·
     rw [c5] at h; simp at h
    ·
     simp only [a5,Option.some.injEq] at jD mI; subst jD; subst mI
     simp [Op.equalIn,df hu]
  ·
   rename_i da hu
   simp only [Bool.and_eq_true,Bool.not_eq_true'] at h
   have ao:P.fieldsOf t=da:=by simp [Program.fieldsOf,hu]
   simp only [valOf,hu,ko,if_true]
   rw [run_equalIn_struct w j7 t xs.toArray eE.toArray (by rw [ao]; exact hu) h.1,ao]
   exact Gk (k:=d) (by omega) (fun u d3=>⟨zb d u d3,HO d3⟩) da.toList 0 _ l r b s xs eE w h.2 (Nat.zero_le _) ah (by simpa using he) (by omega) R aj
  ·
   rename_i n e hu
   simp only [Bool.and_eq_true] at h
   obtain ⟨Fz,K4,An⟩:=HO h.2
   obtain ⟨j,ax⟩:=Gj K4
   have V:P.cellsOf t=n * P.cellsOf e:=Nat.eq_of_beq_eq_true h.1
   simp only [valOf,hu,ko,if_true]
   rw [run_equalIn_array w j7 xs.toArray eE.toArray hu ax,List.range_eq_range']
   exact Gz (k:=d) (by omega) (zb d e h.2) K4 An n 0 n l r b s xs eE w (by omega) (by omega) (by simpa using he) (by omega) R aj
  ·
   cases h
end Go.az
namespace Go.az
variable {P:Program} {E:Env}
theorem de {a b:Nat}:Nat.ble a b=true↔a≤b:=by rw [Nat.ble_eq]
def pB (s:bb):Option I -> Option Value -> Prop
 | none,none=>True
 | some a,some v=>a5 s a=some v
 | _,_=>False
theorem Br {s:bb} {M:Nat} {T:a'} {ct:Array Value} (k:dD s M T ct) {o:Option Operand} {x:Option I} (h:fk M o T=some x):pB s x (o.map (dR ct)):=by
 cases o with
 | none=>simp only [fk,Option.some.injEq] at h; subst h; trivial
 | some o=>
  simp only [fk,nB] at h
  obtain ⟨a,ae,rfl⟩:=map_some h
  exact eF k ae
theorem t4 {a:I} {d y i:Nat} (h:di (some a) d y=some i):∃k,a= .int k (i:Int) /\ i≤y:=by
 simp only [di,mZ] at h
 obtain ⟨j,ax,h⟩:=bind_some h
 obtain ⟨U,h⟩:=cd h
 cases h
 obtain ⟨k,rfl⟩:=GB ax
 exact ⟨k,rfl,de.1 U⟩
theorem v7 {s:bb} {a:I} {v:Value} {d y ch i:Nat} {code:BoundsCode} (V:a5 s a=some v) (h:di (some a) d y=some i) (aj:y≤ch) (w:World):
 (Instr.sliceBound v ch code).run P w= .ok i w:=by
 obtain ⟨k,rfl,ad⟩:=t4 h
 simp only [a5,Option.some.injEq] at V
 subst V
 simp only [Instr.sliceBound,asIntOf,Sem.run_bind,Sem.run_pure,Result.andThen_ok]
 rw [if_pos (by omega)]
 simp
@[simp] def pf (mx:Option I) (c m:Nat):Nat:=match mx with | none=>c | some _=>m
theorem t5 {s:bb} {bd ad mx:Option I} {lO n4 cmx:Option Value} (J:pB s bd lO) (O:pB s ad n4) (ag:pB s mx cmx) {len cap xh l h m:Nat} {b:Bool}
 (U:bF len cap bd ad mx=some (l,h,m)) (ah:len≤cap) (o1:cap≤xh) (w:World):
 (Instr.sliceBounds b len xh lO n4 cmx).run P w= .ok (l,h,pf mx xh m) w /\ l≤h /\ h≤m /\ m≤cap /\ (mx=none -> m=cap):=by
 unfold bF at U
 cases mx with
 | none=>
  simp only [mZ,nB] at U
  cases cmx with
  | some c=>cases ag
  | none=>
   obtain ⟨aQ,a8,U⟩:=bind_some U
   obtain ⟨l',bk,U⟩:=map_some U
   cases U
   have aM:h≤cap /\ (Instr.sliceBounds b len xh lO n4 none).run P w=((match lO with | some v=>Instr.sliceBound v h .sliceB | none=>pure 0).run P w).andThen fun l w=> .ok (l,h,xh) w:=by
    cases n4 with
    | none=>
     cases ad with
     | some a=>cases O
     | none=>
      simp only [di,Option.some.injEq] at a8
      subst a8
      refine ⟨ah,?_⟩
      cases lO <;> simp [Instr.sliceBounds]
    | some v=>
     cases ad with
     | none=>cases O
     | some a=>
      have af:=fun code=>v7 (P:=P) (code:=code) O a8 o1 w
      obtain ⟨k,_,hle⟩:=t4 a8
      refine ⟨hle,?_⟩
      cases lO <;> simp [Instr.sliceBounds,af]
   refine ⟨?_,?_,aM.1,Nat.le_refl _,fun _=>rfl⟩
   ·
    rw [aM.2]
    cases lO with
    | none=>
     cases bd with
     | some a=>cases J
     | none=>simp only [di,Option.some.injEq] at bk; subst bk; simp
    | some v=>
     cases bd with
     | none=>cases J
     | some a=>rw [v7 J bk (Nat.le_refl _)]; rfl
   ·
    cases bd with
    | none=>simp only [di,Option.some.injEq] at bk; omega
    | some a=>obtain ⟨k,_,hle⟩:=t4 bk; exact hle
 | some c1=>
  cases cmx with
  | none=>cases ag
  | some agb=>
   cases ad with
   | none=>cases U
   | some aD=>
    cases n4 with
    | none=>cases O
    | some agc=>
     simp only [mZ,nB] at U
     obtain ⟨bY,dn,U⟩:=bind_some U
     obtain ⟨aQ,a8,U⟩:=bind_some U
     obtain ⟨l',bk,U⟩:=map_some U
     cases U
     have fF:=fun code=>v7 (P:=P) (code:=code) ag dn o1 w
     have cf:=fun code=>v7 (P:=P) (code:=code) O a8 (Nat.le_refl _) w
     obtain ⟨_,_,hm⟩:=t4 dn
     obtain ⟨_,_,aM⟩:=t4 a8
     refine ⟨?_,?_,aM,hm,fun e=>by cases e⟩
     ·
      cases lO with
      | none=>
       cases bd with
       | some a=>cases J
       | none=>simp only [di,Option.some.injEq] at bk; subst bk; simp [Instr.sliceBounds,fF,cf]
      | some v=>
       cases bd with
       | none=>cases J
       | some a=>simp [Instr.sliceBounds,fF,cf,fun code=>v7 (P:=P) (code:=code) J bk (Nat.le_refl _) w]
     ·
      cases bd with
      | none=>simp only [di,Option.some.injEq] at bk; omega
      | some a=>obtain ⟨k,_,hle⟩:=t4 bk; exact hle
theorem kd (c o n:Nat):(⟨c,o,none⟩:Addr).add n=⟨c,o + n,none⟩:=by
 unfold Addr.add; split
 ·
  rename_i h; subst h; rfl
 ·
  rfl
theorem BJ (d m l o size:Nat):(if m=l then (⟨d,o,none⟩:Addr) else (⟨d,o,none⟩:Addr).add (l * size))=⟨d,addrAt m l o size,none⟩:=by
 unfold addrAt
 by_cases h:m=l
 ·
  subst h; simp
 ·
  have:Nat.beq m l=false:=by rw [<- Bool.not_eq_true,Nat.beq_eq]; exact h
  rw [if_neg h,this,kd]; rfl
theorem Gm (l:List UInt8) (a b:Nat):(ByteArray.mk l.toArray).extract a b=⟨((l.take b).drop a).toArray⟩:=by
 have h:=Lib.extract_data (ByteArray.mk l.toArray) a b
 cases R:(ByteArray.mk l.toArray).extract a b with
 | mk d=>
  rw [R] at h
  congr 1
  rw [List.drop_take]
  simp only at h
  rw [<- h]
theorem cU.sI (a1:cU E P) {t e:TypeId} (h:aU E t= .slice e∨∃n,aU E t= .array n e) (w:World):(sizeOf e).run P w= .ok (az.au E e) w:=by
 obtain ⟨i,ad⟩:=a1.el t e h
 exact a1.au ad w
theorem Rg {s:bb} {b off len es:Nat} {cap:dm} {v:I} {c:Value} {bd ad mx:Option I} {lO n4 cmx:Option Value} (R:a5 s (.slice b off len cap)=some c) (J:pB s bd lO) (O:pB s ad n4) (ag:pB s mx cmx)
 (h:oS cap es b off len bd ad mx=some v) {t e:TypeId} (hu:P.underlying t=some (.slice e)) (aG:∀w,(sizeOf e).run P w= .ok es w) (w:World):
 ∃b8,a5 s v=some b8 /\ (Instr.sliceAt t c lO n4 cmx).run P w= .ok b8 w:=by
 cases cap with
 | ex Fx=>
  simp only [oS,nB] at h
  obtain ⟨⟨a,cv,m⟩,U,rfl⟩:=map_some h
  simp only [a5,dB] at R
  split at R
  case isFalse=>cases R
  rename_i lP
  obtain ⟨d,aw,rfl⟩:=map_some R
  obtain ⟨af,ge,ql,hm,ar⟩:=t5 (P:=P) (b:=true) J O ag U lP (Nat.le_refl _) w
  have ED:pf mx Fx m=m:=by cases mx <;> simp [pf,ar]
  rw [ED] at af
  refine ⟨.slice (some ⟨d,addrAt m a off es,none⟩) (cv - a) (m - a),?_,?_⟩
  ·
   simp only [a5,dB,Nat.sub_eq]; rw [if_pos (by omega),aw]; rfl
  ·
   simp only [Instr.sliceAt,Instr.slice,Sem.run_bind,df hu,Result.andThen_ok,af,aG,Sem.run_pure,Option.map_some]
   rw [<- BJ]
   by_cases e:m=a <;> simp [e]
 | rest dt sz cQ=>
  simp only [oS] at h
  obtain ⟨bm,h⟩:=cd h
  have bm:sz=es:=Nat.eq_of_beq_eq_true bm
  rw [mZ] at h
  obtain ⟨⟨a,cv,m⟩,U,h⟩:=bind_some h
  simp only [a5,dB] at R
  split at R
  case isFalse=>cases R
  rename_i hle
  obtain ⟨d,aw,rfl⟩:=map_some R
  obtain ⟨af,ge,ql,hm,ar⟩:=t5 (P:=P) (b:=true) J O ag U hle.1 (show cQ≤s.ka b - dt by omega) w
  cases mx with
  | none=>
   obtain rfl:=ar rfl
   simp only [pf] at af
   have aQ:ap (Nat.blt a m || Nat.beq a 0) (some (I.slice b (off + a * sz) (cv - a) (.rest (dt + a) sz (m - a)))) (some (I.slice b off 0 (.tail dt a sz false)))=some v:=h
   cases aF:(Nat.blt a m || Nat.beq a 0) with
   | true=>
    rw [aF,uk] at aQ
    cases aQ
    have aF:a < m∨a=0:=by simpa [cZ,Nat.beq_eq] using aF
    refine ⟨.slice (some ⟨d,off + a * sz,none⟩) (cv - a) (s.ka b - dt - a),?_,?_⟩
    ·
     simp only [a5,dB]; rw [if_pos ⟨by omega,by omega,by rw [hle.2.2.1,Nat.add_mul],hle.2.2.2⟩,aw]; simp; omega
    ·
     simp only [Instr.sliceAt,Instr.slice,Sem.run_bind,df hu,Result.andThen_ok,af,aG,Sem.run_pure,Option.map_some]
     by_cases ae:a=0
     ·
      subst ae; simp [kd]
     ·
      rw [if_neg (by omega),kd,bm]
   | false=>
    rw [aF,wb] at aQ
    cases aQ
    have aF:¬a < m /\ a≠0:=by simpa [<- Bool.not_eq_true,cZ,Nat.beq_eq] using aF
    have vH:a=m:=by omega
    have aeX:cv=m:=by omega
    subst vH
    subst aeX
    refine ⟨.slice (some ⟨d,if s.ka b - dt=cv then off else off + cv * sz,none⟩) 0 (s.ka b - dt - cv),?_,?_⟩
    ·
     simp only [a5,dB]; rw [if_pos ⟨trivial,by omega,hle.2.2.1,hle.2.2.2⟩,aw]; simp
    ·
     simp only [Instr.sliceAt,Instr.slice,Sem.run_bind,df hu,Result.andThen_ok,af,aG,Sem.run_pure,Option.map_some,kd,<- bm]
     by_cases e:s.ka b - dt=cv <;> simp [e]
  | some agd=>
   simp only [pf] at af
   have aQ:some (I.slice b (addrAt m a off sz) (cv - a) (.ex (m - a)))=some v:=h
   cases aQ
   refine ⟨.slice (some ⟨d,addrAt m a off sz,none⟩) (cv - a) (m - a),?_,?_⟩
   ·
    simp only [a5,dB]; rw [if_pos (by omega),aw]; rfl
   ·
    simp only [Instr.sliceAt,Instr.slice,Sem.run_bind,df hu,Result.andThen_ok,af,aG,Sem.run_pure,Option.map_some,<- bm]
    rw [<- BJ]
    by_cases e:m=a <;> simp [e]
 | tail dt l sz z=>
  simp only [oS] at h
  obtain ⟨hR,h⟩:=cd h
  have hR:len=0:=Nat.eq_of_beq_eq_true hR
  subst hR
  rw [nB] at h
  obtain ⟨⟨a,cv,m⟩,U,rfl⟩:=map_some h
  simp only [a5,dB] at R
  split at R
  case isFalse=>cases R
  rename_i hle
  obtain ⟨d,aw,rfl⟩:=map_some R
  obtain ⟨af,ge,ql,hm,ar⟩:=t5 (P:=P) (b:=true) J O ag U (Nat.le_refl _) (Nat.zero_le (if z=true then 0 else s.ka b - dt - l)) w
  obtain rfl:m=0:=by omega
  obtain rfl:cv=0:=by omega
  obtain rfl:a=0:=by omega
  refine ⟨.slice (some ⟨d,if s.ka b - dt=l then off else off + l * sz,none⟩) 0 (pf mx (if z=true then 0 else s.ka b - dt - l) 0),?_,?_⟩
  ·
   simp only [a5,dB]; rw [if_pos ⟨trivial,hle.2⟩,aw]; cases mx <;> cases z <;> rfl
  ·
   simp only [Instr.sliceAt,Instr.slice,Sem.run_bind,df hu,Result.andThen_ok,af,aG,Sem.run_pure,Option.map_some,kd]
   cases mx <;> simp [kd]
theorem NQ (a1:cU E P) {s:bb} {t:TypeId} {x v:I} {c:Value} {bd ad mx:Option I} {lO n4 cmx:Option Value} (R:a5 s x=some c) (J:pB s bd lO) (O:pB s ad n4) (ag:pB s mx cmx)
 (h:dp (aU E t) E x bd ad mx=some v) (w:World):∃b8,a5 s v=some b8 /\ (Instr.sliceAt t c lO n4 cmx).run P w= .ok b8 w:=by
 cases ab:aU E t with
 | string=>
  rw [ab] at h
  obtain ⟨l,ah,aQ⟩:=aO (show ((f_ x).ac fun s=>match mx with | none=>(bF s.length s.length bd ad none).omap fun r=>I.str ((s.take r.2.1).drop r.1) | some _=>none)=some v from h)
  clear h
  obtain rfl:=qW ah
  simp only [a5,Option.some.injEq] at R
  subst R
  have hu:=a1.string ab
  cases mx with
  | some _=>cases aQ
  | none=>
   cases cmx with
   | some c=>cases ag
   | none=>
    obtain ⟨⟨a,b,m⟩,U,rfl⟩:=bB aQ
    obtain ⟨af,ge,ql,hm,_⟩:=t5 (P:=P) (b:=false) J O (mx:=none) (cmx:=none) trivial U (Nat.le_refl _) (Nat.le_refl _) w
    refine ⟨_,rfl,?_⟩
    have JD:(ByteArray.mk l.toArray).size=l.length:=by simp [ByteArray.size]
    simp only [Instr.sliceAt,Instr.slice,Sem.run_bind,df hu,Result.andThen_ok,Option.isSome_none,Bool.false_eq_true,if_false,JD]
    simp only [Sem.run_pure,Result.andThen_ok,af]
    rw [Gm]
 | slice e=>
  rw [ab] at h
  have hu:=a1.slice ab
  have aG:=fun w=>a1.sI (.inl ab) w
  cases aB:asSlice x with
  | some q=>
   obtain rfl:=hv aB
   exact Rg R J O ag h hu aG w
  | none=>
   have aQ:bQ (asSlice x) (ap (du x) ((bF 0 0 bd ad mx).omap fun _=>x) (uc (au E e) x bd ad mx)) (fun q=>oS q.2.2.2 (au E e) q.1 q.2.1 q.2.2.1 bd ad mx)=some v:=h
   rw [aB,fM,NO R] at aQ
   clear h
   obtain ⟨ar,lK⟩:=cd aQ
   clear aQ
   obtain ⟨⟨a,b,m⟩,U,rfl⟩:=bB lK
   obtain ⟨af,ge,ql,hm,_⟩:=t5 (P:=P) (b:=true) J O ag U (Nat.le_refl _) (Nat.le_refl _) w
   obtain rfl:m=0:=by omega
   obtain rfl:b=0:=by omega
   obtain rfl:a=0:=by omega
   rcases iS ar with rfl | ⟨cm,rfl⟩
   ·
    simp only [a5,Option.some.injEq] at R
    subst R
    refine ⟨_,rfl,?_⟩
    simp only [Instr.sliceAt,Instr.slice,Sem.run_bind,df hu,Result.andThen_ok,af,aG,Sem.run_pure]
    cases mx <;> simp [pf]
   ·
    simp only [a5,Option.some.injEq] at R
    subst R
    refine ⟨_,rfl,?_⟩
    simp only [Instr.sliceAt,Instr.slice,Sem.run_bind,df hu,Result.andThen_ok,af,aG,Sem.run_pure]
    cases mx <;> simp [pf]
 | array n e=>
  rw [ab] at h
  have hu:=a1.array ab
  have aG:=fun w=>a1.sI (.inr ⟨n,ab⟩) w
  replace h:=show (bQ (ec x) (ud x n (au E e) bd ad mx) fun q=>(bF n n bd ad mx).omap fun r=>I.slice q.1 (addrAt r.2.2 r.1 q.2 (au E e)) (Nat.sub r.2.1 r.1) (.ex (Nat.sub r.2.2 r.1)))=some v from h
  rw [NP R,y2] at h
  obtain ⟨q,aB,aQ⟩:=aO h
  clear h
  obtain rfl:=l6 aB
  obtain ⟨⟨a,cv,m⟩,U,rfl⟩:=bB aQ
  simp only [a5] at R
  obtain ⟨d,aw,rfl⟩:=map_some R
  obtain ⟨af,ge,ql,hm,ar⟩:=t5 (P:=P) (b:=false) J O ag U (Nat.le_refl _) (Nat.le_refl _) w
  have ED:pf mx n m=m:=by cases mx <;> simp [pf,ar]
  rw [ED] at af
  refine ⟨.slice (some ⟨d,addrAt m a q.2 (au E e),none⟩) (cv - a) (m - a),?_,?_⟩
  ·
   simp only [a5,dB,Nat.sub_eq]; rw [if_pos (by omega),aw]; rfl
  ·
   simp only [Instr.sliceAt,Sem.run_bind,df hu,Result.andThen_ok,Instr.sureAddr,af,aG,Sem.run_pure]
   rw [<- BJ]
 | _=>rw [ab] at h; cases h
end Go.az
namespace Go.az
variable {P:Program} {E:Env}
theorem oH {s:bb} {k:IntKind} {n:Int} {v:Value} (h:a5 s (.int k n)=some v):v= .int k n:=by cases h; rfl
theorem t9 {s:bb} {b:Bool} {v:Value} (h:a5 s (.bool b)=some v):v= .bool b:=by cases h; rfl
theorem sw {s:bb} {l:List UInt8} {v:Value} (h:a5 s (.str l)=some v):v= .string ⟨l.toArray⟩:=by cases h; rfl
theorem m0 {s:bb} {b o:Nat} {v:Value} (h:a5 s (.ptr b o)=some v):∃d,s.cw b=some d /\ v= .pointer (some ⟨d,o,none⟩):=by
 obtain ⟨d,aw,rfl⟩:=map_some (show (s.cw b).map _=some v from h); exact ⟨d,aw,rfl⟩
theorem q6 {s:bb} {l:List I} {v:Value} (h:a5 s (.agg l)=some v):∃xs,bZ s l=some xs /\ v= .agg xs.toArray:=by
 simp only [a5] at h; obtain ⟨xs,R,rfl⟩:=map_some h; exact ⟨xs,R,rfl⟩
theorem Bs {s:bb} {l:List I} {v:Value} (h:a5 s (.tuple l)=some v):∃xs,bZ s l=some xs /\ v= .tuple xs.toArray:=by
 simp only [a5] at h; obtain ⟨xs,R,rfl⟩:=map_some h; exact ⟨xs,R,rfl⟩
theorem t3 {op:BinOp} {t:TypeId} {x y:Operand} {a b:Value} (J:∀xs,a≠ .agg xs) (O:a≠ .nilIface) (w:World):(eqGuard op t x y a b).run P w= .ok () w:=by
 unfold eqGuard
 simp only [Sem.run_bind,Sem.run_ite]
 by_cases h:(!(match op with | .eql | .neq=>true | _=>false))=true
 ·
  cases op <;> first | (simp at h; done) | rfl
 ·
  cases op <;> first | (simp at h; done) | skip
  all_goals
   cases a <;> first | (exact absurd rfl O) | (exact absurd rfl (J _)) | (cases b <;> rfl)
theorem yB {bg:Bool}:∀(d n:Nat) (t:TypeId),d≤n -> hz P bg d t=true -> P.eqGuardType n t=false
 | 0,_,_,_,h=>by cases h
 | d + 1,0,_,h,_=>by omega
 | d + 1,n + 1,t,hle,h=>by
  unfold hz at h
  unfold Program.eqGuardType
  split at h
  ·
   rename_i hu; rw [hu]
  ·
   rename_i hu; rw [hu]
  ·
   rename_i da hu
   rw [hu]
   simp only [Bool.and_eq_true] at h
   have key:∀(l:List Field) (a b:Nat),hz.oM P (hz P bg d) a b l=true -> ∀f∈l,P.eqGuardType n f.type=false:=by
    intro l
    induction l with
    | nil=>intro a b _ f ao; cases ao
    | cons g l aH=>
     intro a b ah f ao
     simp only [hz.oM,Bool.and_eq_true] at ah
     rcases List.mem_cons.1 ao with rfl | ao
     ·
      exact yB d n _ (by omega) ah.2.2.1
     ·
      exact aH _ _ ah.2.2.2 f ao
   have:=key _ _ _ h.2
   simp only [Array.any_eq_false]
   intro i ad
   have:=this (da[i]) (by simp)
   simp [this]
  ·
   rename_i m e hu
   rw [hu]
   simp only [Bool.and_eq_true] at h
   exact yB d n e (by omega) h.2
  ·
   cases h
theorem BK {x:I} {s:bb} {c:Value} (V:a5 s x=some c) (h:mg x=true):x= .cA∨∃b o,x= .ptr b o:=by cases x <;> first | exact .inl rfl | exact .inr ⟨_,_,rfl⟩ | (cases h; done) | (simp only [a5] at V; cases V; done)
theorem yG {x:I} {s:bb} {c:Value} (V:a5 s x=some c) (h:g5 x=true):x= .aE∨(∃b o n c,x= .slice b o n c)∨∃a,x= .dY a:=by cases x <;> first | exact .inl rfl | exact .inr (.inl ⟨_,_,_,_,rfl⟩) | exact .inr (.inr ⟨_,rfl⟩) | (cases h; done) | (simp only [a5] at V; cases V; done)
theorem Bt {x:I} (h:mb x=true):x= .dj∨∃b o n,x= .func b o n:=by cases x <;> first | exact .inl rfl | exact .inr ⟨_,_,_,rfl⟩ | cases h
theorem l7 {s:bb} {b o n:Nat} {c:dm} {v:Value} (h:a5 s (.slice b o n c)=some v):∃d o' b8,v= .slice (some ⟨d,o',none⟩) n b8 /\ s.cw b=some d:=by
 simp only [a5] at h
 cases c with
 | ex c=>
  simp only [dB] at h
  split at h
  ·
   obtain ⟨d,aw,rfl⟩:=map_some h; exact ⟨_,_,_,rfl,aw⟩
  ·
   cases h
 | rest e sz cQ=>
  simp only [dB] at h
  split at h
  ·
   obtain ⟨d,aw,rfl⟩:=map_some h; exact ⟨_,_,_,rfl,aw⟩
  ·
   cases h
 | tail e l sz z=>
  simp only [dB] at h
  split at h
  ·
   rename_i ar
   obtain ⟨d,aw,rfl⟩:=map_some h
   rw [ar.1]
   exact ⟨_,_,_,rfl,aw⟩
  ·
   cases h
theorem q2 {s:bb} {f:FuncId} {a c:List I} {v:Value} (h:a5 s (.func f a c)=some v):∃x y,bZ s a=some x /\ bZ s c=some y /\ v= .func (.func f) x.toArray y.toArray:=by
 simp only [a5] at h
 obtain ⟨x,R,h⟩:=bind_some h
 obtain ⟨y,aj,rfl⟩:=map_some h
 exact ⟨x,y,R,aj,rfl⟩
section
variable {t:TypeId} (w:World) (d:Nat)
theorem ID {e:TypeId} (hu:P.underlying t=some (.pointer e)) (b:Option Addr):(Op.equalIn (d + 1) t (.pointer none) (.pointer b)).run P w= .ok b.isNone w:=by simp [Op.equalIn,df hu]
theorem Rh {e:TypeId} (hu:P.underlying t=some (.pointer e)) (b:Addr):(Op.equalIn (d + 1) t (.pointer (some b)) (.pointer none)).run P w= .ok false w:=by simp [Op.equalIn,df hu]
theorem BL {e:TypeId} (hu:P.underlying t=some (.slice e)) (b:Option Addr) (n c hc b8:Nat):(Op.equalIn (d + 1) t (.slice none n c) (.slice b hc b8)).run P w= .ok b.isNone w:=by simp [Op.equalIn,df hu]
theorem GD {e:TypeId} (hu:P.underlying t=some (.slice e)) (b:Addr) (n c hc b8:Nat):(Op.equalIn (d + 1) t (.slice (some b) n c) (.slice none hc b8)).run P w= .ok false w:=by simp [Op.equalIn,df hu]
theorem Ri {a b:Array TypeId} {v:Bool} (hu:P.underlying t=some (.func a b v)):(Op.equalIn (d + 1) t .nilFunc .nilFunc).run P w= .ok true w:=by simp [Op.equalIn,df hu]
theorem Pf {a b:Array TypeId} {v:Bool} (hu:P.underlying t=some (.func a b v)) (f:Fn) (x y:Array Value):(Op.equalIn (d + 1) t .nilFunc (.func f x y)).run P w= .ok false w:=by simp [Op.equalIn,df hu]
theorem Pg {a b:Array TypeId} {v:Bool} (hu:P.underlying t=some (.func a b v)) (f:Fn) (x y:Array Value):(Op.equalIn (d + 1) t (.func f x y) .nilFunc).run P w= .ok false w:=by simp [Op.equalIn,df hu]
theorem Rj (hu:P.underlying t=some .bool) (a b:Bool):(Op.equalIn (d + 1) t (.bool a) (.bool b)).run P w= .ok (a==b) w:=by simp [Op.equalIn,df hu]
end
theorem Bu (a1:cU E P) {t:TypeId} {x y:I} {eU ll:Value} {s:bb} {b:Bool} (R:a5 s x=some eU) (aj:a5 s y=some ll) (h:kn x y=some b)
 (ab:(∃e,aU E t= .ptr e /\ mg x=true /\ mg y=true)∨(∃e,aU E t= .slice e /\ g5 x=true /\ g5 y=true)∨(aU E t= .func /\ mb x=true /\ mb y=true)) (w:World):
 (Op.equal t eU ll).run P w= .ok b w:=by
 rcases ab with ⟨e,ab,J,O⟩ | ⟨e,ab,J,O⟩ | ⟨ab,J,O⟩
 ·
  have hu:=a1.ptr ab
  rcases BK R J with rfl | ⟨p,q,rfl⟩ <;> rcases BK aj O with rfl | ⟨eV,q',rfl⟩
  ·
   cases R; cases aj; cases h; exact ID w 9999 hu _
  ·
   obtain ⟨d,_,rfl⟩:=m0 aj; cases R; cases h; exact ID w 9999 hu _
  ·
   obtain ⟨d,_,rfl⟩:=m0 R; cases aj; cases h; exact Rh w 9999 hu _
  ·
   cases h
 ·
  have hu:=a1.slice ab
  rcases yG R J with rfl | ⟨p,q,m,c,rfl⟩ | ⟨cm,rfl⟩ <;> rcases yG aj O with rfl | ⟨eV,q',bY,b8,rfl⟩ | ⟨afN,rfl⟩
  ·
   cases R; cases aj; cases h; exact BL w 9999 hu _ _ _ _ _
  ·
   obtain ⟨d,_,_,rfl,_⟩:=l7 aj; cases R; cases h; exact BL w 9999 hu _ _ _ _ _
  ·
   cases R; cases aj; cases h; exact BL w 9999 hu _ _ _ _ _
  ·
   obtain ⟨d,_,_,rfl,_⟩:=l7 R; cases aj; cases h; exact GD w 9999 hu _ _ _ _ _
  ·
   cases h
  ·
   cases h
  ·
   cases R; cases aj; cases h; exact GD w 9999 hu _ _ _ _ _
  ·
   cases h
  ·
   cases h
 ·
  obtain ⟨bI,bN,dG,hu⟩:=a1.func ab
  rcases Bt J with rfl | ⟨p,q,m,rfl⟩ <;> rcases Bt O with rfl | ⟨eV,q',bY,rfl⟩
  ·
   cases R; cases aj; cases h; exact Ri w 9999 hu
  ·
   obtain ⟨_,_,_,_,rfl⟩:=q2 aj; cases R; cases h; exact Pf w 9999 hu _ _ _
  ·
   obtain ⟨_,_,_,_,rfl⟩:=q2 R; cases aj; cases h; exact Pg w 9999 hu _ _ _
  ·
   cases h
theorem ft {a b:Bool} (h:(a && b)=true):a=true /\ b=true:=by simpa using h
theorem HQ (a1:cU E P) {t:TypeId} {x y:I} {eU ll:Value} {s:bb} {b:Bool} (R:a5 s x=some eU) (aj:a5 s y=some ll) (h:gx (aU E t) (E.flat t) x y=some b) (w:World):
 (Op.equal t eU ll).run P w= .ok b w /\ ∀(op:BinOp) (mN mO:Operand),(eqGuard op t mN mO eU ll).run P w= .ok () w:=by
 cases ab:aU E t with
 | ptr e=>
  rw [ab] at h
  obtain ⟨aR,aQ⟩:=cd (show ap (mg x && mg y) (kn x y) none=some b from h)
  obtain ⟨h3,iG⟩:=ft aR
  refine ⟨Bu a1 R aj aQ (.inl ⟨e,ab,h3,iG⟩) w,fun op mN mO=>t3 ?_ ?_ w⟩ <;>
   (rcases BK R h3 with rfl | ⟨p,q,rfl⟩ <;> first | (cases R; simp; done) | (obtain ⟨_,_,rfl⟩:=m0 R; simp))
 | slice e=>
  rw [ab] at h
  obtain ⟨aR,aQ⟩:=cd (show ap (g5 x && g5 y) (kn x y) none=some b from h)
  obtain ⟨h3,iG⟩:=ft aR
  refine ⟨Bu a1 R aj aQ (.inr (.inl ⟨e,ab,h3,iG⟩)) w,fun op mN mO=>t3 ?_ ?_ w⟩ <;>
   (rcases yG R h3 with rfl | ⟨p,q,m,c,rfl⟩ | ⟨cm,rfl⟩ <;> first | (cases R; simp; done) | (obtain ⟨_,_,_,rfl,_⟩:=l7 R; simp))
 | func=>
  rw [ab] at h
  obtain ⟨aR,aQ⟩:=cd (show ap (mb x && mb y) (kn x y) none=some b from h)
  obtain ⟨h3,iG⟩:=ft aR
  refine ⟨Bu a1 R aj aQ (.inr (.inr ⟨ab,h3,iG⟩)) w,fun op mN mO=>t3 ?_ ?_ w⟩ <;>
   (rcases Bt h3 with rfl | ⟨p,q,m,rfl⟩ <;> first | (cases R; simp; done) | (obtain ⟨_,_,_,_,rfl⟩:=q2 R; simp))
 | bool=>
  rw [ab] at h
  obtain ⟨p,aR,aQ⟩:=aO (show ((e_ x).ac fun a=>(e_ y).omap fun b=>kT a b)=some b from h)
  obtain ⟨q,aB,rfl⟩:=bB aQ
  obtain rfl:=qT aR
  obtain rfl:=qT aB
  obtain rfl:=t9 R
  obtain rfl:=t9 aj
  have hu:=a1.bool ab
  refine ⟨?_,fun op mN mO=>t3 (by simp) (by simp) w⟩
  rw [oD]
  exact Rj w 9999 hu _ _
 | struct da=>
  rw [ab] at h
  have aQ:oR (E.flat t) x y=some b:=h
  cases ao:E.flat t with
  | none=>rw [ao] at aQ; cases aQ
  | some p=>
   rw [ao] at aQ
   obtain ⟨l,ah,J⟩:=aO (show ((gI x).ac fun l=>(gI y).ac fun r=>ap (Nat.beq (bJ l) p.2) (hd p.1 l r) none)=some b from aQ)
   obtain ⟨r,af,O⟩:=aO J
   obtain ⟨ar,he⟩:=cd O
   obtain rfl:=nv ah
   obtain rfl:=nv af
   obtain ⟨xs,eS,rfl⟩:=q6 R
   obtain ⟨eE,n5,rfl⟩:=q6 aj
   obtain ⟨dl,bm⟩:=a1.flat t p ao
   obtain ⟨gs,hu,_⟩:=a1.struct ab
   have hlen:l.length=P.cellsOf t:=by rw [<- eQ,<- bm]; exact Nat.eq_of_beq_eq_true ar
   have b9:=zb 8 t dl l r b s xs eE 10000 w (by omega) he hlen eS n5
   simp only [valOf,hu,ko,if_true] at b9
   exact ⟨b9,fun op mN mO=>run_eqGuard_agg w op t mN mO _ _ (yB 8 _ _ a1.depth dl)⟩
 | array n e=>
  rw [ab] at h
  have aQ:oR (E.flat t) x y=some b:=h
  cases ao:E.flat t with
  | none=>rw [ao] at aQ; cases aQ
  | some p=>
   rw [ao] at aQ
   obtain ⟨l,ah,J⟩:=aO (show ((gI x).ac fun l=>(gI y).ac fun r=>ap (Nat.beq (bJ l) p.2) (hd p.1 l r) none)=some b from aQ)
   obtain ⟨r,af,O⟩:=aO J
   obtain ⟨ar,he⟩:=cd O
   obtain rfl:=nv ah
   obtain rfl:=nv af
   obtain ⟨xs,eS,rfl⟩:=q6 R
   obtain ⟨eE,n5,rfl⟩:=q6 aj
   obtain ⟨dl,bm⟩:=a1.flat t p ao
   have hu:=a1.array ab
   have hlen:l.length=P.cellsOf t:=by rw [<- eQ,<- bm]; exact Nat.eq_of_beq_eq_true ar
   have b9:=zb 8 t dl l r b s xs eE 10000 w (by omega) he hlen eS n5
   simp only [valOf,hu,ko,if_true] at b9
   exact ⟨b9,fun op mN mO=>run_eqGuard_agg w op t mN mO _ _ (yB 8 _ _ a1.depth dl)⟩
 | _=>rw [ab] at h; cases h
def CY (c:Value):Prop:=(∃b,c= .bool b)∨(∃a,c= .pointer a)∨(∃a n m,c= .slice a n m)∨(∃f a b,c= .func f a b)∨c= .nilFunc∨(∃t v,c= .iface t v)∨c= .nilIface∨(∃l,c= .agg l)∨∃l,c= .tuple l
theorem M4 {s:bb} {x:I} {c:Value} (J:ej x=none) (O:f_ x=none) (h:a5 s x=some c):CY c:=by
 unfold CY
 cases x with
 | int k n=>cases J
 | str l=>cases O
 | bool b=>cases h; simp
 | cA=>cases h; simp
 | ptr b o=>obtain ⟨_,_,rfl⟩:=m0 h; simp
 | aE=>cases h; simp
 | slice b o n c=>obtain ⟨_,_,_,rfl,_⟩:=l7 h; simp
 | func f a c=>obtain ⟨_,_,_,_,rfl⟩:=q2 h; simp
 | yield l=>obtain ⟨d,_,rfl⟩:=map_some (show (s.cw l).map _=some c from h); simp
 | dj=>cases h; simp
 | iface t v=>simp only [a5] at h; obtain ⟨y,_,rfl⟩:=map_some h; simp
 | dK=>cases h; simp
 | agg l=>obtain ⟨_,_,rfl⟩:=q6 h; simp
 | tuple l=>obtain ⟨_,_,rfl⟩:=Bs h; simp
 | aJ n l=>simp only [a5] at h; cases h
 | c9 l o=>simp only [a5] at h; cases h
 | dY a=>cases h; simp
theorem Rk {c:Value} (h:CY c) (t:TypeId) (d:Value):binOp .eql t c d=(do pure (.bool (<- Op.equal t c d))) /\ binOp .neq t c d=(do pure (.bool (!(<- Op.equal t c d)))):=by
 rcases h with ⟨_,rfl⟩ | ⟨_,rfl⟩ | ⟨_,_,_,rfl⟩ | ⟨_,_,_,rfl⟩ | rfl | ⟨_,_,rfl⟩ | rfl | ⟨_,rfl⟩ | ⟨_,rfl⟩ <;> exact ⟨rfl,rfl⟩
theorem Ph (a1:cU E P) {t:TypeId} {op:BinOp} {x y:I} {eU ll:Value} {s:bb} {v:I} (R:a5 s x=some eU) (aj:a5 s y=some ll) (h:hN (aU E t) (E.flat t) op x y=some v) (w:World) (mN mO:Operand):
 ∃c,a5 s v=some c /\ (do eqGuard op t mN mO eU ll; binOp op t eU ll:Sem Value).run P w= .ok c w:=by
 unfold hN at h
 cases ad:ej x with
 | some p=>
  rw [ad,fN] at h
  obtain rfl:=mX ad
  obtain rfl:=oH R
  have a4:=fun w=>t3 (P:=P) (op:=op) (t:=t) (x:=mN) (y:=mO) (a:= .int p.1 p.2) (b:=ll) (by simp) (by simp) w
  unfold hg y9 at h
  cases aG:y8 op with
  | true=>
   rw [aG] at h
   obtain ⟨q,aB,O⟩:=aO h
   obtain rfl:=mX aB
   obtain rfl:=oH aj
   obtain ⟨c,V,af⟩:=NL (P:=P) (yk:=q.1) O t w s
   exact ⟨c,V,by simp only [Sem.run_bind,a4,Result.andThen_ok,af]⟩
  | false=>
   rw [aG] at h
   obtain ⟨q,aB,O⟩:=aO h
   obtain ⟨ab,ag⟩:=cd O
   obtain rfl:=mX aB
   obtain rfl:=oH aj
   obtain ⟨c,V,af⟩:=NK (P:=P) ag t w s
   rw [v3] at ab
   exact ⟨c,V,by simp only [Sem.run_bind,a4,Result.andThen_ok]; rw [<- ab]; exact af⟩
 | none=>
  rw [ad,fM] at h
  cases aG:f_ x with
  | some a=>
   rw [aG,fN] at h
   obtain ⟨b,U,O⟩:=aO h
   obtain rfl:=qW aG
   obtain rfl:=qW U
   obtain rfl:=sw R
   obtain rfl:=sw aj
   have a4:=fun w=>t3 (P:=P) (op:=op) (t:=t) (x:=mN) (y:=mO) (a:= .string ⟨a.toArray⟩) (b:= .string ⟨b.toArray⟩) (by simp) (by simp) w
   cases op <;> first | (cases O; done) | skip
   ·
    have ag:(match Nat.ble (Nat.add a.length b.length) 1048576 with | true=>some (I.str (a ++ b)) | false=>none)=some v:=O
    split at ag
    ·
     rename_i hle
     cases ag
     rw [de] at hle
     have hle:a.length + b.length≤1048576:=hle
     refine ⟨_,rfl,?_⟩
     simp only [Sem.run_bind,a4,Result.andThen_ok]
     simp only [binOp,Op.stringOp,Sem.run_ite]
     rw [if_neg (by simp [ByteArray.size,IntKind.max,IntKind.signed,IntKind.bits]; omega)]
     simp only [Sem.run_pure]
     have:(⟨a.toArray⟩ ++ ⟨b.toArray⟩:ByteArray)=⟨(a ++ b).toArray⟩:=by
      apply ByteArray.ext
      simp [ByteArray.data_append]
     rw [this]
    ·
     cases ag
   ·
    cases O
    refine ⟨_,rfl,?_⟩
    simp only [Sem.run_bind,a4,Result.andThen_ok]
    simp [binOp,Op.stringOp,sv,FS]
   ·
    cases O
    refine ⟨_,rfl,?_⟩
    simp only [Sem.run_bind,a4,Result.andThen_ok]
    simp [binOp,Op.stringOp,sv,FS]
  | none=>
   rw [aG,fM] at h
   have td:∀(r:Bool),(Op.equal t eU ll).run P w= .ok r w -> (binOp .eql t eU ll).run P w= .ok (.bool r) w /\ (binOp .neq t eU ll).run P w= .ok (.bool (!r)) w:=by
    intro r af
    obtain ⟨J,O⟩:=Rk (M4 ad aG R) t ll
    rw [J,O]
    simp only [Sem.run_bind,af,Result.andThen_ok,Sem.run_pure]
    exact ⟨trivial,trivial⟩
   cases op <;> first | (cases h; done) | skip
   ·
    obtain ⟨b,U,rfl⟩:=bB (show (gx (aU E t) (E.flat t) x y).omap I.bool=some v from h)
    obtain ⟨af,a4⟩:=HQ a1 R aj U w
    exact ⟨_,rfl,by simp only [Sem.run_bind,a4,Result.andThen_ok]; exact (td b af).1⟩
   ·
    obtain ⟨b,U,rfl⟩:=bB (show (gx (aU E t) (E.flat t) x y).omap (fun b=>I.bool (!b))=some v from h)
    obtain ⟨af,a4⟩:=HQ a1 R aj U w
    exact ⟨_,rfl,by simp only [Sem.run_bind,a4,Result.andThen_ok]; exact (td b af).2⟩
theorem oC {n:Nat} {l r:List I} (h:cG n l=some r):n≤l.length /\ r=l.take n:=by
 rw [fL] at h
 split at h
 ·
  rename_i ar; cases h; exact ⟨ar,rfl⟩
 ·
  cases h
theorem GE (a1:cU E P) {t:TypeId} {cs:List I} {off:Nat} {v:I} {s:bb} {xs:List Value} (h:ek E t cs off=some v) (R:bZ s cs=some xs) (w:World):
 ∃c,a5 s v=some c /\ (part t xs.toArray off).run P w= .ok c w:=by
 unfold ek at h
 cases ad:E.ty t with
 | none=>rw [ad] at h; cases h
 | some i=>
  rw [ad] at h
  simp only at h
  obtain ⟨d,aw,ae⟩:=a1.agg ad
  have aG:=a1.au ad w
  have bm:az.au E t=i.size:=by simp [az.au,ad]
  rw [bm] at aG
  cases hE:i.agg with
  | true=>
   rw [hE] at h
   simp only at h
   obtain ⟨r,af,rfl⟩:=bB h
   obtain ⟨hle,rfl⟩:=oC af
   rw [dz]
   refine ⟨.agg ((xs.drop off).take i.size).toArray,?_,?_⟩
   ·
    simp only [a5,oB (qZ R off) i.size,Option.map_some]
   ·
    simp only [part,Sem.run_bind,v5 aw,Result.andThen_ok]
    rw [<- ae,hE]
    simp [aG,Nat.add_sub_cancel_left]
  | false=>
   rw [hE] at h
   simp only at h
   rw [ke] at h
   obtain ⟨c,V,hn⟩:=vZ R h
   refine ⟨c,hn,?_⟩
   simp only [part,Sem.run_bind,v5 aw,Result.andThen_ok]
   rw [<- ae,hE]
   simp [V]
theorem FX:∀(vs:List Value) (j off:Nat) (cs:Array Value),off + j + vs.length≤cs.size ->
 ((vs.zipIdx j).foldl (fun a (p:Value × Nat)=>a.setIfInBounds (off + p.2) p.1) cs).toList=cs.toList.take (off + j) ++ (vs ++ cs.toList.drop (off + j + vs.length))
 | [],j,off,cs,h=>by simp
 | v :: vs,j,off,cs,h=>by
  simp only [List.length_cons] at h
  rw [List.zipIdx_cons,List.foldl_cons,FX vs (j + 1) off _ (by simp; omega)]
  have a8:(cs.setIfInBounds (off + j) v).toList=cs.toList.set (off + j) v:=by simp
  rw [a8]
  have bk:off + (j + 1)=off + j + 1:=by omega
  rw [bk,List.take_set,List.drop_set]
  have hlen:off + j < cs.toList.length:=by simp; omega
  have xi:min (off + j) cs.size=off + j:=by simp at hlen; omega
  rw [if_pos (by omega),List.take_succ_eq_append_getElem hlen]
  simp only [List.length_cons,List.cons_append]
  rw [List.set_append_right _ _ (by simp; omega)]
  simp [xi,Nat.add_assoc,Nat.add_comm 1]
theorem G9 {new l r:List I} {off:Nat} (h:dC new off l=some r):off + new.length≤l.length /\ r=l.take off ++ (new ++ l.drop (off + new.length)):=by
 rw [uo] at h
 split at h
 ·
  rename_i ar; cases h; exact ⟨by omega,rfl⟩
 ·
  cases h
theorem GF {s:bb} {new l r:List I} {off:Nat} {j8 xs:List Value} (h:dC new off l=some r) (ar:bZ s new=some j8) (R:bZ s l=some xs):
 off + j8.length≤xs.length /\ bZ s r=some (xs.take off ++ (j8 ++ xs.drop (off + j8.length))):=by
 obtain ⟨hle,rfl⟩:=G9 h
 have J:=hW ar
 have O:=hW R
 refine ⟨by omega,?_⟩
 exact nu.2 ⟨_,_,oB R off,nu.2 ⟨_,_,ar,by rw [J]; exact qZ R _,rfl⟩,rfl⟩
theorem A7 (M:Nat) (place:Nat -> Option (Nat × Nat)) (T:a') (p:Nat × Operand) (ps:List (Nat × Operand)) (cs:List I):
 dV M place T (p :: ps) cs=(place p.1).bind fun q=>(aK M p.2 T).bind fun v=>match Nat.beq (bJ v.cells) q.2 with | true=>(dC v.cells q.1 cs).bind (dV M place T ps) | false=>none:=by
 have h:dV M place T (p :: ps) cs=(place p.1).ac fun q=>(aK M p.2 T).ac fun v=>match Nat.beq (bJ v.cells) q.2 with | true=>(dC v.cells q.1 cs).ac (dV M place T ps) | false=>none:=rfl
 rw [h]; simp only [mZ]
theorem yy {M:Nat} {place cplace:Nat -> Option (Nat × Nat)} (aR:∀i q,place i=some q -> cplace i=some q) {T:a'} {s:bb} {ct:Array Value} (ba:dD s M T ct):
 ∀(ps:List (Nat × Operand)) (cs r:List I) (xs:List Value),dV M place T ps cs=some r -> bZ s cs=some xs ->
  ∃eE,bZ s r=some eE /\ Instr.fill cplace xs.toArray (ps.map fun p=>(p.1,dR ct p.2))=some eE.toArray
 | [],cs,r,xs,h,R=>by cases h; exact ⟨xs,R,rfl⟩
 | p :: ps,cs,r,xs,h,R=>by
  rw [A7] at h
  obtain ⟨q,aB,J⟩:=bind_some h
  obtain ⟨v,ak,O⟩:=bind_some J
  have V:=eF ba ak
  have mJ:=qV V
  split at O
  case h_2=>cases O
  rename_i U
  obtain ⟨cs',cB,ag⟩:=bind_some O
  obtain ⟨hle,rC⟩:=GF cB mJ R
  obtain ⟨eE,n5,ao⟩:=yy aR ba ps cs' r _ ag rC
  refine ⟨eE,n5,?_⟩
  have bm:(dR ct p.2).cells.size=q.2:=by
   have aP:=hW mJ
   have bH:bJ v.cells=q.2:=Nat.eq_of_beq_eq_true U
   rw [eQ] at bH
   rw [<- bH,<- aP]; simp
  simp only [List.map_cons,Instr.fill,aR _ _ aB]
  have aas:q.1 + (dR ct p.2).cells.size≤xs.length:=by simpa using hle
  rw [if_neg (by simp [bm]; omega)]
  rw [<- ao]
  congr 1
  apply Array.ext'
  have:=FX (dR ct p.2).cells.toList 0 q.1 xs.toArray (by simpa using aas)
  rw [<- Array.foldl_toList,Array.toList_zipIdx]
  simpa using this
end Go.az
namespace Go.az
variable {P:Program} {E:Env}
theorem vV {s:bb} {x:I} {n:Nat} {c:Value} (h:dH x=some n) (V:a5 s x=some c):∃k,c= .int k (n:Int):=by
 obtain ⟨k,rfl⟩:=GB h
 exact ⟨k,oH V⟩
theorem M5 (a1:cU E P) {s:bb} {t:TypeId} {x i v:I} {eU ci:Value} {n:Nat} (R:a5 s x=some eU) (ad:a5 s i=some ci) (ar:dH i=some n)
 (h:e9 (aU E t) E x n=some v) (w:World):∃c,a5 s v=some c /\ (Instr.indexAt t eU ci).run P w= .ok c w:=by
 obtain ⟨k,rfl⟩:=vV ar ad
 cases ab:aU E t with
 | array m e=>
  rw [ab] at h
  obtain ⟨aF,O⟩:=cd (show ap (Nat.blt n m) (kk x (Nat.mul n (au E e))) none=some v from h)
  rw [cZ] at aF
  rw [HP R] at O
  obtain ⟨q,aB,rfl⟩:=bB O
  obtain rfl:=l6 aB
  obtain ⟨d,aw,rfl⟩:=m0 R
  have hu:=a1.array ab
  refine ⟨.pointer (some ⟨d,q.2 + n * au E e,none⟩),by simp [a5,aw],?_⟩
  simp only [Instr.indexAt,asIntOf,Instr.sureAddr,Sem.run_bind,Sem.run_pure,Result.andThen_ok,df hu,a1.sI (.inr ⟨m,ab⟩)]
  rw [if_pos (by omega)]
  simp [a1.sI (.inr ⟨m,ab⟩),kd]
 | slice e=>
  rw [ab] at h
  replace h:=show (bQ (asSlice x) (uF (au E e) x n) fun q=>ap (Nat.blt n q.2.2.1) (some (I.ptr q.1 (Nat.add q.2.1 (Nat.mul n (au E e))))) none)=some v from h
  rw [Te R,y2] at h
  obtain ⟨q,aB,J⟩:=aO h
  obtain ⟨aF,O⟩:=cd J
  rw [cZ] at aF
  cases O
  obtain rfl:=hv aB
  have hu:=a1.slice ab
  obtain ⟨b,o,m,c⟩:=q
  simp only at aF R
  have o8:∃d b8,eU= .slice (some ⟨d,o,none⟩) m b8 /\ s.cw b=some d:=by
   simp only [a5] at R
   cases c with
   | ex c=>
    simp only [dB] at R
    split at R
    ·
     obtain ⟨d,aw,rfl⟩:=map_some R; exact ⟨_,_,rfl,aw⟩
    ·
     cases R
   | rest e sz cQ=>
    simp only [dB] at R
    split at R
    ·
     obtain ⟨d,aw,rfl⟩:=map_some R; exact ⟨_,_,rfl,aw⟩
    ·
     cases R
   | tail e l sz z=>
    simp only [dB] at R
    split at R
    ·
     rename_i hm; omega
    ·
     cases R
  obtain ⟨d,b8,rfl,aw⟩:=o8
  refine ⟨.pointer (some ⟨d,o + n * au E e,none⟩),by simp [a5,aw],?_⟩
  simp only [Instr.indexAt,asIntOf,Instr.sureAddr,Sem.run_bind,Sem.run_pure,Result.andThen_ok,df hu]
  rw [if_pos (by omega)]
  simp [a1.sI (.inl ab),kd]
 | _=>rw [ab] at h; cases h
theorem NR (a1:cU E P) {s:bb} {t:TypeId} {x i v:I} {eU ci:Value} {n:Nat} (R:a5 s x=some eU) (ad:a5 s i=some ci) (ar:dH i=some n)
 (h:mi (aU E t) E x n=some v) (w:World):∃c,a5 s v=some c /\ (Instr.index t eU ci).run P w= .ok c w:=by
 obtain ⟨k,rfl⟩:=vV ar ad
 cases ab:aU E t with
 | string=>
  rw [ab] at h
  obtain ⟨l,ah,J⟩:=aO (show ((f_ x).ac fun s=>(s[n]?).omap fun c=>I.int .u8 (.ofNat c.toNat))=some v from h)
  obtain ⟨c,V,rfl⟩:=bB J
  obtain rfl:=qW ah
  obtain rfl:=sw R
  have hu:=a1.string ab
  refine ⟨_,rfl,?_⟩
  have a4:(ByteArray.mk l.toArray)[n]? =some c:=by
   obtain ⟨aF,he⟩:=List.getElem?_eq_some_iff.1 V
   have d7:n < (ByteArray.mk l.toArray).size:=by simpa [ByteArray.size] using aF
   rw [getElem?_pos _ n d7,<- he]
   rfl
  simp [Instr.index,asIntOf,df hu,a4]
 | array m e=>
  rw [ab] at h
  obtain ⟨l,ah,J⟩:=aO (show ((gI x).ac fun cs=>ap (Nat.blt n m) (ek E e cs (Nat.mul n (au E e))) none)=some v from h)
  obtain ⟨aF,O⟩:=cd J
  rw [cZ] at aF
  obtain rfl:=nv ah
  obtain ⟨xs,eS,rfl⟩:=q6 R
  obtain ⟨c,V,af⟩:=GE a1 O eS w
  have hu:=a1.array ab
  refine ⟨c,V,?_⟩
  simp only [Instr.index,asIntOf,Sem.run_bind,Sem.run_pure,Result.andThen_ok,df hu]
  rw [if_pos (by omega)]
  simp only [Sem.run_bind,a1.sI (.inr ⟨m,ab⟩),Result.andThen_ok,Int.toNat_natCast]
  exact af
 | _=>rw [ab] at h; cases h
theorem Pi (a1:cU E P) {s:bb} {t ty:TypeId} {bp:Array TypeId} {x v:I} {c:Value} (bh:bp[0]? =some t) (R:a5 s x=some c) (h:hh (aU E t) E x=some v) (w:World):
 ∃b8,a5 s v=some b8 /\ (Builtin.len_ bp ty #[c]).run P w= .ok b8 w:=by
 cases ab:aU E t with
 | string=>
  rw [ab] at h
  obtain ⟨l,ah,rfl⟩:=bB (show ((f_ x).omap fun s=>I.int .i64 (.ofNat s.length))=some v from h)
  obtain rfl:=qW ah
  obtain rfl:=sw R
  refine ⟨.int .i64 l.length,rfl,?_⟩
  unfold Builtin.len_
  simp only [bh,List.getElem?_toArray,List.getElem?_cons_zero,Sem.run_bind,df (a1.string ab),Result.andThen_ok,goInt,Sem.run_pure]
  rfl
 | array n e=>
  rw [ab] at h
  cases (show some (I.int .i64 (.ofNat n))=some v from h)
  refine ⟨.int .i64 n,rfl,?_⟩
  unfold Builtin.len_
  simp only [bh,List.getElem?_toArray,List.getElem?_cons_zero,Sem.run_bind,df (a1.array ab),Result.andThen_ok]
  cases c <;> simp only [goInt,Sem.run_pure]
 | ptr a=>
  rw [ab] at h
  have aQ:(match aU E a with | .array n _=>some (I.int .i64 (.ofNat n)) | _=>none)=some v:=h
  split at aQ
  ·
   rename_i n e xL
   cases aQ
   refine ⟨.int .i64 n,rfl,?_⟩
   unfold Builtin.len_
   simp only [bh,List.getElem?_toArray,List.getElem?_cons_zero,Sem.run_bind,df (a1.ptr ab),Result.andThen_ok]
   cases c <;> simp only [Sem.run_bind,df (a1.array xL),Result.andThen_ok,goInt,Sem.run_pure]
  ·
   cases aQ
 | slice e=>
  rw [ab] at h
  have aQ:bQ (asSlice x) (ap (du x) (some (I.int .i64 (.ofNat 0))) ((fj x).omap fun q=> .int .i64 (.ofNat (bJ q.2)))) (fun q=>some (I.int .i64 (.ofNat q.2.2.1)))=some v:=h
  rw [oN R] at aQ
  cases aG:asSlice x with
  | none=>
   rw [aG,fM] at aQ
   obtain ⟨ar,O⟩:=cd aQ
   rcases iS ar with rfl | ⟨cm,rfl⟩ <;> cases O <;> cases R <;> exact ⟨_,rfl,by unfold Builtin.len_; simp [bh,df (a1.slice ab),goInt]⟩
  | some q=>
   rw [aG,fN] at aQ
   obtain rfl:=hv aG
   obtain ⟨d,o,b8,rfl,_⟩:=l7 R
   cases aQ
   exact ⟨_,rfl,by unfold Builtin.len_; simp [bh,df (a1.slice ab),goInt]⟩
 | _=>rw [ab] at h; cases h
theorem Pj (a1:cU E P) {s:bb} {t ty:TypeId} {bp:Array TypeId} {x v:I} {c:Value} (bh:bp[0]? =some t) (R:a5 s x=some c) (h:rn (aU E t) x=some v) (w:World):
 ∃b8,a5 s v=some b8 /\ (Builtin.cap_ bp ty #[c]).run P w= .ok b8 w:=by
 cases ab:aU E t with
 | slice e=>
  rw [ab] at h
  have aQ:bQ (asSlice x) (ap (du x) (some (I.int .i64 (.ofNat 0))) none) (fun q=>zX q.2.2.2)=some v:=h
  cases aG:asSlice x with
  | none=>
   rw [aG,fM] at aQ
   obtain ⟨ar,O⟩:=cd aQ
   rcases iS ar with rfl | ⟨cm,rfl⟩ <;> cases O <;> cases R <;> exact ⟨_,rfl,by simp [Builtin.cap_,bh,df (a1.slice ab),goInt]⟩
  | some q=>
   rw [aG,fN] at aQ
   obtain rfl:=hv aG
   obtain ⟨b,o,n,hJ⟩:=q
   cases hJ with
   | ex k=>
    cases (show some (I.int .i64 (.ofNat k))=some v from aQ)
    simp only [a5,dB] at R
    split at R
    ·
     obtain ⟨d,aw,rfl⟩:=map_some R
     exact ⟨_,rfl,by simp [Builtin.cap_,bh,df (a1.slice ab),goInt]⟩
    ·
     cases R
   | rest=>cases aQ
   | tail=>cases aQ
 | _=>rw [ab] at h; cases h
theorem Tf (a b:Int):ry a b=if b < a then b else a:=by
 unfold ry; rw [ux]; by_cases h:b < a <;> simp [h]
theorem Tg (a b:Int):rz a b=if a < b then b else a:=by
 unfold rz; rw [ux]; by_cases h:a < b <;> simp [h]
theorem Rl (f:Int -> Int -> Int) (k:IntKind) (x:I) (l:List I) (a:Int):j1 f k (x :: l) a=(ej x).bind fun p=>ap (jO k p.1) (j1 f k l (f a p.2)) none:=by
 have h:j1 f k (x :: l) a=(ej x).ac fun p=>ap (jO k p.1) (j1 f k l (f a p.2)) none:=rfl
 rw [h,mZ]
theorem CZ {f:Int -> Int -> Int} {g:Value -> Value -> Sem Value} (a4:∀k a b,g (.int k a) (.int k b)=pure (.int k (f a b))) {s:bb} {k:IntKind}:
 ∀(l:List I) (a:Int) (v:I) (xs:List Value),j1 f k l a=some v -> bZ s l=some xs -> ∀w,∃c,a5 s v=some c /\ (xs.foldlM g (.int k a)).run P w= .ok c w
 | [],a,v,xs,h,R,w=>by
  cases h; cases R; exact ⟨_,rfl,rfl⟩
 | x :: l,a,v,xs,h,R,w=>by
  rw [Rl] at h
  obtain ⟨p,aR,J⟩:=bind_some h
  obtain ⟨ab,O⟩:=cd J
  obtain rfl:=mX aR
  obtain ⟨y,r,aj,af,rfl⟩:=eO.1 R
  obtain rfl:=oH aj
  have ab:=v3.1 ab
  rw [List.foldlM_cons,<- ab,a4]
  simp only [Sem.run_bind,Sem.run_pure,Result.andThen_ok]
  exact CZ a4 l _ v r O af w
theorem mapA (f:Operand -> Value) (a:Array Operand):(a.toList.map f).toArray=a.map f:=by rw [<- Array.toList_map]
theorem aat (f:Operand -> Value) (a:Array Operand):a.toList.map f=(a.map f).toList:=by simp
theorem G_ (a1:cU E P) {s:bb} {M:Nat} {T:a'} {ct:Array Value} (ba:dD s M T ct) {o:Oper} {v:I} (h:lx M o.op E T=some v) (V:cls o.op E= .pure) (w:World):
 ∃c,a5 s v=some c /\ (execOp (dR ct) o).run P w= .ok (.value c) w:=by
 cases aC:o.op with
 | move x=>rw [aC] at h; exact ⟨_,eF ba h,by simp [execOp,aC]⟩
 | assign x=>rw [aC] at h; exact ⟨_,eF ba h,by simp [execOp,aC]⟩
 | pick c a b=>
  rw [aC] at h
  obtain ⟨v1,J,O⟩:=aO (show ((aK M c T).ac fun v=>(e_ v).ac fun t=>ap t (aK M a T) (aK M b T))=some v from h)
  obtain ⟨t,bh,ag⟩:=aO O
  obtain rfl:=qT bh
  have a8:=t9 (eF ba J)
  cases t with
  | true=>exact ⟨_,eF ba ag,by simp [execOp,aC,a8,asBool]⟩
  | false=>exact ⟨_,eF ba ag,by simp [execOp,aC,a8,asBool]⟩
 | nilCheck x=>
  rw [aC] at h
  obtain ⟨v1,J,O⟩:=aO (show (aK M x T).ac nE=some v from h)
  have ak:=eF ba J
  unfold nE at O
  cases aR:ec v1 with
  | some q=>
   rw [aR,fN] at O
   cases O
   obtain rfl:=l6 aR
   obtain ⟨d,aw,e⟩:=m0 ak
   exact ⟨_,ak,by simp [execOp,aC,e]⟩
  | none=>
   rw [aR,fM] at O
   cases aB:uv v1 with
   | none=>rw [aB,fM,zn ak] at O; cases O
   | some q=>
    rw [aB,fN] at O
    cases O
    obtain rfl:=Gl aB
    obtain ⟨a,b,_,_,e⟩:=q2 ak
    exact ⟨_,ak,by simp [execOp,aC,e]⟩
 | binOp op t x y L8=>
  rw [aC] at h
  obtain ⟨v1,J,O⟩:=aO (show ((aK M x T).ac fun x=>(aK M y T).ac fun y=>hN (aU E t) (E.flat t) op x y)=some v from h)
  obtain ⟨v2,ag,aP⟩:=aO O
  obtain ⟨c,V,af⟩:=Ph a1 (eF ba J) (eF ba ag) aP w x y
  exact ⟨c,V,by simp only [execOp,aC]; rw [Sem.run_bind,af]; rfl⟩
 | unOp op t x=>
  rw [aC] at h
  obtain ⟨v1,J,O⟩:=aO (show (aK M x T).ac (p6 op)=some v from h)
  have ak:=eF ba J
  cases op with
  | neg=>
   obtain ⟨p,aR,rfl⟩:=bB (show ((ej v1).omap fun p=>I.int p.1 (bG p.1 (Int.sub 0 p.2)))=some v from O)
   obtain rfl:=mX aR
   have e:=oH ak
   have bk:Int.sub 0 p.2=0 - p.2:=rfl
   exact ⟨_,rfl,by simp [execOp,aC,e,Op.unary,Op.intArith,pM,bk]⟩
  | not=>
   obtain ⟨p,aR,rfl⟩:=bB (show ((e_ v1).omap fun b=>I.bool (!b))=some v from O)
   obtain rfl:=qT aR
   have e:=t9 ak
   exact ⟨_,rfl,by simp [execOp,aC,e,Op.unary]⟩
  | xor=>cases O
  | plus=>cases O
 | convert sf FA x=>
  rw [aC] at h
  obtain ⟨v1,J,O⟩:=aO (show (aK M x T).ac (kV (aU E sf) (aU E FA))=some v from h)
  have ak:=eF ba J
  cases ab:aU E sf with
  | int k=>
   rw [ab] at O
   cases ef:aU E FA with
   | int a9=>
    rw [ef] at O
    obtain ⟨p,aR,rfl⟩:=bB (show ((ej v1).omap fun p=>I.int a9 (bG a9 p.2))=some v from O)
    obtain rfl:=mX aR
    have e:=oH ak
    exact ⟨_,rfl,by simp [execOp,aC,e,convert,df (a1.int ab),df (a1.int ef),Conv.intToInt,pM]⟩
   | _=>rw [ef] at O; cases O
  | string=>
   rw [ab] at O
   cases ef:aU E FA with
   | string=>
    rw [ef] at O
    obtain ⟨p,aR,rfl⟩:=bB (show ((f_ v1).omap I.str)=some v from O)
    obtain rfl:=qW aR
    have e:=sw ak
    exact ⟨_,rfl,by simp [execOp,aC,e,convert,df (a1.string ab),df (a1.string ef)]⟩
   | _=>rw [ef] at O; cases O
  | _=>rw [ab] at O; cases O
 | makeFunc fn a c=>
  rw [aC] at h
  cases fn with
  | func f=>
   obtain ⟨cF,ae,O⟩:=aO (show ((c0 M a.toList T).ac fun a=>(c0 M c.toList T).omap fun c=>I.func f a c)=some v from h)
   obtain ⟨b8,b7,rfl⟩:=bB O
   have a8:=t8 ba ae
   have bk:=t8 ba b7
   refine ⟨.func (.func f) (a.map (dR ct)) (c.map (dR ct)),?_,by simp [execOp,aC,Instr.makeFunc]⟩
   simp [a5,a8,bk,mapA]
  | _=>cases h
 | makeInterface t x=>
  rw [aC] at h
  obtain ⟨ab,J⟩:=cd (show ap (ws (aU E t)) ((aK M x T).omap (I.iface t ·)) none=some v from h)
  obtain ⟨v1,h4,rfl⟩:=bB J
  have ak:=eF ba h4
  refine ⟨.iface t (dR ct x),by simp only [a5,ak,Option.map_some],?_⟩
  have bX:aU E t≠ .other:=by intro e; rw [e] at ab; cases ab
  obtain ⟨d,aw,kB⟩:=a1.pe rfl bX
  have:∀ms,d≠ .interface ms:=by intro ms e; subst e; rw [<- kB] at ab; cases ab
  simp only [execOp,aC,Sem.run_bind,Instr.makeInterface,df aw,Result.andThen_ok]
  cases d <;> first | rfl | exact absurd rfl (this _)
 | fieldAddr sf x f=>
  rw [aC] at h
  obtain ⟨p,aR,J⟩:=aO (show ((kS (aU E sf) f).ac fun p=>ap (Nat.blt 0 (au E p.2)) ((aK M x T).ac fun v=>kk v p.1) none)=some v from h)
  obtain ⟨bU,O⟩:=cd J
  obtain ⟨v1,h4,ag⟩:=aO O
  rw [HP (eF ba h4)] at ag
  obtain ⟨q,aB,rfl⟩:=bB ag
  obtain rfl:=l6 aB
  obtain ⟨d,aw,e⟩:=m0 (eF ba h4)
  cases ab:aU E sf with
  | struct da=>
   rw [ab] at aR
   have aR:da[f]? =some p:=aR
   obtain ⟨gs,hu,rfl⟩:=a1.struct ab
   simp only [List.getElem?_map,Option.map_eq_some_iff] at aR
   obtain ⟨g,a4,rfl⟩:=aR
   rw [cZ] at bU
   have xB:∃i,E.ty g.type=some i:=by
    cases ad:E.ty g.type with
    | some i=>exact ⟨i,rfl⟩
    | none=>simp [az.au,ad] at bU
   obtain ⟨i,ad⟩:=xB
   have aG:=fun w=>a1.au ad w
   have qd:gs[f]? =some g:=by simpa using a4
   refine ⟨.pointer (some ⟨d,q.2 + g.offset,none⟩),by simp [a5,aw],?_⟩
   simp only [execOp,aC,e,Sem.run_bind,Instr.fieldAt,df hu,Result.andThen_ok,qd,Instr.sureAddr,Sem.run_pure,fieldPlace,aG,Sem.run_ite]
   have bX:¬az.au E g.type=0:=by simp only at bU; omega
   simp [bX,kd]
  | _=>rw [ab] at aR; cases aR
 | field sf x f=>
  rw [aC] at h
  obtain ⟨p,aR,J⟩:=aO (show ((kS (aU E sf) f).ac fun p=>(aK M x T).ac fun v=>(gI v).ac fun cs=>ek E p.2 cs p.1)=some v from h)
  obtain ⟨v1,h4,O⟩:=aO J
  obtain ⟨cs,cB,ag⟩:=aO O
  obtain rfl:=nv cB
  obtain ⟨xs,eS,e⟩:=q6 (eF ba h4)
  cases ab:aU E sf with
  | struct da=>
   rw [ab] at aR
   have aR:da[f]? =some p:=aR
   obtain ⟨gs,hu,rfl⟩:=a1.struct ab
   simp only [List.getElem?_map,Option.map_eq_some_iff] at aR
   obtain ⟨g,a4,rfl⟩:=aR
   have qd:gs[f]? =some g:=by simpa using a4
   obtain ⟨c,b7,af⟩:=GE a1 ag eS w
   refine ⟨c,b7,?_⟩
   simp only [execOp,aC,e,Sem.run_bind,Instr.field,df hu,Result.andThen_ok,qd,asAgg,Sem.run_pure]
   rw [af]; rfl
  | _=>rw [ab] at aR; cases aR
 | indexAddr t x i=>
  rw [aC] at h
  obtain ⟨v1,J,O⟩:=aO (show ((aK M x T).ac fun x=>(aK M i T).ac fun i=>(dH i).ac fun i=>e9 (aU E t) E x i)=some v from h)
  obtain ⟨v2,ag,aP⟩:=aO O
  obtain ⟨n,ar,bH⟩:=aO aP
  obtain ⟨c,b7,af⟩:=M5 a1 (eF ba J) (eF ba ag) ar bH w
  exact ⟨c,b7,by simp only [execOp,aC,Sem.run_bind]; rw [af]; rfl⟩
 | index t x i=>
  rw [aC] at h
  obtain ⟨v1,J,O⟩:=aO (show ((aK M x T).ac fun x=>(aK M i T).ac fun i=>(dH i).ac fun i=>mi (aU E t) E x i)=some v from h)
  obtain ⟨v2,ag,aP⟩:=aO O
  obtain ⟨n,ar,bH⟩:=aO aP
  obtain ⟨c,b7,af⟩:=NR a1 (eF ba J) (eF ba ag) ar bH w
  exact ⟨c,b7,by simp only [execOp,aC,Sem.run_bind]; rw [af]; rfl⟩
 | slice t x bd ad mx=>
  rw [aC] at h
  obtain ⟨v1,J,O⟩:=aO (show ((aK M x T).ac fun x=>(fk M bd T).ac fun bd=>(fk M ad T).ac fun ad=>(fk M mx T).ac fun mx=>dp (aU E t) E x bd ad mx)=some v from h)
  obtain ⟨nr,ag,aP⟩:=aO O
  obtain ⟨hV,bH,eC⟩:=aO aP
  obtain ⟨age,fd,l2⟩:=aO eC
  obtain ⟨c,b7,af⟩:=NQ a1 (eF ba J) (Br ba ag) (Br ba bH) (Br ba fd) l2 w
  exact ⟨c,b7,by simp only [execOp,aC,Sem.run_bind]; rw [af]; rfl⟩
 | sliceToArrayPointer t x=>
  rw [aC] at h
  cases ab:aU E t with
  | array n e=>
   have aQ:(match aU E t with
    | .array n _=>(aK M x T).ac (k0 n)
    | _=>none)=some v:=h
   rw [ab] at aQ
   obtain ⟨v1,h4,O⟩:=aO aQ
   unfold k0 at O
   rw [Vv (eF ba h4),y2] at O
   obtain ⟨⟨b,ot,m,hJ⟩,aB,ag⟩:=aO O
   obtain rfl:=hv aB
   have ak:=eF ba h4
   have DL:Nat.blt m n=false /\ v= .ptr b ot /\ ∃d b8,dR ct x= .slice (some ⟨d,ot,none⟩) m b8 /\ s.cw b=some d:=by
    cases hJ with
    | tail=>cases ag
    | ex c=>
     have aP:ap (Nat.blt m n) none (some (I.ptr b ot))=some v:=ag
     cases U:Nat.blt m n <;> rw [U] at aP <;> cases aP
     simp only [a5,dB] at ak
     split at ak
     ·
      obtain ⟨d,aw,e⟩:=map_some ak; exact ⟨rfl,rfl,d,_,e.symm,aw⟩
     ·
      cases ak
    | rest a8 bk c3=>
     have aP:ap (Nat.blt m n) none (some (I.ptr b ot))=some v:=ag
     cases U:Nat.blt m n <;> rw [U] at aP <;> cases aP
     simp only [a5,dB] at ak
     split at ak
     ·
      obtain ⟨d,aw,e⟩:=map_some ak; exact ⟨rfl,rfl,d,_,e.symm,aw⟩
     ·
      cases ak
   obtain ⟨aF,rfl,d,b8,bk,aw⟩:=DL
   have aF:¬m < n:=fun k=>by rw [<- cZ,aF] at k; cases k
   refine ⟨.pointer (some ⟨d,ot,none⟩),by simp [a5,aw],?_⟩
   simp only [execOp,aC,bk,Sem.run_bind,Instr.arrayAt,df (a1.array ab),Result.andThen_ok,Sem.run_ite,if_neg aF,Sem.run_pure]
  | _=>
   have aQ:(match aU E t with
    | .array n _=>(aK M x T).ac (k0 n)
    | _=>none)=some v:=h
   rw [ab] at aQ; cases aQ
 | extract x i=>
  rw [aC] at h
  obtain ⟨v1,h4,O⟩:=aO (show ((aK M x T).ac fun v=>(sr v).ac fun l=>fy l i)=some v from h)
  obtain ⟨l,ah,ag⟩:=aO O
  obtain rfl:=FW ah
  rw [ke] at ag
  obtain ⟨xs,eS,e⟩:=Bs (eF ba h4)
  obtain ⟨c,b7,hn⟩:=vZ eS ag
  exact ⟨c,hn,by simp [execOp,aC,e,Instr.extract,b7]⟩
 | build t ps=>
  rw [aC] at h
  obtain ⟨ab,J⟩:=cd (show ap (re (aU E t)) ((cr E t).ac fun z=>(dV M (kU (aU E t) E) T ps.toList z.cells).omap I.agg) none=some v from h)
  obtain ⟨z,ai,O⟩:=aO J
  obtain ⟨r,af,rfl⟩:=bB O
  obtain ⟨i,ad,r0⟩:=bind_some (show (E.ty t).bind (·.zero)=some z by simpa [cr] using ai)
  obtain ⟨j,ax,bm,_,hzero⟩:=a1.info ad
  obtain ⟨fH,jE,hb,_⟩:=hzero z r0
  have lQ:=qV (hb s)
  cases te:aU E t with
  | struct da=>
   obtain ⟨gs,hu,K5⟩:=a1.struct te
   rw [te] at af
   have aau:∀g∈gs.toList,∀w,(sizeOf g.type).run P w= .ok (au E g.type) w:=by
    intro g a4 w
    obtain ⟨k,ef⟩:=a1.ac5 t da te (g.offset,g.type) (by rw [K5]; exact List.mem_map.2 ⟨g,a4,rfl⟩)
    exact a1.au ef w
   have p7:∀(l:List Field),(∀g∈l,∀w,(sizeOf g.type).run P w= .ok (au E g.type) w) -> ∀w,(l.mapM fun f=>(do pure (f.offset,<- sizeOf f.type):Sem (Nat × Nat))).run P w= .ok (l.map fun f=>(f.offset,au E f.type)) w:=by
    intro l
    induction l with
    | nil=>intro _ w; rfl
    | cons g l aH=>
     intro ah w
     rw [List.mapM_cons]
     simp only [Sem.run_bind,ah g (by simp) w,Result.andThen_ok,Sem.run_pure,aH (fun x R=>ah x (by simp [R])) w,List.map_cons]
   obtain ⟨eE,n5,ao⟩:=yy (cplace:=fun i=>(gs.toList.map fun f=>(f.offset,au E f.type))[i]?) (fun i q aB=>by
    have aB:(da[i]?).omap (fun p=>(p.1,au E p.2))=some q:=aB
    obtain ⟨p,aR,rfl⟩:=bB aB
    rw [K5,List.getElem?_map,Option.map_eq_some_iff] at aR
    obtain ⟨g,a4,rfl⟩:=aR
    rw [List.getElem?_map,a4]; rfl) ba ps.toList z.cells r _ af lQ
   refine ⟨.agg eE.toArray,by simp [a5,n5],?_⟩
   have n6:(gs.mapM fun f=>(do pure (f.offset,<- sizeOf f.type):Sem (Nat × Nat))).run P w= .ok (gs.toList.map fun f=>(f.offset,au E f.type)).toArray w:=by
    rw [Array.mapM_eq_mapM_toList]
    simp only [Sem.run_map,p7 gs.toList aau w,Result.andThen_ok]
   simp only [execOp,aC,Sem.run_bind,Instr.build,oG ax jE,Result.andThen_ok,df hu,n6]
   have:(Array.map (fun x=>(x.1,dR ct x.2)) ps).toList=ps.toList.map fun p=>(p.1,dR ct p.2):=by simp
   rw [this]
   have bk:fH.cells.toList.toArray=fH.cells:=by simp
   rw [bk] at ao
   have aav:(fun i=>(gs.toList.map fun f=>(f.offset,au E f.type))[i]?)=fun x=>Option.map (fun (f:Field)=>(f.offset,au E f.type)) gs[(x:Nat)]? :=by funext i; simp
   rw [aav] at ao
   simp
   rw [ao]
   rfl
  | array n e=>
   have hu:=a1.array te
   rw [te] at af
   obtain ⟨eE,n5,ao⟩:=yy (cplace:=fun i=>some (i * au E e,au E e)) (fun i q aB=>aB) ba ps.toList z.cells r _ af lQ
   refine ⟨.agg eE.toArray,by simp [a5,n5],?_⟩
   simp only [execOp,aC,Sem.run_bind,Instr.build,oG ax jE,Result.andThen_ok,df hu,a1.sI (.inr ⟨n,te⟩)]
   have:(Array.map (fun x=>(x.1,dR ct x.2)) ps).toList=ps.toList.map fun p=>(p.1,dR ct p.2):=by simp
   rw [this]
   have bk:fH.cells.toList.toArray=fH.cells:=by simp
   rw [bk] at ao
   simp [ao]
  | _=>rw [te] at ab; cases ab
 | call c=>
  rw [aC] at h
  have aQ:(match c.callee with
   | .builtin b=>(c0 M c.args.toList T).ac fun as=>jm b E as c.argTypes.toList
   | _=>none)=some v:=h
  cases mJ:c.callee with
  | builtin b=>
   rw [mJ] at aQ
   obtain ⟨as,has,O⟩:=aO aQ
   have a8:=t8 ba has
   obtain ⟨jK,hex⟩:∃jK,(execOp (dR ct) o).run P w=(builtin b c.argTypes o.type jK (c.args.map (dR ct))).run P w:=
    ⟨_,by simp only [execOp,aC,Sem.run_bind,resolve,mJ,Sem.run_pure,Result.andThen_ok,invoke]; rfl⟩
   rw [hex]
   rw [aat] at a8
   cases b with
   | len=>
    cases as with
    | nil=>cases O
    | cons x r=>
     cases r with
     | cons=>cases O
     | nil=>
      cases hS:c.argTypes.toList with
      | nil=>rw [hS] at O; cases O
      | cons t bp=>
       rw [hS] at O
       have ag:hh (aU E t) E x=some v:=O
       obtain ⟨y,r,aj,af,tf⟩:=eO.1 a8
       cases af
       have bh:c.argTypes[0]? =some t:=by rw [<- Array.getElem?_toList,hS]; rfl
       have mm:c.args.map (dR ct)= #[y]:=by rw [<- Array.toArray_toList (xs:=c.args.map (dR ct)),tf]
       obtain ⟨b8,b7,b9⟩:=Pi (ty:=o.type) a1 bh aj ag w
       exact ⟨b8,b7,by rw [mm]; simp only [builtin,Sem.run_bind,b9,Result.andThen_ok,Sem.run_pure]⟩
   | cap=>
    cases as with
    | nil=>cases O
    | cons x r=>
     cases r with
     | cons=>cases O
     | nil=>
      cases hS:c.argTypes.toList with
      | nil=>rw [hS] at O; cases O
      | cons t bp=>
       rw [hS] at O
       have ag:rn (aU E t) x=some v:=O
       obtain ⟨y,r,aj,af,tf⟩:=eO.1 a8
       cases af
       have bh:c.argTypes[0]? =some t:=by rw [<- Array.getElem?_toList,hS]; rfl
       have mm:c.args.map (dR ct)= #[y]:=by rw [<- Array.toArray_toList (xs:=c.args.map (dR ct)),tf]
       obtain ⟨b8,b7,b9⟩:=Pj (ty:=o.type) a1 bh aj ag w
       exact ⟨b8,b7,by rw [mm]; simp only [builtin,Sem.run_bind,b9,Result.andThen_ok,Sem.run_pure]⟩
   | min=>
    cases as with
    | nil=>cases O
    | cons x l=>
     obtain ⟨p,aR,aP⟩:=aO (show ((ej x).ac fun p=>j1 ry p.1 l p.2)=some v from O)
     obtain rfl:=mX aR
     obtain ⟨y,r,aj,af,tf⟩:=eO.1 a8
     obtain rfl:=oH aj
     obtain ⟨b8,b7,b9⟩:=CZ (P:=P) (g:=Builtin.min2) (fun k a b=>by simp only [Builtin.min2,Tf]) l p.2 v r aP af w
     exact ⟨b8,b7,by simp only [builtin,Sem.run_bind,Builtin.min_,tf,b9,Result.andThen_ok,Sem.run_pure]⟩
   | max=>
    cases as with
    | nil=>cases O
    | cons x l=>
     obtain ⟨p,aR,aP⟩:=aO (show ((ej x).ac fun p=>j1 rz p.1 l p.2)=some v from O)
     obtain rfl:=mX aR
     obtain ⟨y,r,aj,af,tf⟩:=eO.1 a8
     obtain rfl:=oH aj
     obtain ⟨b8,b7,b9⟩:=CZ (P:=P) (g:=Builtin.max2) (fun k a b=>by simp only [Builtin.max2,Tg,gt_iff_lt]) l p.2 v r aP af w
     exact ⟨b8,b7,by simp only [builtin,Sem.run_bind,Builtin.max_,tf,b9,Result.andThen_ok,Sem.run_pure]⟩
   | _=>cases O
  | value f=>rw [mJ] at aQ; cases aQ
  | invoke r m=>rw [mJ] at aQ; cases aQ
 | _=>rw [aC] at h; cases h
end Go.az
