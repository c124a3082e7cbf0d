/-
  The evaluator is right about regions whose order is open. No conditions.
-/
import Derived.Test.YtajekleknljggaaEvD
set_option linter.unusedVariables false
set_option linter.unusedSimpArgs false
namespace Go.az
variable {P:Program} {E:Env}
theorem Rr {c b8:dm} (h:wZ c b8=true):c=b8:=by
 unfold wZ at h
 cases c with
 | ex a=>cases b8 with
  | ex cF=>rw [Nat.eq_of_beq_eq_true h]
  | _=>cases h
 | rest a b d=>cases b8 with
  | rest cF cv hI=>
   obtain ⟨J,O⟩:=ft h
   obtain ⟨O,ag⟩:=ft O
   rw [Nat.eq_of_beq_eq_true J,Nat.eq_of_beq_eq_true O,Nat.eq_of_beq_eq_true ag]
  | _=>cases h
 | tail a b d z=>cases b8 with
  | tail cF cv hI kJ=>
   obtain ⟨J,O⟩:=ft h
   obtain ⟨O,ag⟩:=ft O
   obtain ⟨ag,aP⟩:=ft ag
   rw [oD,beq_iff_eq] at aP
   rw [Nat.eq_of_beq_eq_true J,Nat.eq_of_beq_eq_true O,Nat.eq_of_beq_eq_true ag,aP]
  | _=>cases h
mutual
theorem Cx:∀(a b:I),dX a b=true -> a=b
 | .bool a,.bool b,h=>by simp only [dX,oD,beq_iff_eq] at h; rw [h]
 | .int k a,.int k' b,h=>by
  simp only [dX] at h
  obtain ⟨J,O⟩:=ft h
  rw [sH,beq_iff_eq] at O
  rw [v3.1 J,O]
 | .str a,.str b,h=>by simp only [dX,sv,beq_iff_eq] at h; rw [h]
 | .cA,.cA,_=>rfl
 | .aE,.aE,_=>rfl
 | .dj,.dj,_=>rfl
 | .dK,.dK,_=>rfl
 | .ptr b o,.ptr cv o',h=>by
  simp only [dX] at h
  obtain ⟨J,O⟩:=ft h
  rw [Nat.eq_of_beq_eq_true J,Nat.eq_of_beq_eq_true O]
 | .slice b o n c,.slice cv o' hc b8,h=>by
  simp only [dX] at h
  obtain ⟨J,O⟩:=ft h
  obtain ⟨O,ag⟩:=ft O
  obtain ⟨ag,aP⟩:=ft ag
  rw [Nat.eq_of_beq_eq_true J,Nat.eq_of_beq_eq_true O,Nat.eq_of_beq_eq_true ag,Rr aP]
 | .func f a c,.func gE cF b8,h=>by
  simp only [dX] at h
  obtain ⟨J,O⟩:=ft h
  obtain ⟨O,ag⟩:=ft O
  rw [Nat.eq_of_beq_eq_true J,q7 a cF O,q7 c b8 ag]
 | .yield l,.yield l',h=>by simp only [dX] at h; rw [Nat.eq_of_beq_eq_true h]
 | .iface t v,.iface oq cc,h=>by
  simp only [dX] at h
  obtain ⟨J,O⟩:=ft h
  rw [Nat.eq_of_beq_eq_true J,Cx v cc O]
 | .agg l,.agg l',h=>by simp only [dX] at h; rw [q7 l l' h]
 | .tuple l,.tuple l',h=>by simp only [dX] at h; rw [q7 l l' h]
 | .aJ n l,.aJ hc l',h=>by
  simp only [dX] at h
  obtain ⟨J,O⟩:=ft h
  rw [Nat.eq_of_beq_eq_true J,q7 l l' O]
 | .c9 l o,.c9 l' o',h=>by
  simp only [dX] at h
  obtain ⟨J,O⟩:=ft h
  rw [q7 l l' J,Nat.eq_of_beq_eq_true O]
 | .dY a,.dY b,h=>by simp only [dX,decide_eq_true_eq] at h; rw [h]
 | .bool _,.int ..,h | .bool _,.str _,h | .bool _,.cA,h | .bool _,.ptr ..,h | .bool _,.aE,h | .bool _,.slice ..,h | .bool _,.func ..,h | .bool _,.yield _,h | .bool _,.dj,h | .bool _,.iface ..,h | .bool _,.dK,h | .bool _,.agg _,h | .bool _,.tuple _,h=>by simp [dX] at h
 | .int ..,.bool _,h | .int ..,.str _,h | .int ..,.cA,h | .int ..,.ptr ..,h | .int ..,.aE,h | .int ..,.slice ..,h | .int ..,.func ..,h | .int ..,.yield _,h | .int ..,.dj,h | .int ..,.iface ..,h | .int ..,.dK,h | .int ..,.agg _,h | .int ..,.tuple _,h=>by simp [dX] at h
 | .str _,.bool _,h | .str _,.int ..,h | .str _,.cA,h | .str _,.ptr ..,h | .str _,.aE,h | .str _,.slice ..,h | .str _,.func ..,h | .str _,.yield _,h | .str _,.dj,h | .str _,.iface ..,h | .str _,.dK,h | .str _,.agg _,h | .str _,.tuple _,h=>by simp [dX] at h
 | .cA,.bool _,h | .cA,.int ..,h | .cA,.str _,h | .cA,.ptr ..,h | .cA,.aE,h | .cA,.slice ..,h | .cA,.func ..,h | .cA,.yield _,h | .cA,.dj,h | .cA,.iface ..,h | .cA,.dK,h | .cA,.agg _,h | .cA,.tuple _,h=>by simp [dX] at h
 | .ptr ..,.bool _,h | .ptr ..,.int ..,h | .ptr ..,.str _,h | .ptr ..,.cA,h | .ptr ..,.aE,h | .ptr ..,.slice ..,h | .ptr ..,.func ..,h | .ptr ..,.yield _,h | .ptr ..,.dj,h | .ptr ..,.iface ..,h | .ptr ..,.dK,h | .ptr ..,.agg _,h | .ptr ..,.tuple _,h=>by simp [dX] at h
 | .aE,.bool _,h | .aE,.int ..,h | .aE,.str _,h | .aE,.cA,h | .aE,.ptr ..,h | .aE,.slice ..,h | .aE,.func ..,h | .aE,.yield _,h | .aE,.dj,h | .aE,.iface ..,h | .aE,.dK,h | .aE,.agg _,h | .aE,.tuple _,h=>by simp [dX] at h
 | .slice ..,.bool _,h | .slice ..,.int ..,h | .slice ..,.str _,h | .slice ..,.cA,h | .slice ..,.ptr ..,h | .slice ..,.aE,h | .slice ..,.func ..,h | .slice ..,.yield _,h | .slice ..,.dj,h | .slice ..,.iface ..,h | .slice ..,.dK,h | .slice ..,.agg _,h | .slice ..,.tuple _,h=>by simp [dX] at h
 | .func ..,.bool _,h | .func ..,.int ..,h | .func ..,.str _,h | .func ..,.cA,h | .func ..,.ptr ..,h | .func ..,.aE,h | .func ..,.slice ..,h | .func ..,.yield _,h | .func ..,.dj,h | .func ..,.iface ..,h | .func ..,.dK,h | .func ..,.agg _,h | .func ..,.tuple _,h=>by simp [dX] at h
 | .yield _,.bool _,h | .yield _,.int ..,h | .yield _,.str _,h | .yield _,.cA,h | .yield _,.ptr ..,h | .yield _,.aE,h | .yield _,.slice ..,h | .yield _,.func ..,h | .yield _,.dj,h | .yield _,.iface ..,h | .yield _,.dK,h | .yield _,.agg _,h | .yield _,.tuple _,h=>by simp [dX] at h
 | .dj,.bool _,h | .dj,.int ..,h | .dj,.str _,h | .dj,.cA,h | .dj,.ptr ..,h | .dj,.aE,h | .dj,.slice ..,h | .dj,.func ..,h | .dj,.yield _,h | .dj,.iface ..,h | .dj,.dK,h | .dj,.agg _,h | .dj,.tuple _,h=>by simp [dX] at h
 | .iface ..,.bool _,h | .iface ..,.int ..,h | .iface ..,.str _,h | .iface ..,.cA,h | .iface ..,.ptr ..,h | .iface ..,.aE,h | .iface ..,.slice ..,h | .iface ..,.func ..,h | .iface ..,.yield _,h | .iface ..,.dj,h | .iface ..,.dK,h | .iface ..,.agg _,h | .iface ..,.tuple _,h=>by simp [dX] at h
 | .dK,.bool _,h | .dK,.int ..,h | .dK,.str _,h | .dK,.cA,h | .dK,.ptr ..,h | .dK,.aE,h | .dK,.slice ..,h | .dK,.func ..,h | .dK,.yield _,h | .dK,.dj,h | .dK,.iface ..,h | .dK,.agg _,h | .dK,.tuple _,h=>by simp [dX] at h
 | .agg _,.bool _,h | .agg _,.int ..,h | .agg _,.str _,h | .agg _,.cA,h | .agg _,.ptr ..,h | .agg _,.aE,h | .agg _,.slice ..,h | .agg _,.func ..,h | .agg _,.yield _,h | .agg _,.dj,h | .agg _,.iface ..,h | .agg _,.dK,h | .agg _,.tuple _,h=>by simp [dX] at h
 | .tuple _,.bool _,h | .tuple _,.int ..,h | .tuple _,.str _,h | .tuple _,.cA,h | .tuple _,.ptr ..,h | .tuple _,.aE,h | .tuple _,.slice ..,h | .tuple _,.func ..,h | .tuple _,.yield _,h | .tuple _,.dj,h | .tuple _,.iface ..,h | .tuple _,.dK,h | .tuple _,.agg _,h=>by simp [dX] at h
theorem q7:∀(l r:List I),kW l r=true -> l=r
 | [],[],_=>rfl
 | x :: l,y :: r,h=>by
  simp only [kW] at h
  obtain ⟨J,O⟩:=ft h
  rw [Cx x y J,q7 l r O]
 | [],_ :: _,h=>by simp [kW] at h
 | _ :: _,[],h=>by simp [kW] at h
end
theorem GO {x y:Option I} {v:I} (h:uH x y=true) (aj:y=some v):x=some v:=by
 subst aj
 cases x with
 | none=>cases h
 | some a=>rw [Cx a v h]
theorem MQ {x y:Option bf} {b:bf} (h:za x y=true) (R:x=some b):y=some b:=by
 subst R
 cases b with
 | cells l e ex w=>
  cases y with
  | none=>cases h
  | some y=>
   cases y with
   | cells l' fG x' w'=>
    simp only [za] at h
    obtain ⟨J,O⟩:=ft h
    obtain ⟨O,ag⟩:=ft O
    obtain ⟨ag,aP⟩:=ft ag
    rw [oD,beq_iff_eq] at O ag
    rw [Nat.eq_of_beq_eq_true J,O,ag,q7 _ _ aP]
   | _=>cases h
 | _=>cases h
theorem Rs (acc:List Nat):hk [] acc=acc:=rfl
theorem BO (o:Oper) (l:List Oper) (acc:List Nat):hk (o :: l) acc=hk l (acc ++ [lr acc o.after.toList]):=rfl
theorem B4:∀(l:List Oper) (acc:List Nat),∃r,hk l acc=acc ++ r /\ r.length=l.length
 | [],acc=>⟨[],by rw [Rs]; simp,rfl⟩
 | o :: l,acc=>by
  obtain ⟨r,J,O⟩:=B4 l (acc ++ [lr acc o.after.toList])
  exact ⟨lr acc o.after.toList :: r,by rw [BO,J]; simp,by simp [O]⟩
theorem HX:∀(l:List Oper) (acc:List Nat) (k:Nat) (o:Oper),l[k]? =some o -> (hk l acc)[acc.length + k]? =some (lr ((hk l acc).take (acc.length + k)) o.after.toList)
 | [],acc,k,o,h=>by simp at h
 | x :: l,acc,0,o,h=>by
  simp at h; subst h
  obtain ⟨r,J,O⟩:=B4 l (acc ++ [lr acc x.after.toList])
  rw [BO,J]
  simp
 | x :: l,acc,k + 1,o,h=>by
  have aQ:l[k]? =some o:=by simpa using h
  have:=HX l (acc ++ [lr acc x.after.toList]) k o aQ
  rw [BO]
  have ah:(acc ++ [lr acc x.after.toList]).length + k=acc.length + (k + 1):=by simp; omega
  rw [ah] at this
  exact this
theorem Bg {acc:List Nat} {i:Nat}:∀ {l:List Edge},(lr acc l).testBit i=true -> ∃e,e∈l /\ tight e=true /\ (i=e.on∨((acc[e.on]?).getD 0).testBit i=true)
 | [],h=>by simp [lr] at h
 | e :: l,h=>by
  unfold lr at h
  cases bh:tight e with
  | true=>
   rw [bh] at h
   have h:(((2 ^ e.on) ||| ((acc[e.on]?).getD 0)) ||| lr acc l).testBit i=true:=h
   rw [Nat.testBit_or,Nat.testBit_or,Bool.or_eq_true,Bool.or_eq_true,Nat.testBit_two_pow] at h
   rcases h with (h | h) | h
   ·
    exact ⟨e,by simp,bh,.inl (by simpa using (of_decide_eq_true h).symm)⟩
   ·
    exact ⟨e,by simp,bh,.inr h⟩
   ·
    obtain ⟨fG,J,O,ag⟩:=Bg h
    exact ⟨fG,by simp [J],O,ag⟩
  | false=>
   rw [bh] at h
   obtain ⟨fG,J,O,ag⟩:=Bg h
   exact ⟨fG,by simp [J],O,ag⟩
theorem wi {p:Nat -> Oper -> Bool}:∀ {l:List Oper} {k:Nat},allI p k l=true -> ∀j o,l[j]? =some o -> p (k + j) o=true
 | [],k,_,j,o,h=>by simp at h
 | x :: l,k,aM,j,o,h=>by
  unfold allI at aM
  cases aR:p k x with
  | false=>rw [aR] at aM; cases aM
  | true=>
   rw [aR] at aM
   cases j with
   | zero=>simp at h; subst h; exact aR
   | succ j=>
    have:=wi aM j o (by simpa using h)
    rw [show k + 1 + j=k + (j + 1) by omega] at this
    exact this
end Go.az
namespace Go.az
variable {P:Program} {E:Env}
noncomputable def oU (M:Nat) (T:a'):List Tmp -> a'
 | []=>⟨.nil,.nil⟩
 | t :: l=>match T.get M t with | some v=>a'.put M (oU M T l) v t | none=>oU M T l
theorem v9 (M:Nat) (T:a'):∀(l:List Tmp) (t:Tmp),(oU M T l).get M t=if t∈l then T.get M t else none
 | [],t=>by
  show a'.get M ⟨.nil,.nil⟩ t=_
  unfold a'.get
  cases Nat.testBit M t <;> rfl
 | x :: l,t=>by
  unfold oU
  cases R:T.get M x with
  | some v=>
   simp only
   rw [a'.md,v9 M T l t]
   by_cases h:t=x
   ·
    subst h; simp [R]
   ·
    simp [h]
  | none=>
   simp only
   rw [v9 M T l t]
   by_cases h:t=x
   ·
    subst h; simp [R]
   ·
    simp [h]
def sY (M:Nat) (T T':a') (l:List Operand):Prop:=∀x∈l,aK M x T=aK M x T'
theorem GP {t:Tmp}:∀ {l:List Operand},Operand.tmp t∈l -> t∈tmpsOf l
 | [],h=>by cases h
 | x :: l,h=>by
  rcases List.mem_cons.1 h with rfl | h
  ·
   simp [tmpsOf]
  ·
   have:=GP h
   cases x <;> simp [tmpsOf,this]
theorem N8 {M:Nat} {T:a'} {bp:List Tmp} {l:List Operand} (h:∀t∈tmpsOf l,t∈bp):sY M T (oU M T bp) l:=by
 intro x R
 cases x with
 | tmp t=>rw [sD,sD,v9,if_pos (h t (GP R))]
 | const v=>rfl
 | global g=>rfl
 | func f=>rfl
theorem t_ {M:Nat} {T T':a'}:∀ {l:List Operand},sY M T T' l -> c0 M l T=c0 M l T'
 | [],_=>rfl
 | x :: l,h=>by
  rw [yT,yT,h x (by simp),t_ (fun y aj=>h y (by simp [aj]))]
theorem BC {M:Nat} {T T':a'} {o:Option Operand} (h:∀x,o=some x -> aK M x T=aK M x T'):fk M o T=fk M o T':=by
 cases o with
 | none=>rfl
 | some x=>unfold fk; simp only [h x rfl]
theorem BP {M:Nat} {place:Nat -> Option (Nat × Nat)} {T T':a'}:∀ {ps:List (Nat × Operand)} (cs:List I),(∀p∈ps,aK M p.2 T=aK M p.2 T') -> dV M place T ps cs=dV M place T' ps cs
 | [],_,_=>rfl
 | p :: ps,cs,h=>by
  rw [A7,A7,h p (by simp)]
  have:dV M place T ps=dV M place T' ps:=funext fun cs=>BP cs (fun q aB=>h q (by simp [aB]))
  rw [this]
theorem Nf {M:Nat} {T T':a'} {o:Op} (h:sY M T T' o.operands.toList):lx M o E T=lx M o E T':=by
 unfold lx y_
 cases o with
 | move x=>exact h x (by simp [Op.operands])
 | assign x=>exact h x (by simp [Op.operands])
 | pick c a b=>
  show (aK M c T).ac _=(aK M c T').ac _
  rw [h c (by simp [Op.operands]),h a (by simp [Op.operands]),h b (by simp [Op.operands])]
 | nilCheck x=>show (aK M x T).ac _=(aK M x T').ac _; rw [h x (by simp [Op.operands])]
 | binOp op t x y L8=>
  show ((aK M x T).ac fun x=>(aK M y T).ac fun y=>_)=((aK M x T').ac fun x=>(aK M y T').ac fun y=>_)
  rw [h x (by simp [Op.operands]),h y (by simp [Op.operands])]
 | unOp op t x=>show (aK M x T).ac _=(aK M x T').ac _; rw [h x (by simp [Op.operands])]
 | convert s d x=>show (aK M x T).ac _=(aK M x T').ac _; rw [h x (by simp [Op.operands])]
 | makeFunc fn a c=>
  cases fn with
  | func f=>
   show ((c0 M a.toList T).ac fun a=>(c0 M c.toList T).omap fun c=>_)=((c0 M a.toList T').ac fun a=>(c0 M c.toList T').omap fun c=>_)
   rw [t_ (l:=a.toList) (fun x R=>h x (by simp [Op.operands] at R ⊢; exact .inl R)),t_ (l:=c.toList) (fun x R=>h x (by simp [Op.operands] at R ⊢; exact .inr R))]
  | _=>rfl
 | makeInterface t x=>show ap _ ((aK M x T).omap _) none=ap _ ((aK M x T').omap _) none; rw [h x (by simp [Op.operands])]
 | fieldAddr s x f=>
  show ((kS (aU E s) f).ac fun p=>ap _ ((aK M x T).ac _) none)=((kS (aU E s) f).ac fun p=>ap _ ((aK M x T').ac _) none)
  rw [h x (by simp [Op.operands])]
 | field s x f=>
  show ((kS (aU E s) f).ac fun p=>(aK M x T).ac _)=((kS (aU E s) f).ac fun p=>(aK M x T').ac _)
  rw [h x (by simp [Op.operands])]
 | indexAddr t x i=>
  show ((aK M x T).ac fun x=>(aK M i T).ac fun i=>_)=((aK M x T').ac fun x=>(aK M i T').ac fun i=>_)
  rw [h x (by simp [Op.operands]),h i (by simp [Op.operands])]
 | index t x i=>
  show ((aK M x T).ac fun x=>(aK M i T).ac fun i=>_)=((aK M x T').ac fun x=>(aK M i T').ac fun i=>_)
  rw [h x (by simp [Op.operands]),h i (by simp [Op.operands])]
 | slice t x bd ad mx=>
  show ((aK M x T).ac fun x=>(fk M bd T).ac fun bd=>(fk M ad T).ac fun ad=>(fk M mx T).ac fun mx=>_)=((aK M x T').ac fun x=>(fk M bd T').ac fun bd=>(fk M ad T').ac fun ad=>(fk M mx T').ac fun mx=>_)
  rw [h x (by cases bd <;> cases ad <;> cases mx <;> simp [Op.operands]),
   BC (o:=bd) (fun y aj=>h y (by subst aj; cases ad <;> cases mx <;> simp [Op.operands])),
   BC (o:=ad) (fun y aj=>h y (by subst aj; cases bd <;> cases mx <;> simp [Op.operands])),
   BC (o:=mx) (fun y aj=>h y (by subst aj; cases bd <;> cases ad <;> simp [Op.operands]))]
 | sliceToArrayPointer t x=>
  have R:=h x (by simp [Op.operands])
  show (match aU E t with | .array n _=>(aK M x T).ac _ | _=>none)=(match aU E t with | .array n _=>(aK M x T').ac _ | _=>none)
  rw [R]
 | extract x i=>show (aK M x T).ac _=(aK M x T').ac _; rw [h x (by simp [Op.operands])]
 | build t ps=>
  show ap _ ((cr E t).ac fun z=>(dV M (kU (aU E t) E) T ps.toList z.cells).omap I.agg) none=ap _ ((cr E t).ac fun z=>(dV M (kU (aU E t) E) T' ps.toList z.cells).omap I.agg) none
  have:∀cs,dV M (kU (aU E t) E) T ps.toList cs=dV M (kU (aU E t) E) T' ps.toList cs:=fun cs=>BP cs (fun p aR=>h p.2 (by simp [Op.operands]; exact ⟨p.1,by simpa using aR⟩))
  simp only [this]
 | call c=>
  cases V:c.callee with
  | builtin b=>
   show (match c.callee with | .builtin b=>(c0 M c.args.toList T).ac _ | _=>none)=(match c.callee with | .builtin b=>(c0 M c.args.toList T').ac _ | _=>none)
   rw [V]
   simp only
   rw [t_ (l:=c.args.toList) (fun x R=>h x (by simp [Op.operands,Call.operands,V] at R ⊢; exact R))]
  | value f=>
   show (match c.callee with | .builtin b=>(c0 M c.args.toList T).ac _ | _=>none)=(match c.callee with | .builtin b=>(c0 M c.args.toList T').ac _ | _=>none)
   rw [V]
  | invoke r n=>
   show (match c.callee with | .builtin b=>(c0 M c.args.toList T).ac _ | _=>none)=(match c.callee with | .builtin b=>(c0 M c.args.toList T').ac _ | _=>none)
   rw [V]
 | _=>rfl
theorem Ng {M:Nat} {T T':a'} {o:Op} {H:aa} (h:sY M T T' o.operands.toList):eG M o E T H=eG M o E T' H:=by
 unfold eG y'
 cases o with
 | load t a=>show (aK M a T).ac _=(aK M a T').ac _; rw [h a (by simp [Op.operands])]
 | convert s d x=>
  have R:=h x (by simp [Op.operands])
  simp only [R]
 | _=>rfl
theorem MR {M:Nat} {T T':a'} {o:Op} (h:sY M T T' o.operands.toList):jn M o E T=jn M o E T':=by
 unfold jn y0
 cases o with
 | alloc t=>rfl
 | box t x=>show (aK M x T).omap _=(aK M x T').omap _; rw [h x (by simp [Op.operands])]
 | buildSlice t n ps=>
  have:∀e cs,dV M (fun i=>some (Nat.mul i (au E e),au E e)) T ps.toList cs=dV M (fun i=>some (Nat.mul i (au E e),au E e)) T' ps.toList cs:=fun e cs=>BP cs (fun p aR=>h p.2 (by simp [Op.operands]; exact ⟨p.1,by simpa using aR⟩))
  simp only [this]
 | makeSlice t l c=>
  have ah:=h l (by simp [Op.operands])
  have V:=h c (by simp [Op.operands])
  simp only [ah,V]
 | convert s d x=>
  have R:=h x (by simp [Op.operands])
  simp only [R]
 | _=>rfl
theorem N9 {M:Nat} {T T':a'} {o:Op} {H:aa} {call:dQ} (h:sY M T T' o.operands.toList):oT M o E call T H=oT M o E call T' H:=by
 unfold oT wE
 cases o with
 | store t a x=>
  have ae:=h a (by simp [Op.operands])
  have R:=h x (by simp [Op.operands])
  simp only [ae,R]
 | call c=>
  cases V:c.callee with
  | builtin b=>
   have:=t_ (M:=M) (T:=T) (T':=T') (l:=c.args.toList) (fun x R=>h x (by simp [Op.operands,Call.operands,V] at R ⊢; exact R))
   simp only [V,this]
  | value f=>
   have J:=t_ (M:=M) (T:=T) (T':=T') (l:=c.args.toList) (fun x R=>h x (by simp [Op.operands,Call.operands,V] at R ⊢; first | exact .inl R | exact .inr R))
   have O:=h f (by simp [Op.operands,Call.operands,V])
   simp only [V,J,O]
  | invoke r n=>simp only [V]
 | _=>rfl
def Sub (H H':aa):Prop:=∀a x,H.m.get a=some x -> H'.m.get a=some x
theorem Gs {H H':aa} (h:Sub H H') {b off n:Nat} {l:List I} (k:bA H b off n=some l):bA H' b off n=some l:=by
 by_cases aD:n=0
 ·
  subst aD; exact k
 rw [l5 aD] at k ⊢
 obtain ⟨x,R,J⟩:=aO k
 unfold q5
 rw [h b x R]
 exact J
theorem N_ {H H':aa} (h:Sub H H') {b off:Nat} {l:I} (k:cellAt H b off=some l):cellAt H' b off=some l:=by
 obtain ⟨x,R,J⟩:=aO k
 unfold cellAt
 rw [h b x R]
 exact J
theorem GQ {H H':aa} (h:Sub H H') {M:Nat} {T:a'} {o:Op} {v:I} (k:eG M o E T H=some v):eG M o E T H'=some v:=by
 cases o with
 | load t a=>
  obtain ⟨p,aR,k⟩:=aO (show ((aK M a T).ac fun v=>bQ (ec v) ((ju v).ac fun q=>ek E t q.1 q.2) fun q=>dw E H t q.1 q.2)=some v from k)
  show ((aK M a T).ac fun v=>bQ (ec v) ((ju v).ac fun q=>ek E t q.1 q.2) fun q=>dw E H' t q.1 q.2)=some v
  rw [aR]
  show bQ (ec p) ((ju p).ac fun q=>ek E t q.1 q.2) (fun q=>dw E H' t q.1 q.2)=some v
  cases aB:ec p with
  | none=>rw [aB] at k; exact k
  | some q=>
  rw [aB,fN] at k
  rw [fN]
  show dw E H' t q.1 q.2=some v
  unfold dw rp at k ⊢
  cases ad:E.ty t with
  | none=>rw [ad] at k; cases k
  | some i=>
   rw [ad] at k
   simp only at k ⊢
   cases hE:i.agg with
   | true=>
    rw [hE] at k
    obtain ⟨l,ah,rfl⟩:=bB (show (bA H q.1 q.2 i.size).omap I.agg=some v from k)
    show (bA H' q.1 q.2 i.size).omap I.agg=_
    rw [Gs h ah]; rfl
   | false=>
    rw [hE] at k
    exact N_ h (show cellAt H q.1 q.2=some v from k)
 | convert s d x=>
  replace k:=show (match aU E s with
   | .slice e=>match hX (aU E e) with
    | true=>match aU E d with
     | .string=>(aK M x T).ac (strOf H)
     | .slice _=>match Nat.beq s d with | true=>(aK M x T).ac (jN e H) | false=>none
     | _=>none
    | false=>none
   | _=>none)=some v from k
  show (match aU E s with
   | .slice e=>match hX (aU E e) with
    | true=>match aU E d with
     | .string=>(aK M x T).ac (strOf H')
     | .slice _=>match Nat.beq s d with | true=>(aK M x T).ac (jN e H') | false=>none
     | _=>none
    | false=>none
   | _=>none)=some v
  have DU:∀y v,strOf H y=some v -> strOf H' y=some v:=by
   intro y v aj
   have aj:=show bQ (asSlice y) (ap (du y) (some (I.str [])) ((fj y).ac fun q=>ap (Nat.beq q.1 1) ((gG (a3 q.2)).omap .str) none)) (fun q=>((bA H q.1 q.2.1 q.2.2.1).ac gG).omap .str)=some v from aj
   show bQ (asSlice y) (ap (du y) (some (I.str [])) ((fj y).ac fun q=>ap (Nat.beq q.1 1) ((gG (a3 q.2)).omap .str) none)) (fun q=>((bA H' q.1 q.2.1 q.2.2.1).ac gG).omap .str)=some v
   cases aB:asSlice y with
   | none=>rw [aB] at aj; exact aj
   | some q=>
    rw [aB,fN] at aj
    rw [fN]
    obtain ⟨bs,gz,rfl⟩:=bB aj
    obtain ⟨l,ah,gz⟩:=aO gz
    rw [Gs h ah]
    show ((gG l).omap I.str)=_
    rw [gz]; rfl
  have m_:∀e y v,jN e H y=some v -> jN e H' y=some v:=by
   intro e y v aj
   obtain ⟨q,aB,aj⟩:=aO aj
   obtain ⟨z,ai,aj⟩:=aO aj
   show (asSlice y).ac _=_
   rw [aB]
   show (H'.m.get q.1).ac _=_
   rw [h _ _ ai]
   exact aj
  cases Le:aU E s with
  | slice e=>
   simp only [Le] at k ⊢
   cases U:hX (aU E e) with
   | true=>
    simp only [U] at k ⊢
    cases kB:aU E d with
    | string=>
     simp only [kB] at k ⊢
     obtain ⟨y,aj,k⟩:=aO k
     rw [aj]; exact DU y v k
    | slice fG=>
     simp only [kB] at k ⊢
     cases qh:Nat.beq s d with
     | true=>
      simp only [qh] at k ⊢
      obtain ⟨y,aj,k⟩:=aO k
      rw [aj]; exact m_ _ y v k
     | false=>simp only [qh] at k; cases k
    | _=>simp only [kB] at k; cases k
   | false=>simp only [U] at k; cases k
  | _=>simp only [Le] at k; cases k
 | _=>cases k
theorem bM.sub {s:bb} {H H':aa} {w:World} (r:bM E s H w) (h:Sub H' H) (ar:H'.next=H.next):bM E s H' w:=
 ⟨fun a x c ae V=>r.dr a x c (h a x ae) V,fun a x cF x' c ae aC cT h5 V b7=>r.inj a x cF x' c (h a x ae) aC (h cF x' cT) h5 V b7,r.lt,fun a ae=>by
  rw [ar] at ae
  refine ⟨(r.fr a ae).1,?_⟩
  cases R:H'.m.get a with
  | none=>rfl
  | some x=>have:=h a x R; rw [(r.fr a ae).2] at this; cases this⟩
end Go.az
namespace Go.az
variable {P:Program} {E:Env}
inductive nO (E:Env) (call:dQ) (M:Nat) (L:List Oper) (id:Nat) (o:Oper) (A B:an):I -> Prop
 | idle:cx M L A.T o=some false -> B.H=A.H -> nO E call M L id o A B .undef
 | pure {v:I}:cx M L A.T o=some true -> cls o.op E= .pure -> lx M o.op E A.T=some v -> B.H=A.H -> nO E call M L id o A B v
 | read {v:I}:cx M L A.T o=some true -> cls o.op E= .read -> eG M o.op E A.T A.H=some v -> B.H=A.H -> nO E call M L id o A B v
 | alloc {x:bf} {f:Nat -> I}:cx M L A.T o=some true -> cls o.op E= .alloc -> jn M o.op E A.T=some (x,f) -> A.H.m.get id=none -> B.H=aN A.H id x -> nO E call M L id o A B (f id)
 | ha {v:I}:cx M L A.T o=some true -> cls o.op E= .ha -> oT M o.op E call A.T A.H=some (v,B.H) -> nO E call M L id o A B v
theorem N' {call:dQ} {N M:Nat} {L:List Oper} {id:Nat} {o:Oper} {A B:an} (hw:cx M L A.T o=some true) (h:w1 E call N M id o A=some B):∃v,nO E call M L id o A B v /\ ev N M A.T o.dst v=some B.T:=by
 unfold w1 at h
 cases V:cls o.op E with
 | pure=>
  rw [V] at h
  have h:=show jU E call N M o A=some B from h
  unfold jU uG at h
  rw [V] at h
  obtain ⟨v,ak,h⟩:=aO h
  obtain ⟨T',ih,rfl⟩:=bB h
  exact ⟨v,.pure hw V ak rfl,ih⟩
 | read=>
  rw [V] at h
  have h:=show jU E call N M o A=some B from h
  unfold jU uG at h
  rw [V] at h
  obtain ⟨v,ak,h⟩:=aO h
  obtain ⟨T',ih,rfl⟩:=bB h
  exact ⟨v,.read hw V ak rfl,ih⟩
 | alloc=>
  rw [V] at h
  simp only at h
  split at h
  ·
   rename_i ky
   obtain ⟨p,aR,h⟩:=aO h
   obtain ⟨T',ih,rfl⟩:=bB h
   exact ⟨p.2 id,.alloc (x:=p.1) (f:=p.2) hw V aR ky rfl,ih⟩
  ·
   cases h
 | ha=>
  rw [V] at h
  have h:=show jU E call N M o A=some B from h
  unfold jU uG at h
  rw [V] at h
  obtain ⟨p,aR,h⟩:=aO h
  obtain ⟨T',ih,rfl⟩:=bB h
  exact ⟨p.1,.ha hw V aR,ih⟩
theorem Oa (call:dQ) (N M:Nat) (all:List Oper) (o:Oper) (l:List Oper) (id:Nat) (s:an):trace E call N M all (o :: l) id s=wG E call N M all o (trace E call N M all l) id s:=rfl
theorem Ob (x:an) (l:List an) (d:an):g9 (x :: l) d=g9 l x:=rfl
theorem HY {call:dQ} {N M:Nat} {all:List Oper}:∀(l:List Oper) (id:Nat) (s:an) (a_:List an) (d:an),trace E call N M all l id s=some a_ ->
 a_.length=l.length + 1 /\ a_[0]? =some s /\ (∃z,a_[l.length]? =some z /\ g9 a_ d=z) /\
 ∀j o,l[j]? =some o -> ∃A B v,a_[j]? =some A /\ a_[j + 1]? =some B /\ nO E call M all (id + j) o A B v /\ ev N M A.T o.dst v=some B.T
 | [],id,s,a_,d,h=>by
  cases h
  exact ⟨rfl,rfl,⟨s,rfl,rfl⟩,fun j o h=>by simp at h⟩
 | x :: l,id,s,a_,d,h=>by
  rw [Oa] at h
  unfold wG at h
  have key:∀s1 r4,trace E call N M all l (id + 1) s1=some r4 -> a_=s :: r4 -> (∃v,nO E call M all id x s s1 v /\ ev N M s.T x.dst v=some s1.T) ->
   a_.length=(x :: l).length + 1 /\ a_[0]? =some s /\ (∃z,a_[(x :: l).length]? =some z /\ g9 a_ d=z) /\
   ∀j o,(x :: l)[j]? =some o -> ∃A B v,a_[j]? =some A /\ a_[j + 1]? =some B /\ nO E call M all (id + j) o A B v /\ ev N M A.T o.dst v=some B.T:=by
   intro s1 r4 J he ak
   subst he
   obtain ⟨O,ag,⟨z,aP,bH⟩,eC⟩:=HY l (id + 1) s1 r4 s J
   refine ⟨by simp [O],rfl,⟨z,by simpa using aP,by rw [Ob]; exact bH⟩,?_⟩
   intro j o aC
   cases j with
   | zero=>
    simp at aC; subst aC
    obtain ⟨v,h4,Au⟩:=ak
    exact ⟨s,s1,v,rfl,by simpa using ag,h4,Au⟩
   | succ j=>
    obtain ⟨A,B,v,ae,U,hw,aR⟩:=eC j o (by simpa using aC)
    refine ⟨A,B,v,by simpa using ae,by simpa using U,?_,aR⟩
    rw [show id + (j + 1)=id + 1 + j by omega]; exact hw
  cases hw:cx M all s.T x with
  | none=>rw [hw] at h; cases h
  | some b=>
   rw [hw] at h
   cases b with
   | true=>
    obtain ⟨s1,J,h⟩:=aO h
    obtain ⟨r4,O,rfl⟩:=bB h
    exact key s1 r4 O rfl (N' hw J)
   | false=>
    obtain ⟨ff,J,h⟩:=aO h
    obtain ⟨r4,O,rfl⟩:=bB h
    exact key ⟨ff,s.H⟩ r4 O rfl ⟨.undef,.idle hw rfl,J⟩
def ep (E:Env) (M:Nat) (L:List Oper) (A:Nat -> an) (i:Nat) (x:bf) (f:Nat -> I):Prop:=
 ∃o,L[i]? =some o /\ cx M L (A i).T o=some true /\ cls o.op E= .alloc /\ jn M o.op E (A i).T=some (x,f)
theorem ep.room {M:Nat} {L:List Oper} {A:Nat -> an} {i:Nat} {x:bf} {f:Nat -> I} (h:ep E M L A i x f):iw E L=L.length:=by
 obtain ⟨o,J,_,O,_⟩:=h
 have:L.any (ls E)=true:=List.any_eq_true.2 ⟨o,List.mem_of_getElem? J,by unfold ls; rw [O]⟩
 unfold iw; rw [this]
theorem ep.n_ {M:Nat} {L:List Oper} {A:Nat -> an} {i:Nat} {x:bf} {f:Nat -> I} (h:ep E M L A i x f):i < iw E L:=by
 rw [h.room]; obtain ⟨o,J,_⟩:=h
 exact (List.getElem?_eq_some_iff.1 J).1
theorem ep.uniq {M:Nat} {L:List Oper} {A:Nat -> an} {i:Nat} {x x':bf} {f gE:Nat -> I} (h:ep E M L A i x f) (aQ:ep E M L A i x' gE):x=x' /\ f=gE:=by
 obtain ⟨o,J,_,_,O⟩:=h
 obtain ⟨o',jX,_,_,lK⟩:=aQ
 rw [J] at jX; cases jX
 rw [O] at lK; cases lK
 exact ⟨rfl,rfl⟩
structure h1 (E:Env) (call:dQ) (N M:Nat) (L:List Oper) (base:Nat) (A:Nat -> an) (fC:Nat -> Nat -> Prop):Prop where
 z0:∀j o,L[j]? =some o -> ∃v,nO E call M L (base + j) o (A j) (A (j + 1)) v /\ ev N M (A j).T o.dst v=some (A (j + 1)).T
 uS:∀j o e,L[j]? =some o -> e∈o.after.toList -> tight e=true -> e.on < j
 closed:∀(done:Nat -> Prop),(∀j o e,done j -> L[j]? =some o -> e∈o.after.toList -> tight e=true -> done e.on) ->
  ∀j o,L[j]? =some o -> (∀e,e∈o.after.toList -> tight e=true -> done e.on) -> ∀i,fC i j -> done i
 lt:∀i j,fC i j -> i < j
 ord:∀i j x y,i < j -> L[i]? =some x -> L[j]? =some y -> p0 L x y=true∨(fR E x=true /\ fR E y=true) -> fC i j
 rd:∀e j x y,L[e]? =some x -> L[j]? =some y -> fR E x=true -> e≠j -> ¬fC e j -> ¬fC j e -> cx M L (A j).T y=some true -> cls y.op E= .read ->
  (e < j -> uH (eG M y.op E (A j).T (A e).H) (eG M y.op E (A j).T (A j).H)=true) /\ (j < e -> uH (eG M y.op E (A j).T (A (e + 1)).H) (eG M y.op E (A j).T (A j).H)=true)
 vF:∀e j x y,L[e]? =some x -> L[j]? =some y -> fR E x=true -> e≠j -> ¬fC e j -> ¬fC j e -> cx M L (A j).T y=some true -> cls y.op E= .alloc ->
  (e < j -> (A e).H.m.get (base + j)=none) /\ (j < e -> za ((A e).H.m.get (base + j)) ((A (e + 1)).H.m.get (base + j))=true)
theorem so {o:Oper}:fR E o=true↔cls o.op E= .ha:=by
 unfold fR
 cases cls o.op E <;> simp
section
variable {call:dQ} {N M:Nat} {L:List Oper} {base:Nat} {A:Nat -> an} {fC:Nat -> Nat -> Prop}
theorem h1.still (p:h1 E call N M L base A fC) (q:Nat):∀d,q + d≤L.length -> (∀e x,q≤e -> e < q + d -> L[e]? =some x -> fR E x=false) ->
 (A (q + d)).H.next=(A q).H.next /\ (∀i x f,q≤i -> i < q + d -> ep E M L A i x f -> (A (q + d)).H.m.get (base + i)=some x) /\
 (∀a,(∀i x f,q≤i -> i < q + d -> ep E M L A i x f -> a≠base + i) -> (A (q + d)).H.m.get a=(A q).H.m.get a) /\ Sub (A q).H (A (q + d)).H
 | 0,_,_=>⟨rfl,fun i x f J O _=>by omega,fun a _=>rfl,fun a x h=>h⟩
 | d + 1,ar,he=>by
  obtain ⟨J,O,ag,aP⟩:=p.still q d (by omega) (fun e x bc a9=>he e x bc (by omega))
  have aF:q + d < L.length:=by omega
  obtain ⟨v,hw,_⟩:=p.z0 (q + d) L[q + d] (List.getElem?_eq_getElem aF)
  have jF:L[q + d]? =some L[q + d]:=List.getElem?_eq_getElem aF
  rw [show q + (d + 1)=q + d + 1 by omega]
  have oV:(∀x f,¬ep E M L A (q + d) x f) -> (A (q + d + 1)).H=(A (q + d)).H ->
   (A (q + d + 1)).H.next=(A q).H.next /\ (∀i x f,q≤i -> i < q + d + 1 -> ep E M L A i x f -> (A (q + d + 1)).H.m.get (base + i)=some x) /\
   (∀a,(∀i x f,q≤i -> i < q + d + 1 -> ep E M L A i x f -> a≠base + i) -> (A (q + d + 1)).H.m.get a=(A q).H.m.get a) /\ Sub (A q).H (A (q + d + 1)).H:=by
   intro r5 g2
   rw [g2]
   refine ⟨J,fun i x f bc a9 bt=> ?_,fun a ae=>ag a (fun i x f bc a9 bt=>ae i x f bc (by omega) bt),aP⟩
   rcases Nat.lt_or_ge i (q + d) with k | k
   ·
    exact O i x f bc k bt
   ·
    have:i=q + d:=by omega
    subst this
    exact absurd bt (r5 x f)
  cases hw with
  | idle nj g2=>
   refine oV (fun x f ⟨o,bc,a9,_⟩=> ?_) g2
   rw [jF] at bc; cases bc
   rw [nj] at a9; cases a9
  | pure nj V _ g2=>
   refine oV (fun x f ⟨o,bc,_,a9,_⟩=> ?_) g2
   rw [jF] at bc; cases bc
   rw [V] at a9; cases a9
  | read nj V _ g2=>
   refine oV (fun x f ⟨o,bc,_,a9,_⟩=> ?_) g2
   rw [jF] at bc; cases bc
   rw [V] at a9; cases a9
  | ha nj V _=>
   have:=he (q + d) _ (by omega) (by omega) jF
   rw [so.2 V] at this; cases this
  | @alloc x f nj V ae zC g2=>
   have gA:ep E M L A (q + d) x f:=⟨_,jF,nj,V,ae⟩
   have cp:∀a,(A (q + d + 1)).H.m.get a=if a=base + (q + d) then some x else (A (q + d)).H.m.get a:=fun a=>by rw [g2]; exact bz.jo _ _ _ _
   refine ⟨by rw [g2]; exact J,fun i x' gE bc a9 bt=> ?_,fun a k=> ?_,fun a y aj=> ?_⟩
   ·
    rw [cp]
    by_cases ad:i=q + d
    ·
     subst ad
     rw [if_pos rfl,(gA.uniq bt).1]
    ·
     rw [if_neg (by omega)]
     exact O i x' gE bc (by omega) bt
   ·
    rw [cp,if_neg (k _ x f (by omega) (by omega) gA)]
    exact ag a (fun i x' gE bc a9 bt=>k i x' gE bc (by omega) bt)
   ·
    rw [cp]
    have bH:=aP a y aj
    by_cases cT:a=base + (q + d)
    ·
     subst cT; rw [zC] at bH; cases bH
    ·
     rw [if_neg cT]; exact bH
end
end Go.az
namespace Go.az
variable {P:Program} {E:Env}
theorem B5 {t:Nat}:∀ {l:List Nat},t∈l -> gL t l=true
 | [],h=>by cases h
 | x :: l,h=>by
  unfold gL
  cases U:Nat.beq t x with
  | true=>rfl
  | false=>
   rcases List.mem_cons.1 h with rfl | h
   ·
    rw [Nat.beq_refl] at U; cases U
   ·
    exact B5 h
theorem Oc {L:List Oper} {x y:Oper} {d:Tmp} (h:x.dst=some d) (k:d∈m1 L y):p0 L x y=true:=by
 unfold p0; rw [h]; simp only [B5 k,Bool.true_or]
theorem Nh {L:List Oper} {x y:Oper} {d:Tmp} (h:y.dst=some d) (k:d∈m1 L x):p0 L x y=true:=by
 unfold p0; rw [h]; simp only [B5 k,Bool.or_true]
theorem Px {L:List Oper} {x y:Oper} {d:Tmp} (h:x.dst=some d) (k:y.dst=some d):p0 L x y=true:=by
 unfold p0; rw [h,k]; simp
theorem B6 {N M:Nat} {T T':a'} {d:Option Tmp} {v:I} (h:ev N M T d v=some T') (t:Tmp):T'.get M t=if d=some t then some v else T.get M t:=by
 unfold ev sQ at h
 cases d with
 | none=>cases h; simp
 | some x=>
  simp only at h
  split at h
  ·
   have key:T'=a'.put M T v x:=by
    split at h
    ·
     rename_i hm; cases h; simp [a'.put,hm]
    ·
     rename_i hm; cases h; simp [a'.put,hm]
   rw [key,a'.md]
   by_cases R:t=x
   ·
    subst R; simp
   ·
    rw [if_neg R,if_neg (fun h=>R (Option.some.inj h).symm)]
  ·
   cases h
theorem Tq {N M:Nat} {T T':a'} {x:Tmp} {v:I} (h:ev N M T (some x) v=some T'):x < N:=by
 unfold ev sQ at h
 simp only at h
 split at h
 ·
  rename_i U; exact (cZ _ _).1 U
 ·
  cases h
section
variable {call:dQ} {N M:Nat} {L:List Oper} {base:Nat} {A:Nat -> an} {fC:Nat -> Nat -> Prop}
theorem h1.DV (p:h1 E call N M L base A fC) (t:Tmp):∀j,j≤L.length ->
 (∃i o,i < j /\ L[i]? =some o /\ o.dst=some t /\ (∀dd o',i < dd -> dd < j -> L[dd]? =some o' -> o'.dst≠some t) /\ (A j).T.get M t=(A (i + 1)).T.get M t)∨
 ((∀i o,i < j -> L[i]? =some o -> o.dst≠some t) /\ (A j).T.get M t=(A 0).T.get M t)
 | 0,_=> .inr ⟨fun i o h=>by omega,rfl⟩
 | j + 1,ax=>by
  have aF:j < L.length:=by omega
  have jF:L[j]? =some L[j]:=List.getElem?_eq_getElem aF
  obtain ⟨v,_,aR⟩:=p.z0 j _ jF
  have cp:=B6 aR t
  by_cases aw:L[j].dst=some t
  ·
   exact .inl ⟨j,_,by omega,jF,aw,fun dd o' J O=>by omega,rfl⟩
  ·
   rw [if_neg aw] at cp
   rcases p.DV t j (by omega) with ⟨i,o,J,O,ag,aP,bH⟩ | ⟨J,O⟩
   ·
    refine .inl ⟨i,o,by omega,O,ag,fun dd o' bc a9 bt=> ?_,cp.trans bH⟩
    rcases Nat.lt_or_ge dd j with k | k
    ·
     exact aP dd o' bc k bt
    ·
     have:dd=j:=by omega
     subst this
     rw [jF] at bt; cases bt
     exact aw
   ·
    refine .inr ⟨fun i o bc a9=> ?_,cp.trans O⟩
    rcases Nat.lt_or_ge i j with k | k
    ·
     exact J i o k a9
    ·
     have:i=j:=by omega
     subst this
     rw [jF] at a9; cases a9
     exact aw
def js (L:List Oper) (done:Nat -> Prop):Prop:=∀j o e,done j -> L[j]? =some o -> e∈o.after.toList -> tight e=true -> done e.on
def n' (L:List Oper) (done:Nat -> Prop) (j:Nat) (o:Oper):Prop:=L[j]? =some o /\ ¬done j /\ ∀e,e∈o.after.toList -> tight e=true -> done e.on
def pR (done:Nat -> Prop) (j:Nat):Nat -> Prop:=fun i=>i=j∨done i
theorem js.and {done:Nat -> Prop} {j:Nat} {o:Oper} (h:js L done) (r:n' L done j o):js L (pR done j):=by
 intro i o' e ad aC he bh
 rcases ad with rfl | ad
 ·
  rw [r.1] at aC; cases aC
  exact .inr (r.2.2 e he bh)
 ·
  exact .inr (h i o' e ad aC he bh)
theorem h1.first (p:h1 E call N M L base A fC) {done:Nat -> Prop} (V:js L done) {j:Nat} {o:Oper} (r:n' L done j o) {i:Nat} (h:fC i j):done i:=p.closed done V j o r.1 r.2.2 i h
theorem h1.wK (p:h1 E call N M L base A fC) {done:Nat -> Prop} (V:js L done) {j:Nat} {o:Oper} (ax:L[j]? =some o) (aw:done j) {i:Nat} (h:fC i j):done i:=
 p.closed done V j o ax (fun e he bh=>V j o e aw ax he bh) i h
structure jV (M:Nat) (N:Nat) (L:List Oper) (A:Nat -> an) (done:Nat -> Prop) (s:bb) (ct:Array Value):Prop where
 size:ct.size=N
 t1:∀t i o,L[i]? =some o -> done i -> o.dst=some t -> (∀dd o',i < dd -> done dd -> L[dd]? =some o' -> o'.dst≠some t) -> ∀v,(A (i + 1)).T.get M t=some v -> a5 s v=some (ct.getD t undef)
 t2:∀t,(∀i o,done i -> L[i]? =some o -> o.dst≠some t) -> ∀v,(A 0).T.get M t=some v -> a5 s v=some (ct.getD t undef)
theorem jV.mono {done:Nat -> Prop} {s s':bb} {ct:Array Value} (h:jV M N L A done s ct) (hle:s.gi s'):jV M N L A done s' ct:=
 ⟨h.size,fun t i o J O ag aP v ak=>q1 hle _ _ (h.t1 t i o J O ag aP v ak),fun t J v ak=>q1 hle _ _ (h.t2 t J v ak)⟩
theorem jV.looks (p:h1 E call N M L base A fC) {done:Nat -> Prop} (V:js L done) {s:bb} {ct:Array Value} (h:jV M N L A done s ct) {j:Nat} {o:Oper} (r:n' L done j o):
 ∀t∈m1 L o,∀v,(A j).T.get M t=some v -> a5 s v=some (ct.getD t undef):=by
 intro t bh v ak
 have Lf:j < L.length:=(List.getElem?_eq_some_iff.1 r.1).1
 have JJ:∀dd o',j≤dd -> done dd -> L[dd]? =some o' -> o'.dst≠some t:=by
  intro dd o' J O ag aP
  rcases Nat.lt_or_ge j dd with k | k
  ·
   exact r.2.1 (p.wK V ag O (p.ord j dd o o' k r.1 ag (.inl (Nh aP bh))))
  ·
   have:dd=j:=by omega
   subst this; exact r.2.1 O
 rcases p.DV t j (by omega) with ⟨i,kK,J,O,ag,aP,bH⟩ | ⟨J,O⟩
 ·
  have o_:done i:=p.first V r (p.ord i j kK o J O r.1 (.inl (Oc ag bh)))
  refine h.t1 t i kK O o_ ag (fun dd o' bc a9 bt=> ?_) v (by rw [<- bH]; exact ak)
  rcases Nat.lt_or_ge dd j with k | k
  ·
   exact aP dd o' bc k bt
  ·
   exact JJ dd o' k a9 bt
 ·
  refine h.t2 t (fun i kK bc a9=> ?_) v (by rw [<- O]; exact ak)
  rcases Nat.lt_or_ge i j with k | k
  ·
   exact J i kK k a9
  ·
   exact JJ i kK k bc a9
theorem jV.oU (p:h1 E call N M L base A fC) {done:Nat -> Prop} (V:js L done) {s:bb} {ct:Array Value} (h:jV M N L A done s ct) {j:Nat} {o:Oper} (r:n' L done j o):
 dD s M (oU M (A j).T (m1 L o)) ct:=by
 intro t v ak
 rw [v9] at ak
 split at ak
 ·
  rename_i bh; exact h.looks p V r t bh v ak
 ·
  cases ak
theorem jV.put (p:h1 E call N M L base A fC) {done:Nat -> Prop} (V:js L done) {s:bb} {ct:Array Value} (h:jV M N L A done s ct) {j:Nat} {o:Oper} (r:n' L done j o) {v:I} {c:Value}
 (aR:ev N M (A j).T o.dst v=some (A (j + 1)).T) (ak:a5 s v=some c):jV M N L A (pR done j) s (k1 ct o.dst c):=by
 have bX:∀t,o.dst≠some t -> (k1 ct o.dst c).getD t undef=ct.getD t undef:=by
  intro t bh
  cases aw:o.dst with
  | none=>rfl
  | some d=>
   rw [aw] at bh
   have:d≠t:=fun e=>bh (by rw [e])
   simp [k1,Array.getElem?_setIfInBounds_ne this]
 have heq:∀t,o.dst=some t -> (k1 ct o.dst c).getD t undef=c:=by
  intro t bh
  rw [bh] at aR ⊢
  have:=Tq aR
  rw [<- h.size] at this
  simp [k1,this]
 refine ⟨by rw [BN]; exact h.size,?_,?_⟩
 ·
  intro t i kK ad aw bh f' u hu
  by_cases vh:o.dst=some t
  ·
   have cL:i=j:=by
    rcases aw with rfl | aw
    ·
     rfl
    ·
     rcases Nat.lt_trichotomy i j with k | k | k
     ·
      exact absurd vh (f' j o k (.inl rfl) r.1)
     ·
      exact k
     ·
      exact absurd (p.wK V ad aw (p.ord j i o kK k r.1 ad (.inl (Px vh bh)))) r.2.1
   subst cL
   rw [B6 aR t,if_pos vh] at hu
   cases hu
   rw [heq t vh]; exact ak
  ·
   have cL:i≠j:=fun e=>by subst e; rw [r.1] at ad; cases ad; exact vh bh
   rw [bX t vh]
   exact h.t1 t i kK ad (aw.resolve_left cL) bh (fun dd o' bc a9 bt=>f' dd o' bc (.inr a9) bt) u hu
 ·
  intro t fU u hu
  rw [bX t (fU j o (.inl rfl) r.1)]
  exact h.t2 t (fun i kK bc a9=>fU i kK (.inr bc) a9) u hu
theorem jV.all (p:h1 E call N M L base A fC) {done:Nat -> Prop} {s:bb} {ct:Array Value} (h:jV M N L A done s ct) (kt:∀i,i < L.length -> done i):dD s M (A L.length).T ct:=by
 intro t v ak
 rcases p.DV t L.length (Nat.le_refl _) with ⟨i,kK,J,O,ag,aP,bH⟩ | ⟨J,O⟩
 ·
  exact h.t1 t i kK O (kt i J) ag (fun dd o' bc _ bt=>aP dd o' bc (List.getElem?_eq_some_iff.1 bt).1 bt) v (by rw [<- bH]; exact ak)
 ·
  exact h.t2 t (fun i kK _ a9=>J i kK (List.getElem?_eq_some_iff.1 a9).1 a9) v (by rw [<- O]; exact ak)
theorem Od {T:a'} {o:Oper}:sY M T (oU M T (m1 L o)) o.op.operands.toList:=by
 refine N8 fun t bh=> ?_
 unfold m1
 split
 ·
  split
  ·
   exact List.mem_cons_of_mem _ bh
  ·
   exact bh
 ·
  exact bh
theorem MG {T:a'} {o:Oper}:cx M L (oU M T (m1 L o)) o=cx M L T o:=by
 unfold cx
 cases a4:o.guard with
 | none=>rfl
 | some g=>
  unfold mc wc
  cases aw:(L[g.1]?).bind (·.dst) with
  | none=>simp only [aw]
  | some d=>
   have hm:d∈m1 L o:=by
    unfold m1
    rw [a4]
    obtain ⟨cg,cn⟩:=g
    have fB:(L[cg]?).ac (·.dst)=some d:=by rw [mZ]; exact aw
    simp only [fB]
    exact List.mem_cons_self
   simp only [aw]
   rw [v9,if_pos hm]
end
end Go.az
namespace Go.az
variable {P:Program} {E:Env}
theorem Ni {M:Nat} {o:Op} {T:a'} {x:bf} {f:Nat -> I} (h:jn M o E T=some (x,f)):m5 x:=by
 cases o with
 | alloc t=>
  obtain ⟨z,_,he⟩:=bB (show (cr E t).omap (fun z=>(bf.cells z.cells t true true,fun b=>I.ptr b 0))=some (x,f) from h)
  cases he; rfl
 | box t a=>
  obtain ⟨z,_,he⟩:=bB (show (aK M a T).omap (fun v=>(bf.cells v.cells t true true,fun b=>I.ptr b 0))=some (x,f) from h)
  cases he; rfl
 | buildSlice t n ps=>
  replace h:=show (match aU E t with
   | .slice e=>match Nat.ble (Nat.mul n (au E e)) 16777216 with
    | true=>(cr E e).ac fun z=>(dV M (fun i=>some (Nat.mul i (au E e),au E e)) T ps.toList (cR n z.cells)).omap fun l=>(bf.cells l e true true,fun b=>I.slice b 0 n (.ex n))
    | false=>none
   | _=>none)=some (x,f) from h
  split at h
  ·
   split at h
   ·
    obtain ⟨z,_,h⟩:=aO h
    obtain ⟨l,_,he⟩:=bB h
    cases he; rfl
   ·
    cases h
  ·
   cases h
 | makeSlice t a b=>
  replace h:=show (match aU E t with
   | .slice e=>(cr E e).ac fun z=>(aK M a T).ac fun l=>(aK M b T).ac fun c=>(dH l).ac fun l=>(dH c).ac fun c=>
    match Nat.ble l c && (Nat.ble c 1048576 && Nat.ble (iU E e) 1048576) with
    | true=>some (bf.cells (cR c z.cells) e true true,fun b=>I.slice b 0 l (.ex c))
    | false=>none
   | _=>none)=some (x,f) from h
  split at h
  ·
   obtain ⟨z,_,h⟩:=aO h
   obtain ⟨AR,_,h⟩:=aO h
   obtain ⟨yj,_,h⟩:=aO h
   obtain ⟨l,_,h⟩:=aO h
   obtain ⟨c,_,h⟩:=aO h
   split at h
   ·
    cases h; rfl
   ·
    cases h
  ·
   cases h
 | convert src dst a=>
  replace h:=show (match aU E src with
   | .string=>match aU E dst with
    | .slice e=>match hX (aU E e) && Nat.beq (au E e) 1 with
     | true=>(aK M a T).ac fun v=>(match v with
      | .str l=>some (bf.cells (l.map fun c=>I.int .u8 (.ofNat c.toNat)) e false true,fun b=>I.slice b 0 l.length (.rest 0 (au E e) l.length))
      | _=>none)
     | false=>none
    | _=>none
   | _=>none)=some (x,f) from h
  split at h
  ·
   split at h
   ·
    split at h
    ·
     obtain ⟨v,_,h⟩:=aO h
     split at h
     ·
      cases h; rfl
     ·
      cases h
    ·
     cases h
   ·
    cases h
  ·
   cases h
 | _=>cases h
theorem Ext.lay {s0 s:bb} {H0 Z:aa} {w0 w:World} (x:Ext s0 H0 w0 s Z w) {id ka sz:Nat} {b:bf} {o:Obj} (ky:H0.next≤id):Ext s0 H0 w0 (cj s id w.heap.size ka sz) (aN Z id b) (eH w o):=by
 have cp:∀a,(aN Z id b).m.get a=if a=id then some b else Z.m.get a:=fun a=>bz.jo _ _ _ _
 refine ⟨x.nx,fun a ae=> ?_,Nat.le_trans x.size (by simp [eH]),x.os,x.tape,x.output,fun c V ar=> ?_,fun a y c ae aC V aF=> ?_,fun a y c ae aC V aF=> ?_,fun c q aB=> ?_⟩
 ·
  have:a≠id:=by omega
  simpa [cj,this] using x.le a ae
 ·
  rw [sn w o c (Nat.lt_of_lt_of_le V x.size)]; exact x.b3 c V ar
 ·
  rw [cp] at ae
  by_cases h:a=id
  ·
   subst h
   simp only [hf,Option.some.injEq] at V
   have:=x.size
   omega
  ·
   rw [if_neg h] at ae
   exact x.mG a y c ae aC (by simpa [cj,h] using V) aF
 ·
  rw [cp] at ae
  by_cases h:a=id
  ·
   subst h
   simp only [hf,Option.some.injEq] at V
   have:=x.size
   omega
  ·
   rw [if_neg h] at ae
   exact x.nN a y c ae aC (by simpa [cj,h] using V) aF
 ·
  obtain ⟨q',e4⟩:=x.loops c q aB
  exact ⟨q',(sn w o c (Array.getElem?_eq_some_iff.1 e4).1).trans e4⟩
section
variable {call:dQ} {N M:Nat} {L:List Oper} {base:Nat} {A:Nat -> an} {fC:Nat -> Nat -> Prop}
structure hA (E:Env) (M:Nat) (L:List Oper) (base:Nat) (A:Nat -> an) (done:Nat -> Prop) (s0:bb) (H0:aa) (w0:World) (s:bb) (w:World) (q:Nat) (Z:aa):Prop where
 aD:H0.next≤base
 yl:q≤L.length
 qH:∀e x,e < q -> L[e]? =some x -> fR E x=true -> done e
 qI:q < L.length -> ∃x,L[q]? =some x /\ fR E x=true /\ ¬done q
 rel:bM E s Z w
 ext:Ext s0 H0 w0 s Z w
 nx:Z.next=(A q).H.next
 r6:base + iw E L≤Z.next
 early:∀i x f,q≤i -> done i -> ep E M L A i x f -> Z.m.get (base + i)=some x
 rest:∀a,(∀i x f,q≤i -> done i -> ep E M L A i x f -> a≠base + i) -> Z.m.get a=(A q).H.m.get a
 jy:∀i x f,¬done i -> ep E M L A i x f -> s.cw (base + i)=none
 uT:∀i x f,i < q -> ¬done i -> ep E M L A i x f -> (A q).H.m.get (base + i)=some x
theorem ep.lt {i:Nat} {x:bf} {f:Nat -> I} (h:ep E M L A i x f):i < L.length:=by
 obtain ⟨o,J,_⟩:=h
 exact (List.getElem?_eq_some_iff.1 J).1
theorem ep.C2 {i:Nat} {x:bf} {f:Nat -> I} (h:ep E M L A i x f) {o:Oper} (aC:L[i]? =some o):fR E o≠true:=by
 obtain ⟨o',J,_,O,_⟩:=h
 rw [aC] at J; cases J
 intro he
 rw [so.1 he] at O; cases O
variable {done:Nat -> Prop} {s0 s:bb} {H0 Z:aa} {w0 w:World} {q:Nat}
theorem hA.free (p:h1 E call N M L base A fC) (h:hA E M L base A done s0 H0 w0 s w q Z) {i:Nat} {x:bf} {f:Nat -> I} (ae:ep E M L A i x f) (aB:q≤i) (ar:¬fC q i):(A q).H.m.get (base + i)=none:=by
 have ad:=ae.lt
 obtain ⟨y,aj,he,_⟩:=h.qI (by omega)
 have bX:q≠i:=fun e=>by subst e; exact ae.C2 aj he
 obtain ⟨o,J,O,ag,_⟩:=ae
 exact (p.vF q i y o aj J he bX ar (fun k=>by have:=p.lt _ _ k; omega) O ag).1 (by omega)
theorem hA.HZ (p:h1 E call N M L base A fC) (V:js L done) (h:hA E M L base A done s0 H0 w0 s w q Z) {i:Nat} {x:bf} {f:Nat -> I} (ae:ep E M L A i x f) (aB:q≤i) (aw:done i):(A q).H.m.get (base + i)=none:=by
 refine h.free p ae aB fun k=> ?_
 obtain ⟨o,J,_⟩:=ae
 have ad:=(List.getElem?_eq_some_iff.1 J).1
 obtain ⟨_,_,_,lc⟩:=h.qI (by omega)
 exact lc (p.wK V J aw k)
theorem hA.sub (p:h1 E call N M L base A fC) (V:js L done) (h:hA E M L base A done s0 H0 w0 s w q Z):Sub (A q).H Z:=by
 intro a x ae
 rw [h.rest a,ae]
 rintro i y f aB aw gA rfl
 rw [h.HZ p V gA aB aw] at ae; cases ae
theorem hA.pass (h:hA E M L base A done s0 H0 w0 s w q Z) {j:Nat} {o:Oper} (ax:L[j]? =some o) (bX:fR E o≠true) (r5:∀x f,¬ep E M L A j x f) {w':World} (r:bM E s Z w') (x:Ext s Z w s Z w'):
 hA E M L base A (pR done j) s0 H0 w0 s w' q Z where
 aD:=h.aD
 yl:=h.yl
 qH e y J O ag:= .inr (h.qH e y J O ag)
 qI aB:=by
  obtain ⟨y,J,O,ag⟩:=h.qI aB
  refine ⟨y,J,O,?_⟩
  rintro (rfl | k)
  ·
   rw [ax] at J; cases J; exact bX O
  ·
   exact ag k
 rel:=r
 ext:=h.ext.trans x
 nx:=h.nx
 r6:=h.r6
 early i y f J O ag:=by
  rcases O with rfl | O
  ·
   exact absurd ag (r5 y f)
  ·
   exact h.early i y f J O ag
 rest a ae:=h.rest a fun i y f J O ag=>ae i y f J (.inr O) ag
 jy i y f J O:=h.jy i y f (fun k=>J (.inr k)) O
 uT i y f J O ag:=h.uT i y f J (fun k=>O (.inr k)) ag
theorem hA.alloc (p:h1 E call N M L base A fC) (V:js L done) (h:hA E M L base A done s0 H0 w0 s w q Z) {j:Nat} {o:Oper} (r:n' L done j o) {x:bf} {f:Nat -> I} (ae:ep E M L A j x f) {cl:World} (dE:cl=w∨cl=jR w) {AX:Obj} {ka sz:Nat}
 (U:kp E (cj s (base + j) w.heap.size ka sz) (base + j) w.heap.size (eH cl AX) x):
 hA E M L base A (pR done j) s0 H0 w0 (cj s (base + j) w.heap.size ka sz) (eH cl AX) q (aN Z (base + j) x):=by
 have aM:cl.heap=w.heap:=by rcases dE with rfl | rfl <;> rfl
 have g0:Ext s Z w s Z cl:=by
  rcases dE with rfl | rfl
  ·
   exact Ext.refl _ _ _
  ·
   exact Ext.drew _ _ _
 have ax:=ae.lt
 have eh:=h.jy j x f r.2.1 ae
 have DW:∀i y g,q≤i -> done i -> ep E M L A i y g -> base + j≠base + i:=by
  intro i y g _ aw _ e
  have:i=j:=by omega
  subst this; exact r.2.1 aw
 have eW:∀y,Z.m.get (base + j)=some y -> y=x:=by
  intro y aj
  rw [h.rest _ DW] at aj
  rcases Nat.lt_or_ge j q with k | k
  ·
   rw [h.uT j x f k r.2.1 ae] at aj; cases aj; rfl
  ·
   obtain ⟨_,_,_,lc⟩:=h.qI (by omega)
   rw [h.free p ae k (fun a9=>lc (p.first V r a9))] at aj; cases aj
 have zY:=(h.rel.congr aM).lay (id:=base + j) (ka:=ka) (sz:=sz) (x:=x) (o:=AX) eh eW (show base + j < Z.next by have:=h.r6; rw [ae.room] at this; omega) (by rw [aM]; exact U)
 rw [aM] at zY
 have cp:∀a,(aN Z (base + j) x).m.get a=if a=base + j then some x else Z.m.get a:=fun a=>bz.jo _ _ _ _
 have z1:=(h.ext.trans g0).lay (id:=base + j) (ka:=ka) (sz:=sz) (b:=x) (o:=AX) (by have:=h.aD; omega)
 rw [aM] at z1
 refine ⟨h.aD,h.yl,fun e y J O ag=> .inr (h.qH e y J O ag),fun aB=> ?_,zY,z1,h.nx,h.r6,fun i y g J O ag=> ?_,fun a r5=> ?_,fun i y g J O=> ?_,fun i y g J O ag=>h.uT i y g J (fun k=>O (.inr k)) ag⟩
 ·
  obtain ⟨y,J,O,ag⟩:=h.qI aB
  refine ⟨y,J,O,?_⟩
  rintro (rfl | k)
  ·
   exact ae.C2 J O
  ·
   exact ag k
 ·
  rw [cp]
  by_cases cL:i=j
  ·
   subst cL; rw [if_pos rfl,(ae.uniq ag).1]
  ·
   rw [if_neg (by omega)]
   exact h.early i y g J (O.resolve_left cL) ag
 ·
  rw [cp]
  by_cases vi:a=base + j
  ·
   subst vi
   rw [if_pos rfl]
   rcases Nat.lt_or_ge j q with k | k
   ·
    exact (h.uT j x f k r.2.1 ae).symm
   ·
    exact absurd rfl (r5 j x f k (.inl rfl) ae)
  ·
   rw [if_neg vi]
   exact h.rest a fun i y g J O ag=>r5 i y g J (.inr O) ag
 ·
  have cL:i≠j:=fun e=>J (.inl e)
  have:=h.jy i y g (fun k=>J (.inr k)) O
  simpa [cj,cL] using this
theorem hA.read (p:h1 E call N M L base A fC) (V:js L done) (h:hA E M L base A done s0 H0 w0 s w q Z) {j:Nat} {o:Oper} (r:n' L done j o) {v:I} (hw:cx M L (A j).T o=some true) (cP:cls o.op E= .read)
 (ak:eG M o.op E (A j).T (A j).H=some v) (g2:(A (j + 1)).H=(A j).H):eG M o.op E (A j).T (A q).H=some v:=by
 have ax:=(List.getElem?_eq_some_iff.1 r.1).1
 have bX:fR E o≠true:=fun k=>by rw [so.1 k] at cP; cases cP
 rcases Nat.lt_or_ge j q with k | k
 ·
  have key:∀d,j + 1 + d≤q -> eG M o.op E (A j).T (A (j + 1 + d)).H=some v:=by
   intro d
   induction d with
   | zero=>intro _; rw [Nat.add_zero,g2]; exact ak
   | succ d aH=>
    intro aw
    have aH:=aH (by omega)
    have aF:j + 1 + d < L.length:=by have:=h.yl; omega
    have jF:L[j + 1 + d]? =some L[j + 1 + d]:=List.getElem?_eq_getElem aF
    obtain ⟨u,Dq,_⟩:=p.z0 (j + 1 + d) _ jF
    rw [show j + 1 + (d + 1)=j + 1 + d + 1 by omega]
    by_cases DX:fR E L[j + 1 + d]=true
    ·
     have vj:=h.qH (j + 1 + d) _ (by omega) jF DX
     exact GO ((p.rd (j + 1 + d) j _ o jF r.1 DX (by omega) (fun a9=>by have:=p.lt _ _ a9; omega) (fun a9=>r.2.1 (p.wK V jF vj a9)) hw cP).2 (by omega)) ak
    ·
     cases Dq with
     | idle _ tj=>rw [tj]; exact aH
     | pure _ _ _ tj=>rw [tj]; exact aH
     | read _ _ _ tj=>rw [tj]; exact aH
     | ha _ mJ _=>exact absurd (so.2 mJ) DX
     | alloc _ _ _ eg tj=>
      refine GQ (fun a y aj=> ?_) aH
      rw [tj]
      show ((aN _ _ _).m.get a)=_
      rw [show (aN (A (j + 1 + d)).H (base + (j + 1 + d)) _).m.get a=_ from bz.jo _ _ _ _,if_neg,aj]
      rintro rfl
      rw [eg] at aj; cases aj
  have:=key (q - (j + 1)) (by omega)
  rw [show j + 1 + (q - (j + 1))=q by omega] at this
  exact this
 ·
  obtain ⟨y,aj,he,lc⟩:=h.qI (by omega)
  have Av:q≠j:=fun e=>by subst e; rw [r.1] at aj; cases aj; exact bX he
  exact GO ((p.rd q j y o aj r.1 he Av (fun a9=>lc (p.first V r a9)) (fun a9=>by have:=p.lt _ _ a9; omega) hw cP).1 (by omega)) ak
end
end Go.az
namespace Go.az
variable {P:Program} {E:Env}
section
variable {call:dQ} {N M:Nat} {L:List Oper} {base:Nat} {A:Nat -> an} {fC:Nat -> Nat -> Prop}
variable {done:Nat -> Prop} {s0 s:bb} {H0 Z:aa} {w0 w:World} {q:Nat}
theorem Cy (E:Env) (L:List Oper):∀(d q:Nat),q + d=L.length -> ∃q',q≤q' /\ q'≤L.length /\ (∀e x,q≤e -> e < q' -> L[e]? =some x -> fR E x=false) /\ (q' < L.length -> ∃x,L[q']? =some x /\ fR E x=true)
 | 0,q,h=>⟨q,Nat.le_refl _,by omega,fun e x J O=>by omega,fun k=>by omega⟩
 | d + 1,q,h=>by
  have aF:q < L.length:=by omega
  have jF:L[q]? =some L[q]:=List.getElem?_eq_getElem aF
  by_cases he:fR E L[q]=true
  ·
   exact ⟨q,Nat.le_refl _,by omega,fun e x J O=>by omega,fun _=>⟨_,jF,he⟩⟩
  ·
   obtain ⟨q',J,O,ag,aP⟩:=Cy E L d (q + 1) (by omega)
   refine ⟨q',by omega,O,fun e x bc a9 bt=> ?_,aP⟩
   by_cases aB:e=q
   ·
    subst aB; rw [jF] at bt; cases bt; simpa using he
   ·
    exact ag e x (by omega) a9 bt
theorem H2 (done:Nat -> Prop) (H:aa) (q:Nat):∀m,∃Z:aa,Z.next=H.next /\ (∀i x f,q≤i -> i < m -> done i -> ep E M L A i x f -> Z.m.get (base + i)=some x) /\
 (∀a,(∀i x f,q≤i -> i < m -> done i -> ep E M L A i x f -> a≠base + i) -> Z.m.get a=H.m.get a)
 | 0=>⟨H,rfl,fun i x f J O=>by omega,fun a _=>rfl⟩
 | m + 1=>by
  obtain ⟨Z,J,O,ag⟩:=H2 done H q m
  by_cases hm:q≤m /\ done m /\ ∃x f,ep E M L A m x f
  ·
   obtain ⟨bc,a9,x,f,bt⟩:=hm
   have cp:∀a,(aN Z (base + m) x).m.get a=if a=base + m then some x else Z.m.get a:=fun a=>bz.jo _ _ _ _
   refine ⟨aN Z (base + m) x,J,fun i y g l3 qJ kL ov=> ?_,fun a ae=> ?_⟩
   ·
    rw [cp]
    by_cases ad:i=m
    ·
     subst ad; rw [if_pos rfl,(bt.uniq ov).1]
    ·
     rw [if_neg (by omega)]; exact O i y g l3 (by omega) kL ov
   ·
    rw [cp,if_neg (ae m x f bc (by omega) a9 bt)]
    exact ag a fun i y g l3 qJ kL ov=>ae i y g l3 (by omega) kL ov
  ·
   refine ⟨Z,J,fun i y g l3 qJ kL ov=> ?_,fun a ae=>ag a fun i y g l3 qJ kL ov=>ae i y g l3 (by omega) kL ov⟩
   rcases Nat.lt_or_ge i m with k | k
   ·
    exact O i y g l3 k kL ov
   ·
    have:i=m:=by omega
    subst this
    exact absurd ⟨l3,kL,y,g,ov⟩ hm
theorem hA.Jl (p:h1 E call N M L base A fC) (V:js L done) (h:hA E M L base A done s0 H0 w0 s w q Z) {j:Nat} {o:Oper} (r:n' L done j o) (he:fR E o=true):j=q:=by
 have ax:=(List.getElem?_eq_some_iff.1 r.1).1
 rcases Nat.lt_trichotomy j q with k | k | k
 ·
  exact absurd (h.qH j o k r.1 he) r.2.1
 ·
  exact k
 ·
  obtain ⟨y,aj,adm,lc⟩:=h.qI (by omega)
  exact absurd (p.first V r (p.ord q j y o k aj r.1 (.inr ⟨adm,he⟩))) lc
theorem hA.ha (p:h1 E call N M L base A fC) (V:js L done) (h:hA E M L base A done s0 H0 w0 s w q Z) {o:Oper} (r:n' L done q o) (he:fR E o=true) {s':bb} {w':World}
 (bi:bM E s' (A (q + 1)).H w') (x':Ext s (A q).H w s' (A (q + 1)).H w'):
 ∃q' mT,hA E M L base A (pR done q) s0 H0 w0 s' w' q' mT:=by
 have aB:=(List.getElem?_eq_some_iff.1 r.1).1
 have rG:=h.sub p V
 have hle:s.gi s':=x'.vG (h.rel.sub rG h.nx.symm)
 obtain ⟨q',KS,rZ,bX,Aw⟩:=Cy E L (L.length - (q + 1)) (q + 1) (by omega)
 obtain ⟨mT,Ax,Lg,Lh⟩:=H2 (E:=E) (M:=M) (L:=L) (base:=base) (A:=A) done (A q').H q' L.length
 obtain ⟨kC,r3,ld,_⟩:=p.still (q + 1) (q' - (q + 1)) (by omega) (fun e x bc a9=>bX e x bc (by omega))
 rw [show q + 1 + (q' - (q + 1))=q' by omega] at kC r3 ld
 have DW:∀x f,¬ep E M L A q x f:=fun x f k=>k.C2 r.1 he
 have eh:∀i,i < iw E L -> s'.cw (base + i)=s.cw (base + i):=fun i ad=>(x'.le _ (by rw [<- h.nx]; have:=h.r6; omega)).1
 have sZ:∀a y,mT.m.get a=some y -> (∃i f,q < i /\ done i /\ ep E M L A i y f /\ a=base + i)∨(s'.cw a=none /\ a < base + iw E L)∨(A (q + 1)).H.m.get a=some y:=by
  intro a y aj
  by_cases J:∃i x f,q'≤i /\ done i /\ ep E M L A i x f /\ a=base + i
  ·
   obtain ⟨i,x,f,bc,a9,bt,rfl⟩:=J
   rw [Lg i x f bc bt.lt a9 bt] at aj
   cases aj
   exact .inl ⟨i,f,by omega,a9,bt,rfl⟩
  ·
   have mI:(A q').H.m.get a=some y:=by
    rw [<- Lh a fun i x f bc _ a9 bt gC=>J ⟨i,x,f,bc,a9,bt,gC⟩]; exact aj
   by_cases O:∃i x f,q + 1≤i /\ i < q' /\ ep E M L A i x f /\ a=base + i
   ·
    obtain ⟨i,x,f,bc,a9,bt,rfl⟩:=O
    rw [r3 i x f bc (by omega) bt] at mI
    cases mI
    by_cases aw:done i
    ·
     exact .inl ⟨i,f,by omega,aw,bt,rfl⟩
    ·
     exact .inr (.inl ⟨by rw [eh i bt.n_]; exact h.jy i y f aw bt,by have:=bt.n_; omega⟩)
   ·
    rw [ld a fun i x f bc a9 bt gC=>O ⟨i,x,f,bc,by omega,bt,gC⟩] at mI
    exact .inr (.inr mI)
 have uz:∀i y f,q < i -> done i -> ep E M L A i y f -> Z.m.get (base + i)=some y:=fun i y f bc a9 bt=>h.early i y f (by omega) a9 bt
 have own:∀i y f,ep E M L A i y f -> m5 y:=fun i y f k=>by
  obtain ⟨_,_,_,_,gC⟩:=k
  exact Ni gC
 have Dr:∀i y f c,q < i -> done i -> ep E M L A i y f -> s.cw (base + i)=some c -> ∀a0 dZ,(A q).H.m.get a0=some dZ -> isLive dZ -> s.cw a0≠some c:=by
  intro i y f c bc a9 bt gC a0 dZ cg cn bW
  have:=h.rel.inj (base + i) y a0 dZ c (uz i y f bc a9 bt) (own i y f bt) (rG a0 dZ cg) cn gC bW
  subst this
  rw [h.HZ p V bt (by omega) a9] at cg; cases cg
 have aaG:bM E s' mT w':=by
  refine ⟨fun a y c ae h6=> ?_,fun a y cF ch c ae aC cT h5 h6 rH=> ?_,bi.lt,fun a ae=> ?_⟩
  ·
   rcases sZ a y ae with ⟨i,f,bc,a9,bt,rfl⟩ | ⟨k,_⟩ | k
   ·
    have cB:=h6
    rw [eh i bt.n_] at cB
    have aF:=h.rel.lt _ _ cB
    have w2:=x'.b3 c aF fun a0 dZ cg cn=>Dr i y f c bc a9 bt cB a0 dZ cg (tZ cn)
    obtain ⟨_,a8,bk⟩:=x'.le (base + i) (by rw [<- h.nx]; have:=h.r6; have:=bt.n_; omega)
    have U:=h.rel.dr _ _ _ (uz i y f bc a9 bt) cB
    cases y with
    | cells l e ex wr=>
     obtain ⟨arr,fz,cg,cn,bW,fb,b6,dy,dO⟩:=U
     exact ⟨arr,fz,w2.trans cg,cn.mono hle,bW,fb,b6,by rw [a8,bk]; exact dy,dO⟩
    | loop=>
     obtain ⟨ct,D,cg,cn,bW⟩:=U
     exact ⟨ct,D,w2.trans cg,cn.mono hle,bW⟩
    | dead=>trivial
   ·
    rw [k] at h6; cases h6
   ·
    exact bi.dr a y c k h6
  ·
   rcases sZ a y ae with ⟨i,f,bc,a9,bt,rfl⟩ | ⟨k,_⟩ | k
   ·
    have cB:=h6
    rw [eh i bt.n_] at cB
    rcases sZ cF ch cT with ⟨dd,gE,l3,qJ,kL,rfl⟩ | ⟨j,_⟩ | j
    ·
     have rC:=rH
     rw [eh dd kL.n_] at rC
     exact h.rel.inj _ _ _ _ c (uz i y f bc a9 bt) aC (uz dd ch gE l3 qJ kL) h5 cB rC
    ·
     rw [j] at rH; cases rH
    ·
     obtain ⟨a0,dZ,cg,cn,bW⟩:=x'.nN cF ch c j h5 rH (h.rel.lt _ _ cB)
     exact absurd bW (Dr i y f c bc a9 bt cB a0 dZ cg cn)
   ·
    rw [k] at h6; cases h6
   ·
    rcases sZ cF ch cT with ⟨dd,gE,l3,qJ,kL,rfl⟩ | ⟨j,_⟩ | j
    ·
     have rC:=rH
     rw [eh dd kL.n_] at rC
     obtain ⟨a0,dZ,cg,cn,bW⟩:=x'.mG a y c k aC h6 (h.rel.lt _ _ rC)
     exact absurd bW (Dr dd ch gE c l3 qJ kL rC a0 dZ cg (tZ cn))
    ·
     rw [j] at rH; cases rH
    ·
     exact bi.inj a y cF ch c k aC j h5 h6 rH
  ·
   rw [Ax,kC] at ae
   refine ⟨(bi.fr a ae).1,?_⟩
   have sV:base + iw E L≤(A (q + 1)).H.next:=Nat.le_trans h.r6 (by rw [h.nx]; exact x'.nx)
   cases ai:mT.m.get a with
   | none=>rfl
   | some y=>
    rcases sZ a y ai with ⟨i,f,bc,a9,bt,rfl⟩ | ⟨_,k⟩ | k
    ·
     have:=bt.n_; omega
    ·
     omega
    ·
     rw [(bi.fr a ae).2] at k; cases k
 have ext':Ext s Z w s' mT w':=by
  refine ⟨by rw [Ax,kC,h.nx]; exact x'.nx,fun a ae=>x'.le a (by rw [<- h.nx]; exact ae),x'.size,x'.os,x'.tape,x'.output,fun c b7 ar=>x'.b3 c b7 fun a y cg cn=>ar a y (rG a y cg) cn,fun a y c ae aC h6 aF=> ?_,fun a y c ae aC h6 aF=> ?_,x'.loops⟩
  ·
   rcases sZ a y ae with ⟨i,f,bc,a9,bt,rfl⟩ | ⟨k,_⟩ | k
   ·
    exact ⟨_,y,uz i y f bc a9 bt,aC,by rw [<- eh i bt.n_]; exact h6⟩
   ·
    rw [k] at h6; cases h6
   ·
    obtain ⟨a0,dZ,cg,cn,bW⟩:=x'.mG a y c k aC h6 aF
    exact ⟨a0,dZ,rG a0 dZ cg,cn,bW⟩
  ·
   rcases sZ a y ae with ⟨i,f,bc,a9,bt,rfl⟩ | ⟨k,_⟩ | k
   ·
    exact ⟨_,y,uz i y f bc a9 bt,aC,by rw [<- eh i bt.n_]; exact h6⟩
   ·
    rw [k] at h6; cases h6
   ·
    obtain ⟨a0,dZ,cg,cn,bW⟩:=x'.nN a y c k aC h6 aF
    exact ⟨a0,dZ,rG a0 dZ cg,cn,bW⟩
 refine ⟨q',mT,h.aD,rZ,fun e y J O ag=> ?_,fun aF=> ?_,aaG,h.ext.trans ext',Ax,?_,fun i y f J O ag=> ?_,fun a ae=> ?_,fun i y f J O=> ?_,fun i y f J O ag=> ?_⟩
 ·
  rcases Nat.lt_trichotomy e q with k | k | k
  ·
   exact .inr (h.qH e y k O ag)
  ·
   exact .inl k
  ·
   rw [bX e y (by omega) J O] at ag; cases ag
 ·
  obtain ⟨y,cg,cn⟩:=Aw aF
  refine ⟨y,cg,cn,?_⟩
  rintro (k | k)
  ·
   omega
  ·
   exact r.2.1 (p.wK V cg k (p.ord q q' o y (by omega) r.1 cg (.inr ⟨he,cn⟩)))
 ·
  rw [Ax,kC]; exact Nat.le_trans h.r6 (by rw [h.nx]; exact x'.nx)
 ·
  rcases O with rfl | O
  ·
   omega
  ·
   exact Lg i y f J ag.lt O ag
 ·
  exact Lh a fun i y f bc _ a9 bt=>ae i y f bc (.inr a9) bt
 ·
  rw [eh i O.n_]
  exact h.jy i y f (fun k=>J (.inr k)) O
 ·
  have lc:¬done i:=fun k=>O (.inr k)
  rcases Nat.lt_trichotomy i q with k | k | k
  ·
   rw [ld _ fun dd ch gE bc _ _=>by omega]
   have gA:=ag
   obtain ⟨kK,cg,cn,bW,_⟩:=gA
   exact MQ ((p.vF q i o kK r.1 cg he (by omega) (fun a9=>by have:=p.lt _ _ a9; omega) (fun a9=>lc (p.first V r a9)) cn bW).2 k) (h.uT i y f k lc ag)
  ·
   subst k; exact absurd ag (DW y f)
  ·
   exact r3 i y f (by omega) (by omega) ag
end
end Go.az
namespace Go.az
variable {P:Program} {E:Env}
section
variable {call:dQ} {N M:Nat} {ops:Array Oper} {base:Nat} {A:Nat -> an} {fC:Nat -> Nat -> Prop}
variable {done:Nat -> Prop} {s0 s:bb} {H0 Z:aa} {w0 w:World} {q:Nat} {ct:Array Value}
theorem Py (a1:cU E P) (fx:jP P E call) (p:h1 E call N M ops.toList base A fC) (V:js ops.toList done) (bh:jV M N ops.toList A done s ct) (h:hA E M ops.toList base A done s0 H0 w0 s w q Z)
 {j:Nat} {o:Oper} (r:n' ops.toList done j o) {b:Frame} (U:b.mode= .run) (D:List Deferred) (k:List Item) (cs:List Frame) (rest:List Nat):
 ∃s' w' ey q' mT,Steps P (lone (bD b ct D (.inRegion ops (j :: rest) :: k)) cs w) (lone (bD b ey D (.inRegion ops rest :: k)) cs w') /\
  jV M N ops.toList A (pR done j) s' ey /\ hA E M ops.toList base A (pR done j) s0 H0 w0 s' w' q' mT:=by
 obtain ⟨v,Dq,aR⟩:=p.z0 j o r.1
 have aC:ops[j]? =some o:=by rw [<- Array.getElem?_toList]; exact r.1
 have tk:=bh.oU p V r
 have oV:=Od (L:=ops.toList) (M:=M) (T:=(A j).T) (o:=o)
 have mF:∀io,cx M ops.toList (A j).T o=some io -> Region.wanted o (yielded ops ct)=io:=fun io hw=>N2 tk (by rw [MG]; exact hw)
 have H3:cls o.op E≠ .alloc -> ∀x f,¬ep E M ops.toList A j x f:=fun ar x f ⟨o',bc,_,a9,_⟩=>by
  rw [r.1] at bc; cases bc; exact ar a9
 cases Dq with
 | idle hw g2=>
  have cq:=Gp (P:=P) (b:=b) (ct:=ct) (D:=D) (k:=k) (cs:=cs) (w:=w) (rest:=rest) U aC (mF false hw)
  have r5:∀x f,¬ep E M ops.toList A j x f:=fun x f ⟨o',bc,a9,_⟩=>by
   rw [r.1] at bc; cases bc; rw [hw] at a9; cases a9
  by_cases he:fR E o=true
  ·
   have EQ:=h.Jl p V r he
   subst EQ
   obtain ⟨q',mT,aQ⟩:=h.ha p V r he (s':=s) (w':=w) (by rw [g2]; exact h.rel.sub (h.sub p V) h.nx.symm) (by rw [g2]; exact Ext.refl _ _ _)
   exact ⟨s,w,_,q',mT,.one cq,bh.put p V r aR (By s),aQ⟩
  ·
   exact ⟨s,w,_,q,Z,.one cq,bh.put p V r aR (By s),h.pass r.1 he r5 h.rel (Ext.refl _ _ _)⟩
 | pure hw cP ak g2=>
  rw [Nf oV] at ak
  obtain ⟨c,hn,b9⟩:=G_ (P:=P) a1 tk ak cP w
  have eT:=kq.pI (x:=⟨b,D,k,cs,ops,j,rest⟩) ⟨U,aC,mF true hw⟩ b9 (.inl rfl) (fun x R=>by rw [R] at ak; cases ak)
  exact ⟨s,w,_,q,Z,eT,bh.put p V r aR hn,h.pass r.1 (fun k=>by rw [so.1 k] at cP; cases cP) (H3 (by rw [cP]; simp)) h.rel (Ext.refl _ _ _)⟩
 | read hw cP ak g2=>
  have adn:=h.read p V r hw cP ak g2
  have Ay:=GQ (h.sub p V) adn
  rw [Ng oV] at Ay
  obtain ⟨w',c,b9,hn,bi,x'⟩:=Ha a1 h.rel tk Ay
  have eT:=kq.pI (x:=⟨b,D,k,cs,ops,j,rest⟩) ⟨U,aC,mF true hw⟩ b9 (.inl rfl) (fun x R=>by rw [R] at Ay; cases Ay)
  exact ⟨s,w',_,q,Z,eT,bh.put p V r aR hn,h.pass r.1 (fun k=>by rw [so.1 k] at cP; cases cP) (H3 (by rw [cP]; simp)) bi x'⟩
 | @alloc x f hw cP ak zC g2=>
  have gA:ep E M ops.toList A j x f:=⟨o,r.1,hw,cP,ak⟩
  rw [MR oV] at ak
  obtain ⟨ka,sz,obj,cl,c,dE,b9,vd⟩:=GL (P:=P) a1 (w:=w) tk ak
  have eh:=h.jy j x f r.2.1 gA
  have aM:cl.heap=w.heap:=by rcases dE with rfl | rfl <;> rfl
  obtain ⟨hn,xI⟩:=vd s (bb.gi.refl s) (base + j) (eH cl obj) (by rw [<- aM]; exact v8 cl obj) eh
  have eT:=kq.pI (x:=⟨b,D,k,cs,ops,j,rest⟩) ⟨U,aC,mF true hw⟩ b9 (.inl rfl) (fun y aj=>by rw [aj] at ak; cases ak)
  exact ⟨_,_,_,q,_,eT,(bh.mono (pQ eh)).put p V r aR hn,h.alloc p V r gA dE xI⟩
 | ha hw cP ak=>
  have he:fR E o=true:=so.2 cP
  have EQ:=h.Jl p V r he
  subst EQ
  rw [N9 oV] at ak
  have fF:=h.rel.sub (h.sub p V) h.nx.symm
  obtain ⟨s',w',c,eT,hn,bi,x'⟩:=HW a1 fx fF tk (x:=⟨b,D,k,cs,ops,j,rest⟩) ⟨U,aC,mF true hw⟩ ak
  obtain ⟨q',mT,aQ⟩:=h.ha p V r he bi x'
  exact ⟨s',w',_,q',mT,eT,(bh.mono (x'.vG fF)).put p V r aR hn,aQ⟩
def left (cK:Array Bool):Nat -> Nat
 | 0=>0
 | n + 1=>left cK n + (if cK.getD n true then 0 else 1)
theorem IJ (cK:Array Bool):∀n,left cK n≤n
 | 0=>Nat.le_refl _
 | n + 1=>by
  have:=IJ cK n
  unfold left
  split <;> omega
theorem Hc {cK:Array Bool}:∀ {n:Nat},left cK n=0 -> ∀i,i < n -> cK.getD i true=true
 | 0,_,i,h=>by omega
 | n + 1,h,i,ad=>by
  unfold left at h
  by_cases ah:cK.getD n true=true
  ·
   rw [if_pos ah] at h
   by_cases k3:i=n
   ·
    subst k3; exact ah
   ·
    exact Hc (n:=n) (by omega) i (by omega)
  ·
   rw [if_neg ah] at h; omega
theorem Hd {cK:Array Bool} {i:Nat}:∀ {n:Nat},n≤i -> left (cK.setIfInBounds i true) n=left cK n
 | 0,_=>rfl
 | n + 1,h=>by
  unfold left
  rw [Hd (n:=n) (by omega),getD_set_ne true (by omega)]
theorem H4 {cK:Array Bool} {i:Nat} (ad:cK.getD i true=false):∀ {n:Nat},i < n -> left (cK.setIfInBounds i true) n + 1=left cK n
 | 0,h=>by omega
 | n + 1,h=>by
  unfold left
  by_cases k3:i=n
  ·
   subst k3
   have aF:i < cK.size:=by
    rcases Nat.lt_or_ge i cK.size with k | k
    ·
     exact k
    ·
     simp [Array.getElem?_eq_none k] at ad
   have J:(cK.setIfInBounds i true).getD i true=true:=by simp [aF]
   rw [Hd (Nat.le_refl _),if_pos J,if_neg (by rw [ad]; simp)]
  ·
   rw [getD_set_ne true k3]
   have:=H4 ad (n:=n) (by omega)
   omega
theorem Gt (e:Edge):Region.binds .any e=tight e:=by
 unfold Region.binds tight
 cases e.ground <;> rfl
end
end Go.az
namespace Go.az
variable {P:Program} {E:Env}
theorem Ext.aaH {s0 s:bb} {H0 H Z:aa} {w0 w:World} (x:Ext s0 H0 w0 s Z w) (h:Sub H Z) (ar:H.next=Z.next):Ext s0 H0 w0 s H w where
 nx:=by rw [ar]; exact x.nx
 le:=x.le
 size:=x.size
 os:=x.os
 tape:=x.tape
 output:=x.output
 b3:=x.b3
 mG a y c ae aC V aF:=x.mG a y c (h a y ae) aC V aF
 nN a y c ae aC V aF:=x.nN a y c (h a y ae) aC V aF
 loops:=x.loops
def j9 (cK:Array Bool):Nat -> Prop:=fun i=>cK.getD i false=true
theorem Jm {cK:Array Bool} {j:Nat} (ax:j < cK.size):pR (j9 cK) j=j9 (cK.setIfInBounds j true):=by
 funext i
 apply propext
 unfold pR j9
 by_cases ad:i=j
 ·
  subst ad; simp [ax]
 ·
  simp [ad,Array.getElem?_setIfInBounds_ne (Ne.symm ad)]
theorem Cz {cK:Array Bool} {i:Nat} (h:i < cK.size):cK.getD i true=cK.getD i false:=by simp [h]
section
variable {call:dQ} {N M:Nat} {ops:Array Oper} {base:Nat} {A:Nat -> an} {fC:Nat -> Nat -> Prop}
variable {s0:bb} {H0:aa} {w0:World}
theorem Pz (a1:cU E P) (fx:jP P E call) (p:h1 E call N M ops.toList base A fC) {b:Frame} (U:b.mode= .run) (D:List Deferred) (k:List Item) (cs:List Frame):
 ∀(fuel t:Nat) (cK:Array Bool) (s:bb) (w:World) (ct:Array Value) (q:Nat) (Z:aa),cK.size=ops.size -> js ops.toList (j9 cK) -> jV M N ops.toList A (j9 cK) s ct -> hA E M ops.toList base A (j9 cK) s0 H0 w0 s w q Z ->
  left cK ops.size≤fuel ->
  ∃s' w' ey,Steps P (lone (bD b ct D (.inRegion ops (Region.linearise.go .any ops fuel t cK []) :: k)) cs w) (lone (bD b ey D k) cs w') /\ bM E s' (A ops.toList.length).H w' /\ Ext s0 H0 w0 s' (A ops.toList.length).H w' /\
   dD s' M (A ops.toList.length).T ey /\ ey.size=N:=by
 have iz:∀(cK:Array Bool) (s:bb) (w:World) (ct:Array Value) (q:Nat) (Z:aa),cK.size=ops.size -> js ops.toList (j9 cK) -> jV M N ops.toList A (j9 cK) s ct -> hA E M ops.toList base A (j9 cK) s0 H0 w0 s w q Z ->
  left cK ops.size=0 -> ∃s' w' ey,Steps P (lone (bD b ct D (.inRegion ops [] :: k)) cs w) (lone (bD b ey D k) cs w') /\ bM E s' (A ops.toList.length).H w' /\ Ext s0 H0 w0 s' (A ops.toList.length).H w' /\
   dD s' M (A ops.toList.length).T ey /\ ey.size=N:=by
  intro cK s w ct q Z bm V bh h aD
  have kt:∀i,i < ops.toList.length -> j9 cK i:=fun i ad=>by
   have b5:i < ops.size:=by simpa using ad
   have:=Hc aD i b5
   rw [Cz (by omega)] at this
   exact this
  have aB:q=ops.toList.length:=by
   rcases Nat.lt_or_ge q ops.toList.length with k | k
   ·
    obtain ⟨_,_,_,ar⟩:=h.qI k
    exact absurd (kt q k) ar
   ·
    have:=h.yl; omega
  subst aB
  have rG:=h.sub p V
  exact ⟨s,w,ct,.one (F8 U),h.rel.sub rG h.nx.symm,h.ext.aaH rG h.nx.symm,bh.all p kt,bh.size⟩
 intro fuel
 induction fuel with
 | zero=>
  intro t cK s w ct q Z bm V bh h ah
  exact iz cK s w ct q Z bm V bh h (by omega)
 | succ fuel aH=>
  intro t cK s w ct q Z bm V bh h ah
  simp only [Region.linearise.go]
  change ∃s' w' ey,Steps P (lone (bD b ct D (.inRegion ops (match (Region.ready .any ops cK)[t % (Region.ready .any ops cK).length]? with
   | some i=>Region.linearise.go .any ops fuel (t / (Region.ready .any ops cK).length) (cK.setIfInBounds i true) [i]
   | none=> [].reverse) :: k)) cs w) _ /\ _
  cases ad:(Region.ready .any ops cK)[t % (Region.ready .any ops cK).length]? with
  | none=>
   have DO:Region.ready .any ops cK= []:=by
    cases af:Region.ready .any ops cK with
    | nil=>rfl
    | cons x xs=>
     rw [af] at ad
     have aF:t % (x :: xs).length < (x :: xs).length:=Nat.mod_lt _ (by simp)
     simp at ad
     simp at aF
     omega
   refine iz cK s w ct q Z bm V bh h ?_
   have kt:∀i,i < ops.size -> cK.getD i true=true:=by
    intro i
    induction i using Nat.strongRecOn with
    | _ i rB=>
     intro aF
     cases a4:cK.getD i true with
     | true=>rfl
     | false=>
      have kY:i∈Region.ready .any ops cK:=by
       rw [mem_ready]
       refine ⟨a4,ops[i],Array.getElem?_eq_getElem aF,fun e he lM=> ?_⟩
       rw [Gt] at lM
       have d7:=p.uS i ops[i] e (by rw [Array.getElem?_toList]; exact Array.getElem?_eq_getElem aF) (Array.mem_toList_iff.2 he) lM
       have:=rB e.on d7 (by omega)
       rw [Cz (by omega)] at this
       exact this
      rw [DO] at kY; cases kY
   have ai:∀n,n≤ops.size -> left cK n=0:=by
    intro n
    induction n with
    | zero=>intro _; rfl
    | succ n ado=>
     intro ar
     unfold left
     rw [ado (by omega),if_pos (kt n (by omega))]
   exact ai _ (Nat.le_refl _)
  | some i=>
   simp only []
   rw [linearise_go_acc,List.reverse_singleton,List.singleton_append]
   obtain ⟨ER,o,aC,Az⟩:=mem_ready.1 (List.mem_of_getElem? ad)
   have aF:i < ops.size:=(Array.getElem?_eq_some_iff.1 aC).1
   have af:n' ops.toList (j9 cK) i o:=by
    refine ⟨by rw [Array.getElem?_toList]; exact aC,fun aw=> ?_,fun e he nk=>Az e (Array.mem_toList_iff.1 he) (by rw [Gt]; exact nk)⟩
    rw [Cz (by omega)] at ER
    unfold j9 at aw
    rw [ER] at aw; cases aw
   obtain ⟨s1,cl,fa,hq,aeZ,cq,Li,J⟩:=Py a1 fx p V bh h af U D k cs (Region.linearise.go .any ops fuel (t / (Region.ready .any ops cK).length) (cK.setIfInBounds i true) [])
   rw [Jm (by omega)] at Li J
   have dS:=V.and af
   rw [Jm (by omega)] at dS
   have aff:=H4 ER (n:=ops.size) aF
   obtain ⟨s2,e8,nh,p9,ck,dL,fK,pC⟩:=aH (t / (Region.ready .any ops cK).length) (cK.setIfInBounds i true) s1 cl fa hq aeZ (by simpa using bm) dS Li J (by omega)
   exact ⟨s2,e8,nh,Steps.trans cq p9,ck,dL,fK,pC⟩
end
end Go.az
namespace Go.az
variable {P:Program} {E:Env}
theorem Tr {call:dQ} {N M:Nat} {L:List Oper} {S:an} {a_:List an} (h_:j2 E L=true) (bh:trace E call N M L L S.H.next ⟨S.T,⟨S.H.m,S.H.next + iw E L,S.H.log⟩⟩=some a_) (hr:qj E M L S.H.next a_=true):
 h1 E call N M L S.H.next (fun j=>(a_[j]?).getD S) (fun i j=>jv (hk L []) j i=true) /\ (a_[0]?).getD S=⟨S.T,⟨S.H.m,S.H.next + iw E L,S.H.log⟩⟩ /\ g9 a_ S=(a_[L.length]?).getD S:=by
 obtain ⟨hlen,ai,⟨z,oa,j3⟩,hw⟩:=HY L _ _ a_ S bh
 have Lj:=fun j y (aj:L[j]? =some y)=>wi (show allI _ 0 L=true from h_) j y aj
 have uS:∀j o e,L[j]? =some o -> e∈o.after.toList -> tight e=true -> e.on < j:=by
  intro j o e aC he nk
  obtain ⟨J,_⟩:=ft (Lj j o aC)
  obtain ⟨J,_⟩:=ft J
  have O:=List.all_eq_true.1 J e he
  unfold G7 at O
  rw [nk] at O
  have:=(cZ _ _).1 O
  omega
 have tl:∀i j o,L[j]? =some o -> jv (hk L []) j i=true -> ∃e,e∈o.after.toList /\ tight e=true /\ (i=e.on∨jv (hk L []) e.on i=true):=by
  intro i j o aC U
  have J:=HX L [] j o aC
  simp only [List.length_nil,Nat.zero_add] at J
  unfold jv at U
  rw [J] at U
  obtain ⟨e,he,nk,k5⟩:=Bg U
  refine ⟨e,he,nk,k5.imp id fun k=> ?_⟩
  have aF:=uS j o e aC he nk
  unfold jv
  rw [List.getElem?_take,if_pos aF] at k
  exact k
 have Lk:∀i j,jv (hk L []) j i=true -> j < L.length:=by
  intro i j U
  rcases Nat.lt_or_ge j L.length with k | k
  ·
   exact k
  ·
   obtain ⟨r,J,O⟩:=B4 L []
   have:(hk L []).length=L.length:=by rw [J]; simpa using O
   unfold jv at U
   rw [List.getElem?_eq_none (by omega)] at U
   simp at U
 refine ⟨⟨?_,uS,?_,?_,?_,?_,?_⟩,by rw [ai]; rfl,by rw [oa,j3]; rfl⟩
 ·
  intro j o aC
  obtain ⟨A,B,v,ae,U,J,O⟩:=hw j o aC
  refine ⟨v,?_,?_⟩
  ·
   show nO E call M L _ o ((a_[j]?).getD S) ((a_[j + 1]?).getD S) v
   rw [ae,U]; exact J
  ·
   show ev N M ((a_[j]?).getD S).T o.dst v=some ((a_[j + 1]?).getD S).T
   rw [ae,U]; exact O
 ·
  intro done cP j
  induction j using Nat.strongRecOn with
  | _ j aH=>
   intro o aC Az i U
   obtain ⟨e,he,nk,k5⟩:=tl i j o aC U
   rcases k5 with rfl | k5
   ·
    exact Az e he nk
   ·
    have aF:=uS j o e aC he nk
    have mu:=Lk i e.on k5
    exact aH e.on aF L[e.on] (List.getElem?_eq_getElem mu) (fun fG u_ adp=>cP e.on _ fG (Az e he nk) (List.getElem?_eq_getElem mu) u_ adp) i k5
 ·
  intro i j
  induction j using Nat.strongRecOn with
  | _ j aH=>
   intro U
   have aF:=Lk i j U
   have aC:L[j]? =some L[j]:=List.getElem?_eq_getElem aF
   obtain ⟨e,he,nk,k5⟩:=tl i j _ aC U
   have j5:=uS j _ e aC he nk
   rcases k5 with rfl | k5
   ·
    exact j5
   ·
    exact Nat.lt_trans (aH e.on j5 k5) j5
 ·
  intro i j x y cL R aj k5
  obtain ⟨_,J⟩:=ft (Lj j y aj)
  have O:=wi J i x R
  simp only [Nat.zero_add] at O
  have U:Nat.blt i j=true:=(cZ _ _).2 cL
  rw [U] at O
  have cP:(p0 L x y || (fR E x && fR E y))=true:=by
   rcases k5 with k | ⟨bc,a9⟩
   ·
    rw [k]; rfl
   ·
    rw [bc,a9]; simp
  rw [cP] at O
  exact O
 all_goals
  intro e j x y R aj hex bX Es Ah nj cP
  have J:=wi (show allI _ 0 L=true from hr) e x R
  simp only [Nat.zero_add] at J
  rw [hex] at J
  have O:=wi J j y aj
  simp only [Nat.zero_add] at O
  have U:(Nat.beq e j || (jv (hk L []) j e || jv (hk L []) e j))=false:=by
   have bI:Nat.beq e j=false:=by
    cases j0:Nat.beq e j with
    | false=>rfl
    | true=>exact absurd (Nat.eq_of_beq_eq_true j0) bX
   have bN:jv (hk L []) j e=false:=by simpa using Es
   have dG:jv (hk L []) e j=false:=by simpa using Ah
   rw [bI,bN,dG]; rfl
  rw [U] at O
  obtain ⟨ae0,agk,agl,ae,_,_,_⟩:=hw j y aj
  obtain ⟨ae1,agm,agn,An,td,_,_⟩:=hw e x R
  have O:=show zm E M L S.H.next a_ e j y=true from O
  unfold zm at O
  rw [cP,ae,An,td] at O
  simp only at O nj
  rw [ae] at nj
  have nj:cx M L ae0.T y=some true:=nj
  rw [nj] at O
  simp only [ae,An,td,Option.getD_some]
  simp only at O
  refine ⟨fun k=> ?_,fun k=> ?_⟩
 ·
  have:Nat.blt e j=true:=(cZ _ _).2 k
  rw [this] at O; exact O
 ·
  have:Nat.blt e j=false:=by
   cases j0:Nat.blt e j with
   | false=>rfl
   | true=>have:=(cZ _ _).1 j0; omega
  rw [this] at O; exact O
 ·
  have:Nat.blt j e=false:=by
   cases j0:Nat.blt j e with
   | false=>rfl
   | true=>have:=(cZ _ _).1 j0; omega
  rw [this] at O
  simp only at O
  cases a4:ae1.H.m.get (S.H.next + j) with
  | none=>rfl
  | some u=>rw [a4] at O; cases O
 ·
  have:Nat.blt j e=true:=(cZ _ _).2 k
  rw [this] at O; exact O
end Go.az
namespace Go.az
variable {P:Program} {E:Env}
theorem CA (a1:km E P):II P E:=by
 intro call fx N M id ops b D k cs s S b' w ct U r ba b4 h
 unfold sF at h
 cases h_:j2 E ops.toList with
 | false=>rw [h_] at h; cases h
 | true=>
  rw [h_] at h
  obtain ⟨a_,bh,h⟩:=aO h
  cases hr:qj E M ops.toList S.H.next a_ with
  | false=>simp only [hr] at h; cases h
  | true=>
   simp only [hr] at h
   cases h
   obtain ⟨p,ai,ah⟩:=Tr (N:=N) h_ bh hr
   obtain ⟨t,cq⟩:=Tk (P:=P) (b:=b) (ct:=ct) (D:=D) (k:=k) (cs:=cs) (w:=w) U a1.mixed (id:=id) (ops:=ops)
   obtain ⟨q,_,rZ,Aw,adq⟩:=Cy E ops.toList ops.toList.length 0 (by omega)
   have vj:∀i,¬j9 (Array.replicate ops.size false) i:=by
    intro i ad
    unfold j9 at ad
    by_cases aF:i < ops.size <;> simp [aF] at ad
   have cP:js ops.toList (j9 (Array.replicate ops.size false)):=fun j o e ax=>absurd ax (vj j)
   have Ll:(a_[0]?).getD S=⟨S.T,⟨S.H.m,S.H.next + iw E ops.toList,S.H.log⟩⟩:=ai
   have qk:jV M N ops.toList (fun j=>(a_[j]?).getD S) (j9 (Array.replicate ops.size false)) s ct:=by
    refine ⟨b4,fun t i o _ O=>absurd O (vj i),fun t _ v ak=> ?_⟩
    rw [Ll] at ak
    exact ba t v ak
   obtain ⟨kC,r3,ld,Lm⟩:=p.still 0 q (by omega) (fun e x bc a9=>Aw e x bc (by omega))
   rw [Nat.zero_add] at kC r3 ld Lm
   rw [Ll] at kC ld Lm
   have zD:∀i,S.H.m.get (S.H.next + i)=none:=fun i=>(r.fr (S.H.next + i) (by omega)).2
   have eh:∀i,s.cw (S.H.next + i)=none:=fun i=>(r.fr (S.H.next + i) (by omega)).1
   have mC:∀a,S.H.next + iw E ops.toList≤a -> s.cw a=none /\ S.H.m.get a=none:=fun a ae=>r.fr a (by omega)
   have w3:∀a y,((a_[q]?).getD S).H.m.get a=some y -> (∃i,a=S.H.next + i /\ i < iw E ops.toList)∨S.H.m.get a=some y:=by
    intro a y aj
    by_cases J:∃i x f,0≤i /\ i < q /\ ep E M ops.toList (fun j=>(a_[j]?).getD S) i x f /\ a=S.H.next + i
    ·
     obtain ⟨i,x,f,_,bc,a9,bt⟩:=J
     exact .inl ⟨i,bt,by rw [a9.room]; omega⟩
    ·
     refine .inr ?_
     have:=ld a fun i x f bc a9 bt gC=>J ⟨i,x,f,bc,a9,bt,gC⟩
     rw [<- aj]; exact this.symm
   have aaI:bM E s ((a_[q]?).getD S).H (jR w):=by
    have fF:=r.congr (w':=jR w) rfl
    refine ⟨fun a y c ae V=> ?_,fun a y cF ch c ae aC cT h5 V b7=> ?_,fF.lt,fun a ae=> ?_⟩
    ·
     rcases w3 a y ae with ⟨i,rfl,_⟩ | bc
     ·
      rw [eh i] at V; cases V
     ·
      exact fF.dr a y c bc V
    ·
     rcases w3 a y ae with ⟨i,rfl,_⟩ | bc
     ·
      rw [eh i] at V; cases V
     ·
      rcases w3 cF ch cT with ⟨i,rfl,_⟩ | a9
      ·
       rw [eh i] at b7; cases b7
      ·
       exact fF.inj a y cF ch c bc aC a9 h5 V b7
    ·
     have cT:S.H.next + iw E ops.toList≤a:=by rw [kC] at ae; exact ae
     refine ⟨(mC a cT).1,?_⟩
     cases a4:((a_[q]?).getD S).H.m.get a with
     | none=>rfl
     | some y=>
      rcases w3 a y a4 with ⟨i,bc,a9⟩ | bc
      ·
       omega
      ·
       rw [(mC a cT).2] at bc; cases bc
   have z1:Ext s S.H w s ((a_[q]?).getD S).H (jR w):=by
    refine ⟨by rw [kC]; exact Nat.le_add_right _ _,fun _ _=>⟨rfl,rfl,rfl⟩,Nat.le_refl _,rfl,rfl,rfl,fun _ _ _=>rfl,fun a y c ae aC V _=> ?_,fun a y c ae aC V _=> ?_,fun _ q' e4=>⟨q',e4⟩⟩
    all_goals
     rcases w3 a y ae with ⟨i,rfl,_⟩ | bc
     ·
      rw [eh i] at V; cases V
     ·
      exact ⟨a,y,bc,aC,V⟩
   have aM:hA E M ops.toList S.H.next (fun j=>(a_[j]?).getD S) (j9 (Array.replicate ops.size false)) s S.H w s (jR w) q ((a_[q]?).getD S).H:=by
    refine ⟨Nat.le_refl _,rZ,fun e x bc a9 bt=> ?_,fun aF=> ?_,aaI,z1,rfl,by rw [kC]; exact Nat.le_refl _,fun i x f _ a9=>absurd a9 (vj i),fun a _=>rfl,fun i x f _ _=>eh i,fun i x f bc _ bt=>r3 i x f (Nat.zero_le _) bc bt⟩
    ·
     rw [Aw e x (Nat.zero_le _) bc a9] at bt; cases bt
    ·
     obtain ⟨x,bc,a9⟩:=adq aF
     exact ⟨x,bc,a9,vj q⟩
   obtain ⟨s',w',ey,wI,bi,x',T',ae2⟩:=Pz a1.types fx p U D k cs ops.size t (Array.replicate ops.size false) s (jR w) ct q _ (by simp) cP qk aM (IJ _ _)
   refine ⟨s',w',ey,.head cq wI,?_,?_,?_,ae2⟩
   ·
    rw [ah]; exact bi
   ·
    rw [ah]; exact x'
   ·
    rw [ah]; exact T'
theorem zE (a1:km E P) (k:Nat):jP P E (app E k):=C1 a1 (CA a1) k
end Go.az
