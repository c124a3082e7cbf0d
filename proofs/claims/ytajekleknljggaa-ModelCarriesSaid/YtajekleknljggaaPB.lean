/-
  Streams read strictly: what the program computes. No conditions.
-/
import Derived.Test.YtajekleknljggaaPA
set_option linter.unusedVariables false
set_option linter.unusedSimpArgs false
namespace Go.az
open Go.Proofs
noncomputable section
set_option maxRecDepth 100000
def nU (x:Bool) (n:Nat):dm:=if x then .ex n else .rest 0 1 n
theorem QM {n i:Nat} (h:i≤n):bF n n (some (.int .i64 (i:Int))) none none=some (i,n,n):=by
 show (some n).ac (fun h=>(ap (Nat.ble i h) (some i) none).omap fun l'=>(l',h,n))=_
 show (ap (Nat.ble i n) (some i) none).omap (fun l'=>(l',n,n))=_
 rw [de.2 h]; rfl
theorem QN {n i:Nat} (h:i≤n):bF n n none (some (.int .i64 (i:Int))) none=some (0,i,n):=by
 show (ap (Nat.ble i n) (some i) none).ac (fun h=>(some 0).omap fun l'=>(l',h,n))=_
 rw [de.2 h]; rfl
theorem NC {n a c:Nat} (J:a≤c) (O:c≤n):bF n n (some (.int .i64 (a:Int))) (some (.int .i64 (c:Int))) none=some (a,c,n):=by
 show (ap (Nat.ble c n) (some c) none).ac (fun h=>(ap (Nat.ble a h) (some a) none).omap fun l'=>(l',h,n))=_
 rw [de.2 O]
 show (ap (Nat.ble a c) (some a) none).omap (fun l'=>(l',c,n))=_
 rw [de.2 J]; rfl
theorem SM {b n a c:Nat} {x:Bool} (J:a < c) (O:c≤n):∃k,dp (.slice 5) aq (.slice b 0 n (nU x n)) (some (.int .i64 (a:Int))) (some (.int .i64 (c:Int))) none=some (.slice b a (c - a) k) /\ lE k 1 /\ rr k (c - a):=by
 have e:=NC (Nat.le_of_lt J) O
 cases x with
 | true=>
  refine ⟨.ex (n - a),?_,trivial,by show c - a≤n - a; omega⟩
  show (bF n n (some (.int .i64 (a:Int))) (some (.int .i64 (c:Int))) none).omap (fun r=>I.slice b (addrAt r.2.2 r.1 0 (au aq 5)) (Nat.sub r.2.1 r.1) (.ex (Nat.sub r.2.2 r.1)))=_
  rw [e]
  show some (I.slice b (addrAt n a 0 (au aq 5)) (c - a) (.ex (n - a)))=_
  unfold addrAt
  rw [lF (by omega),e2]
  show some (I.slice b (0 + a * 1) _ _)=_
  rw [Nat.zero_add,Nat.mul_one]
 | false=>
  refine ⟨.rest a 1 (n - a),?_,rfl,by show c - a≤n - a; omega⟩
  show ap (Nat.beq 1 (au aq 5)) ((bF n n (some (.int .i64 (a:Int))) (some (.int .i64 (c:Int))) none).ac fun r=>_) none=_
  rw [e2,e]
  show ap (Nat.blt a n || Nat.beq a 0) (some (I.slice b (0 + a * 1) (c - a) (.rest (0 + a) 1 (n - a)))) _=_
  rw [(cZ _ _).2 (by omega),Nat.zero_add,Nat.mul_one,Nat.zero_add]; rfl
theorem QO {H:aa} {b a:Nat} {k:dm} {x:Bool} {w l:List UInt8} {K:I -> aa -> Prop} (U:H.m.get b=some (.cells (w.map aI) 5 x true)) (ah:l=(w.drop a).take l.length) (hw:w.length < 9223372036854775807) (gA:a + l.length≤w.length) (u0:lE k 1) (ef:rr k l.length)
 (ab:K (.int .u64 (ei l)) H):Call (.func 72 [] []) [.slice b a l.length k] H K:=by
 refine fi.read (v:= .int .u64 (ei l)) rfl (Cj (l:=l) (H:=mw) (K:=fun cc _=>cc= .int .u64 (ei l)) (by omega) rfl) (fun σ H1 fD r ak=> ?_) ab
 obtain ⟨y,bi,J,O,rfl⟩:=av.cons.1 ak
 rw [av.nil] at O
 subst O
 have hm:(l.map aI).length=l.length:=List.length_map _
 have:=zk (sz:=1) (l:=l.map aI) (o:=a) (b:=b) (k:=k) r (by rw [hm]; exact J) (by
  rw [hm,Nat.mul_one,(a2 U).2.2.1,eY]
  by_cases aD:l.length=0
  ·
   rw [aD]
   rw [List.eq_nil_of_length_eq_zero aD]; rfl
  ·
   rw [lF aD]
   show cG l.length (co a (w.map aI))=_
   rw [dz,fL,if_pos (by rw [List.length_drop,List.length_map]; omega),<- List.map_drop,<- List.map_take,<- ah]) (kb fun _=>rfl) (fun z ai=>by obtain ⟨c,_,rfl⟩:=List.mem_map.1 ai; rfl) (by decide) u0 (fun _=>by rw [hm]; exact ef)
 exact av.one this
def j6 (H:aa) (dv:I) (w:List UInt8):Prop:=dv= .aJ 1 (w.map aI)∨∃b x,dv= .slice b 0 w.length (nU x w.length) /\ H.m.get b=some (.cells (w.map aI) 5 x true) /\ b < H.next
section
variable {H:aa} {dv:I} {w:List UInt8}
theorem j6.b3 (h:j6 H dv w) {H':aa} (ao:Fr H H'):j6 H' dv w:=by
 refine h.imp id ?_
 rintro ⟨b,x,J,O,ag⟩
 exact ⟨b,x,J,(ao.get b ag).trans O,Nat.lt_of_lt_of_le ag ao.nx⟩
theorem j6.one (h:j6 H dv w):b2 dv=true:=by
 rcases h with rfl | ⟨b,x,rfl,_⟩ <;> rfl
theorem j6.len (h:j6 H dv w) {ty:TypeId}:hh (.slice ty) aq dv=some (.int .i64 (w.length:Int)):=by
 rcases h with rfl | ⟨b,x,rfl,_⟩
 ·
  rw [CN,List.length_map]
 ·
  rfl
theorem j6.cut (h:j6 H dv w) {a c:Nat} (J:a < c) (O:c≤w.length) (hw:w.length < 9223372036854775807):∃aA,dp (.slice 5) aq dv (some (.int .i64 (a:Int))) (some (.int .i64 (c:Int))) none=some aA /\ ∀K:I -> aa -> Prop,K (.int .u64 (ei ((w.take c).drop a))) H -> Call (.func 72 [] []) [aA] H K:=by
 have ah:((w.take c).drop a).length=c - a:=by rw [List.length_drop,List.length_take]; omega
 rcases h with rfl | ⟨b,x,rfl,U,_⟩
 ·
  refine ⟨.aJ 1 (((w.take c).drop a).map aI),by rw [wR a c (by rw [List.length_map]; omega) (Nat.le_of_lt J) e2.symm,List.map_drop,List.map_take],fun K ab=>Cj (by omega) ab⟩
 ·
  obtain ⟨k,e,bc,a9⟩:=SM (b:=b) (x:=x) J O
  refine ⟨_,e,fun K ab=> ?_⟩
  have:=QO (l:=(w.take c).drop a) (k:=k) U (by rw [ah,List.drop_take]) hw (by omega) bc (by rw [ah]; exact a9) ab
  rw [ah] at this
  exact this
theorem j6.clone (h:j6 H dv w) (hw:w.length≤140737488351232) {K:I -> aa -> Prop} (ab:K (.aJ 1 (w.map aI)) H):Call (.func 23 [] []) [dv] H K:=by
 rcases h with rfl | ⟨b,x,rfl,U,aF⟩
 ·
  exact SJ hw ab
 ·
  refine fi.out fun bC=> ?_
  have hm:(w.map aI).length=w.length:=List.length_map _
  have:=Gv (H:=H) (b:=b) (o:=0) (k:=nU x w.length) (l:=w.map aI) (K:=ji H K) (by rw [hm]; exact hw) (fun z ai=>by obtain ⟨c,_,rfl⟩:=List.mem_map.1 ai; rfl) (jl w) (by
   rw [hm,Nat.mul_one,(a2 U).2.2.1,eY]
   by_cases aD:w.length=0
   ·
    rw [aD,List.eq_nil_of_length_eq_zero aD]; rfl
   ·
    rw [lF aD]
    show cG w.length (co 0 (w.map aI))=_
    rw [dz,fL,List.drop_zero,if_pos (by rw [hm]; exact Nat.le_refl _),List.take_of_length_le (by rw [hm]; exact Nat.le_refl _)]) aF (fun v H' ae=>ae.q3 bC (kb fun _=>rfl) ab)
  rw [hm] at this
  exact this
end
structure rM (dv:I) (H:aa) (iQ rd:Nat) (w:List UInt8) (p:Nat) (bg eB id:Int) (rv:I):Prop where
 r:H.m.get iQ=some (.cells [.ptr rd 0,dv,.int .i64 bg,.int .i64 eB,.int .i64 id,rv] 101 true true)
 d:H.m.get rd=some (.cells [.aJ 1 ((w.drop p).map aI)] 120 true true)
 ne:iQ≠rd
 ys:iQ < H.next
 yt:rd < H.next
def Fg (H:aa) (rd:Nat) (w:List UInt8) (p:Nat):aa:=aN H rd (.cells [.aJ 1 ((w.drop p).map aI)] 120 true true)
theorem rM.move {dv:I} {H:aa} {iQ rd:Nat} {w:List UInt8} {p:Nat} {bg eB id:Int} {rv:I} (h:rM dv H iQ rd w p bg eB id rv) (eV:Nat):rM dv (Fg H rd w eV) iQ rd w eV bg eB id rv:=
 ⟨(cY h.ne).trans h.r,gj,h.ne,h.ys,h.yt⟩
theorem Hu {l:List UInt8} (h:l.length≤4):er l < 4294967296:=Nat.lt_of_lt_of_le (wp l) (Nat.pow_le_pow_right (by decide) h)
def bx (w:List UInt8) (p n:Nat):Nat:=er ((w.drop p).take n)
theorem q8 {w:List UInt8} {p n:Nat} (h:n≤4):bx w p n < 4294967296:=Hu (by rw [List.length_take]; omega)
end
end Go.az
namespace Go.az
open Go.Proofs
noncomputable section
set_option maxRecDepth 100000
theorem SN (l:List UInt8):gG (l.map aI)=some l:=by
 induction l with
 | nil=>rfl
 | cons c l aH=>
  have V:UInt8.ofNat c.toNat=c:=by simp
  show (ap (jO .u8 .u8) ((i_ (c.toNat:Int)).ac fun n=>(gG (l.map aI)).omap (UInt8.ofNat n :: ·)) none)=_
  rw [aH,y4]
  show some (UInt8.ofNat c.toNat :: l)=_
  rw [V]
theorem UW {H:aa} {l:List UInt8}:strOf H (.aJ 1 (l.map aI))=some (.str l):=by
 show (gG (a3 (l.map aI))).omap I.str=_
 rw [eY,SN]; rfl
attribute [go_sem] UW
def cD (w:List UInt8):Int:=bx w 4 2
def dc (w:List UInt8):Int:=(bx w 6 4:Int) - 1
def dJ (w:List UInt8):Int:=bx w 10 4
def b4 (w:List UInt8):Int:=bx w 14 2
def iv (w:List UInt8):Int:=
 if w.length < 4 then 21 else if w.take 4≠ [82,86,83,49] then 20 else if w.length < 24 then 21 else if ei (w.take 16)≠bx w 16 8 then 22 else if cD w < 1∨64 < cD w then 23 else
 if dJ w < 1∨1000000 < dJ w∨(dc w≠ -1 /\ (dc w < 1∨dJ w≤dc w)) then 25 else 0
theorem rM.h9 {dv:I} {H:aa} {iQ rd:Nat} {w:List UInt8} {p:Nat} {bg eB id:Int} {rv:I} (h:rM dv H iQ rd w p bg eB id rv) (lY sl:bf):rM dv (aN (aS H lY).2 H.next sl) iQ rd w p bg eB id rv:=
 ⟨(cY (Nat.ne_of_lt h.ys)).trans ((hK (Nat.ne_of_lt h.ys)).trans h.r),(cY (Nat.ne_of_lt h.yt)).trans ((hK (Nat.ne_of_lt h.yt)).trans h.d),h.ne,Nat.lt_succ_of_lt h.ys,Nat.lt_succ_of_lt h.yt⟩
theorem rM.frame {kN H:aa} {rd:Nat} {w:List UInt8} {p:Nat} (ao:Fr kN H) (O:kN.next≤rd):Fr kN (Fg H rd w p):=ao.set O _
end
end Go.az
namespace Go.az
open Go.Proofs
noncomputable section
set_option maxRecDepth 100000
def YR (r:Rec):I:= .agg [.int .i64 r.fr,.int .i64 r.aX,.bool r.zs,bif r.zs then .aE else .aJ 1 (r.data.map aI)]
def Kv (s:cS):Prop:=∀r∈s.aV,r.zs=true -> r.data= []
structure p2 (dv:I) (kN H:aa) (iQ rd:Nat) (w:List UInt8) (p:Nat) (s:cS) (rv:I):Prop where
 at_:rM dv H iQ rd w p s.blocks s.base s.id rv
 acc:Acc aq kN H 68 4 rv (s.aV.map YR)
 J:kN.next≤iQ
 O:kN.next≤rd
section
variable {dv:I} {kN H:aa} {iQ rd p:Nat} {w:List UInt8} {s:cS} {rv:I}
theorem p2.move (h:p2 dv kN H iQ rd w p s rv) (eV:Nat):p2 dv kN (Fg H rd w eV) iQ rd w eV s rv:=⟨h.at_.move eV,h.acc.other h.at_.d rfl h.O,h.J,h.O⟩
theorem p2.h9 (h:p2 dv kN H iQ rd w p s rv) (lY sl:bf):p2 dv kN (aN (aS H lY).2 H.next sl) iQ rd w p s rv:=⟨h.at_.h9 lY sl,h.acc.b3 ((Fr.alloc _ _).set (Nat.le_refl _) _),h.J,h.O⟩
theorem p2.set (h:p2 dv kN H iQ rd w p s rv) {c:Nat} (J:c≠iQ) (O:c≠rd) (ag:rv= .aE∨c≠aY rv) (aP:kN.next≤c) (z:bf):p2 dv kN (aN H c z) iQ rd w p s rv:=
 ⟨⟨(cY J.symm).trans h.at_.r,(cY O.symm).trans h.at_.d,h.at_.ne,h.at_.ys,h.at_.yt⟩,h.acc.Jw ag aP,h.J,h.O⟩
end
def jp (w:List UInt8) (p:Nat):Nat:=if bx w p 1=1 then bx w (p + 3) 2 * 64 else 0
def recAt (w:List UInt8) (p:Nat):Rec:=⟨bx w (p + 1) 2,bx w (p + 3) 2,decide (bx w p 1=2),(w.drop (p + 5)).take (jp w p)⟩
def cS.snoc (s:cS) (r:Rec):cS:= { s with aV:=s.aV ++ [r]}
def fw (w:List UInt8) (p:Nat) (s:cS):Int:=
 if w.length < p + 5 then 21 else if bx w p 1≠1 /\ bx w p 1≠2 then 11 else
 if bx w (p + 3) 2 < 1∨s.blocks≤bx w (p + 1) 2∨s.blocks - bx w (p + 1) 2 < bx w (p + 3) 2 then 25 else
 if w.length < p + 5 + jp w p + 8 then 21 else if ei ((w.take (p + 5 + jp w p)).drop p)≠bx w (p + 5 + jp w p) 8 then 22 else
 if fS (s.snoc (recAt w p))=false then 26 else 0
end
end Go.az
namespace Go.az
open Go.Proofs
noncomputable section
set_option maxRecDepth 100000
def lA (w:List UInt8) (p:Nat):Int:=
 if w.length < p + 9 then 21 else if bx w p 1≠69 then 11 else if ei (w.take p)≠bx w (p + 1) 8 then 22 else if p + 9 < w.length then 2 else 0
def lv (w:List UInt8):Nat -> Nat -> cS -> Int × Nat × cS
 | 0,p,s=>(0,p,s)
 | k + 1,p,s=>if fw w p s=0 then lv w k (p + 5 + jp w p + 8) (s.snoc (recAt w p)) else (fw w p s,p,s)
def ru:cS:=⟨0,0,0,[]⟩
def l_ (w:List UInt8):cS:=⟨cD w,dc w,dJ w,[]⟩
def eq (w:List UInt8):Int × cS:=
 if iv w≠0 then (iv w,ru) else
 let r:=lv w (bx w 14 2) 24 (l_ w)
 if r.1≠0 then (r.1,ru) else if lA w r.2.1≠0 then (lA w r.2.1,ru) else (0,r.2.2)
structure sT (w:List UInt8) (p:Nat) (s:cS) (i:Nat):Prop where
 p:p≤w.length
 b:0≤s.blocks /\ s.blocks≤64
 n:s.aV.length=i
 d:∀r∈s.aV,r.data.length≤100000 /\ ia r.fr /\ ia r.aX
 z:Kv s
theorem sT.next {w:List UInt8} {p i:Nat} {s:cS} (h:sT w p s i) (hw:w.length≤140737488351232) (he:fw w p s=0):sT w (p + 5 + jp w p + 8) (s.snoc (recAt w p)) (i + 1):=by
 unfold fw at he
 split at he
 ·
  cases he
 split at he
 ·
  cases he
 rename_i aB
 split at he
 ·
  cases he
 split at he
 ·
  cases he
 have a9:=q8 (w:=w) (p:=p + 1) (n:=2) (by decide)
 have bt:=q8 (w:=w) (p:=p + 3) (n:=2) (by decide)
 refine ⟨by omega,h.b,by show (s.aV ++ [recAt w p]).length=_; rw [List.length_append,h.n]; rfl,fun r af=> ?_,fun r af ai=> ?_⟩
 ·
  rcases List.mem_append.1 (show r∈s.aV ++ [recAt w p] from af) with af | af
  ·
   exact h.d r af
  ·
   rw [List.mem_singleton] at af
   subst af
   exact ⟨by have j0:=h.b; have r1:jp w p≤4096:=(by unfold jp; split <;> omega); show (List.take _ _).length≤_; rw [List.length_take]; omega,⟨by show _≤((bx w (p + 1) 2:Nat):Int); omega,by show ((bx w (p + 1) 2:Nat):Int)≤_; omega⟩,⟨by show _≤((bx w (p + 3) 2:Nat):Int); omega,by show ((bx w (p + 3) 2:Nat):Int)≤_; omega⟩⟩
 ·
  rcases List.mem_append.1 (show r∈s.aV ++ [recAt w p] from af) with af | af
  ·
   exact h.z r af ai
  ·
   rw [List.mem_singleton] at af
   subst af
   have ai:bx w p 1=2:=of_decide_eq_true ai
   show List.take (jp w p) _= []
   rw [show jp w p=0 from if_neg (by omega)]; rfl
end
end Go.az
namespace Go.az
open Go.Proofs
noncomputable section
set_option maxRecDepth 100000
end
end Go.az
