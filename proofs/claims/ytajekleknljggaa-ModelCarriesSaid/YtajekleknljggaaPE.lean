/-
  A model without memory, and what a step of the program does to it. No conditions.
-/
import Derived.Test.YtajekleknljggaaPD
set_option linter.unusedVariables false
set_option linter.unusedSimpArgs false
namespace Go.az
open Go.Proofs
noncomputable section
set_option maxRecDepth 100000
structure cu where
 bs:List (List UInt8)
 aL:List bq
 next:Int
abbrev oX (zs:List (bq × I)):List bq:=zs.map (·.1)
def hl (aL:List bq) (id:Int):Int:=hZ (fun z:bq=>decide (z.id=id)) aL
theorem SX {α β:Type} (f:α -> β) (p:β -> Bool) (l:List α):hZ p (l.map f)=hZ (fun a=>p (f a)) l:=by
 unfold hZ
 rw [List.findIdx?_map]; rfl
theorem I8 (zs:List (bq × I)) (id:Int):ku zs id=hl (oX zs) id:=by
 unfold ku hl
 exact (SX (fun z:bq × I=>z.1) (fun z:bq=>decide (z.id=id)) zs).symm
def hY (aL:List bq) (i:Nat):List bq:=match aL[aL.length - 1]? with
 | some z=>aL.set (aL.length - 1) { z with w:=z.w.set i true}
 | none=>aL
theorem I9 (zs:List (bq × I)) (i:Nat):oX (nV zs i)=hY (oX zs) i:=by
 unfold nV hY
 rw [List.length_map,List.getElem?_map]
 cases h:zs[zs.length - 1]? with
 | none=>rfl
 | some z=>
  show List.map _ (zs.set _ _)=List.set _ _ _
  rw [List.map_set]
def xA (aL:List bq) (i k:Nat):List bq:=
 if h:0 < i /\ i < aL.length then aL.set (i - 1) { (aL[i - 1]'(by omega)) with w:=oW (aL[i - 1]'(by omega)).w (aL[i]'h.2).w k} else aL
def sU (aL:List bq) (i n:Nat):List bq:=(xA aL i n).eraseIdx i
theorem A' {α β:Type} (f:α -> β):∀(l:List α) (i:Nat),(l.eraseIdx i).map f=(l.map f).eraseIdx i
 | [],_=>rfl
 | _ :: _,0=>rfl
 | a :: l,i + 1=>by
  show f a :: (l.eraseIdx i).map f=f a :: (l.map f).eraseIdx i
  rw [A' f l i]
def DA (aL:List bq) (i n:Nat):List bq:=match aL[i]? with
 | some z=>(aL.take (i + 1)).set i ⟨z.id,z.bs,List.replicate n false⟩
 | none=>aL
abbrev kF:=List (List UInt8) × List bq
def h' (st:kF) (r:Rec):Nat -> kF
 | 0=>st
 | k + 1=>((h' st r k).1.set (r.fr.toNat + k) (hy r k),hY (h' st r k).2 (r.fr.toNat + k))
def iu (st:kF) (rs:List Rec):Nat -> kF
 | 0=>st
 | k + 1=>h' (iu st rs k) (rs.getD k ⟨0,0,false,[]⟩) (rs.getD k ⟨0,0,false,[]⟩).aX.toNat
def rk (aL:List bq) (base:Int) (b:Nat):Nat -> Bool
 | 0=>decide (base < 0)
 | k + 1=>rk aL base b k || ((aL[base.toNat + k]?).map fun z=>z.w.getD b false).getD false
def iA (aL:List bq) (base:Int) (to:Nat):Nat -> List Int
 | 0=> []
 | b + 1=>if rk aL base b (to - base.toNat) then iA aL base to b ++ [(b:Int)] else iA aL base to b
theorem U3 (zs:List (bq × I)) (base:Int) (to b:Nat) (k:Nat):o3 zs base to b k=rk (oX zs) base b k:=by
 induction k with
 | zero=>rfl
 | succ k aH=>
  show (o3 zs base to b k || _)=(rk (oX zs) base b k || _)
  rw [aH,List.getElem?_map]
  congr 1
  cases zs[base.toNat + k]? <;> rfl
theorem Iq (zs:List (bq × I)) (base:Int) (to n:Nat):iy zs base to n=iA (oX zs) base to n:=by
 induction n with
 | zero=>rfl
 | succ n aH=>unfold iy iA; rw [U3,aH]
def wX (aL:List bq) (want:Int):Bool:=match aL[aL.length - 1]? with
 | none=>decide (want= -1)
 | some z=>decide (want≠ -1) && (decide (z.id=want) && !(decide (0≤hZ (fun b=>b) z.w)))
def sP (aL:List bq) (s:bq) (n:Nat) (base i:Int) (j:Nat):List Int:=if base= -1 then (iA aL (-1) j n).filter fun b=> !lm s.bs b else iA aL i j n
def oI (n:Nat) (aL:List bq) (base id:Int):List UInt8 × Int:=
 if hl aL id= -1∨(base≠ -1 /\ hl aL base= -1) then ([],13) else if id≤base then ([],26) else
 match aL[(hl aL id).toNat]? with
 | some z=>nM (gk n base id z (sP aL z n base (hl aL base) (hl aL id).toNat))
 | none=>([],0)
theorem U4 (n:Nat) (zs:List (bq × I)) (base id:Int):xy n zs base id=oI n (oX zs) base id:=by
 unfold xy oI
 rw [I8,I8,List.getElem?_map]
 split
 ·
  rfl
 split
 ·
  rfl
 cases zs[(hl (oX zs) id).toNat]? with
 | none=>rfl
 | some z=>show nM (gk n base id z.1 (rN _ _ _ _ _ _))=nM (gk n base id z.1 (sP _ _ _ _ _ _)); unfold rN sP; rw [Iq,Iq]
def ma (w:List UInt8) (n:Nat) (aL:List bq) (next:Int):Int:=
 if (eq w).1≠0 then (eq w).1 else if (eq w).2.blocks≠n then 23 else if wX aL (eq w).2.base=false then 24 else if 8≤aL.length then 3 else if (eq w).2.id < next then 25 else 0
def lw (w:List UInt8) (bs:List (List UInt8)) (aL:List bq):kF:=
 iu (if (eq w).2.base= -1 then bO bs.length else bs,aL) (eq w).2.aV (eq w).2.aV.length
abbrev Out:=List UInt8 × Int × Int
def bad (e:Int):Out:=([],0,e)
def hasB (m:cu) (b:Int):Prop:=0≤b /\ b < m.bs.length
instance (m:cu) (b:Int):Decidable (hasB m b):=inferInstanceAs (Decidable (_ /\ _))
def jZ (m:cu) (b:Int) (d:List UInt8):Out × cu:=if d.length=64 /\ hasB m b then (bad 0,{ m with bs:=m.bs.set b.toNat d,aL:=hY m.aL b.toNat}) else (bad 1,m)
def lB (m:cu):Out × cu:=if 8≤m.aL.length∨1000000 < m.next then (bad 3,m) else (([],m.next,0),{ m with aL:=m.aL ++ [⟨m.next,m.bs,List.replicate m.bs.length false⟩],next:=m.next + 1})
def ui (m:cu) (id:Int):Out × cu:=if hl m.aL id= -1 then (bad 13,m) else (bad 0,{ m with aL:=sU m.aL (hl m.aL id).toNat m.bs.length})
def Cm (m:cu) (id:Int):Out × cu:=match m.aL[(hl m.aL id).toNat]? with
 | some z=>if hl m.aL id= -1 then (bad 13,m) else (bad 0,{ m with bs:=z.bs,aL:=DA m.aL (hl m.aL id).toNat m.bs.length})
 | none=>(bad 13,m)
def YV (m:cu) (id b:Int):Out:=if ¬hasB m b then bad 1 else if hl m.aL id= -1 then bad 13 else match m.aL[(hl m.aL id).toNat]? with
 | some z=>(z.bs.getD b.toNat [],0,0)
 | none=>bad 0
def sC (m:cu) (base id:Int):Out:=if (oI m.bs.length m.aL base id).2=0 then ((oI m.bs.length m.aL base id).1,0,0) else bad (oI m.bs.length m.aL base id).2
def pP (m:cu) (w:List UInt8):Out × cu:=if ma w m.bs.length m.aL m.next≠0 then (bad (ma w m.bs.length m.aL m.next),m) else
 (bad 0,⟨(lw w m.bs m.aL).1,(lw w m.bs m.aL).2 ++ [⟨(eq w).2.id,(lw w m.bs m.aL).1,List.replicate m.bs.length false⟩],(eq w).2.id + 1⟩)
structure k6 where
 kind:Int
 block:Int
 size:Int
 id:Int
 base:Int
 data:List UInt8
def DB (m:cu) (b:Int):Out:=if hasB m b then (m.bs.getD b.toNat [],0,0) else bad 1
def gV (m:cu) (x:k6):Out × cu:=
 if x.kind=1 then (DB m x.block,m) else if x.kind=2 then jZ m x.block x.data else if x.kind=3 then jZ m x.block (List.replicate 64 0) else
 if x.kind=4 then (bad 0,m) else if x.kind=8 then (bad 0,m) else if x.kind=5 then lB m else if x.kind=6 then ui m x.id else if x.kind=7 then Cm m x.id else
 if x.kind=9 then (YV m x.id x.block,m) else if x.kind=10 then (sC m x.base x.id,m) else if x.kind=11 then pP m x.data else (bad 1,m)
end
end Go.az
namespace Go.az
open Go.Proofs
noncomputable section
set_option maxRecDepth 100000
def dM (aL:List bq):List Int:=aL.map (·.id)
theorem CR {aL:List bq} {i:Nat} {s:bq} (h:∀ad:i < aL.length,s.id=aL[i].id):dM (aL.set i s)=dM aL:=by
 unfold dM
 rw [List.map_set]
 by_cases ad:i < aL.length
 ·
  rw [h ad,show aL[i].id=(aL.map (·.id))[i]'(by rw [List.length_map]; exact ad) by rw [List.getElem_map],List.set_getElem_self]
 ·
  rw [List.set_eq_of_length_le (by rw [List.length_map]; omega)]
theorem Cn (aL:List bq) (i:Nat):dM (hY aL i)=dM aL:=by
 unfold hY
 split
 ·
  rename_i z ai
  refine CR fun ad=> ?_
  rw [List.getElem?_eq_getElem ad] at ai
  cases ai; rfl
 ·
  rfl
theorem SY (aL:List bq) (i k:Nat):dM (xA aL i k)=dM aL:=by
 unfold xA
 split
 ·
  exact CR fun ad=>rfl
 ·
  rfl
theorem QR (aL:List bq) (i n:Nat):dM (sU aL i n)=(dM aL).eraseIdx i:=by
 unfold sU
 rw [<- SY aL i n]
 exact A' _ _ _
theorem QS (aL:List bq) (i n:Nat) (ad:i < aL.length):dM (DA aL i n)=(dM aL).take (i + 1):=by
 unfold DA
 rw [List.getElem?_eq_getElem ad]
 show dM ((aL.take (i + 1)).set i _)=_
 rw [CR (fun h=>by rw [List.getElem_take])]
 unfold dM
 rw [List.map_take]
theorem NE (st:kF) (r:Rec) (k:Nat):dM (h' st r k).2=dM st.2:=by
 induction k with
 | zero=>rfl
 | succ k aH=>show dM (hY _ _)=_; rw [Cn,aH]
theorem Gh (st:kF) (rs:List Rec) (k:Nat):dM (iu st rs k).2=dM st.2:=by
 induction k with
 | zero=>rfl
 | succ k aH=>show dM (h' _ _ _).2=_; rw [NE,aH]
structure cu.ok (m:cu):Prop where
 r:(dM m.aL).Pairwise (· < ·)
 b:∀x∈dM m.aL,1≤x /\ x < m.next
 n:1≤m.next /\ m.next≤1000001
theorem cu.ok.pr {m:cu} (h:m.ok) {bs:List (List UInt8)} {aL:List bq} (aG:dM aL=dM m.aL):cu.ok ⟨bs,aL,m.next⟩:=⟨by show (dM aL).Pairwise _; rw [aG]; exact h.r,by show ∀x∈dM aL,_; rw [aG]; exact h.b,h.n⟩
theorem cu.ok.sub {m:cu} (h:m.ok) {bs:List (List UInt8)} {aL:List bq} (aG:(dM aL).Sublist (dM m.aL)):cu.ok ⟨bs,aL,m.next⟩:=⟨h.r.sublist aG,fun x R=>h.b x (aG.subset R),h.n⟩
theorem cu.ok.add {m:cu} (h:m.ok) {bs:List (List UInt8)} {aL:List bq} {s:bq} (aG:dM aL=dM m.aL) (J:m.next≤s.id) (O:s.id≤1000000):cu.ok ⟨bs,aL ++ [s],s.id + 1⟩:=by
 have e:dM (aL ++ [s])=dM m.aL ++ [s.id]:=by unfold dM at aG ⊢; rw [List.map_append,aG]; rfl
 have ag:=h.n
 refine ⟨?_,fun x R=> ?_,?_⟩
 ·
  show (dM (aL ++ [s])).Pairwise _
  rw [e,List.pairwise_append]
  refine ⟨h.r,List.pairwise_singleton _ _,fun a ae b U=> ?_⟩
  rw [List.mem_singleton] at U
  have:=(h.b a ae).2
  omega
 ·
  change x∈dM (aL ++ [s]) at R
  rw [e] at R
  rcases List.mem_append.1 R with R | R
  ·
   have:=h.b x R
   exact ⟨this.1,by show x < s.id + 1; omega⟩
  ·
   rw [List.mem_singleton] at R
   exact ⟨by omega,by show x < s.id + 1; omega⟩
 ·
  exact ⟨by show 1≤s.id + 1; omega,by show s.id + 1≤_; omega⟩
theorem cu.ok.abZ {m:cu} (h:m.ok) {i j:Nat} (ad:i < m.aL.length) (ax:j < m.aL.length) (cL:i < j):m.aL[i].id < m.aL[j].id:=by
 have:=List.pairwise_iff_getElem.1 h.r i j (by unfold dM; rw [List.length_map]; exact ad) (by unfold dM; rw [List.length_map]; exact ax) cL
 unfold dM at this
 rw [List.getElem_map,List.getElem_map] at this
 exact this
theorem QT (aL:List bq) (id:Int):hl aL id= -1∨∃i,∃ad:i < aL.length,hl aL id=i /\ aL[i].id=id:=by
 rcases vT (fun z:bq=>decide (z.id=id)) aL with ⟨h,_⟩ | ⟨i,ad,h,aR⟩
 ·
  exact .inl h
 ·
  exact .inr ⟨i,ad,h,of_decide_eq_true aR⟩
end
end Go.az
namespace Go.az
open Go.Proofs
noncomputable section
set_option maxRecDepth 100000
theorem ab0:bE.fn 10=some Try.f10:=by kernel_rfl
theorem Ir {H:aa} {p:Nat} {i:Int} {bs:List (List UInt8)} {zs:List (bq × I)} {next:Int} {bv aA dv:I} {d:List UInt8} {K:I -> aa -> Prop} (h:cE H p bs zs next bv aA) (aw:j6 H dv d)
 (J:¬(d.length=64 /\ 0≤i /\ i < bs.length) -> K (.int .i64 1) H)
 (O:d.length=64 -> ∀j:Nat,i=j -> j < bs.length -> ∀H',cE H' p (bs.set j d) (nV zs j) next bv aA -> cO H H' (fE p bv aA zs) (fE p bv aA zs) -> K (.int .i64 0) H'):Call (.func 24 [] []) [.ptr p 0,.int .i64 i,dv] H K:=by
 rcases aw with rfl | ⟨b,x,rfl,U,aF⟩
 ·
  exact SO h J O
 refine bR (N:=22) rfl Kw rfl rfl rfl rfl rfl fun bC=> ?_
 by_cases b1:d.length=64
 ·
  have hD:¬(d.length:Int)≠64:=by omega
  simp (disch:=(refine am ?_; first | assumption | decide | omega | (simp only [aT,aW] <;> omega) | with_unfolding_all exact a6 rfl | with_unfolding_all exact a7 rfl)) only [go_sem,hD,List.length_map]
  refine Dy h ?_
  by_cases bV:0≤i /\ i < bs.length
  ·
   obtain ⟨j,rfl⟩:=Int.eq_ofNat_of_zero_le bV.1
   rw [decide_eq_true bV]
   have aG:k0 64 (.slice b 0 d.length (nU x d.length))=some (.ptr b 0):=by
    rw [b1]; cases x <;> rfl
   have aR:bA H b 0 64=some (d.map aI):=by
    rw [(a2 U).2.2.1]
    show cG 64 (co 0 (d.map aI))=_
    rw [dz,fL,List.drop_zero,if_pos (by rw [List.length_map]; omega),List.take_of_length_le (by rw [List.length_map]; omega)]
   simp (disch:=(refine am ?_; decide)) only [go_sem,aG,aR]
   have ax:j < bs.length:=by omega
   refine JU h ax b1 fun H' aQ u=> ?_
   simp (disch:=(refine am ?_; decide)) only [go_sem]
   exact .inl (O b1 j rfl ax H' aQ u)
  ·
   rw [decide_eq_false bV]
   simp (disch:=(refine am ?_; decide)) only [go_sem]
   exact .inl (J fun h=>bV h.2)
 ·
  have hD:(d.length:Int)≠64:=by omega
  simp (disch:=(refine am ?_; first | assumption | decide | omega | (simp only [aT,aW] <;> omega) | with_unfolding_all exact a6 rfl | with_unfolding_all exact a7 rfl)) only [go_sem,hD,List.length_map]
  exact .inl (J fun h=>b1 h.1)
theorem G1 (n:Nat):a3 ((bO n).map bL)=(List.replicate n (List.replicate 64 (I.int .u8 0))).flatten:=by
 unfold bO
 rw [List.map_replicate]
 induction n with
 | zero=>rfl
 | succ n aH=>rw [List.replicate_succ (a:=bL _),List.replicate_succ (a:=List.replicate 64 (I.int .u8 0)),List.flatten_cons,<- aH,hL,hL,List.flatMap_cons,qY]; rfl
theorem Xi {H:aa} {n:Int} {K:I -> aa -> Prop} (J:¬(1≤n /\ n≤64) -> K (.tuple [.cA,.int .i64 1]) H)
 (O:∀k:Nat,n=k -> 1≤k -> k≤64 -> ∀H' bv,cE H' (H.next + 1) (bO k) [] 1 bv .aE -> Fr H H' -> H.next≤aY bv -> K (.tuple [.ptr (H.next + 1) 0,.int .i64 0]) H'):Call (.func 10 [] []) [.int .i64 n] H K:=by
 refine bR (N:=14) rfl ab0 rfl rfl rfl rfl rfl fun bC=> ?_
 by_cases b1:n < 1
 ·
  simp (disch:=(refine am ?_; decide)) only [go_sem,b1]
  exact .inl (J (by omega))
 by_cases bV:64 < n
 ·
  simp (disch:=(refine am ?_; decide)) only [go_sem,b1,bV]
  exact .inl (J (by omega))
 obtain ⟨k,rfl⟩:=Int.eq_ofNat_of_zero_le (show 0≤n by omega)
 have sV:Nat.ble (Nat.mul k 64) 16777216=true:=de.2 (by show k * 64≤_; omega)
 have wW:Nat.ble k 1048576=true:=de.2 (by omega)
 have oY:cR k (List.replicate 64 (I.int .u8 0))=a3 ((bO k).map bL):=by rw [q9,G1]
 have gf:(bO k).length=k:=List.length_replicate
 simp (disch:=(refine am ?_; first | assumption | decide | omega | (simp only [aT,aW] <;> omega) | with_unfolding_all exact a6 rfl | with_unfolding_all exact a7 rfl)) only [go_sem,b1,bV,oY,wW,Bool.true_and]
 refine .inl (O k rfl (by omega) (by omega) _ (.slice H.next 0 k (.ex k)) ?_ ((Fr.alloc _ _).trans (Fr.alloc _ _)) (Nat.le_refl _))
 have kx:((aS (aS H (.cells (a3 ((bO k).map bL)) 53 true true)).2 (.cells [.slice H.next 0 k (.ex k),.aE,.int .i64 1] 72 true true)).2).m.get H.next=some (.cells (a3 ((bO k).map bL)) 53 true true):=(hK (by simp only [aT]; omega)).trans eP
 have dq:∀y∈bO k,y.length=64:=fun y aj=>by unfold bO at aj; rw [List.eq_of_mem_replicate aj,List.length_replicate]
 exact ⟨eP,Nat.lt_succ_self _,⟨by rw [(fv (kc dq)).1,List.length_map],.inr ⟨H.next,true,Nat.zero_le _,by simp only [aT]; omega,by rw [gf]; rfl,kx⟩⟩,.inl ⟨rfl,rfl⟩,fun z ai=>(by cases ai),fun i j ad=>absurd ad (Nat.not_lt_zero _),dq,fun z ai=>(by cases ai),⟨by omega,by omega⟩,Nat.zero_le _⟩
end
end Go.az
namespace Go.az
open Go.Proofs
noncomputable section
set_option maxRecDepth 100000
theorem SZ {c o:Nat}:dp (.array 64 5) aq (.ptr c o) none none none=some (.slice c o 64 (.ex 64)):=by
 show (bF 64 64 none none none).omap (fun r=>I.slice c (addrAt r.2.2 r.1 o (au aq 5)) (Nat.sub r.2.1 r.1) (.ex (Nat.sub r.2.2 r.1)))=_
 show some (I.slice c (o + 0 * au aq 5) 64 (.ex 64))=_
 rw [Nat.zero_mul]; rfl
theorem cE.dr {H:aa} {p:Nat} {bs:List (List UInt8)} {zs:List (bq × I)} {next:Int} {bv aA:I} (h:cE H p bs zs next bv aA) {i:Nat} (ad:i < bs.length):bA H (aY bv) (i * 64) 64=some (bs[i].map aI):=by
 obtain ⟨x,R,aF,_⟩:=h.b.ty h.n.1
 have aG:=((fv (kc h.bg)).2 i).1
 have ah:=(fv (kc h.bg)).1
 have dq:=h.bg _ (List.getElem_mem ad)
 rw [List.length_map] at ah
 rw [(a2 R).2.2.1]
 show cG 64 (co (i * 64) (a3 (bs.map bL)))=_
 have d7:i < (bs.map bL).length:=by rw [List.length_map]; exact ad
 have V:a3 ((bs.map bL).drop i)=bs[i].map aI ++ a3 ((bs.map bL).drop (i + 1)):=by
  rw [List.drop_eq_getElem_cons d7,List.getElem_map,hL,List.flatMap_cons,<- hL,qY]
 rw [dz,fL,if_pos (by rw [List.length_drop,ah]; omega),aG,V,List.take_append_of_le_length (by rw [List.length_map]; omega),List.take_of_length_le (by rw [List.length_map]; omega)]
theorem cE.W2 {H:aa} {p:Nat} {bs:List (List UInt8)} {zs:List (bq × I)} {next:Int} {bv aA:I} (h:cE H p bs zs next bv aA) {i:Nat} (ad:i < bs.length) {K:I -> aa -> Prop} (ab:K (.aJ 1 (bs[i].map aI)) H):Call (.func 23 [] []) [.slice (aY bv) (i * 64) 64 (.ex 64)] H K:=by
 obtain ⟨x,R,aF,_⟩:=h.b.ty h.n.1
 have dq:=h.bg _ (List.getElem_mem ad)
 have hm:(bs[i].map aI).length=64:=by rw [List.length_map,dq]
 refine fi.out fun bC=> ?_
 have:=Gv (H:=H) (b:=aY bv) (o:=i * 64) (k:= .ex 64) (l:=bs[i].map aI) (K:=ji H K) (by omega) (fun z ai=>by obtain ⟨c,_,rfl⟩:=List.mem_map.1 ai; rfl) (jl _) (by rw [hm,h.dr ad,eY]) aF (fun v H' ae=>ae.q3 bC (kb fun _=>rfl) ab)
 rw [hm] at this
 exact this
end
end Go.az
namespace Go.az
open Go.Proofs
noncomputable section
set_option maxRecDepth 100000
def iD (H:aa) (p:Nat) (m:cu) (F:Nat -> Prop):Prop:=∃zs bv aA,cE H p m.bs zs m.next bv aA /\ oX zs=m.aL /\ F=fE p bv aA zs
theorem iD.b3 {H H':aa} {p:Nat} {m:cu} {F:Nat -> Prop} (h:iD H p m F) (ao:Fr H H'):iD H' p m F:=by
 obtain ⟨zs,bv,aA,J,O,ag⟩:=h
 exact ⟨zs,bv,aA,J.b3 ao,O,ag⟩
def nW (v:I) (o:Out):Prop:=∃b,v= .tuple [b,.int .i64 o.2.1,.int .i64 o.2.2] /\ (b= .aJ 1 (o.1.map aI)∨(b= .aE /\ o.1= []))
theorem nW.bad (e:Int):nW (.tuple [.aE,.int .i64 0,.int .i64 e]) (bad e):=⟨.aE,rfl,.inr ⟨rfl,rfl⟩⟩
theorem JZ {aL:List bq} {zs:List (bq × I)} (h:oX zs=aL) {i:Nat} (ad:i < zs.length):aL[i]? =some zs[i].1:=by
 rw [<- h,List.getElem?_map,List.getElem?_eq_getElem ad]; rfl
set_option maxHeartbeats 4000000 in
theorem YW {H:aa} {p:Nat} {m:cu} {F:Nat -> Prop} {x:k6} {dv:I} {K:I -> aa -> Prop} (kB:x.kind=1∨x.kind=2∨x.kind=3∨x.kind=5∨x.kind=10) (h:iD H p m F) (hC:m.ok) (eR:b2 dv=true) (aw:x.kind=2∨x.kind=11 -> j6 H dv x.data) (hlen:x.data.length≤140737488351232)
 (ab:∀v H' e6,nW v (gV m x).1 -> iD H' p (gV m x).2 e6 -> cO H H' F e6 -> (x.kind=1∨x.kind=9∨x.kind=10 -> Fr H H' /\ e6=F) -> K v H'):Call (.func 12 [] []) [.ptr p 0,.agg [.int .i64 x.kind,.int .i64 x.block,.int .i64 x.size,.int .i64 x.id,.int .i64 x.base,dv]] H K:=by
 obtain ⟨kind,block,size,id,base,data⟩:=x
 obtain ⟨zs,bv,aA,h,ee,rfl⟩:=h
 have ar:=h.n
 simp only at aw hlen kB
 refine bR (N:=100) rfl abN rfl rfl rfl rfl rfl fun bC=> ?_
 by_cases b1:kind=1
 ·
  subst b1
  simp (disch:=(refine am ?_; first | assumption | decide | omega | (simp only [aT,aW] <;> omega) | with_unfolding_all exact a6 rfl | with_unfolding_all exact a7 rfl)) only [go_sem,eR,eo eR]
  have J:cE (aS H (.cells [.int .i64 1,.int .i64 block,.int .i64 size,.int .i64 id,.int .i64 base,dv] 34 true true)).2 p m.bs zs m.next bv aA:=h.b3 (Fr.alloc _ _)
  have f1:Fr H (aS H (.cells [.int .i64 1,.int .i64 block,.int .i64 size,.int .i64 id,.int .i64 base,dv] 34 true true)).2:=Fr.alloc _ _
  have bW:(aS H (.cells [.int .i64 1,.int .i64 block,.int .i64 size,.int .i64 id,.int .i64 base,dv] 34 true true)).2.m.get H.next=some (.cells [.int .i64 1,.int .i64 block,.int .i64 size,.int .i64 id,.int .i64 base,dv] 34 true true):=eP
  have hU:(aS H (.cells [.int .i64 1,.int .i64 block,.int .i64 size,.int .i64 id,.int .i64 base,dv] 34 true true)).2.next=H.next + 1:=rfl
  generalize (aS H (.cells [.int .i64 1,.int .i64 block,.int .i64 size,.int .i64 id,.int .i64 base,dv] 34 true true)).2=H1 at J f1 bW hU ⊢
  have eu:cO H H1 (fE p bv aA zs) (fE p bv aA zs):=cO.fr f1
  have h3:=J.lt
  have es:gV m ⟨1,block,size,id,base,data⟩=(DB m block,m):=rfl
  rw [es] at ab
  unfold DB at ab
  refine Dy J ?_
  by_cases c:0≤block /\ block < m.bs.length
  ·
   obtain ⟨j,rfl⟩:=Int.eq_ofNat_of_zero_le c.1
   have ax:j < m.bs.length:=by omega
   have D6:hasB m (j:Int):=c
   rw [decide_eq_true c]
   rw [if_pos D6] at ab
   simp (disch:=(refine am ?_; decide)) only [go_sem]
   refine iX (by kernel_rfl) (by kernel_rfl) ?_
   simp (disch:=(refine am ?_; decide)) only [go_sem,a2 J.m,a2 bW,J.w_ ax,SZ]
   refine J.W2 ax ?_
   simp (disch:=(refine am ?_; decide)) only [go_sem]
   refine .inl (ab _ _ _ ⟨_,rfl,.inl ?_⟩ ⟨zs,bv,aA,J,ee,rfl⟩ eu (fun _=>⟨f1,rfl⟩))
   rw [show ((j:Int)).toNat=j from rfl,d6 ax]
  ·
   have D6:¬hasB m block:=c
   rw [decide_eq_false c]
   rw [if_neg D6] at ab
   simp (disch:=(refine am ?_; decide)) only [go_sem]
   exact .inl (ab _ _ _ (nW.bad 1) ⟨zs,bv,aA,J,ee,rfl⟩ eu (fun _=>⟨f1,rfl⟩))
 by_cases bV:kind=2
 ·
  subst bV
  simp (disch:=(refine am ?_; first | assumption | decide | omega | (simp only [aT,aW] <;> omega) | with_unfolding_all exact a6 rfl | with_unfolding_all exact a7 rfl)) only [go_sem,eR,eo eR]
  have J:cE (aS H (.cells [.int .i64 2,.int .i64 block,.int .i64 size,.int .i64 id,.int .i64 base,dv] 34 true true)).2 p m.bs zs m.next bv aA:=h.b3 (Fr.alloc _ _)
  have f1:Fr H (aS H (.cells [.int .i64 2,.int .i64 block,.int .i64 size,.int .i64 id,.int .i64 base,dv] 34 true true)).2:=Fr.alloc _ _
  have bW:(aS H (.cells [.int .i64 2,.int .i64 block,.int .i64 size,.int .i64 id,.int .i64 base,dv] 34 true true)).2.m.get H.next=some (.cells [.int .i64 2,.int .i64 block,.int .i64 size,.int .i64 id,.int .i64 base,dv] 34 true true):=eP
  have hU:(aS H (.cells [.int .i64 2,.int .i64 block,.int .i64 size,.int .i64 id,.int .i64 base,dv] 34 true true)).2.next=H.next + 1:=rfl
  generalize (aS H (.cells [.int .i64 2,.int .i64 block,.int .i64 size,.int .i64 id,.int .i64 base,dv] 34 true true)).2=H1 at J f1 bW hU ⊢
  have eu:cO H H1 (fE p bv aA zs) (fE p bv aA zs):=cO.fr f1
  have h3:=J.lt
  replace ab:=fun v ay px a b c=>ab v ay px a b c (fun h=>absurd h (show ¬((2:Int)=1∨(2:Int)=9∨(2:Int)=10) by decide))
  have iB:=(aw (.inl rfl)).b3 f1
  have es:gV m ⟨2,block,size,id,base,data⟩=jZ m block data:=rfl
  rw [es] at ab
  unfold jZ at ab
  refine Ir J iB (fun fU=> ?_) (fun dq j jH aes H' hm u=> ?_)
  ·
   rw [if_neg (show ¬(data.length=64 /\ hasB m block) from fU)] at ab
   simp (disch:=(refine am ?_; decide)) only [go_sem]
   exact .inl (ab _ _ _ (nW.bad 1) ⟨zs,bv,aA,J,ee,rfl⟩ eu)
  ·
   subst jH
   rw [if_pos (show data.length=64 /\ hasB m (j:Int) from ⟨dq,by omega,by omega⟩)] at ab
   simp (disch:=(refine am ?_; decide)) only [go_sem]
   exact .inl (ab _ _ _ (nW.bad 0) ⟨nV zs j,bv,aA,hm,by rw [I9,ee]; rfl,rfl⟩ (by rw [I5]; exact eu.trans u))
 by_cases c6:kind=3
 ·
  subst c6
  simp (disch:=(refine am ?_; first | assumption | decide | omega | (simp only [aT,aW] <;> omega) | with_unfolding_all exact a6 rfl | with_unfolding_all exact a7 rfl)) only [go_sem,eR,eo eR]
  have J:cE (aS H (.cells [.int .i64 3,.int .i64 block,.int .i64 size,.int .i64 id,.int .i64 base,dv] 34 true true)).2 p m.bs zs m.next bv aA:=h.b3 (Fr.alloc _ _)
  have f1:Fr H (aS H (.cells [.int .i64 3,.int .i64 block,.int .i64 size,.int .i64 id,.int .i64 base,dv] 34 true true)).2:=Fr.alloc _ _
  have bW:(aS H (.cells [.int .i64 3,.int .i64 block,.int .i64 size,.int .i64 id,.int .i64 base,dv] 34 true true)).2.m.get H.next=some (.cells [.int .i64 3,.int .i64 block,.int .i64 size,.int .i64 id,.int .i64 base,dv] 34 true true):=eP
  have hU:(aS H (.cells [.int .i64 3,.int .i64 block,.int .i64 size,.int .i64 id,.int .i64 base,dv] 34 true true)).2.next=H.next + 1:=rfl
  generalize (aS H (.cells [.int .i64 3,.int .i64 block,.int .i64 size,.int .i64 id,.int .i64 base,dv] 34 true true)).2=H1 at J f1 bW hU ⊢
  have eu:cO H H1 (fE p bv aA zs) (fE p bv aA zs):=cO.fr f1
  have h3:=J.lt
  replace ab:=fun v ay px a b c=>ab v ay px a b c (fun h=>absurd h (show ¬((3:Int)=1∨(3:Int)=9∨(3:Int)=10) by decide))
  have es:gV m ⟨3,block,size,id,base,data⟩=jZ m block (List.replicate 64 0):=rfl
  rw [es] at ab
  unfold jZ at ab
  refine iX (by kernel_rfl) (by kernel_rfl) ?_
  have f2:Fr H1 (aS H1 (.cells (List.replicate 64 (.int .u8 0)) 5 true true)).2:=Fr.alloc _ _
  have aet:j6 (aS H1 (.cells (List.replicate 64 (.int .u8 0)) 5 true true)).2 (.slice H1.next 0 64 (.ex 64)) (List.replicate 64 0):= .inr ⟨H1.next,true,rfl,eP,Nat.lt_succ_self _⟩
  have O:=J.b3 f2
  have iM:=eu.trans (cO.fr (F:=fE p bv aA zs) f2)
  simp (disch:=(refine am ?_; decide)) only [go_sem,a2 bW,Bool.true_and,show Int.toNat 64=64 from rfl]
  refine Ir O aet (fun fU=> ?_) (fun dq j jH aes H' hm u=> ?_)
  ·
   rw [if_neg (show ¬((List.replicate 64 (0:UInt8)).length=64 /\ hasB m block) from fU)] at ab
   simp (disch:=(refine am ?_; decide)) only [go_sem]
   exact .inl (ab _ _ _ (nW.bad 1) ⟨zs,bv,aA,O,ee,rfl⟩ iM)
  ·
   subst jH
   rw [if_pos (show (List.replicate 64 (0:UInt8)).length=64 /\ hasB m (j:Int) from ⟨dq,by omega,by omega⟩)] at ab
   simp (disch:=(refine am ?_; decide)) only [go_sem]
   exact .inl (ab _ _ _ (nW.bad 0) ⟨nV zs j,bv,aA,hm,by rw [I9,ee]; rfl,rfl⟩ (by rw [I5]; exact iM.trans u))
 by_cases fp:kind=5
 ·
  subst fp
  simp (disch:=(refine am ?_; first | assumption | decide | omega | (simp only [aT,aW] <;> omega) | with_unfolding_all exact a6 rfl | with_unfolding_all exact a7 rfl)) only [go_sem,eR,eo eR]
  have J:cE (aS H (.cells [.int .i64 5,.int .i64 block,.int .i64 size,.int .i64 id,.int .i64 base,dv] 34 true true)).2 p m.bs zs m.next bv aA:=h.b3 (Fr.alloc _ _)
  have f1:Fr H (aS H (.cells [.int .i64 5,.int .i64 block,.int .i64 size,.int .i64 id,.int .i64 base,dv] 34 true true)).2:=Fr.alloc _ _
  have bW:(aS H (.cells [.int .i64 5,.int .i64 block,.int .i64 size,.int .i64 id,.int .i64 base,dv] 34 true true)).2.m.get H.next=some (.cells [.int .i64 5,.int .i64 block,.int .i64 size,.int .i64 id,.int .i64 base,dv] 34 true true):=eP
  have hU:(aS H (.cells [.int .i64 5,.int .i64 block,.int .i64 size,.int .i64 id,.int .i64 base,dv] 34 true true)).2.next=H.next + 1:=rfl
  generalize (aS H (.cells [.int .i64 5,.int .i64 block,.int .i64 size,.int .i64 id,.int .i64 base,dv] 34 true true)).2=H1 at J f1 bW hU ⊢
  have eu:cO H H1 (fE p bv aA zs) (fE p bv aA zs):=cO.fr f1
  have h3:=J.lt
  replace ab:=fun v ay px a b c=>ab v ay px a b c (fun h=>absurd h (show ¬((5:Int)=1∨(5:Int)=9∨(5:Int)=10) by decide))
  have es:gV m ⟨5,block,size,id,base,data⟩=lB m:=rfl
  rw [es] at ab
  unfold lB at ab
  have g':m.aL.length=zs.length:=by rw [<- ee,List.length_map]
  have fT:=hC.n
  refine WT J ⟨by omega,by omega⟩ (fun fU=> ?_) (fun hq jJ H' c2 db hm u=> ?_)
  ·
   rw [if_pos (by rw [g']; exact fU)] at ab
   simp (disch:=(refine am ?_; decide)) only [go_sem]
   exact .inl (ab _ _ _ (nW.bad 3) ⟨zs,bv,aA,J,ee,rfl⟩ eu)
  ·
   rw [if_neg (by rw [g']; omega)] at ab
   simp (disch:=(refine am ?_; decide)) only [go_sem]
   exact .inl (ab _ _ _ ⟨.aE,rfl,.inr ⟨rfl,rfl⟩⟩ ⟨_,bv,db,hm,by show List.map _ _=_; rw [List.map_append]; exact congrArg (· ++ _) ee,rfl⟩ (eu.trans u))
 by_cases aeu:kind=10
 ·
  subst aeu
  simp (disch:=(refine am ?_; first | assumption | decide | omega | (simp only [aT,aW] <;> omega) | with_unfolding_all exact a6 rfl | with_unfolding_all exact a7 rfl)) only [go_sem,eR,eo eR]
  have J:cE (aS H (.cells [.int .i64 10,.int .i64 block,.int .i64 size,.int .i64 id,.int .i64 base,dv] 34 true true)).2 p m.bs zs m.next bv aA:=h.b3 (Fr.alloc _ _)
  have f1:Fr H (aS H (.cells [.int .i64 10,.int .i64 block,.int .i64 size,.int .i64 id,.int .i64 base,dv] 34 true true)).2:=Fr.alloc _ _
  have bW:(aS H (.cells [.int .i64 10,.int .i64 block,.int .i64 size,.int .i64 id,.int .i64 base,dv] 34 true true)).2.m.get H.next=some (.cells [.int .i64 10,.int .i64 block,.int .i64 size,.int .i64 id,.int .i64 base,dv] 34 true true):=eP
  have hU:(aS H (.cells [.int .i64 10,.int .i64 block,.int .i64 size,.int .i64 id,.int .i64 base,dv] 34 true true)).2.next=H.next + 1:=rfl
  generalize (aS H (.cells [.int .i64 10,.int .i64 block,.int .i64 size,.int .i64 id,.int .i64 base,dv] 34 true true)).2=H1 at J f1 bW hU ⊢
  have eu:cO H H1 (fE p bv aA zs) (fE p bv aA zs):=cO.fr f1
  have h3:=J.lt
  have es:gV m ⟨10,block,size,id,base,data⟩=(sC m base id,m):=rfl
  rw [es] at ab
  unfold sC at ab
  refine SW J (fun i j ad ax cL=> ?_) ?_
  ·
   have a8:=hC.abZ (i:=i) (j:=j) (by rw [<- ee,List.length_map]; exact ad) (by rw [<- ee,List.length_map]; exact ax) cL
   have bk:=JZ ee ad
   have c3:=JZ ee ax
   rw [List.getElem?_eq_getElem (by rw [<- ee,List.length_map]; exact ad)] at bk
   rw [List.getElem?_eq_getElem (by rw [<- ee,List.length_map]; exact ax)] at c3
   rw [Option.some.inj bk,Option.some.inj c3] at a8
   exact a8
  ·
   rw [U4,ee]
   generalize oI m.bs.length m.aL base id=o at ab
   by_cases c:o.2=0
   ·
    rw [if_pos c] at ab
    rw [c]
    simp (disch:=(refine am ?_; decide)) only [go_sem]
    exact .inl (ab _ _ _ ⟨_,rfl,.inl rfl⟩ ⟨zs,bv,aA,J,ee,rfl⟩ eu (fun _=>⟨f1,rfl⟩))
   ·
    rw [if_neg c] at ab
    simp (disch:=(refine am ?_; first | assumption | decide | omega | (simp only [aT,aW] <;> omega) | with_unfolding_all exact a6 rfl | with_unfolding_all exact a7 rfl)) only [go_sem,c,true_imp_iff,false_imp_iff,and_true,true_and]
    exact .inl (ab _ _ _ (nW.bad _) ⟨zs,bv,aA,J,ee,rfl⟩ eu (fun _=>⟨f1,rfl⟩))
 exfalso
 omega
theorem zV {H:aa} {p:Nat} {m:cu} {F:Nat -> Prop} {x:k6} {dv:I} {K:I -> aa -> Prop} (kB:x.kind=1∨x.kind=2∨x.kind=3∨x.kind=5∨x.kind=10) (h:iD H p m F) (hC:m.ok) (eR:b2 dv=true) (aw:x.kind=2∨x.kind=11 -> j6 H dv x.data) (hlen:x.data.length≤140737488351232)
 (ab:∀v H' e6,nW v (gV m x).1 -> iD H' p (gV m x).2 e6 -> cO H H' F e6 -> K v H'):Call (.func 12 [] []) [.ptr p 0,.agg [.int .i64 x.kind,.int .i64 x.block,.int .i64 x.size,.int .i64 x.id,.int .i64 x.base,dv]] H K:=
 YW kB h hC eR aw hlen fun v H' e6 a b c _=>ab v H' e6 a b c
end
end Go.az
namespace Go.az
open Go.Proofs
noncomputable section
set_option maxRecDepth 100000
theorem aev:bE.fn 8=some Try.f8:=by kernel_rfl
def sW (x:k6):I:= .agg [.int .i64 x.kind,.int .i64 x.block,.int .i64 x.size,.int .i64 x.id,.int .i64 x.base,.aJ 1 (x.data.map aI)]
theorem O1 (x:k6):(sW x).cells= [.int .i64 x.kind,.int .i64 x.block,.int .i64 x.size,.int .i64 x.id,.int .i64 x.base,.aJ 1 (x.data.map aI)]:=rfl
attribute [go_sem] O1
theorem Xj {H:aa} {l:List k6} {K:I -> aa -> Prop} (ah:l.length < 9223372036854775807) (aw:∀x∈l,x.data.length < 9223372036854775807) (ab:∀b,(b=true -> l.length≤150) -> K (.bool b) H):Call (.func 8 [] []) [.aJ 6 (l.map sW)] H K:=by
 refine bR (N:=25) rfl aev rfl rfl rfl rfl rfl fun bC=> ?_
 simp (disch:=(refine am ?_; decide)) only [go_sem]
 refine gw 4194300 (by kernel_rfl) (fun r G H'=>H'=H /\ ∃(i:Nat) (n:Int),i≤l.length /\ r=l.length - i /\ G.get 4=some (.int .i64 (i:Int)) /\ G.get 3=some (.int .i64 n) /\ 0≤n /\ n≤20000) l.length ⟨rfl,0,0,Nat.zero_le _,rfl,rfl,rfl,by omega,by omega⟩ ?_
 rintro r G H' aZ ⟨rfl,i,n,ad,rfl,fb,bW,aD,J⟩
 by_cases aF:i < l.length
 ·
  have o_:=aw _ (List.getElem_mem aF)
  have hw:bG .i64 (n + min ((l[i].data.length:Nat):Int) 10000)=n + min ((l[i].data.length:Nat):Int) 10000:=wrap_i64 (by omega) (by omega)
  simp (disch:=(refine am ?_; first | assumption | decide | omega)) only [go_sem,fb,bW,aZ,List.length_map,fh,hw]
  refine ⟨fun _=> .inl (ab false (fun h=>(by cases h))),fun hle=> ?_⟩
  refine ⟨_,by omega,i + 1,_,aF,rfl,?_,rfl,by omega,by omega⟩
  rw [wrap_i64 (by omega) (by omega)]; rfl
 ·
  obtain rfl:i=l.length:=by omega
  simp (disch:=(refine am ?_; first | assumption | decide | omega | (simp only [aT,aW] <;> omega) | with_unfolding_all exact a6 rfl | with_unfolding_all exact a7 rfl)) only [go_sem,fb,bW,aZ,List.length_map]
  exact .inl (ab _ fun h=>by have:=of_decide_eq_true h; omega)
end
end Go.az
namespace Go.az
open Go.Proofs
noncomputable section
set_option maxRecDepth 100000
def gZ (aL:List bq):List (Int × List (List UInt8)):=aL.map fun s=>(s.id,s.bs)
theorem Jz {aL:List bq} {i:Nat} {s:bq} (h:∀ad:i < aL.length,s.id=aL[i].id /\ s.bs=aL[i].bs):gZ (aL.set i s)=gZ aL:=by
 unfold gZ
 rw [List.map_set]
 by_cases ad:i < aL.length
 ·
  rw [(h ad).1,(h ad).2,show (aL[i].id,aL[i].bs)=(aL.map fun s=>(s.id,s.bs))[i]'(by rw [List.length_map]; exact ad) by rw [List.getElem_map],List.set_getElem_self]
 ·
  rw [List.set_eq_of_length_le (by rw [List.length_map]; omega)]
theorem I_ (aL:List bq) (i:Nat):gZ (hY aL i)=gZ aL:=by
 unfold hY
 split
 ·
  rename_i z ai
  refine Jz fun ad=> ?_
  rw [List.getElem?_eq_getElem ad] at ai
  cases ai; exact ⟨rfl,rfl⟩
 ·
  rfl
theorem U5 (aL:List bq) (i k:Nat):gZ (xA aL i k)=gZ aL:=by
 unfold xA
 split
 ·
  exact Jz fun ad=>⟨rfl,rfl⟩
 ·
  rfl
theorem S0 (aL:List bq) (i n:Nat):gZ (sU aL i n)=(gZ aL).eraseIdx i:=by
 unfold sU
 rw [<- U5 aL i n]
 exact A' _ _ _
theorem O2 (st:kF) (r:Rec) (k:Nat):gZ (h' st r k).2=gZ st.2:=by
 induction k with
 | zero=>rfl
 | succ k aH=>show gZ (hY _ _)=_; rw [I_,aH]
theorem O3 (st:kF) (rs:List Rec) (k:Nat):gZ (iu st rs k).2=gZ st.2:=by
 induction k with
 | zero=>rfl
 | succ k aH=>show gZ (h' _ _ _).2=_; rw [O2,aH]
theorem U6 {w:List UInt8} {n:Nat} {aL:List bq} {next:Int} (h:ma w n aL next=0):(eq w).1=0 /\ (eq w).2.blocks=n /\ wX aL (eq w).2.base=true /\ aL.length < 8 /\ next≤(eq w).2.id:=by
 unfold ma at h
 split at h
 ·
  rename_i J; exact absurd h J
 rename_i J
 split at h
 ·
  cases h
 rename_i O
 split at h
 ·
  cases h
 rename_i ag
 split at h
 ·
  cases h
 split at h
 ·
  cases h
 exact ⟨Decidable.not_not.1 J,Decidable.not_not.1 O,by simpa using ag,by omega,by omega⟩
theorem Gx (P:Out × cu -> Prop) (m:cu) (x:k6) (same:∀o,P (o,m)) (wr:∀b d,P (jZ m b d)) (ae_:x.kind=5 -> P (lB m)) (ae':x.kind=6 -> P (ui m x.id)) (ro:x.kind=7 -> P (Cm m x.id)) (afa:x.kind=11 -> P (pP m x.data)):P (gV m x):=by
 unfold gV
 split
 ·
  exact same _
 split
 ·
  exact wr _ _
 split
 ·
  exact wr _ _
 split
 ·
  exact same _
 split
 ·
  exact same _
 split
 ·
  rename_i h; exact ae_ h
 split
 ·
  rename_i h; exact ae' h
 split
 ·
  rename_i h; exact ro h
 split
 ·
  exact same _
 split
 ·
  exact same _
 split
 ·
  rename_i h; exact afa h
 ·
  exact same _
theorem wa {m:cu} {x:k6} (h:m.ok) (ah:x.data.length≤140737488351232):(gV m x).2.ok:=by
 refine Gx (fun r=>r.2.ok) m x (fun o=>h) (fun b d=> ?_) (fun _=> ?_) (fun _=> ?_) (fun _=> ?_) (fun _=> ?_)
 ·
  unfold jZ
  split
  ·
   exact h.pr (Cn _ _)
  ·
   exact h
 ·
  unfold lB
  split
  ·
   exact h
  ·
   exact h.add rfl (Int.le_refl _) (by show m.next≤_; omega)
 ·
  unfold ui
  split
  ·
   exact h
  ·
   exact h.sub (by rw [QR]; exact List.eraseIdx_sublist _ _)
 ·
  unfold Cm
  split
  ·
   rename_i z ai
   split
   ·
    exact h
   ·
    exact h.sub (by rw [QS _ _ _ (List.getElem?_eq_some_iff.1 ai).1]; exact List.take_sublist _ _)
  ·
   exact h
 ·
  unfold pP
  split
  ·
   exact h
  ·
   rename_i aD
   obtain ⟨a8,_,_,_,fZ⟩:=U6 (Decidable.not_not.1 aD)
   have aG:=HE ah a8
   exact h.add (s:=⟨(eq x.data).2.id,(lw x.data m.bs m.aL).1,List.replicate m.bs.length false⟩) (by unfold lw; rw [Gh]) fZ aG.i.2
def zP (m:cu) (id:Int) (B:List (List UInt8)):Prop:=(gZ m.aL)[0]? =some (id,B)
theorem zP.step {m:cu} {x:k6} {id:Int} {B:List (List UInt8)} (h:zP m id B) (af:x.kind≠7) (aw:¬(x.kind=6 /\ x.id=id)):zP (gV m x).2 id B:=by
 have app:∀(l:List (Int × List (List UInt8))) y,l[0]? =some (id,B) -> (l ++ [y])[0]? =some (id,B):=fun l y h=>by
  rw [List.getElem?_append_left (List.getElem?_eq_some_iff.1 h).1]; exact h
 unfold zP at h ⊢
 refine Gx (fun r=>(gZ r.2.aL)[0]? =some (id,B)) m x (fun o=>h) (fun b d=> ?_) (fun _=> ?_) (fun eC=> ?_) (fun fd=>absurd fd af) (fun _=> ?_)
 ·
  unfold jZ
  split
  ·
   show (gZ (hY _ _))[0]? =_; rw [I_]; exact h
  ·
   exact h
 ·
  unfold lB
  split
  ·
   exact h
  ·
   show (gZ (m.aL ++ [_]))[0]? =_
   unfold gZ at h ⊢
   rw [List.map_append]; exact app _ _ h
 ·
  unfold ui
  split
  ·
   exact h
  ·
   rename_i bX
   rcases QT m.aL x.id with R | ⟨i,ad,R,ky⟩
   ·
    exact absurd R bX
   ·
    show (gZ (sU _ _ _))[0]? =_
    rw [S0,R,show ((i:Int)).toNat=i from rfl]
    have LM:i≠0:=by
     rintro rfl
     have:(gZ m.aL)[0]? =some (m.aL[0].id,m.aL[0].bs):=by unfold gZ; rw [List.getElem?_map,List.getElem?_eq_getElem ad]; rfl
     rw [this] at h
     exact aw ⟨eC,by rw [<- ky]; exact congrArg (·.1) (Option.some.inj h)⟩
    rw [List.getElem?_eraseIdx,if_pos (by omega)]; exact h
 ·
  unfold pP
  split
  ·
   exact h
  ·
   show (gZ ((lw x.data m.bs m.aL).2 ++ [_]))[0]? =_
   have e:gZ (lw x.data m.bs m.aL).2=gZ m.aL:=by unfold lw; exact O3 _ _ _
   unfold gZ at h e ⊢
   rw [List.map_append,e]; exact app _ _ h
end
end Go.az
