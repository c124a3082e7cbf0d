/-
  What is encoded is read back; streams read as the document says it. No conditions.
-/
import Derived.Test.YtajekleknljggaaPE
set_option linter.unusedVariables false
set_option linter.unusedSimpArgs false
namespace Go.az
open Go.Proofs
noncomputable section
set_option maxRecDepth 100000
theorem Vn {H:aa} {w:List UInt8} (hw:w.length≤140737488351232):∃v ay,cJ aq (aS H (.cells [] 5 true true)).2 5 (.slice H.next 0 0 (.ex 0)) w.length (w.map aI)=some (v,ay) /\ Fr H ay /\ j6 ay v w /\ ∀a,a < H.next -> ∀b n k,v= .slice b 0 n k -> b≠a:=by
 have ae:=Acc.uV (E:=aq) (Fr.refl H) e2 (by decide) nT
 by_cases aD:w= []
 ·
  subst aD
  refine ⟨_,_,ae.xo,ae.fr,.inr ⟨H.next,true,rfl,eP,Nat.lt_succ_self _⟩,fun a aF b n k he=> ?_⟩
  cases he; omega
 ·
  have bU:0 < w.length:=List.length_pos_iff.2 aD
  have hm:(w.map aI).length=w.length:=List.length_map _
  have ao:=jl w
  have J:=ae.zK rt (m:=w.length) (by simpa using hw) bU (w.map aI) (by rw [hm,Nat.mul_one]) (by rw [<- eY]; exact ao)
  have O:=ae.zj rt (m:=w.length) (by simpa using hw) bU (new:=w.map aI) (w.map aI) (eY w) hm (sN w) (by rw [<- eY]; exact ao)
  refine ⟨_,_,J,O.fr,?_⟩
  rcases O.own.2 with ⟨aM,_⟩ | ⟨b,x,mC,aF,ak,U⟩
  ·
   cases aM
  ·
   refine ⟨.inr ⟨b,x,?_,?_,aF⟩,fun a aF cv n k he=> ?_⟩
   ·
    rw [ak,List.nil_append,hm]; rfl
   ·
    rw [U,List.nil_append,eY]
   ·
    rw [ak] at he; cases he; omega
theorem iD.fo {H:aa} {p:Nat} {m:cu} {F:Nat -> Prop} (h:iD H p m F):∀s∈m.aL,s.bs.length=m.bs.length:=by
 obtain ⟨zs,bv,aA,bo,ee,_⟩:=h
 intro s aG
 rw [<- ee] at aG
 obtain ⟨z,ai,rfl⟩:=List.mem_map.1 aG
 exact (bo.fo z ai).2.1
theorem Xh (a b:Nat) (U:b≠0):hg .rem .i64 (a:Int) (.int .i64 (b:Int))=some (.int .i64 ((a % b:Nat):Int)):=by
 show (match lN (b:Int) 0 with | true=>none | false=>some (I.int .i64 (Int.tmod (a:Int) (b:Int))))=_
 have:lN (b:Int) 0=false:=by rw [zf]; exact decide_eq_false (by omega)
 rw [this]
 show some (I.int .i64 (Int.tmod (a:Int) (b:Int)))=_
 rw [<- Int.ofNat_tmod]
end
end Go.az
namespace Go.az
open Go.Proofs
noncomputable section
set_option maxRecDepth 100000
theorem W3 (aL:List bq) (i:Nat) (ad:i < aL.length):(dM aL)[i]'(by unfold dM; rw [List.length_map]; exact ad)=aL[i].id:=by
 unfold dM; rw [List.getElem_map]
theorem iD.blocks {H:aa} {p:Nat} {m:cu} {F:Nat -> Prop} {K:I -> aa -> Prop} (h:iD H p m F) (ab:K (.aJ 64 (m.bs.map bL)) H):Call (.func 16 [] []) [.ptr p 0] H K:=by
 obtain ⟨zs,bv,aA,bo,ee,_⟩:=h
 exact Ip bo ab
theorem iD.bg {H:aa} {p:Nat} {m:cu} {F:Nat -> Prop} (h:iD H p m F):∀x∈m.bs,x.length=64:=by
 obtain ⟨zs,bv,aA,bo,ee,_⟩:=h
 exact bo.bg
theorem iD.L4 {H:aa} {p:Nat} {m:cu} {F:Nat -> Prop} (h:iD H p m F) {c:Nat} (V:F c):c < H.next:=by
 obtain ⟨zs,bv,aA,bo,ee,rfl⟩:=h
 exact bo.ri V
def LP (m:cu) (n a:Nat) (ids:List Int) (B:List (List UInt8)):Prop:=m.ok /\ m.bs.length=n /\ (dM m.aL).take (a + 1)=ids /\ ids.length=a + 1 /\ ∃h:a < m.aL.length,m.aL[a].bs=B
theorem LP.id {m:cu} {n a:Nat} {ids:List Int} {B:List (List UInt8)} (h:LP m n a ids B):ids[a]? =some (m.aL[a]'h.2.2.2.2.1).id:=by
 have key:∀ae:a < m.aL.length,ids[a]? =some (m.aL[a]'ae).id:=fun ae=>by
  have ag:=h.2.2.1
  rw [<- ag,List.getElem?_take,if_pos (Nat.lt_succ_self _),List.getElem?_eq_getElem (by unfold dM; rw [List.length_map]; exact ae),W3 _ _ ae]
 exact key _
end
end Go.az
namespace Go.az
open Go.Proofs
noncomputable section
set_option maxRecDepth 100000
def mv (bs:List (List UInt8)) (l:List Int):Nat -> List Rec
 | 0=> []
 | k + 1=>gU (mv bs l k) (!decide (jq l k)) (l.getD k 0) (bs.getD (l.getD k 0).toNat [])
theorem Ge (bs:List (List UInt8)) (rs:List Rec) {p q:Int × Int} (h:p.1=q.1):∀k,jt bs rs p k=jt bs rs q k
 | 0=>rfl
 | k + 1=>by
  unfold jt
  rw [Ge bs rs h k,h]
theorem Bc (bs:List (List UInt8)) {A B:List (Int × Int)}:∀k,(∀i,i < k -> A.getD i (0,0)=B.getD i (0,0)) -> iW bs A k=iW bs B k
 | 0,_=>rfl
 | k + 1,h=>by
  unfold iW
  rw [Bc bs k (fun i ad=>h i (by omega)),h k (by omega)]
theorem Bq {bs:List (List UInt8)} {n:Nat} {l:List Int} (ah:∀x∈l,0≤x /\ x < n) (ar:n≤1000):∀k,k≤l.length -> iW bs (bP l k) (bP l k).length=mv bs l k
 | 0,_=>rfl
 | k + 1,ab=>by
  have aH:=Bq (bs:=bs) ah ar k (by omega)
  obtain ⟨i1,i2⟩:=zy ah ar k (by omega)
  by_cases a4:jq l k
  ·
   obtain ⟨cg,cn,bW⟩:=a4
   have bU:0 < (bP l k).length:=(sE l k).2 cg
   obtain ⟨m,hm⟩:∃m,(bP l k).length=m + 1:=⟨_,(Nat.succ_pred_eq_of_pos bU).symm⟩
   have ax:m < (bP l k).length:=by omega
   have f':=i2 ((bP l k)[m]) (by rw [hm,Nat.add_sub_cancel,List.getElem?_eq_getElem ax])
   have aR:=i1 _ (List.getElem_mem ax)
   have U:nS (bP l k)=(bP l k).set m ((bP l k)[m].1,(bP l k)[m].2 + 1):=by unfold nS; rw [hm,Nat.add_sub_cancel,d6 ax]
   unfold mv
   rw [zM ⟨cg,cn,bW⟩,U,List.length_set,hm,<- aH,hm,decide_eq_true (show jq l k from ⟨cg,cn,bW⟩)]
   unfold iW
   rw [Bc (A:=(bP l k).set m ((bP l k)[m].1,(bP l k)[m].2 + 1)) (B:=bP l k) bs m (fun i ad=>by rw [List.getD_eq_getElem?_getD,List.getElem?_set_ne (by omega),<- List.getD_eq_getElem?_getD]),d6 (show m < ((bP l k).set m ((bP l k)[m].1,(bP l k)[m].2 + 1)).length by rw [List.length_set]; exact ax),List.getElem_set_self,d6 ax]
   generalize (bP l k)[m]=q at f' aR
   generalize iW bs (bP l k) m=rs
   have bk:(q.2 + 1).toNat=q.2.toNat + 1:=by omega
   show jt bs rs (q.1,q.2 + 1) (q.2 + 1).toNat=_
   rw [bk]
   show gU (jt bs rs (q.1,q.2 + 1) q.2.toNat) (decide (q.2.toNat=0)) (q.1 + q.2.toNat) (bs.getD (q.1.toNat + q.2.toNat) [])=_
   rw [Ge bs rs (p:=(q.1,q.2 + 1)) (q:=q) rfl,decide_eq_false (show ¬q.2.toNat=0 by omega)]
   have c3:q.1 + (q.2.toNat:Int)=l.getD k 0:=by rw [bW]; omega
   have eD:q.1.toNat + q.2.toNat=(l.getD k 0).toNat:=by omega
   rw [c3,eD]; rfl
  ·
   unfold mv
   rw [zN a4,List.length_append,List.length_singleton,<- aH,decide_eq_false a4]
   unfold iW
   rw [Bc (A:=bP l k ++ [(l.getD k 0,1)]) (B:=bP l k) bs (bP l k).length (fun i ad=>by rw [List.getD_eq_getElem?_getD,List.getElem?_append_left ad,<- List.getD_eq_getElem?_getD])]
   have e:(bP l k ++ [(l.getD k 0,(1:Int))]).getD (bP l k).length (0,0)=(l.getD k 0,1):=by
    rw [List.getD_eq_getElem?_getD,List.getElem?_append_right (Nat.le_refl _),Nat.sub_self]; rfl
   rw [e]
   have fZ:∀A:List Rec,jt bs A (l.getD k 0,1) 1=gU A (!false) (l.getD k 0) (bs.getD (l.getD k 0).toNat []):=fun A=>by
    show gU A true (l.getD k 0 + (0:Nat)) (bs.getD ((l.getD k 0).toNat + 0) [])=_
    rw [Nat.add_zero,show l.getD k 0 + ((0:Nat):Int)=l.getD k 0 by omega]; rfl
   cases aD:(bP l k).length with
   | zero=>exact fZ _
   | succ m=>exact fZ _
theorem O4 {d x:List UInt8} {c:Nat} (aw:d.length=c * 64) (R:x.length=64):e0 (d ++ x) c=x:=by
 unfold e0
 rw [show 64 * c=d.length by omega,List.drop_left,List.take_of_length_le (by omega)]
theorem QU {d x:List UInt8} {c k:Nat} (aw:d.length=c * 64) (ab:k < c):e0 (d ++ x) k=e0 d k:=by
 unfold e0
 rw [List.drop_append_of_le_length (by omega),List.take_append_of_le_length (by rw [List.length_drop]; omega)]
theorem O5 {x:List UInt8} (R:x.length=64):g7 1 (zeros x) (if zeros x then [] else x)=true:=by
 unfold g7
 cases h:zeros x with
 | true=>rfl
 | false=>
  show (decide ((x.length:Int)=1 * 64) && (List.range (x.length / 64)).all fun k=> !(zeros (e0 x k)))=true
  rw [R,decide_eq_true (by decide),Bool.true_and]
  refine List.all_eq_true.2 fun k ab=> ?_
  have pi:k=0:=by have:=List.mem_range.1 ab; omega
  subst pi
  have e:e0 x 0=x:=by unfold e0; rw [Nat.mul_zero,List.drop_zero,List.take_of_length_le (by omega)]
  show (!zeros (e0 x 0))=true
  rw [e,h]; rfl
theorem NF {c:Int} {z:Bool} {d x:List UInt8} (V:1≤c) (h:g7 c z d=true) (ai:zeros x=z) (R:x.length=64):g7 (c + 1) z (d ++ (if zeros x then [] else x))=true:=by
 unfold g7 at h ⊢
 rw [ai]
 cases z with
 | true=>
  have h:d.isEmpty=true:=h
  have:d= []:=List.isEmpty_iff.1 h
  subst this; rfl
 | false=>
  have h:(decide ((d.length:Int)=c * 64) && (List.range (d.length / 64)).all fun k=> !(zeros (e0 d k)))=true:=h
  rw [Bool.and_eq_true,decide_eq_true_eq] at h
  obtain ⟨ah,ae⟩:=h
  obtain ⟨m,rfl⟩:=Int.eq_ofNat_of_zero_le (show 0≤c by omega)
  have ah:d.length=m * 64:=by omega
  show (decide (((d ++ x).length:Int)=((m:Int) + 1) * 64) && (List.range ((d ++ x).length / 64)).all fun k=> !(zeros (e0 (d ++ x) k)))=true
  rw [List.length_append,ah,R,decide_eq_true (by omega),Bool.true_and]
  refine List.all_eq_true.2 fun k ab=> ?_
  have ab:=List.mem_range.1 ab
  by_cases Fq:k < m
  ·
   rw [QU ah Fq]
   exact List.all_eq_true.1 ae k (List.mem_range.2 (by omega))
  ·
   have Fq:k=m:=by omega
   subst Fq
   rw [O4 ah R,ai]; rfl
structure FJ (bs:List (List UInt8)) (l:List Int) (n k:Nat) (rs:List Rec):Prop where
 el:∀r∈rs,1≤r.aX /\ 0≤r.fr /\ r.fr + r.aX≤n /\ g7 r.aX r.zs r.data=true /\ (r.zs=true -> r.data= [])
 be:∀i (h:i + 1 < rs.length),f6 rs[i + 1] rs[i]=true
 AR:∀r,rs[rs.length - 1]? =some r -> 0 < k /\ r.fr + r.aX=l.getD (k - 1) 0 + 1
 FK:∀b:Int,(∃r∈rs,r.fr≤b /\ b < r.fr + r.aX)↔b∈l.take k
 tK:∀r∈rs,r.zs=true -> ∃b∈l,zeros (bs.getD b.toNat [])=true
theorem Ct {bs:List (List UInt8)} {n:Nat} {l:List Int} (ah:∀x∈l,0≤x /\ x < n) (ar:n≤1000) (U:bs.length=n) (dq:∀x∈bs,x.length=64) (af:l.Pairwise (· < ·)):∀k,k≤l.length -> FJ bs l n k (mv bs l k)
 | 0,_=>⟨fun r af=>(by cases af),fun i h=>absurd h (Nat.not_lt_zero _),fun r h=>(by cases h),fun b=>⟨fun ⟨r,af,_⟩=>(by cases af),fun h=>(by rw [List.take_zero] at h; cases h)⟩,fun r af=>(by cases af)⟩
 | k + 1,ab=>by
  have aH:=Ct ah ar U dq af k (by omega)
  have aF:k < l.length:=by omega
  have R:=ah _ (List.getElem_mem aF)
  have dn:l.getD k 0=l[k]:=d6 aF
  have ew:l.take (k + 1)=l.take k ++ [l[k]]:=by rw [List.take_add_one,List.getElem?_eq_getElem aF]; rfl
  unfold mv
  rw [dn]
  generalize mv bs l k=rs at aH
  have c5:l[k].toNat < bs.length:=by omega
  have kZ:(bs.getD l[k].toNat []).length=64:=by rw [d6 c5]; exact dq _ (List.getElem_mem c5)
  have LQ:zeros (bs.getD l[k].toNat [])=true -> ∃b∈l,zeros (bs.getD b.toNat [])=true:=fun h=>⟨l[k],List.getElem_mem aF,h⟩
  generalize bs.getD l[k].toNat []=x at kZ LQ
  have new:(∀r,rs[rs.length - 1]? =some r -> f6 ⟨l[k],1,zeros x,if zeros x then [] else x⟩ r=true) -> FJ bs l n (k + 1) (rs ++ [⟨l[k],1,zeros x,if zeros x then [] else x⟩]):=fun td=>by
   refine ⟨fun r af=> ?_,fun i h=> ?_,fun r h=> ?_,fun b=> ?_,fun r af ai=> ?_⟩
   ·
    rcases List.mem_append.1 af with af | af
    ·
     exact aH.el r af
    ·
     rw [List.mem_singleton] at af
     subst af
     exact ⟨by show (1:Int)≤1; decide,R.1,by show l[k] + 1≤n; omega,O5 kZ,fun h=>by
      have h:zeros x=true:=h
      show (if zeros x then [] else x)= []
      rw [h]; rfl⟩
   ·
    rw [List.length_append,List.length_singleton] at h
    by_cases ad:i + 1 < rs.length
    ·
     rw [List.getElem_append_left ad,List.getElem_append_left (by omega)]
     exact aH.be i ad
    ·
     have qx:i + 1=rs.length:=by omega
     rw [List.getElem_append_left (show i < rs.length by omega),List.getElem_append_right (by omega)]
     simp only [qx,Nat.sub_self,List.getElem_cons_zero]
     exact td _ (by rw [show rs.length - 1=i by omega,List.getElem?_eq_getElem (by omega)])
   ·
    rw [List.length_append,List.length_singleton,Nat.add_sub_cancel,List.getElem?_append_right (Nat.le_refl _),Nat.sub_self] at h
    cases h
    exact ⟨by omega,by rw [Nat.add_sub_cancel,dn]⟩
   ·
    rw [ew,List.mem_append,List.mem_singleton,<- aH.FK b]
    constructor
    ·
     rintro ⟨r,af,J,O⟩
     rcases List.mem_append.1 af with af | af
     ·
      exact .inl ⟨r,af,J,O⟩
     ·
      rw [List.mem_singleton] at af
      subst af
      have J:l[k]≤b:=J
      have O:b < l[k] + 1:=O
      exact .inr (by omega)
    ·
     rintro (⟨r,af,J,O⟩ | rfl)
     ·
      exact ⟨r,List.mem_append_left _ af,J,O⟩
     ·
      exact ⟨_,List.mem_append_right _ (List.mem_singleton_self _),by show l[k]≤l[k]; omega,by show l[k] < l[k] + 1; omega⟩
   ·
    rcases List.mem_append.1 af with af | af
    ·
     exact aH.tK r af ai
    ·
     rw [List.mem_singleton] at af
     subst af
     exact LQ ai
  unfold gU
  cases o7:rs[rs.length - 1]? with
  | none=>exact new fun r h=>by rw [o7] at h; cases h
  | some r=>
   obtain ⟨g1,iz⟩:=aH.AR r o7
   have ax:rs.length - 1 < rs.length:=(List.getElem?_eq_some_iff.1 o7).1
   have LR:rs[rs.length - 1]=r:=(List.getElem?_eq_some_iff.1 o7).2
   have n1:r∈rs:=List.mem_of_getElem? o7
   have pb:=aH.el r n1
   have Mg:l.getD (k - 1) 0=l[k - 1]:=d6 (by omega)
   rw [Mg] at iz
   have afg:l[k - 1] < l[k]:=List.pairwise_iff_getElem.1 af (k - 1) k (by omega) aF (by omega)
   have tB:jq l k↔l[k]=l[k - 1] + 1:=by
    unfold jq
    rw [Mg,dn]
    exact ⟨fun h=>h.2.2,fun h=>⟨g1,by omega,h⟩⟩
   show FJ bs l n (k + 1) (if (!(!decide (jq l k)) && (r.zs==zeros x))=true then rs.set (rs.length - 1) { r with aX:=r.aX + 1,data:=r.data ++ (if zeros x then [] else x)} else rs ++ [⟨l[k],1,zeros x,if zeros x then [] else x⟩])
   rw [Bool.not_not]
   by_cases V:(decide (jq l k) && (r.zs==zeros x))=true
   ·
    rw [if_pos V]
    rw [Bool.and_eq_true,decide_eq_true_eq] at V
    obtain ⟨a4,ai⟩:=V
    have ai:zeros x=r.zs:=(eq_of_beq ai).symm
    have a4:=tB.1 a4
    refine ⟨fun q aB=> ?_,fun i h=> ?_,fun q h=> ?_,fun b=> ?_,fun q aB ig=> ?_⟩
    ·
     rcases List.mem_or_eq_of_mem_set aB with aB | rfl
     ·
      exact aH.el q aB
     ·
      exact ⟨by show 1≤r.aX + 1; omega,pb.2.1,by show r.fr + (r.aX + 1)≤n; omega,NF pb.1 pb.2.2.2.1 ai kZ,fun h=>by
       show r.data ++ (if zeros x then [] else x)= []
       rw [ai,show r.zs=true from h,pb.2.2.2.2 h]; rfl⟩
    ·
     rw [List.length_set] at h
     have jA:=aH.be i h
     by_cases ad:i + 1=rs.length - 1
     ·
      have a8:(rs.set (rs.length - 1) { r with aX:=r.aX + 1,data:=r.data ++ (if zeros x then [] else x)})[i + 1]'(by rw [List.length_set]; exact h)= { r with aX:=r.aX + 1,data:=r.data ++ (if zeros x then [] else x)}:=by
       simp only [ad,List.getElem_set_self]
      have c3:rs[i + 1]=r:=by simp only [ad]; exact LR
      rw [a8,List.getElem_set_ne (by omega)]
      rw [c3] at jA
      exact jA
     ·
      rw [List.getElem_set_ne (by omega),List.getElem_set_ne (by omega)]
      exact jA
    ·
     rw [List.length_set,List.getElem?_set_self ax] at h
     cases h
     exact ⟨by omega,by show r.fr + (r.aX + 1)=_; rw [Nat.add_sub_cancel,dn]; omega⟩
    ·
     rw [ew,List.mem_append,List.mem_singleton,<- aH.FK b]
     constructor
     ·
      rintro ⟨q,aB,J,O⟩
      rcases List.mem_or_eq_of_mem_set aB with aB | rfl
      ·
       exact .inl ⟨q,aB,J,O⟩
      ·
       have J:r.fr≤b:=J
       have O:b < r.fr + (r.aX + 1):=O
       by_cases xI:b < r.fr + r.aX
       ·
        exact .inl ⟨r,n1,J,xI⟩
       ·
        exact .inr (by omega)
     ·
      have lI: { r with aX:=r.aX + 1,data:=r.data ++ (if zeros x then [] else x)}∈rs.set (rs.length - 1) { r with aX:=r.aX + 1,data:=r.data ++ (if zeros x then [] else x)}:=List.mem_set ax _
      rintro (⟨q,aB,J,O⟩ | rfl)
      ·
       obtain ⟨i,ad,rfl⟩:=List.getElem_of_mem aB
       by_cases qy:i=rs.length - 1
       ·
        have e:rs[i]=r:=by simp only [qy]; exact LR
        rw [e] at J O
        exact ⟨_,lI,J,by show b < r.fr + (r.aX + 1); omega⟩
       ·
        refine ⟨rs[i],?_,J,O⟩
        rw [List.mem_iff_getElem?]
        exact ⟨i,by rw [List.getElem?_set_ne (by omega),List.getElem?_eq_getElem ad]⟩
      ·
       exact ⟨_,lI,by show r.fr≤l[k]; omega,by show l[k] < r.fr + (r.aX + 1); omega⟩
    ·
     rcases List.mem_or_eq_of_mem_set aB with aB | rfl
     ·
      exact aH.tK q aB ig
     ·
      exact aH.tK r n1 ig
   ·
    rw [if_neg V]
    refine new fun q aB=> ?_
    rw [o7] at aB
    cases aB
    unfold f6
    show (decide (r.fr + r.aX < l[k]) || (decide (l[k]=r.fr + r.aX) && (zeros x !=r.zs)))=true
    by_cases J:r.fr + r.aX < l[k]
    ·
     rw [decide_eq_true J]; rfl
    ·
     have O:l[k]=r.fr + r.aX:=by omega
     have a4:jq l k:=tB.2 (by omega)
     rw [decide_eq_true a4,Bool.true_and] at V
     rw [decide_eq_true O]
     cases rT:zeros x <;> cases xP:r.zs <;> rw [rT,xP] at V <;> first | (exfalso; exact V rfl) | rw [Bool.or_comm]; rfl
end
end Go.az
namespace Go.az
open Go.Proofs
noncomputable section
set_option maxRecDepth 100000
theorem Co (n k:Nat):er (leBytes n k)=n % 256 ^ k:=by
 induction k generalizing n with
 | zero=>rw [Nat.pow_zero,Nat.mod_one]; rfl
 | succ k aH=>
  show (UInt8.ofNat n).toNat + 256 * er (leBytes (n / 256) k)=_
  rw [aH,Nat.pow_succ',Nat.mod_mul]
  have:(UInt8.ofNat n).toNat=n % 256:=by simp
  rw [this]
theorem nG {w a b:List UInt8} {p n:Nat} (h:w.drop p=a ++ b) (ah:a.length=n):bx w p n=er a:=by
 unfold bx
 rw [h,List.take_left' ah]
theorem oL {w a b:List UInt8} {p n:Nat} (h:w.drop p=a ++ b) (ah:a.length=n):w.drop (p + n)=b:=by
 rw [<- List.drop_drop,h,List.drop_left' ah]
theorem QV {s:cS} (h:fS s=true) (k:Nat):fS { s with aV:=s.aV.take k}=true:=by
 unfold fS at h ⊢
 rw [Bool.and_eq_true] at h ⊢
 refine ⟨h.1,?_⟩
 have O:=h.2
 unfold lz at O ⊢
 refine List.all_eq_true.2 fun i ad=> ?_
 have ad:=List.mem_range.1 ad
 have b5:i < s.aV.length:=by rw [List.length_take] at ad; omega
 have x6:i < k:=by rw [List.length_take] at ad; omega
 have a8:(s.aV.take k).getD i ⟨0,0,false,[]⟩=s.aV.getD i ⟨0,0,false,[]⟩:=by
  rw [List.getD_eq_getElem?_getD,List.getElem?_take,if_pos x6,<- List.getD_eq_getElem?_getD]
 have bk:(s.aV.take k).getD (i - 1) ⟨0,0,false,[]⟩=s.aV.getD (i - 1) ⟨0,0,false,[]⟩:=by
  rw [List.getD_eq_getElem?_getD,List.getElem?_take,if_pos (by omega),<- List.getD_eq_getElem?_getD]
 show (cV s.blocks s.base ((s.aV.take k).getD i ⟨0,0,false,[]⟩) && (decide (i=0) || f6 ((s.aV.take k).getD i ⟨0,0,false,[]⟩) ((s.aV.take k).getD (i - 1) ⟨0,0,false,[]⟩)))=true
 rw [a8,bk]
 exact List.all_eq_true.1 O i (List.mem_range.2 b5)
theorem De (l:List UInt8):er (leBytes (ei l) 8)=ei l:=by
 rw [Co]; exact Nat.mod_eq_of_lt (Gw l)
theorem wq {n:Int} {k:Nat} {m:Nat} (aD:0≤n) (J:n < m) (hm:m=256 ^ k):((er (leBytes n.toNat k):Nat):Int)=n:=by
 rw [Co,Nat.mod_eq_of_lt (by omega)]; omega
theorem S1 {w FR:List UInt8} {p:Nat} {s:cS} {r:Rec} (hw:w.drop p=lH r ++ FR) (aR:p≤w.length) (U:s.blocks≤64) (af:cV s.blocks s.base r=true) (ai:r.zs=true -> r.data= []) (a4:fS (s.snoc r)=true):
 fw w p s=0 /\ jp w p=r.data.length /\ recAt w p=r:=by
 obtain ⟨cf,ck,kH,sh⟩:=BF af
 have aw:r.zs=false -> (r.data.length:Int)=r.aX * 64:=fun h=>by
  unfold cV at af
  simp only [Bool.not_eq_true',Bool.or_eq_false_iff,Bool.not_eq_false'] at af
  have J:g7 r.aX r.zs r.data=true:=af.1.2
  unfold g7 at J
  rw [h] at J
  have J:(decide ((r.data.length:Int)=r.aX * 64) && _)=true:=J
  rw [Bool.and_eq_true,decide_eq_true_eq] at J
  exact J.1
 have e:lH r=([if r.zs then 2 else 1] ++ (leBytes r.fr.toNat 2 ++ (leBytes r.aX.toNat 2 ++ r.data))) ++ leBytes (ei ([if r.zs then 2 else 1] ++ (leBytes r.fr.toNat 2 ++ (leBytes r.aX.toNat 2 ++ r.data)))) 8:=by
  unfold lH nA
  rw [List.flatten_cons,List.flatten_cons,List.flatten_cons,List.flatten_cons,List.flatten_nil,List.append_nil]
 generalize qE: [if r.zs then (2:UInt8) else 1] ++ (leBytes r.fr.toNat 2 ++ (leBytes r.aX.toNat 2 ++ r.data))=Y at e
 have aew:Y.length=5 + r.data.length:=by rw [<- qE]; simp [eX]; omega
 rw [e,List.append_assoc] at hw
 have hlen:w.length=p + (5 + r.data.length + (8 + FR.length)):=by
  have:=congrArg List.length hw
  rw [List.length_drop,List.length_append,List.length_append,eX,aew] at this
  omega
 have aD:w.drop p= [if r.zs then (2:UInt8) else 1] ++ (leBytes r.fr.toNat 2 ++ (leBytes r.aX.toNat 2 ++ (r.data ++ (leBytes (ei Y) 8 ++ FR)))):=by
  rw [hw,<- qE]; simp only [List.append_assoc]
 have J:=oL (n:=1) aD rfl
 have ag:=oL (n:=2) J (eX _ _)
 have bH:=oL (n:=2) ag (eX _ _)
 have iq:=oL (n:=r.data.length) bH rfl
 have d':=nG (n:=1) aD rfl
 have hU:=nG (n:=2) J (eX _ _)
 have pu:=nG (n:=2) ag (eX _ _)
 have Mh:=nG (n:=8) iq (eX _ _)
 rw [De] at Mh
 have v1:=wq (n:=r.fr) (k:=2) (m:=65536) ck (by omega) rfl
 have pA:=wq (n:=r.aX) (k:=2) (m:=65536) (by omega) (by omega) rfl
 rw [<- hU] at v1
 rw [<- pu] at pA
 have v0:bx w p 1=if r.zs then 2 else 1:=by
  rw [d']
  show (if r.zs then (2:UInt8) else 1).toNat + 256 * 0=_
  cases r.zs <;> rfl
 have bm:jp w p=r.data.length:=by
  unfold jp
  rw [v0]
  show (if (if r.zs then 2 else 1)=1 then bx w (p + 1 + 2) 2 * 64 else 0)=_
  cases lb:r.zs with
  | true=>rw [ai lb]; rfl
  | false=>
   have:=aw lb
   show bx w (p + 1 + 2) 2 * 64=_
   omega
 have LS:recAt w p=r:=by
  unfold recAt
  rw [bm,show p + 3=p + 1 + 2 from rfl,show p + 5=p + 1 + 2 + 2 from rfl,v1,pA,bH,List.take_left' rfl,v0]
  cases lb:r.zs with
  | true=>obtain ⟨a,b,c,d⟩:=r; cases lb; rfl
  | false=>obtain ⟨a,b,c,d⟩:=r; cases lb; rfl
 refine ⟨?_,bm,LS⟩
 have h4:(bx w (p + 1) 2:Int)=r.fr:=v1
 have Ee:(bx w (p + 3) 2:Int)=r.aX:=pA
 have aex:bx w (p + 5 + r.data.length) 8=ei Y:=Mh
 have ew:(w.take (p + 5 + r.data.length)).drop p=Y:=by
  rw [List.drop_take,hw,List.take_left' (by omega)]
 unfold fw
 rw [bm,LS,if_neg (by omega),if_neg (by rw [v0]; cases r.zs <;> decide),if_neg (by omega),if_neg (by omega),if_neg (by rw [ew,aex]; exact fun h=>h rfl),if_neg (by rw [a4]; decide)]
theorem U7 {s:cS} {i:Nat} (ad:i < s.aV.length):gJ s s.aV.length=gJ s i ++ (lH s.aV[i] ++ ((s.aV.drop (i + 1)).map lH).flatten):=by
 have e:s.aV.take s.aV.length=s.aV.take i ++ (s.aV[i] :: s.aV.drop (i + 1)):=by
  rw [List.take_length,List.getElem_cons_drop,List.take_append_drop]
 unfold gJ
 rw [e,List.map_append,List.flatten_append,List.map_cons,List.flatten_cons,List.append_assoc]
theorem Is {s:cS} {w vM:List UInt8} (hw:w=gJ s s.aV.length ++ vM) (a4:fS s=true) (ai:∀r∈s.aV,r.zs=true -> r.data= []) (U:s.blocks≤64):∀j i,i + j=s.aV.length ->
 lv w j (gJ s i).length { s with aV:=s.aV.take i}=(0,(gJ s s.aV.length).length,s)
 | 0,i,h=>by
  obtain rfl:i=s.aV.length:=by omega
  rw [List.take_length]; rfl
 | j + 1,i,h=>by
  have ad:i < s.aV.length:=by omega
  have ae:=U7 ad
  have aw:w.drop (gJ s i).length=lH s.aV[i] ++ (((s.aV.drop (i + 1)).map lH).flatten ++ vM):=by
   rw [hw,ae,List.append_assoc,List.drop_left' rfl,List.append_assoc]
  have hle:(gJ s i).length≤w.length:=by rw [hw,ae,List.length_append,List.length_append]; omega
  have nc:cS.snoc { s with aV:=s.aV.take i} s.aV[i]= { s with aV:=s.aV.take (i + 1)}:=by
   unfold cS.snoc
   show ({ s with aV:=s.aV.take i ++ [s.aV[i]]}:cS)=_
   rw [List.take_add_one,List.getElem?_eq_getElem ad]; rfl
  have tB:=(vS a4).2.2.2.2.2.2
  obtain ⟨a8,bk,c3⟩:=S1 (s:= { s with aV:=s.aV.take i}) aw hle U (Dd tB ad) (ai _ (List.getElem_mem ad)) (by rw [nc]; exact QV a4 (i + 1))
  unfold lv
  rw [if_pos a8,bk,c3,nc]
  have aR:(gJ s i).length + 5 + s.aV[i].data.length + 8=(gJ s (i + 1)).length:=by
   rw [BE ad,List.length_append,Ck]; omega
  rw [aR]
  exact Is hw a4 ai U j (i + 1) (by omega)
theorem S2 {b:List UInt8} {w:List UInt8} (hw:w=b ++ ([69] ++ leBytes (ei b) 8)):lA w b.length=0:=by
 have aD:w.drop b.length= [69] ++ (leBytes (ei b) 8 ++ []):=by rw [hw,List.drop_left' rfl,List.append_nil]
 have J:=oL (n:=1) aD rfl
 have d':=nG (n:=1) aD rfl
 have hU:=nG (n:=8) J (eX _ _)
 rw [De] at hU
 have hlen:w.length=b.length + 9:=by rw [hw,List.length_append,List.length_append,eX]; rfl
 have ew:w.take b.length=b:=by rw [hw,List.take_left' rfl]
 have v0:bx w b.length 1=69:=d'
 unfold lA
 rw [if_neg (by omega),if_neg (by rw [v0]; exact fun h=>h rfl),if_neg (by rw [ew,hU]; exact fun h=>h rfl),if_neg (by omega)]
theorem QW {s:cS} {w vM:List UInt8} (hw:w=mq s ++ vM) (a4:fS s=true) (ar:s.aV.length≤65535):iv w=0 /\ bx w 14 2=s.aV.length /\ l_ w= { s with aV:= []}:=by
 obtain ⟨cg,cn,bW,fb,b6,dy,_⟩:=vS a4
 have jS:s.base= -1∨(1≤s.base /\ s.base < s.id):=by
  unfold fS gl at a4
  rw [Bool.and_eq_true] at a4
  have nf:=a4.1
  simp only [Bool.not_eq_true',Bool.or_eq_false_iff,Bool.and_eq_false_iff,decide_eq_false_iff_not,Bool.not_eq_false',decide_eq_true_eq] at nf
  omega
 have e:mq s=([82,86,83,49] ++ (leBytes s.blocks.toNat 2 ++ (leBytes (s.base + 1).toNat 4 ++ (leBytes s.id.toNat 4 ++ leBytes s.aV.length 2)))) ++ leBytes (ei ([82,86,83,49] ++ (leBytes s.blocks.toNat 2 ++ (leBytes (s.base + 1).toNat 4 ++ (leBytes s.id.toNat 4 ++ leBytes s.aV.length 2))))) 8:=by
  unfold mq nA
  rw [List.flatten_cons,List.flatten_cons,List.flatten_cons,List.flatten_cons,List.flatten_cons,List.flatten_nil,List.append_nil]
 generalize e7:([82,86,83,49]:List UInt8) ++ (leBytes s.blocks.toNat 2 ++ (leBytes (s.base + 1).toNat 4 ++ (leBytes s.id.toNat 4 ++ leBytes s.aV.length 2)))=X at e
 have LU:X.length=16:=by rw [<- e7]; simp [eX]
 rw [e,List.append_assoc] at hw
 have hlen:w.length=16 + (8 + vM.length):=by rw [hw,List.length_append,List.length_append,eX,LU]
 have aD:w.drop 0= [82,86,83,49] ++ (leBytes s.blocks.toNat 2 ++ (leBytes (s.base + 1).toNat 4 ++ (leBytes s.id.toNat 4 ++ (leBytes s.aV.length 2 ++ (leBytes (ei X) 8 ++ vM))))):=by
  rw [List.drop_zero,hw,<- e7]; simp only [List.append_assoc]
 have aP:=oL (n:=4) aD rfl
 have eC:=oL (n:=2) aP (eX _ _)
 have vl:=oL (n:=4) eC (eX _ _)
 have LV:=oL (n:=4) vl (eX _ _)
 have aey:=oL (n:=2) LV (eX _ _)
 have pt:=nG (n:=2) aP (eX _ _)
 have tX:=nG (n:=4) eC (eX _ _)
 have aez:=nG (n:=4) vl (eX _ _)
 have aeA:=nG (n:=2) LV (eX _ _)
 have LW:=nG (n:=8) aey (eX _ _)
 rw [De] at LW
 have v4:=wq (n:=s.blocks) (k:=2) (m:=65536) (by omega) (by omega) rfl
 have v6:=wq (n:=s.base + 1) (k:=4) (m:=4294967296) (by omega) (by omega) rfl
 have v10:=wq (n:=s.id) (k:=4) (m:=4294967296) (by omega) (by omega) rfl
 rw [<- pt] at v4
 rw [<- tX] at v6
 rw [<- aez] at v10
 have c5:cD w=s.blocks:=v4
 have Fh:dc w=s.base:=by
  unfold dc
  have:(bx w 6 4:Int)=s.base + 1:=v6
  omega
 have ky:dJ w=s.id:=v10
 have o5:bx w 14 2=s.aV.length:=by
  have:bx w 14 2=er (leBytes s.aV.length 2):=aeA
  rw [this,Co]
  exact Nat.mod_eq_of_lt (by omega)
 have ab1:w.take 4= [82,86,83,49]:=by
  rw [List.drop_zero] at aD
  rw [aD]; exact List.take_left' rfl
 have ew:w.take 16=X:=by rw [hw,List.take_left' LU]
 have ab2:bx w 16 8=ei X:=LW
 refine ⟨?_,o5,?_⟩
 ·
  unfold iv
  rw [c5,Fh,ky,if_neg (by omega),if_neg (by rw [ab1]; exact fun h=>h rfl),if_neg (by omega),if_neg (by rw [ew,ab2]; exact fun h=>h rfl),if_neg (by omega),if_neg (by omega)]
 ·
  unfold l_
  rw [c5,Fh,ky]
theorem O6 {s:cS} (a4:fS s=true) (ar:s.aV.length≤65535) (ai:∀r∈s.aV,r.zs=true -> r.data= []):eq (gm s)=(0,s):=by
 have U:=(vS a4).2.1
 have hw:gm s=gJ s s.aV.length ++ ([69] ++ leBytes (ei (gJ s s.aV.length)) 8):=by
  unfold gm
  rw [List.flatten_cons,List.flatten_cons,List.flatten_cons,List.flatten_nil,List.append_nil]
 have k7:gm s=mq s ++ (((s.aV.take s.aV.length).map lH).flatten ++ ([69] ++ leBytes (ei (gJ s s.aV.length)) 8)):=by
  rw [hw]
  show (mq s ++ _) ++ _=_
  rw [List.append_assoc]
 obtain ⟨J,O,ag⟩:=QW k7 a4 ar
 have aP:=Is hw a4 ai U s.aV.length 0 (by omega)
 have bH:=S2 hw
 have aeB:(gJ s 0).length=24:=by
  unfold gJ
  rw [List.take_zero]
  show (mq s ++ []).length=24
  rw [List.append_nil,yS]
 rw [aeB,List.take_zero] at aP
 unfold eq
 rw [if_neg (by rw [J]; exact fun h=>h rfl),O,ag,aP]
 show (if (0:Int)≠0 then _ else _)=_
 rw [if_neg (by decide),if_neg (by rw [bH]; exact fun h=>h rfl)]
end
end Go.az
namespace Go.az
open Go.Proofs
noncomputable section
set_option maxRecDepth 100000
theorem BY {n:Nat} {base id:Int} {s:bq} {l:List Int} (ar:1≤n /\ n≤64) (gz:s.bs.length=n) (dq:∀x∈s.bs,x.length=64) (ah:∀x∈l,0≤x /\ x < n) (af:l.Pairwise (· < ·)) (ad:1≤id /\ id≤1000000)
 (U:(base= -1 /\ ∀x∈l,zeros (s.bs.getD x.toNat [])=false)∨(1≤base /\ base < id)):
 fS (gk n base id s l)=true /\ (∀r∈(gk n base id s l).aV,r.zs=true -> r.data= []) /\ (∀r∈(gk n base id s l).aV,1≤r.aX /\ 0≤r.fr /\ r.fr + r.aX≤n) /\ ∀b:Int,(∃r∈(gk n base id s l).aV,r.fr≤b /\ b < r.fr + r.aX)↔b∈l:=by
 have aZ:=Ct ah (by omega) gz dq af l.length (Nat.le_refl _)
 have he:(gk n base id s l).aV=mv s.bs l l.length:=Bq ah (by omega) l.length (Nat.le_refl _)
 rw [he]
 have AI:=aZ.FK
 rw [List.take_length] at AI
 refine ⟨?_,fun r af=>(aZ.el r af).2.2.2.2,fun r af=>⟨(aZ.el r af).1,(aZ.el r af).2.1,(aZ.el r af).2.2.1⟩,AI⟩
 unfold fS
 rw [Bool.and_eq_true]
 refine ⟨?_,?_⟩
 ·
  unfold gl
  show (!(decide ((n:Int) < 1) || decide (64 < (n:Int)) || decide (id < 1) || decide (1000000 < id) || (!(decide (base= -1)) && (decide (base < 1) || decide (id≤base)))))=true
  rw [decide_eq_false (by omega),decide_eq_false (by omega),decide_eq_false (by omega),decide_eq_false (by omega)]
  rcases U with ⟨h,_⟩ | ⟨J,O⟩
  ·
   rw [decide_eq_true h]; rfl
  ·
   rw [decide_eq_false (show ¬base= -1 by omega),decide_eq_false (by omega),decide_eq_false (by omega)]; rfl
 ·
  unfold lz
  show ((List.range (gk n base id s l).aV.length).all fun i=>cV n base ((gk n base id s l).aV.getD i ⟨0,0,false,[]⟩) && (decide (i=0) || f6 ((gk n base id s l).aV.getD i ⟨0,0,false,[]⟩) ((gk n base id s l).aV.getD (i - 1) ⟨0,0,false,[]⟩)))=true
  rw [he]
  refine List.all_eq_true.2 fun i ad=> ?_
  have ad:=List.mem_range.1 ad
  rw [d6 ad]
  have pb:=aZ.el _ (List.getElem_mem ad)
  have aeC:=aZ.tK _ (List.getElem_mem ad)
  rw [Bool.and_eq_true]
  refine ⟨?_,?_⟩
  ·
   unfold cV
   rw [decide_eq_false (by omega),decide_eq_false (by omega),decide_eq_false (by omega),decide_eq_false (by omega),pb.2.2.2.1]
   rcases U with ⟨h,ai⟩ | ⟨J,O⟩
   ·
    cases qm:(mv s.bs l l.length)[i].zs with
    | false=>rw [Bool.and_false]; rfl
    | true=>
     obtain ⟨b,kx,jB⟩:=aeC qm
     rw [ai b kx] at jB; cases jB
   ·
    rw [decide_eq_false (show ¬base= -1 by omega)]; rfl
  ·
   cases i with
   | zero=>rfl
   | succ i=>
    rw [decide_eq_false (by omega),Bool.false_or,Nat.add_sub_cancel,d6 (show i < (mv s.bs l l.length).length by omega)]
    exact aZ.be i ad
theorem HG {n:Nat} {base id:Int} {s:bq} {l:List Int} (ar:1≤n /\ n≤64) (gz:s.bs.length=n) (dq:∀x∈s.bs,x.length=64) (ah:∀x∈l,0≤x /\ x < n) (fm:l.length≤n) (af:l.Pairwise (· < ·)) (ad:1≤id /\ id≤1000000)
 (U:(base= -1 /\ ∀x∈l,zeros (s.bs.getD x.toNat [])=false)∨(1≤base /\ base < id)):nM (gk n base id s l)=(gm (gk n base id s l),0) /\ eq (gm (gk n base id s l))=(0,gk n base id s l):=by
 obtain ⟨J,O,_,_⟩:=BY ar gz dq ah af ad U
 have ag:=(vU (base:=base) (id:=id) (s:=s) ar.2 fm ah dq).1
 exact ⟨if_pos J,O6 J (by omega) O⟩
theorem BH (aL:List bq) (base:Int) (to:Nat):∀n,(iA aL base to n).Pairwise (· < ·) /\ (∀x∈iA aL base to n,0≤x /\ x < n) /\ (iA aL base to n).length≤n /\ ∀b:Nat,(b:Int)∈iA aL base to n↔b < n /\ rk aL base b (to - base.toNat)=true
 | 0=>⟨List.Pairwise.nil,fun x h=>(by cases h),Nat.le_refl _,fun b=>⟨fun h=>(by cases h),fun h=>absurd h.1 (Nat.not_lt_zero _)⟩⟩
 | n + 1=>by
  obtain ⟨J,O,ag,aP⟩:=BH aL base to n
  unfold iA
  by_cases V:rk aL base n (to - base.toNat)=true
  ·
   rw [if_pos V]
   refine ⟨?_,fun x R=> ?_,?_,fun b=> ?_⟩
   ·
    rw [List.pairwise_append]
    exact ⟨J,List.pairwise_singleton _ _,fun a ae b U=>by rw [List.mem_singleton] at U; have:=O a ae; omega⟩
   ·
    rcases List.mem_append.1 R with R | R
    ·
     have:=O x R; omega
    ·
     rw [List.mem_singleton] at R; omega
   ·
    rw [List.length_append,List.length_singleton]; omega
   ·
    rw [List.mem_append,List.mem_singleton,aP b]
    constructor
    ·
     rintro (⟨h,aQ⟩ | h)
     ·
      exact ⟨by omega,aQ⟩
     ·
      have:b=n:=by omega
      subst this
      exact ⟨by omega,V⟩
    ·
     rintro ⟨h,aQ⟩
     by_cases U:b < n
     ·
      exact .inl ⟨U,aQ⟩
     ·
      exact .inr (by omega)
  ·
   rw [if_neg V]
   refine ⟨J,fun x R=>by have:=O x R; omega,by omega,fun b=> ?_⟩
   rw [aP b]
   constructor
   ·
    rintro ⟨h,aQ⟩
    exact ⟨by omega,aQ⟩
   ·
    rintro ⟨h,aQ⟩
    by_cases U:b < n
    ·
     exact ⟨U,aQ⟩
    ·
     have:b=n:=by omega
     subst this
     exact absurd aQ V
end
end Go.az
namespace Go.az
open Go.Proofs
noncomputable section
set_option maxRecDepth 100000
theorem iD.ed {H:aa} {p:Nat} {m:cu} {F:Nat -> Prop} (h:iD H p m F) {c:Nat} (V:¬F c) (z:bf):iD (aN H c z) p m F:=by
 obtain ⟨zs,bv,aA,bo,ee,rfl⟩:=h
 refine ⟨zs,bv,aA,⟨(cY fun h=>V (.inl h.symm)).trans bo.m,bo.lt,bo.b.ed (.inr fun h=>V (.inr (.inl h))),bo.s.ed ?_,fun q aB=>(bo.w q aB).ed (.inr fun h=>V (.inr (.inr (.inr ⟨q,aB,h⟩)))),bo.lj,bo.bg,bo.fo,bo.n,bo.k⟩,ee,rfl⟩
 by_cases aG:aA= .aE
 ·
  exact .inl aG
 ·
  exact .inr fun h=>V (.inr (.inr (.inl ⟨aG,h⟩)))
def yu (aL:List bq) (b:Nat):Bool:=aL.any fun s=>s.w.getD b false
theorem sq (l:List Bool) (i j:Nat) (ad:i < l.length):(l.set i true).getD j false=(l.getD j false || decide (j=i)):=by
 rw [List.getD_eq_getElem?_getD,List.getElem?_set]
 by_cases h:i=j
 ·
  subst h
  rw [if_pos rfl,if_pos ad,decide_eq_true rfl,Bool.or_true]; rfl
 ·
  rw [if_neg h,decide_eq_false (fun e=>h e.symm),Bool.or_false,List.getD_eq_getElem?_getD]
theorem QX (pre:List bq) (z:bq) (b:Nat):hY (pre ++ [z]) b=pre ++ [{ z with w:=z.w.set b true}]:=by
 unfold hY
 rw [List.length_append,List.length_singleton,Nat.add_sub_cancel,List.getElem?_append_right (Nat.le_refl _),Nat.sub_self]
 show (pre ++ [z]).set pre.length _=_
 rw [List.set_append_right _ _ (Nat.le_refl _),Nat.sub_self]; rfl
theorem W4 {aL:List bq} {n b:Nat} (ai:∀s∈aL,s.w.length=n) (aD:aL≠ []) (U:b < n) (x:Nat):yu (hY aL b) x=(yu aL x || decide (x=b)):=by
 obtain ⟨pre,z,rfl⟩:∃pre z,aL=pre ++ [z]:=⟨_,_,(List.dropLast_concat_getLast aD).symm⟩
 have gf:z.w.length=n:=ai z (List.mem_append_right _ (List.mem_singleton_self _))
 rw [QX]
 unfold yu
 rw [List.any_append,List.any_append]
 show (_ || ((z.w.set b true).getD x false || false))=((_ || (z.w.getD x false || false)) || _)
 rw [sq _ _ _ (by omega),Bool.or_false,Bool.or_false,Bool.or_assoc]
structure tY (m:cu) (n t:Nat) (wr:List Bool):Prop where
 ok:m.ok
 bg:m.bs.length=n
 ids:dM m.aL=(List.range t).map fun i:Nat=>(i:Int) + 1
 nx:m.next=t + 1
 wl:wr.length=16
 un:∀x,x < 16 -> wr.getD x false=yu m.aL x
theorem tY.len {m:cu} {n t:Nat} {wr:List Bool} (h:tY m n t wr):m.aL.length=t:=by
 have:=congrArg List.length h.ids
 unfold dM at this
 rw [List.length_map,List.length_map,List.length_range] at this
 exact this
theorem tY.write {m:cu} {n t:Nat} {wr:List Bool} (h:tY m n t wr) (bh:1≤t) {b:Nat} (U:b < n) (ar:n≤16) {d:List UInt8} (aw:d.length=64) (ai:∀s∈m.aL,s.w.length=m.bs.length):
 ∃bY,gV m ⟨2,(b:Nat),0,0,0,d⟩=(bad 0,bY) /\ tY bY n t (wr.set b true):=by
 have hC:=wa (x:=⟨2,(b:Nat),0,0,0,d⟩) h.ok (by show d.length≤_; omega)
 have es:gV m ⟨2,(b:Nat),0,0,0,d⟩=(bad 0,{ m with bs:=m.bs.set b d,aL:=hY m.aL b}):=by
  show jZ m (b:Nat) d=_
  unfold jZ
  rw [if_pos ⟨aw,⟨by omega,by rw [h.bg]; omega⟩⟩]; rfl
 rw [es] at hC
 have ah:=h.len
 refine ⟨_,es,hC,?_,?_,h.nx,by rw [List.length_set]; exact h.wl,fun x R=> ?_⟩
 ·
  show (m.bs.set b d).length=n
  rw [List.length_set,h.bg]
 ·
  show dM (hY m.aL b)=_
  rw [Cn,h.ids]
 ·
  show _=yu (hY m.aL b) x
  rw [W4 (n:=n) (fun s aG=>by rw [ai s aG,h.bg]) (by rintro aD; rw [aD] at ah; have:0=t:=ah; omega) U,sq _ _ _ (by rw [h.wl]; omega),h.un x R]
theorem It (a b:List Bool):∀k x,k≤a.length -> (oW a b k).getD x false=(a.getD x false || (decide (x < k) && b.getD x false))
 | 0,x,_=>by
  rw [decide_eq_false (Nat.not_lt_zero _),Bool.false_and,Bool.or_false]; rfl
 | k + 1,x,ab=>by
  have aH:=It a b k x (by omega)
  unfold oW
  by_cases V:b.getD k false=true
  ·
   rw [if_pos V,sq _ _ _ (by rw [QP]; omega),aH]
   by_cases R:x=k
   ·
    subst R
    rw [decide_eq_true rfl,decide_eq_true (Nat.lt_succ_self _),V]; simp
   ·
    rw [decide_eq_false R,Bool.or_false]
    by_cases aF:x < k
    ·
     rw [decide_eq_true aF,decide_eq_true (by omega)]
    ·
     rw [decide_eq_false aF,decide_eq_false (by omega)]
  ·
   rw [if_neg V,aH]
   by_cases R:x=k
   ·
    subst R
    have V:b.getD x false=false:=by cases h:b.getD x false <;> first | rfl | exact absurd h V
    rw [V,Bool.and_false,Bool.and_false]
   ·
    by_cases aF:x < k
    ·
     rw [decide_eq_true aF,decide_eq_true (by omega)]
    ·
     rw [decide_eq_false aF,decide_eq_false (by omega)]
theorem tY.fin {m:cu} {n:Nat} {wr:List Bool} {B:List (List UInt8)} {pre:List bq} (h:tY m n 3 wr) (ar:1≤n /\ n≤16) (aG:m.aL=pre ++ [⟨3,B,List.replicate n false⟩]) (ai:∀s∈m.aL,s.w.length=m.bs.length) (U:∀s∈m.aL,s.bs.length=m.bs.length) (dq:∀s∈m.aL,∀x∈s.bs,x.length=64):
 ∃bY st,gV m ⟨6,0,0,2,0,[]⟩=(bad 0,bY) /\ bY.ok /\ bY.bs=m.bs /\ dM bY.aL= [1,3] /\ gV bY ⟨10,0,0,3,1,[]⟩=((gm st,0,0),bY) /\ eq (gm st)=(0,st) /\ st.aV.length≤100 /\ (gm st).length≤600000 /\ (∀r∈st.aV,1≤r.aX /\ 0≤r.fr /\ r.fr + r.aX≤n) /\
  ∀x,x < 16 -> (wr.getD x false=true↔∃r∈st.aV,r.fr≤(x:Int) /\ (x:Int) < r.fr + r.aX):=by
 have ah:=h.len
 have ho:pre.length=2:=by rw [aG,List.length_append,List.length_singleton] at ah; omega
 obtain ⟨s1,s2,rfl⟩:∃a b,pre= [a,b]:=by
  match pre,ho with
  | [a,b],_=>exact ⟨a,b,rfl⟩
 have aG:m.aL= [s1,s2,⟨3,B,List.replicate n false⟩]:=aG
 have D7:=h.ids
 rw [aG] at D7
 have qx:s1.id=1:=by
  have: [s1.id,s2.id,3]= [((0:Nat):Int) + 1,((1:Nat):Int) + 1,((2:Nat):Int) + 1]:=D7
  exact (List.cons.inj this).1
 have Fe:s2.id=2:=by
  have: [s1.id,s2.id,3]= [((0:Nat):Int) + 1,((1:Nat):Int) + 1,((2:Nat):Int) + 1]:=D7
  exact (List.cons.inj (List.cons.inj this).2).1
 have dE:s1.w.length=n:=(ai s1 (by rw [aG]; simp)).trans h.bg
 have hC:=wa (x:=⟨6,0,0,2,0,[]⟩) h.ok (by decide)
 have KC:hl m.aL 2=1:=by
  rw [aG]
  unfold hl hZ
  simp [List.findIdx?_cons,qx,Fe]
 have es:gV m ⟨6,0,0,2,0,[]⟩=(bad 0,{ m with aL:= [{ s1 with w:=oW s1.w s2.w n},⟨3,B,List.replicate n false⟩]}):=by
  show ui m 2=_
  unfold ui
  rw [if_neg (by rw [KC]; decide),KC,h.bg]
  show (bad 0,({ m with aL:=sU m.aL 1 n}:cu))=_
  rw [aG]; rfl
 rw [es] at hC
 have fI:B.length=n:=(U ⟨3,B,List.replicate n false⟩ (by rw [aG]; simp)).trans h.bg
 have D8:∀x∈B,x.length=64:=dq ⟨3,B,List.replicate n false⟩ (by rw [aG]; simp)
 obtain ⟨gB,D9⟩:∃s:bq,s= { s1 with w:=oW s1.w s2.w n}:=⟨_,rfl⟩
 have D_:gB.id=1:=by rw [D9]; exact qx
 have ab3:∀x,x < n -> gB.w.getD x false=(s1.w.getD x false || s2.w.getD x false):=fun x R=>by
  rw [D9]
  show (oW s1.w s2.w n).getD x false=_
  rw [It _ _ _ _ (by omega),decide_eq_true R,Bool.true_and]
 rw [<- D9] at es hC
 obtain ⟨bc,a9,bt,gC⟩:=BH [gB,⟨3,B,List.replicate n false⟩] 0 1 n
 obtain ⟨a8,bk⟩:=HG (s:=⟨3,B,List.replicate n false⟩) (base:=1) (id:=3) ⟨ar.1,by omega⟩ fI D8 a9 bt bc (by decide) (.inr (by decide))
 obtain ⟨cg,cn,bW,fb⟩:=BY (s:=⟨3,B,List.replicate n false⟩) (base:=1) (id:=3) ⟨ar.1,by omega⟩ fI D8 a9 bc (by decide) (.inr (by decide))
 obtain ⟨hq,jJ⟩:=vU (s:=⟨3,B,List.replicate n false⟩) (base:=1) (id:=3) (n:=n) (by omega) bt a9 D8
 have ph:hl [gB,⟨3,B,List.replicate n false⟩] 3=1:=by
  unfold hl hZ
  simp [List.findIdx?_cons,D_]
 have g0:hl [gB,⟨3,B,List.replicate n false⟩] 1=0:=by
  unfold hl hZ
  simp [List.findIdx?_cons,D_]
 have he:gV { m with aL:= [gB,⟨3,B,List.replicate n false⟩]} ⟨10,0,0,3,1,[]⟩=((gm (gk n 1 3 ⟨3,B,List.replicate n false⟩ (iA [gB,⟨3,B,List.replicate n false⟩] 0 1 n)),0,0),{ m with aL:= [gB,⟨3,B,List.replicate n false⟩]}):=by
  show (sC { m with aL:= [gB,⟨3,B,List.replicate n false⟩]} 1 3,_)=_
  have ex:oI m.bs.length [gB,⟨3,B,List.replicate n false⟩] 1 3=(gm (gk n 1 3 ⟨3,B,List.replicate n false⟩ (iA [gB,⟨3,B,List.replicate n false⟩] 0 1 n)),0):=by
   unfold oI
   rw [ph,g0,if_neg (by decide),if_neg (by decide),h.bg]
   show nM (gk n 1 3 ⟨3,B,List.replicate n false⟩ (sP [gB,⟨3,B,List.replicate n false⟩] ⟨3,B,List.replicate n false⟩ n 1 0 1))=_
   have:sP [gB,⟨3,B,List.replicate n false⟩] ⟨3,B,List.replicate n false⟩ n 1 0 1=iA [gB,⟨3,B,List.replicate n false⟩] 0 1 n:=if_neg (by decide)
   rw [this,a8]
  unfold sC
  rw [show ({ m with aL:= [gB,⟨3,B,List.replicate n false⟩]}:cu).bs=m.bs from rfl,show ({ m with aL:= [gB,⟨3,B,List.replicate n false⟩]}:cu).aL= [gB,⟨3,B,List.replicate n false⟩] from rfl,ex]
  rfl
 refine ⟨_,_,es,hC,rfl,?_,he,bk,hq,?_,bW,fun x R=> ?_⟩
 ·
  show [gB.id,3]=_
  rw [D_]
 ·
  have aD:=vY (fun r af=>(jJ r af).1) _ (Nat.le_refl (gk n 1 3 ⟨3,B,List.replicate n false⟩ (iA [gB,⟨3,B,List.replicate n false⟩] 0 1 n)).aV.length)
  unfold gm
  rw [List.flatten_cons,List.flatten_cons,List.flatten_cons,List.flatten_nil,List.append_nil,List.length_append,List.length_append,eX]
  show _ + (1 + 8)≤_
  omega
 ·
  rw [h.un x R,fb x,gC x,aG]
  show ((s1.w.getD x false || (s2.w.getD x false || ((List.replicate n false).getD x false || false)))=true)↔_
  have af:(List.replicate n false).getD x false=false:=by
   rw [List.getD_eq_getElem?_getD,List.getElem?_replicate]
   split <;> rfl
  rw [af,Bool.or_false,Bool.or_false]
  have Ep:rk [gB,⟨3,B,List.replicate n false⟩] 0 x (1 - Int.toNat 0)=gB.w.getD x false:=by
   show (decide ((0:Int) < 0) || gB.w.getD x false)=_
   rw [decide_eq_false (by decide),Bool.false_or]
  rw [Ep]
  have mC:¬x < n -> s1.w.getD x false=false /\ s2.w.getD x false=false:=fun aQ=>by
   have k7:s2.w.length=n:=(ai s2 (by rw [aG]; simp)).trans h.bg
   exact ⟨by rw [List.getD_eq_getElem?_getD,List.getElem?_eq_none (by omega)]; rfl,by rw [List.getD_eq_getElem?_getD,List.getElem?_eq_none (by omega)]; rfl⟩
  by_cases pn:x < n
  ·
   rw [ab3 x pn]
   exact ⟨fun h=>⟨pn,h⟩,fun h=>h.2⟩
  ·
   obtain ⟨bI,bN⟩:=mC pn
   rw [bI,bN]
   exact ⟨fun h=>(by cases h),fun h=>absurd h.1 pn⟩
end
end Go.az
namespace Go.az
open Go.Proofs
noncomputable section
set_option maxRecDepth 100000
theorem ab4:bE.fn 88=some Try.f88:=by kernel_rfl
theorem ab5:bE.fn 63=some Try.f63:=by kernel_rfl
theorem ab6:bE.fn 87=some Try.f87:=by kernel_rfl
theorem ab7:bE.fn 64=some Try.f64:=by kernel_rfl
theorem ab8:bE.fn 60=some Try.f60:=by kernel_rfl
theorem U8 {H:aa} {h:Nat} {l:List UInt8} {K:I -> aa -> Prop} (aM:h < 18446744073709551616) (ah:l.length < 9223372036854775807) (ab:K (.int .u64 (oK h l)) H):Call (.func 88 [] []) [.int .u64 h,.aJ 1 (l.map aI)] H K:=by
 refine bR (N:=21) rfl ab4 rfl rfl rfl rfl rfl fun bC=> ?_
 simp (disch:=(refine am ?_; decide)) only [go_sem]
 refine gw 1048545 (by kernel_rfl) (fun r G H'=>H'=H /\ ∃i:Nat,i≤l.length /\ r=l.length - i /\ G.get 5=some (.int .i64 (i:Int)) /\ G.get 0=some (.int .u64 (oK h (l.take i):Nat))) l.length ⟨rfl,0,Nat.zero_le _,(Nat.sub_zero _).symm,(by simp (disch:=(refine am ?_; first | assumption | decide | omega | (simp only [aT,aW] <;> omega) | with_unfolding_all exact a6 rfl | with_unfolding_all exact a7 rfl)) only [go_sem]; first | done | rfl),(by simp (disch:=(refine am ?_; first | assumption | decide | omega | (simp only [aT,aW] <;> omega) | with_unfolding_all exact a6 rfl | with_unfolding_all exact a7 rfl)) only [go_sem]; first | done | rfl)⟩ ?_
 rintro r G H' aZ ⟨rfl,i,ad,rfl,b6,Mi⟩
 by_cases aF:i < l.length
 ·
  have e:=In (yP aM (l.take i)) l[i]
  simp (disch:=(refine am ?_; first | assumption | decide | omega)) only [go_sem,b6,Mi,aZ,List.length_map,fh,e]
  refine ⟨_,by omega,i + 1,by omega,rfl,?_,?_⟩
  ·
   rw [wrap_i64 (by omega) (by omega)]; rfl
  ·
   rw [Gc aF,<- e]
 ·
  obtain rfl:i=l.length:=by omega
  simp (disch:=(refine am ?_; first | decide | omega)) only [go_sem,b6,Mi,aZ,List.length_map]
  rw [List.take_length]
  exact .inl ab
theorem Iu {H:aa} {l:List UInt8} {K:I -> aa -> Prop} (ah:l.length < 9223372036854775807) (ab:K (.int .u64 (ei l)) H):Call (.func 63 [] []) [.aJ 1 (l.map aI)] H K:=by
 refine bR (N:=5) rfl ab5 rfl rfl rfl rfl rfl fun bC=> ?_
 simp (disch:=(refine am ?_; decide)) only [go_sem]
 refine U8 (h:=14695981039346656037) (by decide) ah ?_
 simp (disch:=(refine am ?_; decide)) only [go_sem]
 exact .inl ab
theorem CS {H:aa} {l:List UInt8} {K:I -> aa -> Prop} (ah:l.length < 9223372036854775807) (ab:K (.bool (zeros l)) H):Call (.func 87 [] []) [.aJ 1 (l.map aI)] H K:=by
 refine bR (N:=15) rfl ab6 rfl rfl rfl rfl rfl fun bC=> ?_
 simp (disch:=(refine am ?_; decide)) only [go_sem]
 refine gw 32764 (by kernel_rfl) (fun r G H'=>H'=H /\ ∃i:Nat,i≤l.length /\ r=l.length - i /\ G.get 3=some (.int .i64 (i:Int)) /\ zeros (l.take i)=true) l.length ⟨rfl,0,Nat.zero_le _,(Nat.sub_zero _).symm,(by simp (disch:=(refine am ?_; first | assumption | decide | omega | (simp only [aT,aW] <;> omega) | with_unfolding_all exact a6 rfl | with_unfolding_all exact a7 rfl)) only [go_sem]; first | done | rfl),rfl⟩ ?_
 rintro r G H' aZ ⟨rfl,i,ad,rfl,bW,ai⟩
 by_cases aF:i < l.length
 ·
  have ew:zeros (l.take (i + 1))=(l[i]==0):=by
   unfold zeros at ai ⊢
   rw [List.take_add_one,List.getElem?_eq_getElem aF,List.all_append,ai]; simp
  by_cases aD:l[i]=0
  ·
   have ve:((l[i].toNat:Nat):Int)=0:=by rw [aD]; rfl
   simp (disch:=(refine am ?_; first | assumption | decide | omega)) only [go_sem,bW,aZ,List.length_map,fh,ve]
   refine ⟨_,by omega,i + 1,by omega,rfl,?_,?_⟩
   ·
    rw [wrap_i64 (by omega) (by omega)]; rfl
   ·
    rw [ew,aD]; rfl
  ·
   have ve:¬((l[i].toNat:Nat):Int)=0:=fun h=>aD (by
    have h:l[i].toNat=0:=by omega
    exact UInt8.toNat_inj.1 h)
   have Fp:zeros l=false:=by
    unfold zeros
    exact List.all_eq_false.2 ⟨l[i],List.getElem_mem aF,by simp [aD]⟩
   rw [Fp] at ab
   simp (disch:=(refine am ?_; first | assumption | decide | omega)) only [go_sem,bW,aZ,List.length_map,fh,ve]
   exact .inl ab
 ·
  obtain rfl:i=l.length:=by omega
  rw [List.take_length] at ai
  rw [ai] at ab
  simp (disch:=(refine am ?_; first | decide | omega)) only [go_sem,bW,aZ,List.length_map]
  exact .inl ab
theorem Df {H:aa} {l:List UInt8} {K:I -> aa -> Prop} (ah:l.length < 9223372036854775807) (ab:K (.int .u64 (er (l.take 8):Nat)) H):Call (.func 64 [] []) [.aJ 1 (l.map aI)] H K:=by
 refine bR (N:=27) rfl ab7 rfl rfl rfl rfl rfl fun bC=> ?_
 simp (disch:=(refine am ?_; decide)) only [go_sem]
 refine gw 67108856 (by kernel_rfl) (fun r G H'=>H'=H /\ ∃i:Nat,i≤l.length /\ i≤8 /\ r=8 - i /\ G.get 4=some (.int .i64 (i:Int)) /\ G.get 3=some (.int .u64 (er (l.take i):Nat))) 8 ⟨rfl,0,Nat.zero_le _,Nat.zero_le _,(Nat.sub_zero _).symm,(by simp (disch:=(refine am ?_; first | assumption | decide | omega | (simp only [aT,aW] <;> omega) | with_unfolding_all exact a6 rfl | with_unfolding_all exact a7 rfl)) only [go_sem]; first | done | rfl),(by simp (disch:=(refine am ?_; first | assumption | decide | omega | (simp only [aT,aW] <;> omega) | with_unfolding_all exact a6 rfl | with_unfolding_all exact a7 rfl)) only [go_sem]; first | done | rfl)⟩ ?_
 rintro r G H' aZ ⟨rfl,i,ad,af4,rfl,fb,bW⟩
 by_cases aF:i < l.length
 ·
  by_cases l2:i < 8
  ·
   have V:=l[i].toNat_lt
   have d7:(i:Int) < (l.length:Nat):=by omega
   have Fs:(i:Int) < 8:=by omega
   have a8:bG .i64 (8 * (i:Int))=((8 * i:Nat):Int):=by rw [wrap_i64 (by omega) (by omega)]; rfl
   have pq:bG .u64 ((8 * i:Nat):Int)=((8 * i:Nat):Int):=by rw [pF,Nat.mod_eq_of_lt (by omega)]
   have bk:bG .u64 ((l[i].toNat:Nat):Int)=((l[i].toNat:Nat):Int):=by rw [pF,Nat.mod_eq_of_lt (by omega)]
   have U:2 ^ (8 * i)≤2 ^ 56:=Nat.pow_le_pow_right (by decide) (by omega)
   have c3:l[i].toNat * 2 ^ min (8 * i) 64=l[i].toNat * 2 ^ (8 * i):=by rw [Nat.min_eq_left (by omega)]
   have hm:l[i].toNat * 2 ^ (8 * i) < 18446744073709551616:=Nat.lt_of_le_of_lt (Nat.mul_le_mul (show l[i].toNat≤255 by omega) U) (by decide)
   have eD:hg .shl .u64 ((l[i].toNat:Nat):Int) (.int .u64 ((8 * i:Nat):Int))=some (.int .u64 ((l[i].toNat * 2 ^ (8 * i):Nat):Int)):=by
    rw [UE,show iY .u64=64 from rfl,c3,pF,Nat.mod_eq_of_lt hm]
   have aeD:(l.take i).length=i:=by rw [List.length_take]; omega
   have nc:er (l.take (i + 1))=er (l.take i) + l[i].toNat * 2 ^ (8 * i):=by
    rw [List.take_add_one,List.getElem?_eq_getElem aF,Option.toList_some,OR,aeD,Nat.pow_mul,Nat.mul_comm l[i].toNat]
   have oa:er (l.take (i + 1)) < 18446744073709551616:=by
    refine Nat.lt_of_lt_of_le (wp _) ?_
    rw [List.length_take]
    exact Nat.le_trans (Nat.pow_le_pow_right (by decide) (show min (i + 1) l.length≤8 by omega)) (by decide)
   have fZ:bG .u64 ((er (l.take i):Nat) + (l[i].toNat * 2 ^ (8 * i):Nat):Int)=((er (l.take (i + 1)):Nat):Int):=by
    rw [nc] at oa ⊢
    rw [<- Int.natCast_add,pF,Nat.mod_eq_of_lt oa]
   simp (disch:=(refine am ?_; first | assumption | decide)) only [go_sem,fb,bW,aZ,List.length_map,d7,Fs,fh,a8,pq,bk,eD,fZ]
   refine ⟨_,by omega,i + 1,by omega,by omega,rfl,?_,rfl⟩
   rw [wrap_i64 (by omega) (by omega)]; rfl
  ·
   have d7:(i:Int) < (l.length:Nat):=by omega
   have Fs:¬(i:Int) < 8:=by omega
   obtain rfl:i=8:=by omega
   simp (disch:=(refine am ?_; decide)) only [go_sem,fb,bW,aZ,List.length_map,d7,Fs]
   exact .inl ab
 ·
  have d7:¬(i:Int) < (l.length:Nat):=by omega
  simp (disch:=(refine am ?_; decide)) only [go_sem,fb,bW,aZ,List.length_map,d7]
  rw [List.take_of_length_le (show l.length≤i by omega)]
  rw [List.take_of_length_le (show l.length≤8 by omega)] at ab
  exact .inl ab
theorem uC {H:aa} {l:List UInt8} {K:I -> aa -> Prop} (ah:l.length≤4) (ab:K (.int .i64 (er l:Nat)) H):Call (.func 60 [] []) [.aJ 1 (l.map aI)] H K:=by
 refine bR (N:=6) rfl ab8 rfl rfl rfl rfl rfl fun bC=> ?_
 simp (disch:=(refine am ?_; decide)) only [go_sem]
 refine Df (by omega) ?_
 rw [List.take_of_length_le (by omega)]
 have h:=Hu ah
 have e:bG .i64 ((er l:Nat):Int)=((er l:Nat):Int):=wrap_i64 (by omega) (by omega)
 simp (disch:=(refine am ?_; decide)) only [go_sem,e]
 exact .inl ab
end
end Go.az
namespace Go.az
open Go.Proofs
noncomputable section
set_option maxRecDepth 100000
theorem ab9:bE.fn 59=some Try.f59:=by kernel_rfl
theorem rO:bE.fn 61=some Try.f61:=by kernel_rfl
theorem kv:bE.fn 62=some Try.f62:=by kernel_rfl
theorem Cp {H:aa} {l:List UInt8} {K:I -> aa -> Prop} (ah:l.length < 9223372036854775807) (l2:8≤l.length) (ab:K (.bool (decide (ei (l.take (l.length - 8))=er (l.drop (l.length - 8))))) H):Call (.func 59 [] []) [.aJ 1 (l.map aI)] H K:=by
 have hw:bG .i64 ((l.length:Int) - 8)=((l.length - 8:Nat):Int):=by rw [wrap_i64 (by omega) (by omega)]; omega
 have jY:=Hq (E:=aq) (e:=5) (sz:=1) (l:=l.map aI) (l.length - 8) (by rw [List.length_map]; omega) (k:= .i64) e2.symm
 have AC:=BG (E:=aq) (e:=5) (sz:=1) (l:=l.map aI) (l.length - 8) (by rw [List.length_map]; omega) (k:= .i64) e2.symm
 rw [<- List.map_take] at jY
 rw [<- List.map_drop] at AC
 refine bR (N:=16) rfl ab9 rfl rfl rfl rfl rfl fun bC=> ?_
 simp (disch:=(refine am ?_; decide)) only [go_sem,List.length_map,hw]
 refine iX (by kernel_rfl) (by kernel_rfl) ?_
 simp (disch:=(refine am ?_; decide)) only [go_sem,jY]
 refine Iu (by rw [List.length_take]; omega) ?_
 simp (disch:=(refine am ?_; decide)) only [go_sem,AC]
 refine Df (by rw [List.length_drop]; omega) ?_
 rw [List.take_of_length_le (show (l.drop (l.length - 8)).length≤8 by rw [List.length_drop]; omega)]
 by_cases h:ei (l.take (l.length - 8))=er (l.drop (l.length - 8))
 ·
  rw [decide_eq_true h] at ab
  simp (disch:=(refine am ?_; decide)) only [go_sem,h]
  exact .inl ab
 ·
  rw [decide_eq_false h] at ab
  have aQ:¬((ei (l.take (l.length - 8)):Nat):Int)=((er (l.drop (l.length - 8)):Nat):Int):=fun e=>h (Int.ofNat.inj e)
  simp (disch:=(refine am ?_; decide)) only [go_sem,aQ]
  exact .inl ab
theorem I' {H:aa} {s:cS} {rv:I} {K:I -> aa -> Prop} (aC:b2 rv=true) (ab:K (.bool (!(gl s))) H):Call (.func 61 [] []) [.agg [.int .i64 s.blocks,.int .i64 s.base,.int .i64 s.id,rv]] H K:=by
 have eg:∀ {x:bf},Fr H (aS H x).2:=(Fr.refl H).ce _
 have out:∀ {b:Bool} {x:bf},(!(gl s))=b -> ji H K (.bool b) (aS H x).2:=fun U=> .inr (.inl ⟨eg,_,b_.bool,U ▸ ab⟩)
 by_cases b1:s.blocks < 1
 ·
  refine bR (N:=38) rfl rO rfl rfl rfl rfl rfl fun bC=> ?_
  simp (disch:=(refine am ?_; first | assumption | decide | omega | (simp only [aT,aW] <;> omega) | with_unfolding_all exact a6 rfl | with_unfolding_all exact a7 rfl)) only [go_sem,aC]
  exact out (by unfold gl; rw [decide_eq_true b1]; rfl)
 by_cases bV:64 < s.blocks
 ·
  refine bR (N:=38) rfl rO rfl rfl rfl rfl rfl fun bC=> ?_
  simp (disch:=(refine am ?_; first | assumption | decide | omega | (simp only [aT,aW] <;> omega) | with_unfolding_all exact a6 rfl | with_unfolding_all exact a7 rfl)) only [go_sem,aC]
  exact out (by unfold gl; rw [decide_eq_true bV,Bool.or_true]; rfl)
 by_cases c6:s.id < 1
 ·
  refine bR (N:=38) rfl rO rfl rfl rfl rfl rfl fun bC=> ?_
  simp (disch:=(refine am ?_; first | assumption | decide | omega | (simp only [aT,aW] <;> omega) | with_unfolding_all exact a6 rfl | with_unfolding_all exact a7 rfl)) only [go_sem,aC]
  exact out (by unfold gl; rw [decide_eq_true c6,Bool.or_true]; rfl)
 by_cases d9:1000000 < s.id
 ·
  refine bR (N:=38) rfl rO rfl rfl rfl rfl rfl fun bC=> ?_
  simp (disch:=(refine am ?_; first | assumption | decide | omega | (simp only [aT,aW] <;> omega) | with_unfolding_all exact a6 rfl | with_unfolding_all exact a7 rfl)) only [go_sem,aC]
  exact out (by unfold gl; rw [decide_eq_true d9,Bool.or_true]; rfl)
 by_cases fp:s.base= -1
 ·
  refine bR (N:=38) rfl rO rfl rfl rfl rfl rfl fun bC=> ?_
  simp (disch:=(refine am ?_; first | assumption | decide | omega | (simp only [aT,aW] <;> omega) | with_unfolding_all exact a6 rfl | with_unfolding_all exact a7 rfl)) only [go_sem,aC,fp]
  exact out (by unfold gl; rw [decide_eq_false b1,decide_eq_false bV,decide_eq_false c6,decide_eq_false d9,decide_eq_true fp]; rfl)
 by_cases eL:s.base < 1
 ·
  refine bR (N:=38) rfl rO rfl rfl rfl rfl rfl fun bC=> ?_
  simp (disch:=(refine am ?_; first | assumption | decide | omega | (simp only [aT,aW] <;> omega) | with_unfolding_all exact a6 rfl | with_unfolding_all exact a7 rfl)) only [go_sem,aC,fp]
  exact out (by unfold gl; rw [decide_eq_false b1,decide_eq_false bV,decide_eq_false c6,decide_eq_false d9,decide_eq_false fp,decide_eq_true eL]; rfl)
 by_cases iN:s.id≤s.base
 ·
  refine bR (N:=38) rfl rO rfl rfl rfl rfl rfl fun bC=> ?_
  simp (disch:=(refine am ?_; first | assumption | decide | omega | (simp only [aT,aW] <;> omega) | with_unfolding_all exact a6 rfl | with_unfolding_all exact a7 rfl)) only [go_sem,aC,fp]
  exact out (by unfold gl; rw [decide_eq_false b1,decide_eq_false bV,decide_eq_false c6,decide_eq_false d9,decide_eq_false fp,decide_eq_false eL,decide_eq_true iN]; rfl)
 ·
  refine bR (N:=38) rfl rO rfl rfl rfl rfl rfl fun bC=> ?_
  simp (disch:=(refine am ?_; first | assumption | decide | omega | (simp only [aT,aW] <;> omega) | with_unfolding_all exact a6 rfl | with_unfolding_all exact a7 rfl)) only [go_sem,aC,fp]
  exact out (by unfold gl; rw [decide_eq_false b1,decide_eq_false bV,decide_eq_false c6,decide_eq_false d9,decide_eq_false fp,decide_eq_false eL,decide_eq_false iN]; rfl)
def rP (s:cS) (x:Rec):Bool:=match s.aV[s.aV.length - 1]? with
 | some p=>f6 x p
 | none=>true
def i7 (s:cS) (x:Rec):Bool:=cV s.blocks s.base x && rP s x
theorem GZ {s:cS} (h:fS s=true) (x:Rec):fS (s.snoc x)=i7 s x:=by
 unfold fS at h ⊢
 rw [Bool.and_eq_true] at h
 obtain ⟨J,O⟩:=h
 have a8:gl (s.snoc x)=gl s:=rfl
 rw [a8,J,Bool.true_and]
 unfold lz i7 rP
 unfold lz at O
 show ((List.range (s.aV ++ [x]).length).all fun i=>cV s.blocks s.base ((s.aV ++ [x]).getD i ⟨0,0,false,[]⟩) && (decide (i=0) || f6 ((s.aV ++ [x]).getD i ⟨0,0,false,[]⟩) ((s.aV ++ [x]).getD (i - 1) ⟨0,0,false,[]⟩)))=_
 rw [List.length_append,List.length_singleton,List.range_succ,List.all_append]
 have bk:((List.range s.aV.length).all fun i=>cV s.blocks s.base ((s.aV ++ [x]).getD i ⟨0,0,false,[]⟩) && (decide (i=0) || f6 ((s.aV ++ [x]).getD i ⟨0,0,false,[]⟩) ((s.aV ++ [x]).getD (i - 1) ⟨0,0,false,[]⟩)))=true:=by
  refine List.all_eq_true.2 fun i ad=> ?_
  have b5:=List.mem_range.1 ad
  have cg:(s.aV ++ [x]).getD i ⟨0,0,false,[]⟩=s.aV.getD i ⟨0,0,false,[]⟩:=by
   rw [List.getD_eq_getElem?_getD,List.getElem?_append_left b5,<- List.getD_eq_getElem?_getD]
  have cn:(s.aV ++ [x]).getD (i - 1) ⟨0,0,false,[]⟩=s.aV.getD (i - 1) ⟨0,0,false,[]⟩:=by
   rw [List.getD_eq_getElem?_getD,List.getElem?_append_left (by omega),<- List.getD_eq_getElem?_getD]
  rw [cg,cn]
  exact List.all_eq_true.1 O i ad
 rw [bk,Bool.true_and]
 have bW:(s.aV ++ [x]).getD s.aV.length ⟨0,0,false,[]⟩=x:=by
  rw [List.getD_eq_getElem?_getD,List.getElem?_append_right (Nat.le_refl _),Nat.sub_self]; rfl
 show ((cV s.blocks s.base ((s.aV ++ [x]).getD s.aV.length ⟨0,0,false,[]⟩) && (decide (s.aV.length=0) || f6 ((s.aV ++ [x]).getD s.aV.length ⟨0,0,false,[]⟩) ((s.aV ++ [x]).getD (s.aV.length - 1) ⟨0,0,false,[]⟩))) && true)=_
 rw [bW,Bool.and_true]
 cases ah:s.aV[s.aV.length - 1]? with
 | none=>
  have aD:s.aV.length=0:=by
   by_cases h:s.aV.length=0
   ·
    exact h
   ·
    rw [List.getElem?_eq_getElem (by omega)] at ah; cases ah
  rw [decide_eq_true aD,Bool.true_or]
 | some p=>
  have aF:=(List.getElem?_eq_some_iff.1 ah).1
  have fb:(s.aV ++ [x]).getD (s.aV.length - 1) ⟨0,0,false,[]⟩=p:=by
   rw [List.getD_eq_getElem?_getD,List.getElem?_append_left aF,ah]; rfl
  rw [fb,decide_eq_false (by omega),Bool.false_or]
theorem BW (d:List UInt8) (i:Nat):(d.take (64 * i + 64)).drop (64 * i)=e0 d i:=by
 unfold e0
 rw [List.drop_take]; congr 1; omega
set_option maxHeartbeats 2000000 in
theorem W5 {H:aa} {s:cS} {x:Rec} {K:I -> aa -> Prop} (U:1≤s.blocks /\ s.blocks≤64) (R:ia x.fr /\ ia x.aX /\ x.data.length≤1000000) (ar:s.aV.length≤1000000) (af:∀r∈s.aV,ia r.fr /\ ia r.aX) (ab:K (.bool (i7 s x)) H):Call (.func 62 [] []) [pY s,hO x] H K:=by
 obtain ⟨bg,eB,id,aV⟩:=s
 obtain ⟨fr,aX,zs,data⟩:=x
 obtain ⟨⟨f1,f2⟩,⟨d1,d2⟩,Ft⟩:=R
 dsimp only at U f1 f2 d1 d2 Ft ar af
 have af5:Fr H (aS (aS H (.cells [.int .i64 bg,.int .i64 eB,.int .i64 id,.aJ 4 (aV.map hO)] 64 true true)).2 (.cells [.int .i64 fr,.int .i64 aX,.bool zs,.aJ 1 (data.map aI)] 68 true true)).2:=((Fr.refl H).ce _).ce _
 have out:∀ {b:Bool} {H':aa},i7 ⟨bg,eB,id,aV⟩ ⟨fr,aX,zs,data⟩=b -> Fr H H' -> ji H K (.bool b) H':=fun U ao=> .inr (.inl ⟨ao,_,b_.bool,U ▸ ab⟩)
 have no:cV bg eB ⟨fr,aX,zs,data⟩=false -> i7 ⟨bg,eB,id,aV⟩ ⟨fr,aX,zs,data⟩=false:=fun h=>by
  unfold i7
  show (cV bg eB ⟨fr,aX,zs,data⟩ && _)=false
  rw [h]; rfl
 have mV:bG .i64 (bg - fr)=bg - fr:=wrap_i64 (by omega) (by omega)
 have yv:bG .i64 (aX * 64)=aX * 64:=wrap_i64 (by omega) (by omega)
 rw [ub,v']
 by_cases b1:aX < 1
 ·
  refine bR (N:=108) rfl kv rfl rfl rfl rfl rfl fun bC=> ?_
  simp (disch:=(refine am ?_; first | decide | (simp only [aT,aW] <;> omega) | assumption)) only [go_sem,b1]
  refine out (no (by unfold cV; rw [decide_eq_true b1]; rfl)) ?_
  (repeat first | assumption | exact Fr.refl _ | refine Fr.ce ?_ _ | refine Fr.set ?_ (by omega) _)
 by_cases bV:fr < 0
 ·
  refine bR (N:=108) rfl kv rfl rfl rfl rfl rfl fun bC=> ?_
  simp (disch:=(refine am ?_; first | decide | (simp only [aT,aW] <;> omega) | assumption)) only [go_sem,b1,bV]
  refine out (no (by unfold cV; rw [decide_eq_true bV,Bool.or_true]; rfl)) ?_
  (repeat first | assumption | exact Fr.refl _ | refine Fr.ce ?_ _ | refine Fr.set ?_ (by omega) _)
 by_cases c6:bg≤fr
 ·
  refine bR (N:=108) rfl kv rfl rfl rfl rfl rfl fun bC=> ?_
  simp (disch:=(refine am ?_; first | decide | omega | (simp only [aT,aW] <;> omega) | assumption)) only [go_sem,b1,bV,c6]
  refine out (no (by unfold cV; rw [decide_eq_true c6,Bool.or_true]; rfl)) ?_
  (repeat first | assumption | exact Fr.refl _ | refine Fr.ce ?_ _ | refine Fr.set ?_ (by omega) _)
 by_cases d9:bg - fr < aX
 ·
  refine bR (N:=108) rfl kv rfl rfl rfl rfl rfl fun bC=> ?_
  simp (disch:=(refine am ?_; first | decide | omega | (simp only [aT,aW] <;> omega) | assumption)) only [go_sem,b1,bV,c6,mV,d9]
  refine out (no (by unfold cV; rw [decide_eq_true d9,Bool.or_true]; rfl)) ?_
  (repeat first | assumption | exact Fr.refl _ | refine Fr.ce ?_ _ | refine Fr.set ?_ (by omega) _)
 cases zs with
 | true=>
  by_cases fp:eB= -1
  ·
   refine bR (N:=108) rfl kv rfl rfl rfl rfl rfl fun bC=> ?_
   simp (disch:=(refine am ?_; first | decide | omega | (simp only [aT,aW] <;> omega) | assumption)) only [go_sem,b1,bV,c6,mV,d9,fp]
   refine out (no (by unfold cV; rw [decide_eq_true fp]; simp)) ?_
   (repeat first | assumption | exact Fr.refl _ | refine Fr.ce ?_ _ | refine Fr.set ?_ (by omega) _)
  by_cases eL:((data.length:Nat):Int)=0
  ·
   have li:data= []:=List.eq_nil_of_length_eq_zero (by omega)
   have fJ:cV bg eB ⟨fr,aX,true,data⟩=true:=by
    unfold cV
    rw [decide_eq_false b1,decide_eq_false bV,decide_eq_false c6,decide_eq_false d9,decide_eq_false fp,li]; rfl
   rcases List.eq_nil_or_concat aV with rfl | ⟨pre,p,rfl⟩
   ·
    have fI:rP ⟨bg,eB,id,[]⟩ ⟨fr,aX,true,data⟩=true:=rfl
    refine bR (N:=108) rfl kv rfl rfl rfl rfl rfl fun bC=> ?_
    simp (disch:=(refine am ?_; first | decide | omega | (simp only [aT,aW] <;> omega) | assumption)) only [go_sem,b1,bV,c6,mV,d9,fp,eL,List.length_map]
    refine out (by unfold i7; show (cV bg eB ⟨fr,aX,true,data⟩ && _)=true; rw [fJ,fI]; rfl) ?_
    (repeat first | assumption | exact Fr.refl _ | refine Fr.ce ?_ _ | refine Fr.set ?_ (by omega) _)
   ·
    rw [List.concat_eq_append] at *
    obtain ⟨⟨fq,eM⟩,⟨tS,yg⟩⟩:=af p (List.mem_append_right _ (List.mem_singleton_self _))
    have fI:rP ⟨bg,eB,id,pre ++ [p]⟩ ⟨fr,aX,true,data⟩=f6 ⟨fr,aX,true,data⟩ p:=by
     unfold rP
     show (match (pre ++ [p])[(pre ++ [p]).length - 1]? with | some q=>f6 ⟨fr,aX,true,data⟩ q | none=>true)=_
     rw [List.length_append,List.length_singleton,Nat.add_sub_cancel,List.getElem?_append_right (Nat.le_refl _),Nat.sub_self]; rfl
    have x9:f6 ⟨fr,aX,true,data⟩ p=false -> i7 ⟨bg,eB,id,pre ++ [p]⟩ ⟨fr,aX,true,data⟩=false:=fun h=>by
     unfold i7; rw [fI,h,Bool.and_false]
    have hlen:(pre ++ [p]).length=pre.length + 1:=by rw [List.length_append]; rfl
    have bU:(0:Int) < ((pre ++ [p]).length:Nat):=by omega
    have qQ:bG .i64 (((pre ++ [p]).length:Nat) - 1:Int)=((pre.length:Nat):Int):=by rw [wrap_i64 (by omega) (by omega)]; omega
    have qR:bG .i64 (p.fr + p.aX)=p.fr + p.aX:=wrap_i64 (by omega) (by omega)
    have ho:pre.length < (pre ++ [p]).length:=by omega
    have qB:(pre ++ [p])[pre.length]=p:=by rw [List.getElem_append_right (Nat.le_refl _)]; simp
    by_cases d8:fr < p.fr + p.aX
    ·
     refine bR (N:=108) rfl kv rfl rfl rfl rfl rfl fun bC=> ?_
     simp (disch:=(refine am ?_; first | assumption | decide | omega | (simp only [aT,aW] <;> omega) | with_unfolding_all exact a6 rfl | with_unfolding_all exact a7 rfl)) only [go_sem,b1,bV,c6,mV,d9,fp,eL,List.length_map,bU,qQ,fh,ho,qB,qR,d8]
     refine out (x9 (by show (decide (p.fr + p.aX < fr) || (decide (fr=p.fr + p.aX) && (true !=p.zs)))=false; rw [decide_eq_false (by omega),decide_eq_false (by omega)]; rfl)) ?_
     (repeat first | assumption | exact Fr.refl _ | refine Fr.ce ?_ _ | refine Fr.set ?_ (by omega) _)
    by_cases gQ:fr=p.fr + p.aX
    ·
     have tC:decide (fr=p.fr + p.aX)=true:=decide_eq_true gQ
     by_cases qM:p.zs=true
     ·
      refine bR (N:=108) rfl kv rfl rfl rfl rfl rfl fun bC=> ?_
      simp (disch:=(refine am ?_; first | assumption | decide | omega | (simp only [aT,aW] <;> omega) | with_unfolding_all exact a6 rfl | with_unfolding_all exact a7 rfl)) only [go_sem,b1,bV,c6,mV,d9,fp,eL,List.length_map,bU,qQ,fh,ho,qB,qR,d8,tC,qM,show (true==true)=true from rfl,show (false==false)=true from rfl]
      refine out (x9 (by show (decide (p.fr + p.aX < fr) || (decide (fr=p.fr + p.aX) && (true !=p.zs)))=false; rw [decide_eq_false (by omega),qM]; simp)) ?_
      (repeat first | assumption | exact Fr.refl _ | refine Fr.ce ?_ _ | refine Fr.set ?_ (by omega) _)
     ·
      have x_:p.zs=false:=by cases h:p.zs <;> first | rfl | exact absurd h qM
      have r_:f6 ⟨fr,aX,true,data⟩ p=true:=by show (decide (p.fr + p.aX < fr) || (decide (fr=p.fr + p.aX) && (true !=p.zs)))=true; rw [tC,x_]; simp
      refine bR (N:=108) rfl kv rfl rfl rfl rfl rfl fun bC=> ?_
      simp (disch:=(refine am ?_; first | assumption | decide | omega | (simp only [aT,aW] <;> omega) | with_unfolding_all exact a6 rfl | with_unfolding_all exact a7 rfl)) only [go_sem,b1,bV,c6,mV,d9,fp,eL,List.length_map,bU,qQ,fh,ho,qB,qR,d8,tC,x_,show (true==false)=false from rfl,show (false==true)=false from rfl]
      refine out (by unfold i7; show (cV bg eB ⟨fr,aX,true,data⟩ && _)=true; rw [fJ,fI,r_]; rfl) ?_
      (repeat first | assumption | exact Fr.refl _ | refine Fr.ce ?_ _ | refine Fr.set ?_ (by omega) _)
    ·
     have r_:f6 ⟨fr,aX,true,data⟩ p=true:=by show (decide (p.fr + p.aX < fr) || (decide (fr=p.fr + p.aX) && (true !=p.zs)))=true; rw [decide_eq_true (show p.fr + p.aX < fr by omega)]; rfl
     refine bR (N:=108) rfl kv rfl rfl rfl rfl rfl fun bC=> ?_
     simp (disch:=(refine am ?_; first | assumption | decide | omega | (simp only [aT,aW] <;> omega) | with_unfolding_all exact a6 rfl | with_unfolding_all exact a7 rfl)) only [go_sem,b1,bV,c6,mV,d9,fp,eL,List.length_map,bU,qQ,fh,ho,qB,qR,d8,gQ]
     refine out (by unfold i7; show (cV bg eB ⟨fr,aX,true,data⟩ && _)=true; rw [fJ,fI,r_]; rfl) ?_
     (repeat first | assumption | exact Fr.refl _ | refine Fr.ce ?_ _ | refine Fr.set ?_ (by omega) _)
  ·
   refine bR (N:=108) rfl kv rfl rfl rfl rfl rfl fun bC=> ?_
   simp (disch:=(refine am ?_; first | decide | omega | (simp only [aT,aW] <;> omega) | assumption)) only [go_sem,b1,bV,c6,mV,d9,fp,List.length_map,eL]
   have eT:g7 aX true data=false:=by
    show data.isEmpty=false
    cases data with
    | nil=>exact absurd rfl eL
    | cons a l=>rfl
   refine out (no (by unfold cV; rw [eT]; simp)) ?_
   (repeat first | assumption | exact Fr.refl _ | refine Fr.ce ?_ _ | refine Fr.set ?_ (by omega) _)
 | false=>
  rcases List.eq_nil_or_concat aV with rfl | ⟨pre,p,rfl⟩
  ·
   have fI:rP ⟨bg,eB,id,[]⟩ ⟨fr,aX,false,data⟩=true:=rfl
   refine bR (N:=108) rfl kv rfl rfl rfl rfl rfl fun bC=> ?_
   simp (disch:=(refine am ?_; first | decide | omega | (simp only [aT,aW] <;> omega) | assumption)) only [go_sem,b1,bV,c6,mV,d9,yv,List.length_map]
   refine ⟨fun bX=> ?_,fun heq=> ?_⟩
   ·
    have eT:g7 aX false data=false:=by
     show (decide ((data.length:Int)=aX * 64) && _)=false
     rw [decide_eq_false bX]; rfl
    refine out (no (by unfold cV; rw [eT]; simp)) ?_
    (repeat first | assumption | exact Fr.refl _ | refine Fr.ce ?_ _ | refine Fr.set ?_ (by omega) _)
   have eL:=Decidable.not_not.1 heq
   obtain ⟨c,rfl⟩:=Int.eq_ofNat_of_zero_le (show 0≤aX by omega)
   have xT:data.length=c * 64:=by omega
   refine gw 324508650138112443740956827582608 (by kernel_rfl) (fun r G H'=>Fr H H' /\ H'.m.get (H.next + 1)=some (.cells [.int .i64 fr,.int .i64 (c:Nat),.bool false,.aJ 1 (data.map aI)] 68 true true) /\ ∃i:Nat,i≤c /\ r=c - i /\ G.get 7=some (.int .i64 (i:Int)) /\ ∀k,k < i -> zeros (e0 data k)=false) c ⟨by (repeat first | assumption | exact Fr.refl _ | refine Fr.ce ?_ _ | refine Fr.set ?_ (by omega) _),(by simp (disch:=(refine am ?_; first | assumption | decide | omega | (simp only [aT,aW] <;> omega) | with_unfolding_all exact a6 rfl | with_unfolding_all exact a7 rfl)) only [go_sem]; first | done | rfl),0,Nat.zero_le _,(Nat.sub_zero _).symm,(by simp (disch:=(refine am ?_; first | assumption | decide | omega | (simp only [aT,aW] <;> omega) | with_unfolding_all exact a6 rfl | with_unfolding_all exact a7 rfl)) only [go_sem]; first | done | rfl),fun k h=>absurd h (Nat.not_lt_zero _)⟩ ?_
   rintro r G H' aZ ⟨ao,dU,i,ad,rfl,dO,ai⟩
   by_cases aF:i < c
   ·
    have d7:(i:Int) < (c:Int):=by omega
    have cl:bG .i64 ((i:Int) * 64)=((64 * i:Nat):Int):=by rw [wrap_i64 (by omega) (by omega)]; omega
    have e8:bG .i64 ((i:Int) + 1)=((i + 1:Nat):Int):=by rw [wrap_i64 (by omega) (by omega)]; rfl
    have mS:bG .i64 (((i + 1:Nat):Int) * 64)=((64 * i + 64:Nat):Int):=by rw [wrap_i64 (by omega) (by omega)]; omega
    have na:=wR (E:=aq) (e:=5) (sz:=1) (l:=data.map aI) (64 * i) (64 * i + 64) (by rw [List.length_map]; omega) (by omega) (k:= .i64) (k':= .i64) e2.symm
    rw [<- List.map_take,<- List.map_drop,BW] at na
    simp (disch:=(refine am ?_; first | assumption | decide)) only [go_sem,dO,aZ,a2 dU,d7,cl,e8,mS,na]
    refine CS (by unfold e0; rw [List.length_take]; omega) ?_
    cases hb:zeros (e0 data i) with
    | true=>
     have eT:g7 (c:Nat) false data=false:=by
      show (decide ((data.length:Int)=(c:Nat) * 64) && (List.range (data.length / 64)).all fun k=> !(zeros (e0 data k)))=false
      rw [List.all_eq_false.2 ⟨i,List.mem_range.2 (by omega),by rw [hb]; decide⟩,Bool.and_false]
     simp (disch:=(refine am ?_; first | assumption | decide | omega | (simp only [aT,aW] <;> omega) | with_unfolding_all exact a6 rfl | with_unfolding_all exact a7 rfl)) only [go_sem,dO,aZ]
     exact out (no (by unfold cV; rw [eT]; simp)) ao
    | false=>
     simp (disch:=(refine am ?_; first | assumption | decide | omega | (simp only [aT,aW] <;> omega) | with_unfolding_all exact a6 rfl | with_unfolding_all exact a7 rfl)) only [go_sem,dO,aZ,e8]
     refine ⟨_,by omega,ao,dU,i + 1,by omega,rfl,rfl,fun k ab=> ?_⟩
     by_cases ya:k=i
     ·
      rw [ya]; exact hb
     ·
      exact ai k (by omega)
   ·
    obtain rfl:i=c:=by omega
    have d7:¬(i:Int) < (i:Int):=by omega
    have fJ:cV bg eB ⟨fr,(i:Nat),false,data⟩=true:=by
     have eT:g7 (i:Nat) false data=true:=by
      show (decide ((data.length:Int)=(i:Nat) * 64) && (List.range (data.length / 64)).all fun k=> !(zeros (e0 data k)))=true
      rw [decide_eq_true eL,Bool.true_and]
      refine List.all_eq_true.2 fun k ab=> ?_
      have ab:=List.mem_range.1 ab
      rw [ai k (by omega)]; rfl
     unfold cV
     rw [decide_eq_false b1,decide_eq_false bV,decide_eq_false c6,decide_eq_false d9,eT,Bool.and_false]; rfl
    simp (disch:=(refine am ?_; first | assumption | decide)) only [go_sem,dO,aZ,a2 dU,d7]
    exact out (by unfold i7; show (cV bg eB ⟨fr,(i:Nat),false,data⟩ && _)=true; rw [fJ,fI]; rfl) ao
  ·
   rw [List.concat_eq_append] at *
   obtain ⟨⟨fq,eM⟩,⟨tS,yg⟩⟩:=af p (List.mem_append_right _ (List.mem_singleton_self _))
   have fI:rP ⟨bg,eB,id,pre ++ [p]⟩ ⟨fr,aX,false,data⟩=f6 ⟨fr,aX,false,data⟩ p:=by
    unfold rP
    show (match (pre ++ [p])[(pre ++ [p]).length - 1]? with | some q=>f6 ⟨fr,aX,false,data⟩ q | none=>true)=_
    rw [List.length_append,List.length_singleton,Nat.add_sub_cancel,List.getElem?_append_right (Nat.le_refl _),Nat.sub_self]; rfl
   have x9:f6 ⟨fr,aX,false,data⟩ p=false -> i7 ⟨bg,eB,id,pre ++ [p]⟩ ⟨fr,aX,false,data⟩=false:=fun h=>by
    unfold i7; rw [fI,h,Bool.and_false]
   have hlen:(pre ++ [p]).length=pre.length + 1:=by rw [List.length_append]; rfl
   have bU:(0:Int) < ((pre ++ [p]).length:Nat):=by omega
   have qQ:bG .i64 (((pre ++ [p]).length:Nat) - 1:Int)=((pre.length:Nat):Int):=by rw [wrap_i64 (by omega) (by omega)]; omega
   have qR:bG .i64 (p.fr + p.aX)=p.fr + p.aX:=wrap_i64 (by omega) (by omega)
   have ho:pre.length < (pre ++ [p]).length:=by omega
   have qB:(pre ++ [p])[pre.length]=p:=by rw [List.getElem_append_right (Nat.le_refl _)]; simp
   by_cases d8:fr < p.fr + p.aX
   ·
    refine bR (N:=108) rfl kv rfl rfl rfl rfl rfl fun bC=> ?_
    simp (disch:=(refine am ?_; first | assumption | decide | omega | (simp only [aT,aW] <;> omega) | with_unfolding_all exact a6 rfl | with_unfolding_all exact a7 rfl)) only [go_sem,b1,bV,c6,mV,d9,yv,List.length_map,bU,qQ,fh,ho,qB,qR,d8]
    refine out (x9 (by show (decide (p.fr + p.aX < fr) || (decide (fr=p.fr + p.aX) && (false !=p.zs)))=false; rw [decide_eq_false (by omega),decide_eq_false (by omega)]; rfl)) ?_
    (repeat first | assumption | exact Fr.refl _ | refine Fr.ce ?_ _ | refine Fr.set ?_ (by omega) _)
   by_cases gQ:fr=p.fr + p.aX
   ·
    have tC:decide (fr=p.fr + p.aX)=true:=decide_eq_true gQ
    by_cases qM:p.zs=false
    ·
     refine bR (N:=108) rfl kv rfl rfl rfl rfl rfl fun bC=> ?_
     simp (disch:=(refine am ?_; first | assumption | decide | omega | (simp only [aT,aW] <;> omega) | with_unfolding_all exact a6 rfl | with_unfolding_all exact a7 rfl)) only [go_sem,b1,bV,c6,mV,d9,yv,List.length_map,bU,qQ,fh,ho,qB,qR,d8,tC,qM,show (true==true)=true from rfl,show (false==false)=true from rfl]
     refine out (x9 (by show (decide (p.fr + p.aX < fr) || (decide (fr=p.fr + p.aX) && (false !=p.zs)))=false; rw [decide_eq_false (by omega),qM]; simp)) ?_
     (repeat first | assumption | exact Fr.refl _ | refine Fr.ce ?_ _ | refine Fr.set ?_ (by omega) _)
    ·
     have x_:p.zs=true:=by cases h:p.zs <;> first | rfl | exact absurd h qM
     have r_:f6 ⟨fr,aX,false,data⟩ p=true:=by show (decide (p.fr + p.aX < fr) || (decide (fr=p.fr + p.aX) && (false !=p.zs)))=true; rw [tC,x_]; simp
     refine bR (N:=108) rfl kv rfl rfl rfl rfl rfl fun bC=> ?_
     simp (disch:=(refine am ?_; first | assumption | decide | omega | (simp only [aT,aW] <;> omega) | with_unfolding_all exact a6 rfl | with_unfolding_all exact a7 rfl)) only [go_sem,b1,bV,c6,mV,d9,yv,List.length_map,bU,qQ,fh,ho,qB,qR,d8,tC,x_,show (true==false)=false from rfl,show (false==true)=false from rfl]
     refine ⟨fun bX=> ?_,fun heq=> ?_⟩
     ·
      have eT:g7 aX false data=false:=by
       show (decide ((data.length:Int)=aX * 64) && _)=false
       rw [decide_eq_false bX]; rfl
      refine out (no (by unfold cV; rw [eT]; simp)) ?_
      (repeat first | assumption | exact Fr.refl _ | refine Fr.ce ?_ _ | refine Fr.set ?_ (by omega) _)
     have eL:=Decidable.not_not.1 heq
     obtain ⟨c,rfl⟩:=Int.eq_ofNat_of_zero_le (show 0≤aX by omega)
     have xT:data.length=c * 64:=by omega
     refine gw 324508650138112443740956827582608 (by kernel_rfl) (fun r G H'=>Fr H H' /\ H'.m.get (H.next + 1)=some (.cells [.int .i64 fr,.int .i64 (c:Nat),.bool false,.aJ 1 (data.map aI)] 68 true true) /\ ∃i:Nat,i≤c /\ r=c - i /\ G.get 7=some (.int .i64 (i:Int)) /\ ∀k,k < i -> zeros (e0 data k)=false) c ⟨by (repeat first | assumption | exact Fr.refl _ | refine Fr.ce ?_ _ | refine Fr.set ?_ (by omega) _),(by simp (disch:=(refine am ?_; first | assumption | decide | omega | (simp only [aT,aW] <;> omega) | with_unfolding_all exact a6 rfl | with_unfolding_all exact a7 rfl)) only [go_sem]; first | done | rfl),0,Nat.zero_le _,(Nat.sub_zero _).symm,(by simp (disch:=(refine am ?_; first | assumption | decide | omega | (simp only [aT,aW] <;> omega) | with_unfolding_all exact a6 rfl | with_unfolding_all exact a7 rfl)) only [go_sem]; first | done | rfl),fun k h=>absurd h (Nat.not_lt_zero _)⟩ ?_
     rintro r G H' aZ ⟨ao,dU,i,ad,rfl,dO,ai⟩
     by_cases aF:i < c
     ·
      have d7:(i:Int) < (c:Int):=by omega
      have cl:bG .i64 ((i:Int) * 64)=((64 * i:Nat):Int):=by rw [wrap_i64 (by omega) (by omega)]; omega
      have e8:bG .i64 ((i:Int) + 1)=((i + 1:Nat):Int):=by rw [wrap_i64 (by omega) (by omega)]; rfl
      have mS:bG .i64 (((i + 1:Nat):Int) * 64)=((64 * i + 64:Nat):Int):=by rw [wrap_i64 (by omega) (by omega)]; omega
      have na:=wR (E:=aq) (e:=5) (sz:=1) (l:=data.map aI) (64 * i) (64 * i + 64) (by rw [List.length_map]; omega) (by omega) (k:= .i64) (k':= .i64) e2.symm
      rw [<- List.map_take,<- List.map_drop,BW] at na
      simp (disch:=(refine am ?_; first | assumption | decide)) only [go_sem,dO,aZ,a2 dU,d7,cl,e8,mS,na]
      refine CS (by unfold e0; rw [List.length_take]; omega) ?_
      cases hb:zeros (e0 data i) with
      | true=>
       have eT:g7 (c:Nat) false data=false:=by
        show (decide ((data.length:Int)=(c:Nat) * 64) && (List.range (data.length / 64)).all fun k=> !(zeros (e0 data k)))=false
        rw [List.all_eq_false.2 ⟨i,List.mem_range.2 (by omega),by rw [hb]; decide⟩,Bool.and_false]
       simp (disch:=(refine am ?_; first | assumption | decide | omega | (simp only [aT,aW] <;> omega) | with_unfolding_all exact a6 rfl | with_unfolding_all exact a7 rfl)) only [go_sem,dO,aZ]
       exact out (no (by unfold cV; rw [eT]; simp)) ao
      | false=>
       simp (disch:=(refine am ?_; first | assumption | decide | omega | (simp only [aT,aW] <;> omega) | with_unfolding_all exact a6 rfl | with_unfolding_all exact a7 rfl)) only [go_sem,dO,aZ,e8]
       refine ⟨_,by omega,ao,dU,i + 1,by omega,rfl,rfl,fun k ab=> ?_⟩
       by_cases ya:k=i
       ·
        rw [ya]; exact hb
       ·
        exact ai k (by omega)
     ·
      obtain rfl:i=c:=by omega
      have d7:¬(i:Int) < (i:Int):=by omega
      have fJ:cV bg eB ⟨fr,(i:Nat),false,data⟩=true:=by
       have eT:g7 (i:Nat) false data=true:=by
        show (decide ((data.length:Int)=(i:Nat) * 64) && (List.range (data.length / 64)).all fun k=> !(zeros (e0 data k)))=true
        rw [decide_eq_true eL,Bool.true_and]
        refine List.all_eq_true.2 fun k ab=> ?_
        have ab:=List.mem_range.1 ab
        rw [ai k (by omega)]; rfl
       unfold cV
       rw [decide_eq_false b1,decide_eq_false bV,decide_eq_false c6,decide_eq_false d9,eT,Bool.and_false]; rfl
      simp (disch:=(refine am ?_; first | assumption | decide)) only [go_sem,dO,aZ,a2 dU,d7]
      exact out (by unfold i7; show (cV bg eB ⟨fr,(i:Nat),false,data⟩ && _)=true; rw [fJ,fI,r_]; rfl) ao
   ·
    have r_:f6 ⟨fr,aX,false,data⟩ p=true:=by show (decide (p.fr + p.aX < fr) || (decide (fr=p.fr + p.aX) && (false !=p.zs)))=true; rw [decide_eq_true (show p.fr + p.aX < fr by omega)]; rfl
    refine bR (N:=108) rfl kv rfl rfl rfl rfl rfl fun bC=> ?_
    simp (disch:=(refine am ?_; first | assumption | decide | omega | (simp only [aT,aW] <;> omega) | with_unfolding_all exact a6 rfl | with_unfolding_all exact a7 rfl)) only [go_sem,b1,bV,c6,mV,d9,yv,List.length_map,bU,qQ,fh,ho,qB,qR,d8,gQ]
    refine ⟨fun bX=> ?_,fun heq=> ?_⟩
    ·
     have eT:g7 aX false data=false:=by
      show (decide ((data.length:Int)=aX * 64) && _)=false
      rw [decide_eq_false bX]; rfl
     refine out (no (by unfold cV; rw [eT]; simp)) ?_
     (repeat first | assumption | exact Fr.refl _ | refine Fr.ce ?_ _ | refine Fr.set ?_ (by omega) _)
    have eL:=Decidable.not_not.1 heq
    obtain ⟨c,rfl⟩:=Int.eq_ofNat_of_zero_le (show 0≤aX by omega)
    have xT:data.length=c * 64:=by omega
    refine gw 324508650138112443740956827582608 (by kernel_rfl) (fun r G H'=>Fr H H' /\ H'.m.get (H.next + 1)=some (.cells [.int .i64 fr,.int .i64 (c:Nat),.bool false,.aJ 1 (data.map aI)] 68 true true) /\ ∃i:Nat,i≤c /\ r=c - i /\ G.get 7=some (.int .i64 (i:Int)) /\ ∀k,k < i -> zeros (e0 data k)=false) c ⟨by (repeat first | assumption | exact Fr.refl _ | refine Fr.ce ?_ _ | refine Fr.set ?_ (by omega) _),(by simp (disch:=(refine am ?_; first | assumption | decide | omega | (simp only [aT,aW] <;> omega) | with_unfolding_all exact a6 rfl | with_unfolding_all exact a7 rfl)) only [go_sem]; first | done | rfl),0,Nat.zero_le _,(Nat.sub_zero _).symm,(by simp (disch:=(refine am ?_; first | assumption | decide | omega | (simp only [aT,aW] <;> omega) | with_unfolding_all exact a6 rfl | with_unfolding_all exact a7 rfl)) only [go_sem]; first | done | rfl),fun k h=>absurd h (Nat.not_lt_zero _)⟩ ?_
    rintro r G H' aZ ⟨ao,dU,i,ad,rfl,dO,ai⟩
    by_cases aF:i < c
    ·
     have d7:(i:Int) < (c:Int):=by omega
     have cl:bG .i64 ((i:Int) * 64)=((64 * i:Nat):Int):=by rw [wrap_i64 (by omega) (by omega)]; omega
     have e8:bG .i64 ((i:Int) + 1)=((i + 1:Nat):Int):=by rw [wrap_i64 (by omega) (by omega)]; rfl
     have mS:bG .i64 (((i + 1:Nat):Int) * 64)=((64 * i + 64:Nat):Int):=by rw [wrap_i64 (by omega) (by omega)]; omega
     have na:=wR (E:=aq) (e:=5) (sz:=1) (l:=data.map aI) (64 * i) (64 * i + 64) (by rw [List.length_map]; omega) (by omega) (k:= .i64) (k':= .i64) e2.symm
     rw [<- List.map_take,<- List.map_drop,BW] at na
     simp (disch:=(refine am ?_; first | assumption | decide)) only [go_sem,dO,aZ,a2 dU,d7,cl,e8,mS,na]
     refine CS (by unfold e0; rw [List.length_take]; omega) ?_
     cases hb:zeros (e0 data i) with
     | true=>
      have eT:g7 (c:Nat) false data=false:=by
       show (decide ((data.length:Int)=(c:Nat) * 64) && (List.range (data.length / 64)).all fun k=> !(zeros (e0 data k)))=false
       rw [List.all_eq_false.2 ⟨i,List.mem_range.2 (by omega),by rw [hb]; decide⟩,Bool.and_false]
      simp (disch:=(refine am ?_; first | assumption | decide | omega | (simp only [aT,aW] <;> omega) | with_unfolding_all exact a6 rfl | with_unfolding_all exact a7 rfl)) only [go_sem,dO,aZ]
      exact out (no (by unfold cV; rw [eT]; simp)) ao
     | false=>
      simp (disch:=(refine am ?_; first | assumption | decide | omega | (simp only [aT,aW] <;> omega) | with_unfolding_all exact a6 rfl | with_unfolding_all exact a7 rfl)) only [go_sem,dO,aZ,e8]
      refine ⟨_,by omega,ao,dU,i + 1,by omega,rfl,rfl,fun k ab=> ?_⟩
      by_cases ya:k=i
      ·
       rw [ya]; exact hb
      ·
       exact ai k (by omega)
    ·
     obtain rfl:i=c:=by omega
     have d7:¬(i:Int) < (i:Int):=by omega
     have fJ:cV bg eB ⟨fr,(i:Nat),false,data⟩=true:=by
      have eT:g7 (i:Nat) false data=true:=by
       show (decide ((data.length:Int)=(i:Nat) * 64) && (List.range (data.length / 64)).all fun k=> !(zeros (e0 data k)))=true
       rw [decide_eq_true eL,Bool.true_and]
       refine List.all_eq_true.2 fun k ab=> ?_
       have ab:=List.mem_range.1 ab
       rw [ai k (by omega)]; rfl
      unfold cV
      rw [decide_eq_false b1,decide_eq_false bV,decide_eq_false c6,decide_eq_false d9,eT,Bool.and_false]; rfl
     simp (disch:=(refine am ?_; first | assumption | decide)) only [go_sem,dO,aZ,a2 dU,d7]
     exact out (by unfold i7; show (cV bg eB ⟨fr,(i:Nat),false,data⟩ && _)=true; rw [fJ,fI,r_]; rfl) ao
end
end Go.az
namespace Go.az
open Go.Proofs
noncomputable section
set_option maxRecDepth 100000
theorem ab_:bE.fn 37=some Try.f37:=by kernel_rfl
def iL (base:Nat) (H:aa) (v:I) (w:List UInt8):Prop:=∃b x,v= .slice b 0 w.length (nU x w.length) /\ H.m.get b=some (.cells (w.map aI) 5 x true) /\ base≤b /\ b < H.next
theorem iL.b3 {base:Nat} {H H':aa} {v:I} {w:List UInt8} (h:iL base H v w) (ao:Fr H H'):iL base H' v w:=by
 obtain ⟨b,x,J,O,ag,aP⟩:=h
 exact ⟨b,x,J,(ao.2 b aP).trans O,ag,Nat.lt_of_lt_of_le aP ao.1⟩
theorem iL.one {base:Nat} {H:aa} {v:I} {w:List UInt8} (h:iL base H v w):b2 v=true:=by
 obtain ⟨b,x,rfl,_⟩:=h; rfl
theorem iL.read {base:Nat} {H:aa} {v:I} {w:List UInt8} (h:iL base H v w) {σ:bK} {H1:aa} {a:I} (r:cW false σ H H1) (ae:al false σ H1 v a):al false gn H1 (.aJ 1 (w.map aI)) a:=by
 obtain ⟨b,x,rfl,U,_⟩:=h
 have hm:(w.map aI).length=w.length:=List.length_map _
 refine zk (sz:=1) (l:=w.map aI) (o:=0) (b:=b) (k:=nU x w.length) r (by rw [hm]; exact ae) ?_ (kb fun _=>rfl) (fun z ai=>by obtain ⟨c,_,rfl⟩:=List.mem_map.1 ai; rfl) (by decide) (by cases x <;> first | trivial | rfl) (fun _=>by rw [hm]; cases x <;> exact Nat.le_refl _)
 rw [hm,Nat.mul_one,(a2 U).2.2.1,eY]
 by_cases aD:w.length=0
 ·
  rw [aD,List.eq_nil_of_length_eq_zero aD]; rfl
 ·
  rw [lF aD]
  show cG w.length (co 0 (w.map aI))=_
  rw [dz,fL,List.drop_zero,if_pos (by omega),List.take_of_length_le (by omega)]
theorem iL.fz {H0 H:aa} {v:I} {w:List UInt8} (h:iL H0.next H v w) (bC:WF H0):b_ H0 H (.aJ 1 (w.map aI)) v:=by
 obtain ⟨b,x,rfl,U,J,O⟩:=h
 have aC:cz H H0.next 5 1 (.slice b 0 w.length (nU x w.length)) w.length (w.map aI):=⟨by rw [List.length_map,Nat.mul_one],.inr ⟨b,x,J,O,rfl,U⟩⟩
 exact aC.fz (l:=w.map aI) (by decide) bC (List.length_map _) (eY _) (sN _) (gO.plain (kb fun _=>rfl))
theorem Ja {H:aa} {w:List UInt8} (hw:w.length≤140737488351232):∃v ay,cJ aq (aS H (.cells [] 5 true true)).2 5 (.slice H.next 0 0 (.ex 0)) w.length (w.map aI)=some (v,ay) /\ Fr H ay /\ iL H.next ay v w:=by
 have ae:=Acc.uV (E:=aq) (Fr.refl H) e2 (by decide) nT
 by_cases aD:w= []
 ·
  subst aD
  exact ⟨_,_,ae.xo,ae.fr,⟨H.next,true,rfl,eP,Nat.le_refl _,Nat.lt_succ_self _⟩⟩
 ·
  have bU:0 < w.length:=List.length_pos_iff.2 aD
  have hm:(w.map aI).length=w.length:=List.length_map _
  have ao:=jl w
  have J:=ae.zK rt (m:=w.length) (by simpa using hw) bU (w.map aI) (by rw [hm,Nat.mul_one]) (by rw [<- eY]; exact ao)
  have O:=ae.zj rt (m:=w.length) (by simpa using hw) bU (new:=w.map aI) (w.map aI) (eY w) hm (sN w) (by rw [<- eY]; exact ao)
  refine ⟨_,_,J,O.fr,?_⟩
  rcases O.own.2 with ⟨aM,_⟩ | ⟨b,x,mC,aF,ak,U⟩
  ·
   cases aM
  ·
   refine ⟨b,x,?_,?_,mC,aF⟩
   ·
    rw [ak,List.nil_append,hm]; rfl
   ·
    rw [U,List.nil_append,eY]
theorem Iv {α:Type} {f g:α -> I} {σ:bK} {H1:aa}:∀ {xs:List α} {l:List I},(∀x∈xs,∀a,al false σ H1 (f x) a -> al false gn H1 (g x) a) -> av false σ H1 (xs.map f) l -> av false gn H1 (xs.map g) l
 | [],l,_,h=>by
  have h:=av.nil.1 h
  subst h; exact av.nil.2 rfl
 | x :: xs,l,aR,h=>by
  obtain ⟨y,r,J,O,rfl⟩:=av.cons.1 h
  exact av.cons.2 ⟨_,_,aR x (List.mem_cons_self) _ J,Iv (fun z ai=>aR z (List.mem_cons_of_mem _ ai)) O,rfl⟩
theorem Acc.YX {α:Type} {f g:α -> I} {xs:List α} {H H0:aa} {e sz:Nat} {v:I} (h:Acc aq H0 H e sz v (xs.map f)) {σ:bK} {H1:aa} {a:I} (aR:∀x∈xs,∀a,al false σ H1 (f x) a -> al false gn H1 (g x) a) (r:cW false σ H H1) (ae:al false σ H1 v a):
 al false gn H1 (.aJ sz (xs.map g)) a:=by
 rcases h.own.2 with ⟨rfl,ah⟩ | ⟨b,x,_,_,rfl,U⟩
 ·
  obtain rfl:=ae.aE
  have:xs= []:=List.eq_nil_of_length_eq_zero (by simpa using ah)
  subst this
  exact al.fP (.inl rfl)
 ·
  have cB:=(fv h.el).1
  obtain ⟨c,qo,rfl⟩:=ae.slice
  have bm:lE (if x then dm.ex (xs.map f).length else dm.rest 0 sz (xs.map f).length) sz:=by cases x <;> first | trivial | rfl
  by_cases ah:xs= []
  ·
   subst ah
   exact al.fP (.inr (.inl ⟨c,0,_,rfl,bm,fun aQ=>absurd h.bU (by omega)⟩))
  ·
   have hm:bA H b 0 ((xs.map f).length * sz)=some (a3 (xs.map f)):=by
    rw [(a2 U).2.2.1 0 _]
    have aD:(xs.map f).length * sz≠0:=Nat.ne_of_gt (Nat.mul_pos (by rw [List.length_map]; exact List.length_pos_iff.2 ah) h.bU)
    rw [lF aD]
    show cG _ (co 0 _)=_
    rw [dz,fL,List.drop_zero,if_pos (by rw [cB]; exact Nat.le_refl _),List.take_of_length_le (by rw [cB]; exact Nat.le_refl _)]
   obtain ⟨cs',J,O⟩:=r.cells qo hm
   obtain ⟨l',ag,rfl⟩:=CM O
   obtain ⟨y,aj⟩:=r.ex b c qo
   have hle:rr (if x then dm.ex (xs.map f).length else dm.rest 0 sz (xs.map f).length) (xs.map g).length:=by
    rw [List.length_map,List.length_map]; cases x <;> exact Nat.le_refl _
   have a8:(xs.map f).length=(xs.map g).length:=by rw [List.length_map,List.length_map]
   have:=al.nD (σ:=gn) (w:=false) (H:=H1) (o:=0) (sz:=sz) (l:=xs.map g) (by simpa using ah) h.bU ⟨fun b h=>(nomatch h),r.lt _ _ qo,by rw [aj]; rfl⟩ bm hle (Iv aR ag) (Bm ag h.el) (by rw [<- a8]; exact J)
   rw [<- a8] at this
   exact this
structure iR (H0 H:aa) (bj:I) (qs:List (Rec × I)):Prop where
 a:Acc aq H0 H 68 4 bj (qs.map ea)
 d:∀q∈qs,iL H0.next H q.2 q.1.data
section
variable {H0 H:aa} {bj:I} {qs:List (Rec × I)}
theorem iR.nil (ao:Fr H0 H):iR H0 H .aE []:=⟨Acc.z5 ao zO (by decide) JX,fun q aB=>(by cases aB)⟩
theorem iR.b3 (h:iR H0 H bj qs) {H':aa} (ao:Fr H H'):iR H0 H' bj qs:=⟨h.a.b3 ao,fun q aB=>(h.d q aB).b3 ao⟩
theorem iL.ed {base c:Nat} {H:aa} {v:I} {w:List UInt8} {y z:bf} (h:iL base H v w) (V:H.m.get c=some y) (aj:nb 5 y=true):iL base (aN H c z) v w:=by
 obtain ⟨b,x,J,O,ag,aP⟩:=h
 refine ⟨b,x,J,(cY ?_).trans O,ag,aP⟩
 rintro rfl
 rw [O] at V
 cases V
 have:(!(Nat.beq 5 5))=true:=aj
 cases this
theorem iR.set (h:iR H0 H bj qs) {c:Nat} {y z:bf} (V:H.m.get c=some y) (aeE:nb 68 y=true) (bH:nb 5 y=true) (oe:H0.next≤c):iR H0 (aN H c z) bj qs:=
 ⟨h.a.other V aeE oe,fun q aB=>(h.d q aB).ed V bH⟩
theorem W6 {q:Rec × I} (h:b2 q.2=true):br [I.int .i64 q.1.fr,.int .i64 q.1.aX,.bool q.1.zs,q.2]=true:=by
 rw [eb,eb,eb,eb,h]; rfl
theorem iR.push (h:iR H0 H bj qs) {x:Rec} {dv:I} (aw:iL H0.next H dv x.data) (ar:qs.length < 1048576):
 cJ aq (aS H (.cells [.int .i64 x.fr,.int .i64 x.aX,.bool x.zs,dv] 68 true true)).2 68 bj 1 [.int .i64 x.fr,.int .i64 x.aX,.bool x.zs,dv]=some (.slice (H.next + 1) 0 (qs.length + 1) (.rest 0 4 (qs.length + 1)),jI aq H 68 bj [.int .i64 x.fr,.int .i64 x.aX,.bool x.zs,dv]) /\
 iR H0 (jI aq H 68 bj [.int .i64 x.fr,.int .i64 x.aX,.bool x.zs,dv]) (.slice (H.next + 1) 0 (qs.length + 1) (.rest 0 4 (qs.length + 1))) (qs ++ [(x,dv)]) /\
 (jI aq H 68 bj [.int .i64 x.fr,.int .i64 x.aX,.bool x.zs,dv]).next=H.next + 2 /\ ∀c y,H.m.get c=some y -> nb 68 y=true -> c < H.next -> (jI aq H 68 bj [.int .i64 x.fr,.int .i64 x.aX,.bool x.zs,dv]).m.get c=some y:=by
 have ah:(qs.map ea).length=qs.length:=List.length_map _
 have ao:=W6 (q:=(x,dv)) aw.one
 have J:=h.a.push (by rw [ah]; exact ar) [.int .i64 x.fr,.int .i64 x.aX,.bool x.zs,dv] rfl ao
 have O:=h.a.wS (by rw [ah]; exact ar) (ea (x,dv)) (sB (x,dv)) rfl ao
 obtain ⟨ag,aP⟩:=h.a.Ik (by rw [ah]; exact ar) (new:= [.int .i64 x.fr,.int .i64 x.aX,.bool x.zs,dv]) rfl ao
 rw [ah] at J O
 have LX:∀ {v:I} {w:List UInt8},iL H0.next H v w -> iL H0.next (jI aq H 68 bj [.int .i64 x.fr,.int .i64 x.aX,.bool x.zs,dv]) v w:=fun {v w} ak=>by
  obtain ⟨b,y,a8,bk,c3,eD⟩:=ak
  exact ⟨b,y,a8,aP b _ bk rfl eD,c3,by rw [ag]; omega⟩
 refine ⟨J,⟨?_,fun q aB=> ?_⟩,ag,aP⟩
 ·
  rw [List.map_append]; exact O
 ·
  rcases List.mem_append.1 aB with aB | aB
  ·
   exact LX (h.d q aB)
  ·
   rw [List.mem_singleton] at aB
   subst aB
   exact LX aw
theorem iR.one (h:iR H0 H bj qs):b2 bj=true:=h.a.own.one
theorem iR.read (h:iR H0 H bj qs) {σ:bK} {H1:aa} {a:I} (r:cW false σ H H1) (ae:al false σ H1 bj a):al false gn H1 (.aJ 4 ((qs.map (·.1)).map hO)) a:=by
 rw [List.map_map]
 refine h.a.YX (g:=hO ∘ (·.1)) (fun q aB a ae=> ?_) r ae
 obtain ⟨l',J,rfl⟩:=ae.agg
 obtain ⟨afb,cf,cg,bc,rfl⟩:=av.cons.1 J
 obtain ⟨A0,ck,cn,a9,rfl⟩:=av.cons.1 bc
 obtain ⟨agu,kH,bW,bt,rfl⟩:=av.cons.1 a9
 obtain ⟨agv,sh,fb,gC,rfl⟩:=av.cons.1 bt
 rw [av.nil] at gC
 subst gC
 exact al.mf (av.cons.2 ⟨_,_,hG.plain rfl _ _ _ cg,av.cons.2 ⟨_,_,hG.plain rfl _ _ _ cn,av.cons.2 ⟨_,_,hG.plain rfl _ _ _ bW,av.one ((h.d q aB).read r fb),rfl⟩,rfl⟩,rfl⟩)
theorem iR.fz (h:iR H0 H bj qs) (bC:WF H0):b_ H0 H (.aJ 4 ((qs.map (·.1)).map hO)) bj:=by
 have ah:(qs.map ea).length=qs.length:=List.length_map _
 rw [List.map_map]
 refine h.a.own.fz (l:=qs.map ea) (by decide) bC rfl rfl h.a.el ?_
 refine gO.map fun q aB=>b_.agg (.cons .int (.cons .int (.cons .bool (.cons ((h.d q aB).fz bC) .nil))))
end
theorem Jb {H0 H:aa} {s:cS} {x:Rec} {bj dv:I} {qs:List (Rec × I)} {K:I -> aa -> Prop} (h:iR H0 H bj qs) (aG:s.aV=qs.map (·.1)) (aw:iL H0.next H dv x.data) (U:1≤s.blocks /\ s.blocks≤64) (R:ia x.fr /\ ia x.aX /\ x.data.length≤1000000) (ar:s.aV.length≤1000000) (af:∀r∈s.aV,ia r.fr /\ ia r.aX)
 (ab:K (.bool (i7 s x)) H):Call (.func 62 [] []) [.agg [.int .i64 s.blocks,.int .i64 s.base,.int .i64 s.id,bj],.agg [.int .i64 x.fr,.int .i64 x.aX,.bool x.zs,dv]] H K:=by
 refine fi.read (v:= .bool (i7 s x)) rfl (W5 (s:=s) (x:=x) (H:=mw) (K:=fun cc _=>cc= .bool (i7 s x)) U R ar af rfl) (fun σ H1 fD r ak=> ?_) ab
 obtain ⟨afb,bi,J,O,rfl⟩:=av.cons.1 ak
 obtain ⟨A0,ck,ag,aP,rfl⟩:=av.cons.1 O
 rw [av.nil] at aP
 subst aP
 obtain ⟨nr,bc,rfl⟩:=J.agg
 obtain ⟨hV,a9,rfl⟩:=ag.agg
 obtain ⟨lY,hq,cg,eu,rfl⟩:=av.cons.1 bc
 obtain ⟨sl,jJ,cn,iM,rfl⟩:=av.cons.1 eu
 obtain ⟨agw,tG,bW,kE,rfl⟩:=av.cons.1 iM
 obtain ⟨agx,vB,fb,qD,rfl⟩:=av.cons.1 kE
 rw [av.nil] at qD
 subst qD
 obtain ⟨cl,fq,l3,v1,rfl⟩:=av.cons.1 a9
 obtain ⟨e8,eM,qJ,v2,rfl⟩:=av.cons.1 v1
 obtain ⟨mS,tS,kL,pA,rfl⟩:=av.cons.1 v2
 obtain ⟨FH,yg,ov,v4,rfl⟩:=av.cons.1 pA
 rw [av.nil] at v4
 subst v4
 have eD:=h.read r fb
 rw [<- aG] at eD
 exact av.cons.2 ⟨_,_,al.mf (av.cons.2 ⟨_,_,hG.plain rfl _ _ _ cg,av.cons.2 ⟨_,_,hG.plain rfl _ _ _ cn,av.cons.2 ⟨_,_,hG.plain rfl _ _ _ bW,av.one eD,rfl⟩,rfl⟩,rfl⟩),
  av.one (al.mf (av.cons.2 ⟨_,_,hG.plain rfl _ _ _ l3,av.cons.2 ⟨_,_,hG.plain rfl _ _ _ qJ,av.cons.2 ⟨_,_,hG.plain rfl _ _ _ kL,av.one (aw.read r ov),rfl⟩,rfl⟩,rfl⟩)),rfl⟩
end
end Go.az
namespace Go.az
open Go.Proofs
noncomputable section
set_option maxRecDepth 100000
theorem nX {w:List UInt8} (p n:Nat) (h:p + n≤w.length):dp (.slice 5) aq (.aJ 1 (w.map aI)) (some (.int .i64 (p:Int))) (some (.int .i64 ((p + n:Nat):Int))) none=some (.aJ 1 (((w.drop p).take n).map aI)):=by
 rw [wR p (p + n) (by rw [List.length_map]; exact h) (by omega) e2.symm,<- List.map_take,<- List.map_drop,List.drop_take,Nat.add_sub_cancel_left]
theorem D' {w:List UInt8} (n:Nat) (h:n≤w.length):dp (.slice 5) aq (.aJ 1 (w.map aI)) none (some (.int .i64 (n:Int))) none=some (.aJ 1 ((w.take n).map aI)):=by
 rw [Hq n (by rw [List.length_map]; exact h) e2.symm,<- List.map_take]
def J7 (s:cS) (e:Int):I:= .agg [.int .i64 s.blocks,.int .i64 s.base,.int .i64 s.id,.aJ 4 (s.aV.map hO),.int .i64 e]
set_option maxHeartbeats 4000000 in
theorem QZ {H:aa} {w:List UInt8} {K:I -> aa -> Prop} (hw:w.length≤140737488351232) (ab:K (J7 (eq w).2 (eq w).1) H):Call (.func 37 [] []) [.aJ 1 (w.map aI)] H K:=by
 have bad:∀ {H':aa} {e:Int},Fr H H' -> eq w=(e,ru) -> ji H K (.agg [.int .i64 0,.int .i64 0,.int .i64 0,.aE,.int .i64 e]) H':=fun {H' e} ao he=>by
  rw [he] at ab
  exact .inr (.inl ⟨ao,_,b_.agg (.cons .int (.cons .int (.cons .int (.cons .zJ (.cons .int .nil))))),ab⟩)
 have qc:∀ {e:Int},e≠0 -> iv w=e -> eq w=(e,ru):=fun {e} aD he=>by
  unfold eq; rw [he,if_pos aD]
 refine bR (N:=210) rfl ab_ rfl rfl rfl rfl rfl fun bC=> ?_
 by_cases b1:w.length < 4
 ·
  simp (disch:=(refine am ?_; first | decide | omega)) only [go_sem,List.length_map,show ((w.length:Nat):Int) < 4 by omega]
  exact bad (by (repeat first | assumption | exact Fr.refl _ | refine Fr.ce ?_ _ | refine Fr.set ?_ (by omega) _)) (qc (by decide) (if_pos b1))
 have A5:dp (.slice 5) aq (.aJ 1 (w.map aI)) none (some (.int .i64 4)) none=some (.aJ 1 ((w.take 4).map aI)):=D' (w:=w) 4 (by omega)
 have hD:¬((w.length:Nat):Int) < 4:=by omega
 by_cases bV:w.take 4≠ [82,86,83,49]
 ·
  have he:iv w=20:=by unfold iv; rw [if_neg b1,if_pos bV]
  simp (disch:=(refine am ?_; first | decide | omega)) only [go_sem,List.length_map,hD,A5,bV]
  exact bad (by (repeat first | assumption | exact Fr.refl _ | refine Fr.ce ?_ _ | refine Fr.set ?_ (by omega) _)) (qc (by decide) he)
 by_cases c6:w.length < 24
 ·
  have he:iv w=21:=by unfold iv; rw [if_neg b1,if_neg bV,if_pos c6]
  have AN:((w.length:Nat):Int) < 24:=by omega
  simp (disch:=(refine am ?_; first | decide | omega)) only [go_sem,List.length_map,hD,A5,bV,AN]
  exact bad (by (repeat first | assumption | exact Fr.refl _ | refine Fr.ce ?_ _ | refine Fr.set ?_ (by omega) _)) (qc (by decide) he)
 have AN:¬((w.length:Nat):Int) < 24:=by omega
 have LY:dp (.slice 5) aq (.aJ 1 (w.map aI)) none (some (.int .i64 24)) none=some (.aJ 1 ((w.take 24).map aI)):=D' (w:=w) 24 (by omega)
 have LZ:(w.take 24).length=24:=by rw [List.length_take]; omega
 have t16:(w.take 24).take 16=w.take 16:=by rw [List.take_take]; rfl
 have d16:er ((w.take 24).drop 16)=bx w 16 8:=by rw [List.drop_take]; rfl
 simp (disch:=(refine am ?_; decide)) only [go_sem,List.length_map,hD,A5,bV,AN,LY]
 refine Cp (by omega) (by omega) ?_
 rw [LZ,show 24 - 8=16 from rfl,t16,d16]
 by_cases d9:ei (w.take 16)≠bx w 16 8
 ·
  have he:iv w=22:=by unfold iv; rw [if_neg b1,if_neg bV,if_neg c6,if_pos d9]
  rw [decide_eq_false d9]
  simp (disch:=(refine am ?_; first | decide | omega)) only [go_sem]
  exact bad (by (repeat first | assumption | exact Fr.refl _ | refine Fr.ce ?_ _ | refine Fr.set ?_ (by omega) _)) (qc (by decide) he)
 rw [decide_eq_true (Decidable.not_not.1 d9)]
 have Mj:dp (.slice 5) aq (.aJ 1 (w.map aI)) (some (.int .i64 4)) (some (.int .i64 6)) none=some (.aJ 1 (((w.drop 4).take 2).map aI)):=nX 4 2 (by omega)
 have Mk:dp (.slice 5) aq (.aJ 1 (w.map aI)) (some (.int .i64 6)) (some (.int .i64 10)) none=some (.aJ 1 (((w.drop 6).take 4).map aI)):=nX 6 4 (by omega)
 have L0:dp (.slice 5) aq (.aJ 1 (w.map aI)) (some (.int .i64 10)) (some (.int .i64 14)) none=some (.aJ 1 (((w.drop 10).take 4).map aI)):=nX 10 4 (by omega)
 have L1:dp (.slice 5) aq (.aJ 1 (w.map aI)) (some (.int .i64 14)) (some (.int .i64 16)) none=some (.aJ 1 (((w.drop 14).take 2).map aI)):=nX 14 2 (by omega)
 have bc:=q8 (w:=w) (p:=4) (n:=2) (by decide)
 have a9:=q8 (w:=w) (p:=6) (n:=4) (by decide)
 have bt:=q8 (w:=w) (p:=10) (n:=4) (by decide)
 have gC:=q8 (w:=w) (p:=14) (n:=2) (by decide)
 simp (disch:=(refine am ?_; decide)) only [go_sem]
 refine iX (by kernel_rfl) (by kernel_rfl) ?_
 simp (disch:=(refine am ?_; decide)) only [go_sem,Mj]
 refine uC (by rw [List.length_take]; omega) ?_
 simp (disch:=(refine am ?_; decide)) only [go_sem,Mk]
 refine uC (by rw [List.length_take]; omega) ?_
 rw [show er ((w.drop 4).take 2)=bx w 4 2 from rfl,show er ((w.drop 6).take 4)=bx w 6 4 from rfl]
 have fY:bG .i64 (((bx w 6 4:Nat):Int) - 1)=dc w:=wrap_i64 (by omega) (by omega)
 simp (disch:=(refine am ?_; decide)) only [go_sem,fY,L0]
 refine uC (by rw [List.length_take]; omega) ?_
 rw [show er ((w.drop 10).take 4)=bx w 10 4 from rfl]
 have iO:Fr H (aN (aS (aS H (.cells [.int .i64 0,.int .i64 0,.int .i64 0,.aE,.int .i64 0] 87 true true)).2 (.cells [.int .i64 0,.int .i64 0,.int .i64 0,.aE] 64 true true)).2 (H.next + 1) (.cells [.int .i64 (bx w 4 2:Nat),.int .i64 (dc w),.int .i64 (bx w 10 4:Nat),.aE] 64 true true)):=(((Fr.refl H).ce _).ce _).set (Nat.le_succ _) _
 have tD:(aN (aS (aS H (.cells [.int .i64 0,.int .i64 0,.int .i64 0,.aE,.int .i64 0] 87 true true)).2 (.cells [.int .i64 0,.int .i64 0,.int .i64 0,.aE] 64 true true)).2 (H.next + 1) (.cells [.int .i64 (bx w 4 2:Nat),.int .i64 (dc w),.int .i64 (bx w 10 4:Nat),.aE] 64 true true)).m.get (H.next + 1)=some (.cells [.int .i64 (cD w),.int .i64 (dc w),.int .i64 (dJ w),.aE] 64 true true):=gj
 have sa:(aN (aS (aS H (.cells [.int .i64 0,.int .i64 0,.int .i64 0,.aE,.int .i64 0] 87 true true)).2 (.cells [.int .i64 0,.int .i64 0,.int .i64 0,.aE] 64 true true)).2 (H.next + 1) (.cells [.int .i64 (bx w 4 2:Nat),.int .i64 (dc w),.int .i64 (bx w 10 4:Nat),.aE] 64 true true)).m.get H.next=some (.cells [.int .i64 0,.int .i64 0,.int .i64 0,.aE,.int .i64 0] 87 true true):=(cY (by omega)).trans ((hK (Nat.ne_of_lt (Nat.lt_succ_self _))).trans eP)
 have AQ:H.next + 2≤(aN (aS (aS H (.cells [.int .i64 0,.int .i64 0,.int .i64 0,.aE,.int .i64 0] 87 true true)).2 (.cells [.int .i64 0,.int .i64 0,.int .i64 0,.aE] 64 true true)).2 (H.next + 1) (.cells [.int .i64 (bx w 4 2:Nat),.int .i64 (dc w),.int .i64 (bx w 10 4:Nat),.aE] 64 true true)).next:=Nat.le_refl _
 simp (disch:=(refine am ?_; first | decide | (simp only [aT,aW] <;> omega) | assumption)) only [go_sem,L1]
 refine uC (by rw [List.length_take]; omega) ?_
 rw [show er ((w.drop 14).take 2)=bx w 14 2 from rfl]
 generalize aN (aS (aS H (.cells [.int .i64 0,.int .i64 0,.int .i64 0,.aE,.int .i64 0] 87 true true)).2 (.cells [.int .i64 0,.int .i64 0,.int .i64 0,.aE] 64 true true)).2 (H.next + 1) (.cells [.int .i64 (bx w 4 2:Nat),.int .i64 (dc w),.int .i64 (bx w 10 4:Nat),.aE] 64 true true)=HB at iO tD sa AQ ⊢
 by_cases fp:cD w < 1∨64 < cD w
 ·
  have he:iv w=23:=by unfold iv; rw [if_neg b1,if_neg bV,if_neg c6,if_neg d9,if_pos fp]
  by_cases tE:cD w < 1
  ·
   simp (disch:=(refine am ?_; decide)) only [go_sem,a2 tD,a2 sa,tE]
   exact bad (iO.set (Nat.le_refl _) _) (qc (by decide) he)
  ·
   have vx:64 < cD w:=by omega
   simp (disch:=(refine am ?_; decide)) only [go_sem,a2 tD,a2 sa,tE,vx]
   exact bad (iO.set (Nat.le_refl _) _) (qc (by decide) he)
 have tE:¬cD w < 1:=by omega
 have vx:¬64 < cD w:=by omega
 by_cases eL:dJ w < 1∨1000000 < dJ w∨(dc w≠ -1 /\ (dc w < 1∨dJ w≤dc w))
 ·
  have he:iv w=25:=by unfold iv; rw [if_neg b1,if_neg bV,if_neg c6,if_neg d9,if_neg fp,if_pos eL]
  by_cases AO:dc w=0
  ·
   simp (disch:=(refine am ?_; decide)) only [go_sem,a2 tD,a2 sa,tE,vx,AO]
   exact bad (iO.set (Nat.le_refl _) _) (qc (by decide) he)
  ·
   have U:gl (l_ w)=true:=by
    unfold gl
    show (decide (cD w < 1) || decide (64 < cD w) || decide (dJ w < 1) || decide (1000000 < dJ w) || (!(decide (dc w= -1)) && (decide (dc w < 1) || decide (dJ w≤dc w))))=true
    rcases eL with h | h | ⟨J,O | O⟩
    ·
     rw [decide_eq_true h]; simp
    ·
     rw [decide_eq_true h]; simp
    ·
     rw [decide_eq_false J,decide_eq_true O]; simp
    ·
     rw [decide_eq_false J,decide_eq_true O]; simp
   simp (disch:=(refine am ?_; first | assumption | decide | omega | (simp only [aT,aW] <;> omega) | with_unfolding_all exact a6 rfl | with_unfolding_all exact a7 rfl)) only [go_sem,a2 tD,a2 sa,tE,vx,AO]
   refine I' (s:=l_ w) (rv:= .aE) rfl ?_
   rw [U]
   simp (disch:=(refine am ?_; decide)) only [go_sem,a2 sa]
   exact bad (iO.set (Nat.le_refl _) _) (qc (by decide) he)
 have he:iv w=0:=by unfold iv; rw [if_neg b1,if_neg bV,if_neg c6,if_neg d9,if_neg fp,if_neg eL]
 have AO:¬dc w=0:=by omega
 have U:gl (l_ w)=false:=by
  unfold gl
  show (decide (cD w < 1) || decide (64 < cD w) || decide (dJ w < 1) || decide (1000000 < dJ w) || (!(decide (dc w= -1)) && (decide (dc w < 1) || decide (dJ w≤dc w))))=false
  rw [decide_eq_false tE,decide_eq_false vx,decide_eq_false (show ¬dJ w < 1 by omega),decide_eq_false (show ¬1000000 < dJ w by omega)]
  by_cases h:dc w= -1
  ·
   rw [decide_eq_true h]; rfl
  ·
   rw [decide_eq_false h,decide_eq_false (show ¬dc w < 1 by omega),decide_eq_false (show ¬dJ w≤dc w by omega)]; rfl
 have vt:fS (l_ w)=true:=by unfold fS; rw [U]; rfl
 simp (disch:=(refine am ?_; first | assumption | decide | omega | (simp only [aT,aW] <;> omega) | with_unfolding_all exact a6 rfl | with_unfolding_all exact a7 rfl)) only [go_sem,a2 tD,a2 sa,tE,vx,AO]
 refine I' (s:=l_ w) (rv:= .aE) rfl ?_
 rw [U]
 simp (disch:=(refine am ?_; decide)) only [go_sem]
 have nd:∀(o:Int × Nat × cS),lv w (bx w 14 2) 24 (l_ w)=o -> eq w=if o.1≠0 then (o.1,ru) else if lA w o.2.1≠0 then (lA w o.2.1,ru) else (0,o.2.2):=fun o aC=>by
  unfold eq
  rw [he,if_neg (fun h=>h rfl),aC]
 have Er:sT w 24 (l_ w) 0:=⟨by omega,⟨by show 0≤cD w; omega,by show cD w≤64; omega⟩,rfl,fun r af=>(by cases af),fun r af=>(by cases af)⟩
 clear Mj Mk L0 L1 A5 LY LZ t16 d16 qc hD AN
 have b4:bx w 14 2 < 65536:=by
  refine Nat.lt_of_lt_of_le (wp _) ?_
  rw [List.length_take]
  exact Nat.le_trans (Nat.pow_le_pow_right (by decide) (show min 2 (w.drop 14).length≤2 by omega)) (by decide)
 generalize af6:bx w 14 2=N at nd b4 ⊢
 refine gw 191561942608236107294793378393788647375881637969527264 (by kernel_rfl) (fun r G H'=>∃(i p:Nat) (qs:List (Rec × I)) (bj:I),i≤N /\ r=N - i /\ G.get 6=some (.int .i64 (i:Int)) /\ G.get 5=some (.int .i64 (p:Int)) /\ iR H H' bj qs /\ H'.m.get H.next=some (.cells [.int .i64 0,.int .i64 0,.int .i64 0,.aE,.int .i64 0] 87 true true) /\ H'.m.get (H.next + 1)=some (.cells [.int .i64 (cD w),.int .i64 (dc w),.int .i64 (dJ w),bj] 64 true true) /\ H.next + 2≤H'.next /\
  sT w p ⟨cD w,dc w,dJ w,qs.map (·.1)⟩ i /\ fS ⟨cD w,dc w,dJ w,qs.map (·.1)⟩=true /\ lv w N 24 (l_ w)=lv w (N - i) p ⟨cD w,dc w,dJ w,qs.map (·.1)⟩) N
  ⟨0,24,[],.aE,Nat.zero_le _,(Nat.sub_zero _).symm,(by simp (disch:=(refine am ?_; first | assumption | decide | omega | (simp only [aT,aW] <;> omega) | with_unfolding_all exact a6 rfl | with_unfolding_all exact a7 rfl)) only [go_sem]; first | done | rfl),(by simp (disch:=(refine am ?_; first | assumption | decide | omega | (simp only [aT,aW] <;> omega) | with_unfolding_all exact a6 rfl | with_unfolding_all exact a7 rfl)) only [go_sem]; first | done | rfl),iR.nil iO,sa,tD,AQ,Er,vt,rfl⟩ ?_
 rintro r G H' aZ ⟨i,p,qs,bj,ad,rfl,dy,b6,yb,fe,dU,ar,c',tB,b9⟩
 have eg:=yb.a.fr
 have Ac:=c'.p
 have qS:bG .i64 (((w.length:Nat):Int) - (p:Int))=((w.length - p:Nat):Int):=by rw [wrap_i64 (by omega) (by omega)]; omega
 by_cases aF:i < N
 ·
  have d7:(i:Int) < (N:Int):=by omega
  obtain ⟨j,ax⟩:∃j,N - i=j + 1:=⟨N - i - 1,by omega⟩
  rw [ax] at b9
  have lJ:∀ {H':aa} {e:Int},Fr H H' -> e≠0 -> fw w p ⟨cD w,dc w,dJ w,qs.map (·.1)⟩=e -> ji H K (.agg [.int .i64 0,.int .i64 0,.int .i64 0,.aE,.int .i64 e]) H':=fun {H' e} ao aD h=>by
   refine bad ao ?_
   have O:lv w (j + 1) p ⟨cD w,dc w,dJ w,qs.map (·.1)⟩=(e,p,⟨cD w,dc w,dJ w,qs.map (·.1)⟩):=by
    unfold lv
    rw [if_neg (by rw [h]; exact aD),h]
   rw [nd _ (b9.trans O),if_pos aD]
  by_cases a8:w.length < p + 5
  ·
   have pq:((w.length - p:Nat):Int) < 5:=by omega
   simp (disch:=(refine am ?_; decide)) only [go_sem,b6,dy,aZ,d7,List.length_map,qS,pq,a2 fe]
   exact lJ (eg.set (Nat.le_refl _) _) (by decide) (if_pos a8)
  have pq:¬((w.length - p:Nat):Int) < 5:=by omega
  have ho:p < w.length:=by omega
  have V:=w[p].toNat_lt
  have v0:bx w p 1=w[p].toNat:=by
   unfold bx
   rw [List.drop_eq_getElem_cons ho]
   show w[p].toNat + 256 * 0=_
   omega
  have cl:bG .i64 ((p:Int) + 1)=((p + 1:Nat):Int):=by rw [wrap_i64 (by omega) (by omega)]; rfl
  have mS:bG .i64 ((p:Int) + 3)=((p + 3:Nat):Int):=by rw [wrap_i64 (by omega) (by omega)]; rfl
  have pz:bG .i64 ((p:Int) + 5)=((p + 5:Nat):Int):=by rw [wrap_i64 (by omega) (by omega)]; rfl
  have s1:dp (.slice 5) aq (.aJ 1 (w.map aI)) (some (.int .i64 ((p + 1:Nat):Int))) (some (.int .i64 ((p + 3:Nat):Int))) none=some (.aJ 1 (((w.drop (p + 1)).take 2).map aI)):=nX (p + 1) 2 (by omega)
  have sg:dp (.slice 5) aq (.aJ 1 (w.map aI)) (some (.int .i64 ((p + 3:Nat):Int))) (some (.int .i64 ((p + 5:Nat):Int))) none=some (.aJ 1 (((w.drop (p + 3)).take 2).map aI)):=nX (p + 3) 2 (by omega)
  simp (disch:=(refine am ?_; decide)) only [go_sem,b6,dy,aZ,d7,List.length_map,qS,pq]
  refine oP [0,0,0,0,0,0,2,0,0,0,0,0,0,2,0,0,0,1,0,0,0,0] (by kernel_rfl) (by kernel_rfl) rfl (by kernel_rfl) ?_
  simp (disch:=(refine am ?_; first | assumption | decide | omega | (simp only [aT,aW] <;> omega) | with_unfolding_all exact a6 rfl | with_unfolding_all exact a7 rfl)) only [go_sem,b6,dy,aZ,cl,mS,pz,s1]
  refine uC (by rw [List.length_take]; omega) ?_
  rw [show er ((w.drop (p + 1)).take 2)=bx w (p + 1) 2 from rfl]
  simp (disch:=(refine am ?_; first | assumption | decide | omega | (simp only [aT,aW] <;> omega) | with_unfolding_all exact a6 rfl | with_unfolding_all exact a7 rfl)) only [go_sem,b6,dy,aZ,cl,mS,pz,sg]
  refine uC (by rw [List.length_take]; omega) ?_
  rw [show er ((w.drop (p + 3)).take 2)=bx w (p + 3) 2 from rfl]
  have hq:=q8 (w:=w) (p:=p + 1) (n:=2) (by decide)
  have tG:=q8 (w:=w) (p:=p + 3) (n:=2) (by decide)
  by_cases bk:bx w p 1≠1 /\ bx w p 1≠2
  ·
   have t1:¬((w[p].toNat:Nat):Int)=1:=by omega
   have t2:¬((w[p].toNat:Nat):Int)=2:=by omega
   have e':fw w p ⟨cD w,dc w,dJ w,qs.map (·.1)⟩=11:=by unfold fw; rw [if_neg a8,if_pos bk]
   have aeF:(aN (aS H' (.cells [.int .i64 0,.int .i64 0,.bool false,.aE] 68 true true)).2 H'.next (.cells [.int .i64 (bx w (p + 1) 2:Nat),.int .i64 (bx w (p + 3) 2:Nat),.bool false,.aE] 68 true true)).m.get H.next=some (.cells [.int .i64 0,.int .i64 0,.int .i64 0,.aE,.int .i64 0] 87 true true):=(cY (by omega)).trans ((hK (by omega)).trans fe)
   simp (disch:=(refine am ?_; first | assumption | decide | omega | (simp only [aT,aW] <;> omega) | with_unfolding_all exact a6 rfl | with_unfolding_all exact a7 rfl)) only [go_sem,b6,dy,aZ,fh,ho,t1,t2,a2 aeF]
   refine ⟨qu.mk 0 (by kernel_rfl) (by simp (disch:=(refine am ?_; first | assumption | decide | omega | (simp only [aT,aW] <;> omega) | with_unfolding_all exact a6 rfl | with_unfolding_all exact a7 rfl)) only [go_sem,aZ]; first | done | rfl),?_⟩
   exact lJ ((((Fr.refl H).trans eg).ce _ |>.set (Nat.le_trans (by omega) eg.1) _).set (Nat.le_refl _) _) (by decide) e'
  have ab':w[p].toNat=1∨w[p].toNat=2:=by omega
  rcases ab' with bh | bh
  ·
   have t1:decide (((w[p].toNat:Nat):Int)=1)=true:=by rw [bh]; rfl
   have t2:decide (((w[p].toNat:Nat):Int)=2)=false:=by rw [bh]; rfl
   have f7:Fr H' (aN (aS H' (.cells [.int .i64 0,.int .i64 0,.bool false,.aE] 68 true true)).2 H'.next (.cells [.int .i64 (bx w (p + 1) 2:Nat),.int .i64 (bx w (p + 3) 2:Nat),.bool false,.aE] 68 true true)):=(Fr.alloc _ _).set (Nat.le_refl _) _
   have dO:(aN (aS H' (.cells [.int .i64 0,.int .i64 0,.bool false,.aE] 68 true true)).2 H'.next (.cells [.int .i64 (bx w (p + 1) 2:Nat),.int .i64 (bx w (p + 3) 2:Nat),.bool false,.aE] 68 true true)).m.get H'.next=some (.cells [.int .i64 (bx w (p + 1) 2:Nat),.int .i64 (bx w (p + 3) 2:Nat),.bool false,.aE] 68 true true):=gj
   have yw:H'.next + 1≤(aN (aS H' (.cells [.int .i64 0,.int .i64 0,.bool false,.aE] 68 true true)).2 H'.next (.cells [.int .i64 (bx w (p + 1) 2:Nat),.int .i64 (bx w (p + 3) 2:Nat),.bool false,.aE] 68 true true)).next:=Nat.le_refl _
   simp (disch:=(refine am ?_; first | assumption | decide | omega | (simp only [aT,aW] <;> omega) | with_unfolding_all exact a6 rfl | with_unfolding_all exact a7 rfl)) only [go_sem,b6,dy,aZ,fh,ho,t1,t2]
   refine ⟨qu.mk 0 (by kernel_rfl) (by simp (disch:=(refine am ?_; first | assumption | decide | omega | (simp only [aT,aW] <;> omega) | with_unfolding_all exact a6 rfl | with_unfolding_all exact a7 rfl)) only [go_sem,aZ]; first | done | rfl),?_⟩
   generalize aN (aS H' (.cells [.int .i64 0,.int .i64 0,.bool false,.aE] 68 true true)).2 H'.next (.cells [.int .i64 (bx w (p + 1) 2:Nat),.int .i64 (bx w (p + 3) 2:Nat),.bool false,.aE] 68 true true)=H1 at f7 dO yw ⊢
   have oj:=(f7.2 _ (show H.next < H'.next by omega)).trans fe
   have mL:=(f7.2 _ (show H.next + 1 < H'.next by omega)).trans dU
   have f1:=eg.trans f7
   have lM:=c'.b
   dsimp only at lM
   have s8:bG .i64 (cD w - ((bx w (p + 1) 2:Nat):Int))=cD w - ((bx w (p + 1) 2:Nat):Int):=wrap_i64 (by omega) (by omega)
   have bm:jp w p=bx w (p + 3) 2 * 64:=by
    unfold jp
    rw [v0,bh]; rfl
   have s9:recAt w p=⟨bx w (p + 1) 2,bx w (p + 3) 2,false,(w.drop (p + 5)).take (bx w (p + 3) 2 * 64)⟩:=by
    unfold recAt
    rw [bm,v0,bh]; rfl
   generalize nY:bx w (p + 1) 2=fr at *
   generalize nZ:bx w (p + 3) 2=en at *
   by_cases c3:en < 1∨cD w≤fr∨cD w - fr < en
   ·
    have e':fw w p ⟨cD w,dc w,dJ w,qs.map (·.1)⟩=25:=by unfold fw; rw [if_neg a8,if_neg bk,nY,nZ,if_pos c3]
    by_cases bI:(en:Int) < 1
    ·
     simp (disch:=(refine am ?_; first | assumption | decide | omega | (simp only [aT,aW] <;> omega) | with_unfolding_all exact a6 rfl | with_unfolding_all exact a7 rfl)) only [go_sem,b6,dy,aZ,a2 dO,a2 mL,bI,a2 oj]
     exact lJ (f1.set (Nat.le_refl _) _) (by decide) e'
    by_cases bN:cD w≤(fr:Int)
    ·
     simp (disch:=(refine am ?_; first | assumption | decide | omega | (simp only [aT,aW] <;> omega) | with_unfolding_all exact a6 rfl | with_unfolding_all exact a7 rfl)) only [go_sem,b6,dy,aZ,a2 dO,a2 mL,bI,bN,a2 oj]
     exact lJ (f1.set (Nat.le_refl _) _) (by decide) e'
    have dG:cD w - (fr:Int) < (en:Int):=by omega
    simp (disch:=(refine am ?_; first | assumption | decide | omega | (simp only [aT,aW] <;> omega) | with_unfolding_all exact a6 rfl | with_unfolding_all exact a7 rfl)) only [go_sem,b6,dy,aZ,a2 dO,a2 mL,bI,bN,s8,dG,a2 oj]
    exact lJ (f1.set (Nat.le_refl _) _) (by decide) e'
   have bI:¬(en:Int) < 1:=by omega
   have bN:¬cD w≤(fr:Int):=by omega
   have dG:¬cD w - (fr:Int) < (en:Int):=by omega
   obtain ⟨sz,uR⟩:∃sz:Nat,sz=en * 64:=⟨_,rfl⟩
   have rS:sz≤4096:=by omega
   have wn:bG .i64 ((en:Int) * 64)=((sz:Nat):Int):=by rw [wrap_i64 (by omega) (by omega)]; omega
   have bc:bG .i64 (5 + ((sz:Nat):Int))=((5 + sz:Nat):Int):=by rw [wrap_i64 (by omega) (by omega)]; omega
   have a9:bG .i64 (((5 + sz:Nat):Int) + 8)=((5 + sz + 8:Nat):Int):=by rw [wrap_i64 (by omega) (by omega)]; rfl
   have bt:bG .i64 (((p + 5:Nat):Int) + ((sz:Nat):Int))=((p + 5 + sz:Nat):Int):=by rw [wrap_i64 (by omega) (by omega)]; omega
   have gC:bG .i64 (((p + 5 + sz:Nat):Int) + 8)=((p + 5 + sz + 8:Nat):Int):=by rw [wrap_i64 (by omega) (by omega)]; rfl
   have kM:bG .i64 ((p:Int) + ((5 + sz + 8:Nat):Int))=((p + 5 + sz + 8:Nat):Int):=by rw [wrap_i64 (by omega) (by omega)]; omega
   rw [<- uR] at bm s9
   by_cases eD:w.length < p + 5 + sz + 8
   ·
    have e':fw w p ⟨cD w,dc w,dJ w,qs.map (·.1)⟩=21:=by unfold fw; rw [if_neg a8,if_neg bk,nY,nZ,if_neg c3,bm,if_pos eD]
    have ol:((w.length - p:Nat):Int) < ((5 + sz + 8:Nat):Int):=by omega
    simp (disch:=(refine am ?_; first | assumption | decide | omega | (simp only [aT,aW] <;> omega) | with_unfolding_all exact a6 rfl | with_unfolding_all exact a7 rfl)) only [go_sem,b6,dy,aZ,a2 dO,a2 mL,bI,bN,s8,dG,a2 oj,wn,bc,a9,List.length_map,qS,ol]
    exact lJ (f1.set (Nat.le_refl _) _) (by decide) e'
   have ol:¬((w.length - p:Nat):Int) < ((5 + sz + 8:Nat):Int):=by omega
   have FL:dp (.slice 5) aq (.aJ 1 (w.map aI)) (some (.int .i64 (p:Int))) (some (.int .i64 ((p + 5 + sz + 8:Nat):Int))) none=some (.aJ 1 (((w.drop p).take (5 + sz + 8)).map aI)):=by
    have:=nX (w:=w) p (5 + sz + 8) (by omega)
    rwa [show p + (5 + sz + 8)=p + 5 + sz + 8 by omega] at this
   have FM:dp (.slice 5) aq (.aJ 1 (w.map aI)) (some (.int .i64 ((p + 5:Nat):Int))) (some (.int .i64 ((p + 5 + sz:Nat):Int))) none=some (.aJ 1 (((w.drop (p + 5)).take sz).map aI)):=nX (p + 5) sz (by omega)
   simp (disch:=(refine am ?_; first | assumption | decide | omega | (simp only [aT,aW] <;> omega) | with_unfolding_all exact a6 rfl | with_unfolding_all exact a7 rfl)) only [go_sem,b6,dy,aZ,a2 dO,a2 mL,bI,bN,s8,dG,wn,bc,a9,List.length_map,qS,ol,pz,bt,gC,FL]
   have FN:((w.drop p).take (5 + sz + 8)).length=5 + sz + 8:=by rw [List.length_take,List.length_drop]; omega
   have FO:((w.drop p).take (5 + sz + 8)).take (5 + sz)=(w.take (p + 5 + sz)).drop p:=by
    rw [List.take_take,List.drop_take]; congr 1; omega
   have FP:er (((w.drop p).take (5 + sz + 8)).drop (5 + sz))=bx w (p + 5 + sz) 8:=by
    unfold bx
    rw [List.drop_take,List.drop_drop]
    congr 2
    ·
     omega
    ·
     congr 1; omega
   refine Cp (by omega) (by omega) ?_
   rw [FN,show 5 + sz + 8 - 8=5 + sz by omega,FO,FP]
   by_cases fZ:ei ((w.take (p + 5 + sz)).drop p)≠bx w (p + 5 + sz) 8
   ·
    have e':fw w p ⟨cD w,dc w,dJ w,qs.map (·.1)⟩=22:=by unfold fw; rw [if_neg a8,if_neg bk,nY,nZ,if_neg c3,bm,if_neg eD,if_pos fZ]
    rw [decide_eq_false fZ]
    simp (disch:=(refine am ?_; first | assumption | decide | omega | (simp only [aT,aW] <;> omega) | with_unfolding_all exact a6 rfl | with_unfolding_all exact a7 rfl)) only [go_sem,b6,dy,aZ,a2 oj]
    exact lJ (f1.set (Nat.le_refl _) _) (by decide) e'
   rw [decide_eq_true (Decidable.not_not.1 fZ)]
   obtain ⟨dv,ay,ae,l1,li⟩:=Ja (H:=H1) (w:=(w.drop (p + 5)).take sz) (by rw [List.length_take]; omega)
   have ae:cJ aq (aS H1 (.cells [] 5 true true)).2 5 (.slice H1.next 0 0 (.ex 0)) ((w.drop (p + 5)).take sz).length (a3 (((w.drop (p + 5)).take sz).map aI))=some (dv,ay):=by rw [eY]; exact ae
   have eT:=li.one
   have yc:=(l1.2 _ yw).trans dO
   have st:dW ay 1 (.ptr H'.next 3) dv=some (.undef,aN ay H'.next (.cells [.int .i64 (fr:Int),.int .i64 (en:Int),.bool false,dv] 68 true true)):=by
    rw [l8 (eo eT),g4,yc]
    show (hi ay H'.next 3 [dv] (.cells [.int .i64 (fr:Int),.int .i64 (en:Int),.bool false,.aE] 68 true true)).omap _=_
    have ao:br [dv]=true:=by rw [eb,eT]; rfl
    rw [hM,ao,kP (by show 3 < 4; decide)]; rfl
   have m32:=(l1.2 _ (show H.next + 1 < H1.next by omega)).trans mL
   simp (disch:=(refine am ?_; first | assumption | decide | omega | (simp only [aT,aW] <;> omega) | with_unfolding_all exact a6 rfl | with_unfolding_all exact a7 rfl)) only [go_sem,b6,dy,aZ,pz,bt,FM,List.length_map,ae,st,a2 m32]
   have f3:Fr H' (aN ay H'.next (.cells [.int .i64 (fr:Int),.int .i64 (en:Int),.bool false,dv] 68 true true)):=(f7.trans l1).set (Nat.le_refl _) _
   have yd:(aN ay H'.next (.cells [.int .i64 (fr:Int),.int .i64 (en:Int),.bool false,dv] 68 true true)).m.get H'.next=some (.cells [.int .i64 (fr:Int),.int .i64 (en:Int),.bool false,dv] 68 true true):=gj
   have iH:iL H.next (aN ay H'.next (.cells [.int .i64 (fr:Int),.int .i64 (en:Int),.bool false,dv] 68 true true)) dv ((w.drop (p + 5)).take sz):=by
    obtain ⟨b,x,hq,jJ,tG,vB⟩:=li.ed (z:= .cells [.int .i64 (fr:Int),.int .i64 (en:Int),.bool false,dv] 68 true true) yc rfl
    exact ⟨b,x,hq,jJ,Nat.le_trans f1.1 tG,vB⟩
   generalize aN ay H'.next (.cells [.int .i64 (fr:Int),.int .i64 (en:Int),.bool false,dv] 68 true true)=dT at f3 yd iH ⊢
   have ye:=(f3.2 _ (show H.next < H'.next by omega)).trans fe
   have yf:=(f3.2 _ (show H.next + 1 < H'.next by omega)).trans dU
   have kz:=yb.b3 f3
   have pu:H'.next≤dT.next:=f3.1
   have Ft:((w.drop (p + 5)).take sz).length≤4096:=by rw [List.length_take]; omega
   have El:qs.length=i:=by have:=c'.n; rwa [List.length_map] at this
   refine Jb (s:=⟨cD w,dc w,dJ w,qs.map (·.1)⟩) (x:=⟨fr,en,false,(w.drop (p + 5)).take sz⟩) kz rfl iH ⟨by dsimp only; omega,by dsimp only; omega⟩ ⟨⟨by dsimp only; omega,by dsimp only; omega⟩,⟨by dsimp only; omega,by dsimp only; omega⟩,by dsimp only; omega⟩ (by dsimp only; rw [List.length_map]; omega) (fun r af=>(c'.d r af).2) ?_
   rw [<- s9,<- GZ tB]
   cases n6:fS (cS.snoc ⟨cD w,dc w,dJ w,qs.map (·.1)⟩ (recAt w p)) with
   | false=>
    have e':fw w p ⟨cD w,dc w,dJ w,qs.map (·.1)⟩=26:=by unfold fw; rw [if_neg a8,if_neg bk,nY,nZ,if_neg c3,bm,if_neg eD,if_neg fZ,if_pos n6]
    simp (disch:=(refine am ?_; first | assumption | decide | omega | (simp only [aT,aW] <;> omega) | with_unfolding_all exact a6 rfl | with_unfolding_all exact a7 rfl)) only [go_sem,b6,dy,aZ,a2 ye]
    exact lJ ((eg.trans f3).set (Nat.le_refl _) _) (by decide) e'
   | true=>
    have e':fw w p ⟨cD w,dc w,dJ w,qs.map (·.1)⟩=0:=by unfold fw; rw [if_neg a8,if_neg bk,nY,nZ,if_neg c3,bm,if_neg eD,if_neg fZ,if_neg (by rw [n6]; decide)]
    have hIn:=c'.next hw e'
    rw [bm] at hIn
    obtain ⟨J,O,ag,aP⟩:=kz.push (x:=⟨fr,en,false,(w.drop (p + 5)).take sz⟩) iH (by omega)
    have jd:=kz.one
    have tF:=aP _ _ ye rfl (by omega)
    have om:=aP _ _ yf rfl (by omega)
    dsimp only at J O ag tF om
    generalize jI aq dT 68 bj [.int .i64 (fr:Int),.int .i64 (en:Int),.bool false,dv]=c_ at J O ag tF om
    simp (disch:=(refine am ?_; first | assumption | decide | omega | (simp only [aT,aW] <;> omega) | with_unfolding_all exact a6 rfl | with_unfolding_all exact a7 rfl)) only [go_sem,b6,dy,aZ,a2 yf,a2 yd,J,jd,eo jd,a2 om,om,bc,a9,kM]
    have p7:(⟨cD w,dc w,dJ w,(qs ++ [((⟨fr,en,false,(w.drop (p + 5)).take sz⟩:Rec),dv)]).map (·.1)⟩:cS)=cS.snoc ⟨cD w,dc w,dJ w,qs.map (·.1)⟩ (recAt w p):=by rw [s9,List.map_append]; rfl
    refine ⟨N - (i + 1),by omega,i + 1,p + 5 + sz + 8,qs ++ [(⟨fr,en,false,(w.drop (p + 5)).take sz⟩,dv)],_,by omega,rfl,?_,rfl,O.set om rfl rfl (Nat.le_succ _),tF,rfl,by omega,?_,?_,?_⟩
    ·
     rw [wrap_i64 (by omega) (by omega)]; rfl
    ·
     rw [p7]; exact hIn
    ·
     rw [p7]; exact n6
    ·
     rw [p7,b9,show N - (i + 1)=j by omega]
     show (if _ then _ else _)=_
     rw [if_pos e',bm]
  ·
   have t1:decide (((w[p].toNat:Nat):Int)=1)=false:=by rw [bh]; rfl
   have t2:decide (((w[p].toNat:Nat):Int)=2)=true:=by rw [bh]; rfl
   have f7:Fr H' (aN (aS H' (.cells [.int .i64 0,.int .i64 0,.bool false,.aE] 68 true true)).2 H'.next (.cells [.int .i64 (bx w (p + 1) 2:Nat),.int .i64 (bx w (p + 3) 2:Nat),.bool true,.aE] 68 true true)):=(Fr.alloc _ _).set (Nat.le_refl _) _
   have dO:(aN (aS H' (.cells [.int .i64 0,.int .i64 0,.bool false,.aE] 68 true true)).2 H'.next (.cells [.int .i64 (bx w (p + 1) 2:Nat),.int .i64 (bx w (p + 3) 2:Nat),.bool true,.aE] 68 true true)).m.get H'.next=some (.cells [.int .i64 (bx w (p + 1) 2:Nat),.int .i64 (bx w (p + 3) 2:Nat),.bool true,.aE] 68 true true):=gj
   have yw:H'.next + 1≤(aN (aS H' (.cells [.int .i64 0,.int .i64 0,.bool false,.aE] 68 true true)).2 H'.next (.cells [.int .i64 (bx w (p + 1) 2:Nat),.int .i64 (bx w (p + 3) 2:Nat),.bool true,.aE] 68 true true)).next:=Nat.le_refl _
   simp (disch:=(refine am ?_; first | assumption | decide | omega | (simp only [aT,aW] <;> omega) | with_unfolding_all exact a6 rfl | with_unfolding_all exact a7 rfl)) only [go_sem,b6,dy,aZ,fh,ho,t1,t2]
   refine ⟨qu.mk 0 (by kernel_rfl) (by simp (disch:=(refine am ?_; first | assumption | decide | omega | (simp only [aT,aW] <;> omega) | with_unfolding_all exact a6 rfl | with_unfolding_all exact a7 rfl)) only [go_sem,aZ]; first | done | rfl),?_⟩
   generalize aN (aS H' (.cells [.int .i64 0,.int .i64 0,.bool false,.aE] 68 true true)).2 H'.next (.cells [.int .i64 (bx w (p + 1) 2:Nat),.int .i64 (bx w (p + 3) 2:Nat),.bool true,.aE] 68 true true)=H1 at f7 dO yw ⊢
   have oj:=(f7.2 _ (show H.next < H'.next by omega)).trans fe
   have mL:=(f7.2 _ (show H.next + 1 < H'.next by omega)).trans dU
   have f1:=eg.trans f7
   have lM:=c'.b
   dsimp only at lM
   have s8:bG .i64 (cD w - ((bx w (p + 1) 2:Nat):Int))=cD w - ((bx w (p + 1) 2:Nat):Int):=wrap_i64 (by omega) (by omega)
   have bm:jp w p=0:=by
    unfold jp
    rw [v0,bh]; rfl
   have s9:recAt w p=⟨bx w (p + 1) 2,bx w (p + 3) 2,true,(w.drop (p + 5)).take (0)⟩:=by
    unfold recAt
    rw [bm,v0,bh]; rfl
   generalize nY:bx w (p + 1) 2=fr at *
   generalize nZ:bx w (p + 3) 2=en at *
   by_cases c3:en < 1∨cD w≤fr∨cD w - fr < en
   ·
    have e':fw w p ⟨cD w,dc w,dJ w,qs.map (·.1)⟩=25:=by unfold fw; rw [if_neg a8,if_neg bk,nY,nZ,if_pos c3]
    by_cases bI:(en:Int) < 1
    ·
     simp (disch:=(refine am ?_; first | assumption | decide | omega | (simp only [aT,aW] <;> omega) | with_unfolding_all exact a6 rfl | with_unfolding_all exact a7 rfl)) only [go_sem,b6,dy,aZ,a2 dO,a2 mL,bI,a2 oj]
     exact lJ (f1.set (Nat.le_refl _) _) (by decide) e'
    by_cases bN:cD w≤(fr:Int)
    ·
     simp (disch:=(refine am ?_; first | assumption | decide | omega | (simp only [aT,aW] <;> omega) | with_unfolding_all exact a6 rfl | with_unfolding_all exact a7 rfl)) only [go_sem,b6,dy,aZ,a2 dO,a2 mL,bI,bN,a2 oj]
     exact lJ (f1.set (Nat.le_refl _) _) (by decide) e'
    have dG:cD w - (fr:Int) < (en:Int):=by omega
    simp (disch:=(refine am ?_; first | assumption | decide | omega | (simp only [aT,aW] <;> omega) | with_unfolding_all exact a6 rfl | with_unfolding_all exact a7 rfl)) only [go_sem,b6,dy,aZ,a2 dO,a2 mL,bI,bN,s8,dG,a2 oj]
    exact lJ (f1.set (Nat.le_refl _) _) (by decide) e'
   have bI:¬(en:Int) < 1:=by omega
   have bN:¬cD w≤(fr:Int):=by omega
   have dG:¬cD w - (fr:Int) < (en:Int):=by omega
   obtain ⟨sz,uR⟩:∃sz:Nat,sz=0:=⟨_,rfl⟩
   have rS:sz≤4096:=by omega
   skip
   have bc:bG .i64 (5 + 0)=((5 + sz:Nat):Int):=by rw [wrap_i64 (by omega) (by omega)]; omega
   have a9:bG .i64 (((5 + sz:Nat):Int) + 8)=((5 + sz + 8:Nat):Int):=by rw [wrap_i64 (by omega) (by omega)]; rfl
   have bt:bG .i64 (((p + 5:Nat):Int) + 0)=((p + 5 + sz:Nat):Int):=by rw [wrap_i64 (by omega) (by omega)]; omega
   have gC:bG .i64 (((p + 5 + sz:Nat):Int) + 8)=((p + 5 + sz + 8:Nat):Int):=by rw [wrap_i64 (by omega) (by omega)]; rfl
   have kM:bG .i64 ((p:Int) + ((5 + sz + 8:Nat):Int))=((p + 5 + sz + 8:Nat):Int):=by rw [wrap_i64 (by omega) (by omega)]; omega
   rw [<- uR] at bm s9
   by_cases eD:w.length < p + 5 + sz + 8
   ·
    have e':fw w p ⟨cD w,dc w,dJ w,qs.map (·.1)⟩=21:=by unfold fw; rw [if_neg a8,if_neg bk,nY,nZ,if_neg c3,bm,if_pos eD]
    have ol:((w.length - p:Nat):Int) < ((5 + sz + 8:Nat):Int):=by omega
    simp (disch:=(refine am ?_; first | assumption | decide | omega | (simp only [aT,aW] <;> omega) | with_unfolding_all exact a6 rfl | with_unfolding_all exact a7 rfl)) only [go_sem,b6,dy,aZ,a2 dO,a2 mL,bI,bN,s8,dG,a2 oj,bc,a9,List.length_map,qS,ol]
    exact lJ (f1.set (Nat.le_refl _) _) (by decide) e'
   have ol:¬((w.length - p:Nat):Int) < ((5 + sz + 8:Nat):Int):=by omega
   have FL:dp (.slice 5) aq (.aJ 1 (w.map aI)) (some (.int .i64 (p:Int))) (some (.int .i64 ((p + 5 + sz + 8:Nat):Int))) none=some (.aJ 1 (((w.drop p).take (5 + sz + 8)).map aI)):=by
    have:=nX (w:=w) p (5 + sz + 8) (by omega)
    rwa [show p + (5 + sz + 8)=p + 5 + sz + 8 by omega] at this
   have FM:dp (.slice 5) aq (.aJ 1 (w.map aI)) (some (.int .i64 ((p + 5:Nat):Int))) (some (.int .i64 ((p + 5 + sz:Nat):Int))) none=some (.aJ 1 (((w.drop (p + 5)).take sz).map aI)):=nX (p + 5) sz (by omega)
   simp (disch:=(refine am ?_; first | assumption | decide | omega | (simp only [aT,aW] <;> omega) | with_unfolding_all exact a6 rfl | with_unfolding_all exact a7 rfl)) only [go_sem,b6,dy,aZ,a2 dO,a2 mL,bI,bN,s8,dG,bc,a9,List.length_map,qS,ol,pz,bt,gC,FL]
   have FN:((w.drop p).take (5 + sz + 8)).length=5 + sz + 8:=by rw [List.length_take,List.length_drop]; omega
   have FO:((w.drop p).take (5 + sz + 8)).take (5 + sz)=(w.take (p + 5 + sz)).drop p:=by
    rw [List.take_take,List.drop_take]; congr 1; omega
   have FP:er (((w.drop p).take (5 + sz + 8)).drop (5 + sz))=bx w (p + 5 + sz) 8:=by
    unfold bx
    rw [List.drop_take,List.drop_drop]
    congr 2
    ·
     omega
    ·
     congr 1; omega
   refine Cp (by omega) (by omega) ?_
   rw [FN,show 5 + sz + 8 - 8=5 + sz by omega,FO,FP]
   by_cases fZ:ei ((w.take (p + 5 + sz)).drop p)≠bx w (p + 5 + sz) 8
   ·
    have e':fw w p ⟨cD w,dc w,dJ w,qs.map (·.1)⟩=22:=by unfold fw; rw [if_neg a8,if_neg bk,nY,nZ,if_neg c3,bm,if_neg eD,if_pos fZ]
    rw [decide_eq_false fZ]
    simp (disch:=(refine am ?_; first | assumption | decide | omega | (simp only [aT,aW] <;> omega) | with_unfolding_all exact a6 rfl | with_unfolding_all exact a7 rfl)) only [go_sem,b6,dy,aZ,a2 oj]
    exact lJ (f1.set (Nat.le_refl _) _) (by decide) e'
   rw [decide_eq_true (Decidable.not_not.1 fZ)]
   obtain ⟨dv,ay,ae,l1,li⟩:=Ja (H:=H1) (w:=(w.drop (p + 5)).take sz) (by rw [List.length_take]; omega)
   have ae:cJ aq (aS H1 (.cells [] 5 true true)).2 5 (.slice H1.next 0 0 (.ex 0)) ((w.drop (p + 5)).take sz).length (a3 (((w.drop (p + 5)).take sz).map aI))=some (dv,ay):=by rw [eY]; exact ae
   have eT:=li.one
   have yc:=(l1.2 _ yw).trans dO
   have st:dW ay 1 (.ptr H'.next 3) dv=some (.undef,aN ay H'.next (.cells [.int .i64 (fr:Int),.int .i64 (en:Int),.bool true,dv] 68 true true)):=by
    rw [l8 (eo eT),g4,yc]
    show (hi ay H'.next 3 [dv] (.cells [.int .i64 (fr:Int),.int .i64 (en:Int),.bool true,.aE] 68 true true)).omap _=_
    have ao:br [dv]=true:=by rw [eb,eT]; rfl
    rw [hM,ao,kP (by show 3 < 4; decide)]; rfl
   have m32:=(l1.2 _ (show H.next + 1 < H1.next by omega)).trans mL
   simp (disch:=(refine am ?_; first | assumption | decide | omega | (simp only [aT,aW] <;> omega) | with_unfolding_all exact a6 rfl | with_unfolding_all exact a7 rfl)) only [go_sem,b6,dy,aZ,pz,bt,FM,List.length_map,ae,st,a2 m32]
   have f3:Fr H' (aN ay H'.next (.cells [.int .i64 (fr:Int),.int .i64 (en:Int),.bool true,dv] 68 true true)):=(f7.trans l1).set (Nat.le_refl _) _
   have yd:(aN ay H'.next (.cells [.int .i64 (fr:Int),.int .i64 (en:Int),.bool true,dv] 68 true true)).m.get H'.next=some (.cells [.int .i64 (fr:Int),.int .i64 (en:Int),.bool true,dv] 68 true true):=gj
   have iH:iL H.next (aN ay H'.next (.cells [.int .i64 (fr:Int),.int .i64 (en:Int),.bool true,dv] 68 true true)) dv ((w.drop (p + 5)).take sz):=by
    obtain ⟨b,x,hq,jJ,tG,vB⟩:=li.ed (z:= .cells [.int .i64 (fr:Int),.int .i64 (en:Int),.bool true,dv] 68 true true) yc rfl
    exact ⟨b,x,hq,jJ,Nat.le_trans f1.1 tG,vB⟩
   generalize aN ay H'.next (.cells [.int .i64 (fr:Int),.int .i64 (en:Int),.bool true,dv] 68 true true)=dT at f3 yd iH ⊢
   have ye:=(f3.2 _ (show H.next < H'.next by omega)).trans fe
   have yf:=(f3.2 _ (show H.next + 1 < H'.next by omega)).trans dU
   have kz:=yb.b3 f3
   have pu:H'.next≤dT.next:=f3.1
   have Ft:((w.drop (p + 5)).take sz).length≤4096:=by rw [List.length_take]; omega
   have El:qs.length=i:=by have:=c'.n; rwa [List.length_map] at this
   refine Jb (s:=⟨cD w,dc w,dJ w,qs.map (·.1)⟩) (x:=⟨fr,en,true,(w.drop (p + 5)).take sz⟩) kz rfl iH ⟨by dsimp only; omega,by dsimp only; omega⟩ ⟨⟨by dsimp only; omega,by dsimp only; omega⟩,⟨by dsimp only; omega,by dsimp only; omega⟩,by dsimp only; omega⟩ (by dsimp only; rw [List.length_map]; omega) (fun r af=>(c'.d r af).2) ?_
   rw [<- s9,<- GZ tB]
   cases n6:fS (cS.snoc ⟨cD w,dc w,dJ w,qs.map (·.1)⟩ (recAt w p)) with
   | false=>
    have e':fw w p ⟨cD w,dc w,dJ w,qs.map (·.1)⟩=26:=by unfold fw; rw [if_neg a8,if_neg bk,nY,nZ,if_neg c3,bm,if_neg eD,if_neg fZ,if_pos n6]
    simp (disch:=(refine am ?_; first | assumption | decide | omega | (simp only [aT,aW] <;> omega) | with_unfolding_all exact a6 rfl | with_unfolding_all exact a7 rfl)) only [go_sem,b6,dy,aZ,a2 ye]
    exact lJ ((eg.trans f3).set (Nat.le_refl _) _) (by decide) e'
   | true=>
    have e':fw w p ⟨cD w,dc w,dJ w,qs.map (·.1)⟩=0:=by unfold fw; rw [if_neg a8,if_neg bk,nY,nZ,if_neg c3,bm,if_neg eD,if_neg fZ,if_neg (by rw [n6]; decide)]
    have hIn:=c'.next hw e'
    rw [bm] at hIn
    obtain ⟨J,O,ag,aP⟩:=kz.push (x:=⟨fr,en,true,(w.drop (p + 5)).take sz⟩) iH (by omega)
    have jd:=kz.one
    have tF:=aP _ _ ye rfl (by omega)
    have om:=aP _ _ yf rfl (by omega)
    dsimp only at J O ag tF om
    generalize jI aq dT 68 bj [.int .i64 (fr:Int),.int .i64 (en:Int),.bool true,dv]=c_ at J O ag tF om
    simp (disch:=(refine am ?_; first | assumption | decide | omega | (simp only [aT,aW] <;> omega) | with_unfolding_all exact a6 rfl | with_unfolding_all exact a7 rfl)) only [go_sem,b6,dy,aZ,a2 yf,a2 yd,J,jd,eo jd,a2 om,om,bc,a9,kM]
    have p7:(⟨cD w,dc w,dJ w,(qs ++ [((⟨fr,en,true,(w.drop (p + 5)).take sz⟩:Rec),dv)]).map (·.1)⟩:cS)=cS.snoc ⟨cD w,dc w,dJ w,qs.map (·.1)⟩ (recAt w p):=by rw [s9,List.map_append]; rfl
    refine ⟨N - (i + 1),by omega,i + 1,p + 5 + sz + 8,qs ++ [(⟨fr,en,true,(w.drop (p + 5)).take sz⟩,dv)],_,by omega,rfl,?_,rfl,O.set om rfl rfl (Nat.le_succ _),tF,rfl,by omega,?_,?_,?_⟩
    ·
     rw [wrap_i64 (by omega) (by omega)]; rfl
    ·
     rw [p7]; exact hIn
    ·
     rw [p7]; exact n6
    ·
     rw [p7,b9,show N - (i + 1)=j by omega]
     show (if _ then _ else _)=_
     rw [if_pos e',bm]
 ·
  obtain rfl:i=N:=by omega
  have d7:¬(i:Int) < (i:Int):=by omega
  have dn:∀s,lv w 0 p s=(0,p,s):=fun s=>by rw [lv]
  rw [Nat.sub_self,dn] at b9
  have KD:eq w=if lA w p≠0 then (lA w p,ru) else (0,⟨cD w,dc w,dJ w,qs.map (·.1)⟩):=by
   exact (nd (0,p,⟨cD w,dc w,dJ w,qs.map (·.1)⟩) b9).trans (if_neg (fun h=>h rfl))
  have Ab:∀ {H':aa} {e:Int},Fr H H' -> e≠0 -> lA w p=e -> ji H K (.agg [.int .i64 0,.int .i64 0,.int .i64 0,.aE,.int .i64 e]) H':=fun {H' e} ao aD h=>by
   refine bad ao ?_
   rw [KD,h,if_pos aD]
  by_cases a8:w.length < p + 9
  ·
   have pq:((w.length - p:Nat):Int) < 9:=by omega
   simp (disch:=(refine am ?_; decide)) only [go_sem,b6,dy,aZ,d7,List.length_map,qS,pq,a2 fe]
   exact Ab (eg.set (Nat.le_refl _) _) (by decide) (if_pos a8)
  have pq:¬((w.length - p:Nat):Int) < 9:=by omega
  have ho:p < w.length:=by omega
  have V:=w[p].toNat_lt
  have v0:bx w p 1=w[p].toNat:=by
   unfold bx
   rw [List.drop_eq_getElem_cons ho]
   show w[p].toNat + 256 * 0=_
   omega
  by_cases bk:bx w p 1≠69
  ·
   have Fu:¬((w[p].toNat:Nat):Int)=69:=by omega
   simp (disch:=(refine am ?_; first | assumption | decide | omega | (simp only [aT,aW] <;> omega) | with_unfolding_all exact a6 rfl | with_unfolding_all exact a7 rfl)) only [go_sem,b6,dy,aZ,d7,List.length_map,qS,pq,fh,ho,Fu,a2 fe]
   exact Ab (eg.set (Nat.le_refl _) _) (by decide) (by unfold lA; rw [if_neg a8,if_pos bk])
  have Fu:((w[p].toNat:Nat):Int)=69:=by omega
  have cl:bG .i64 ((p:Int) + 1)=((p + 1:Nat):Int):=by rw [wrap_i64 (by omega) (by omega)]; rfl
  have FQ:bG .i64 ((p:Int) + 9)=((p + 1 + 8:Nat):Int):=by rw [wrap_i64 (by omega) (by omega)]; omega
  have s1:dp (.slice 5) aq (.aJ 1 (w.map aI)) (some (.int .i64 ((p + 1:Nat):Int))) (some (.int .i64 ((p + 1 + 8:Nat):Int))) none=some (.aJ 1 (((w.drop (p + 1)).take 8).map aI)):=nX (p + 1) 8 (by omega)
  have afc:dp (.slice 5) aq (.aJ 1 (w.map aI)) none (some (.int .i64 ((p:Nat):Int))) none=some (.aJ 1 ((w.take p).map aI)):=D' p (by omega)
  simp (disch:=(refine am ?_; first | assumption | decide | omega | (simp only [aT,aW] <;> omega) | with_unfolding_all exact a6 rfl | with_unfolding_all exact a7 rfl)) only [go_sem,b6,dy,aZ,d7,List.length_map,qS,pq,fh,ho,Fu]
  refine iX (by kernel_rfl) (by kernel_rfl) ?_
  simp (disch:=(refine am ?_; first | assumption | decide | omega | (simp only [aT,aW] <;> omega) | with_unfolding_all exact a6 rfl | with_unfolding_all exact a7 rfl)) only [go_sem,b6,dy,aZ,afc]
  refine Iu (by rw [List.length_take]; omega) ?_
  simp (disch:=(refine am ?_; first | assumption | decide | omega | (simp only [aT,aW] <;> omega) | with_unfolding_all exact a6 rfl | with_unfolding_all exact a7 rfl)) only [go_sem,b6,dy,aZ,cl,FQ,s1]
  refine Df (by rw [List.length_take]; omega) ?_
  rw [List.take_take,show er ((w.drop (p + 1)).take (min 8 8))=bx w (p + 1) 8 from rfl]
  by_cases c3:ei (w.take p)≠bx w (p + 1) 8
  ·
   have AP:¬((ei (w.take p):Nat):Int)=((bx w (p + 1) 8:Nat):Int):=fun h=>c3 (Int.ofNat.inj h)
   simp (disch:=(refine am ?_; first | assumption | decide | omega | (simp only [aT,aW] <;> omega) | with_unfolding_all exact a6 rfl | with_unfolding_all exact a7 rfl)) only [go_sem,b6,dy,aZ,AP,a2 fe]
   exact Ab (eg.set (Nat.le_refl _) _) (by decide) (by unfold lA; rw [if_neg a8,if_neg bk,if_pos c3])
  have AP:((ei (w.take p):Nat):Int)=((bx w (p + 1) 8:Nat):Int):=by rw [Decidable.not_not.1 c3]
  by_cases eD:p + 9 < w.length
  ·
   have ol:((p + 1 + 8:Nat):Int) < ((w.length:Nat):Int):=by omega
   simp (disch:=(refine am ?_; first | assumption | decide | omega | (simp only [aT,aW] <;> omega) | with_unfolding_all exact a6 rfl | with_unfolding_all exact a7 rfl)) only [go_sem,b6,dy,aZ,AP,List.length_map,FQ,ol,a2 fe]
   exact Ab (eg.set (Nat.le_refl _) _) (by decide) (by unfold lA; rw [if_neg a8,if_neg bk,if_neg c3,if_pos eD])
  have ol:¬((p + 1 + 8:Nat):Int) < ((w.length:Nat):Int):=by omega
  have jd:=yb.one
  simp (disch:=(refine am ?_; first | assumption | decide | omega | (simp only [aT,aW] <;> omega) | with_unfolding_all exact a6 rfl | with_unfolding_all exact a7 rfl)) only [go_sem,b6,dy,aZ,AP,List.length_map,FQ,ol,a2 fe,a2 dU,jd,eo jd,yZ (eo jd)]
  have aca:eq w=(0,⟨cD w,dc w,dJ w,qs.map (·.1)⟩):=KD.trans (if_neg (fun h=>h (by unfold lA; rw [if_neg a8,if_neg bk,if_neg c3,if_neg eD])))
  rw [aca] at ab
  exact .inr (.inl ⟨eg.set (Nat.le_refl _) _,_,b_.agg (.cons .int (.cons .int (.cons .int (.cons ((yb.set fe rfl rfl (Nat.le_refl _)).fz bC) (.cons .int .nil))))),ab⟩)
end
end Go.az
