/-
  A model in memory: backups made. No conditions.
-/
import Derived.Test.YtajekleknljggaaPC
set_option linter.unusedVariables false
set_option linter.unusedSimpArgs false
namespace Go.az
open Go.Proofs
noncomputable section
set_option maxRecDepth 100000
theorem abO:bE.fn 50=some Try.f50:=by kernel_rfl
def ir (n:Int):I:= .int .i64 n
theorem SQ (n:Int):(ir n).cells= [.int .i64 n]:=rfl
attribute [go_sem] SQ
def o3 (zs:List (bq × I)) (base:Int) (to b:Nat):Nat -> Bool
 | 0=>decide (base < 0)
 | k + 1=>o3 zs base to b k || ((zs[base.toNat + k]?).map fun z=>z.1.w.getD b false).getD false
def iy (zs:List (bq × I)) (base:Int) (to:Nat):Nat -> List Int
 | 0=> []
 | b + 1=>if o3 zs base to b (to - base.toNat) then iy zs base to b ++ [(b:Int)] else iy zs base to b
theorem yX (zs:List (bq × I)) (base:Int) (to n:Nat):(iy zs base to n).length≤n:=by
 induction n with
 | zero=>exact Nat.le_refl _
 | succ n aH=>
  unfold iy
  split
  ·
   rw [List.length_append]; exact Nat.succ_le_succ aH
  ·
   omega
theorem Cl (zs:List (bq × I)) (base:Int) (to n:Nat):∀x∈iy zs base to n,0≤x /\ x < n:=by
 induction n with
 | zero=>intro x R; cases R
 | succ n aH=>
  intro x R
  unfold iy at R
  split at R
  ·
   rcases List.mem_append.1 R with h | h
   ·
    have:=aH x h; omega
   ·
    rw [List.mem_singleton] at h; omega
  ·
   have:=aH x R; omega
theorem gp.part {H:aa} {aA:I} {zs:List (bq × I)} (h:gp H aA zs) {a c:Nat} (J:a≤c) (O:c < zs.length):
 ∃k,dp (.slice 95) aq aA (some (.int .i64 (a:Int))) (some (.int .i64 (c:Int))) none=some (.slice (aY aA) (a * 3) (c - a) k):=by
 rcases h with ⟨_,rfl⟩ | ⟨b,N,cy,rfl,U,b4,aF,ao⟩
 ·
  cases O
 ·
  exact ⟨_,U1 J (by omega) (by omega)⟩
set_option maxHeartbeats 1000000 in
theorem Hw {H:aa} {p to:Nat} {base:Int} {bs:List (List UInt8)} {zs:List (bq × I)} {next:Int} {bv aA:I} {K:I -> aa -> Prop} (h:cE H p bs zs next bv aA) (aed:to < zs.length) (Fh:base= -1∨(0≤base /\ base≤to))
 (ab:∀v H',Acc aq H H' 3 1 v ((iy zs base to bs.length).map ir) -> K v H'):Call (.func 50 [] []) [.ptr p 0,.int .i64 base,.int .i64 to] H K:=by
 have ar:=h.n
 have acD:=h.k
 have ae:base.toNat≤to:=by omega
 have aee:max base 0=((base.toNat:Nat):Int):=by omega
 obtain ⟨nt,g'⟩:=h.s.part ae aed
 refine bR (N:=51) rfl abO rfl rfl rfl rfl rfl fun bC=> ?_
 have c5:=h.b.ks.len (E:=aq) (e:=53)
 simp (disch:=(refine am ?_; decide)) only [go_sem,a2 h.m,c5]
 refine gw 1125899906714496 (by kernel_rfl) (fun r G H'=>∃(b:Nat) (v:I),b≤bs.length /\ r=bs.length - b /\ G.get 17=some (.int .i64 (b:Int)) /\ G.get 7=some v /\ Acc aq H H' 3 1 v ((iy zs base to b).map ir)) bs.length
  ⟨0,.aE,Nat.zero_le _,(Nat.sub_zero _).symm,rfl,rfl,Acc.nil s7 (by decide) abP⟩ ?_
 rintro r G H' aZ ⟨b,v,U,rfl,AL,dO,aC⟩
 have hlen:=yX zs base to b
 have bo:=h.b3 aC.fr
 by_cases aF:b < bs.length
 ·
  simp (disch:=(refine am ?_; first | assumption | decide | omega | (simp only [aT,aW] <;> omega) | with_unfolding_all exact a6 rfl | with_unfolding_all exact a7 rfl)) only [go_sem,AL,dO,aZ,a2 bo.m,aee,g']
  refine gw 17590038563328 (by kernel_rfl) (fun r kG ay=>∃k:Nat,k≤to - base.toNat /\ r=to - base.toNat - k /\ kG.get 31=some (.int .i64 (k:Int)) /\ kG.get 9=some (.bool (o3 zs base to b k)) /\ Fr H' ay) (to - base.toNat) ⟨0,Nat.zero_le _,(Nat.sub_zero _).symm,?_,?_,Fr.refl _⟩ ?_
  ·
   simp (disch:=assumption) only [go_sem]; first | done | rfl
  ·
   simp (disch:=(refine am ?_; decide)) only [go_sem]; first | done | rfl
  rintro ck kG ay fV ⟨k,u0,rfl,AM,lZ,f2⟩
  by_cases mu:k < to - base.toNat
  ·
   have ie:=bo.b3 f2
   have ad:base.toNat + k < zs.length:=by omega
   have pd:e9 (.slice 95) aq (.slice (aY aA) (base.toNat * 3) (to - base.toNat) nt) k=some (.ptr (aY aA) ((base.toNat + k) * 3)):=by
    show ap (Nat.blt k (to - base.toNat)) (some (I.ptr (aY aA) (base.toNat * 3 + k * au aq 95))) none=_
    rw [(cZ _ _).2 mu,rx,Nat.add_mul]; rfl
   have V:=ie.s.cells ad
   have hw:=ie.xb ad aF uO
   have xF:=ie.wU ad aF
   have n0:b < zs[base.toNat + k].1.w.length:=by rw [(h.fo _ (List.getElem_mem ad)).1]; exact aF
   have cq:o3 zs base to b (k + 1)=(o3 zs base to b k || zs[base.toNat + k].1.w[b]):=by
    show (o3 zs base to b k || ((zs[base.toNat + k]?).map fun z=>z.1.w.getD b false).getD false)=_
    rw [List.getElem?_eq_getElem ad,Option.map_some,Option.getD_some,d6 n0]
   have KO:cellAt ay (aY aA) ((base.toNat + k) * 3 + 2)=some zs[base.toNat + k].2:=ln (j:=2) V (by decide)
   have eR:=(ie.w _ (List.getElem_mem ad)).one
   cases tu:o3 zs base to b k with
   | true=>
    rw [tu] at lZ cq
    simp (disch:=(refine am ?_; first | assumption | decide | omega | (simp only [aT,aW] <;> omega) | with_unfolding_all exact a6 rfl | with_unfolding_all exact a7 rfl)) only [go_sem,AM,lZ,fV,aZ,pd,V,l8 (eo eR),eR,eo eR,wrap_i64]
    exact ⟨_,by omega,k + 1,mu,rfl,rfl,by rw [cq]; rfl,f2.trans ((Fr.alloc _ _).set (Nat.le_refl _) _)⟩
   | false=>
    rw [tu] at lZ cq
    have aef:cE (aN (aS ay (.cells [.int .i64 0,.aE,.aE] 95 true true)).2 ay.next (.cells [.int .i64 zs[base.toNat + k].1.id,.aJ 64 (zs[base.toNat + k].1.bs.map bL),zs[base.toNat + k].2] 95 true true)) p bs zs next bv aA:=ie.b3 ((Fr.alloc _ _).set (Nat.le_refl _) _)
    have abQ:=aef.wU ad aF
    simp (disch:=(refine am ?_; first | assumption | decide | omega | (simp only [aT,aW] <;> omega) | with_unfolding_all exact a6 rfl | with_unfolding_all exact a7 rfl)) only [go_sem,AM,lZ,fV,aZ,pd,V,l8 (eo eR),eR,eo eR,hw,abQ,wrap_i64]
    exact ⟨_,by omega,k + 1,mu,rfl,rfl,by rw [cq]; rfl,f2.trans ((Fr.alloc _ _).set (Nat.le_refl _) _)⟩
  ·
   obtain rfl:k=to - base.toNat:=by omega
   have ts:=aC.b3 f2
   cases tu:o3 zs base to b (to - base.toNat) with
   | true=>
    rw [tu] at lZ
    have oQ:=ts.push (by rw [List.length_map]; omega)
    have aeg:=ts.wS (by rw [List.length_map]; omega) (ir b) (new:= [.int .i64 b]) rfl rfl rfl
    have fT:iy zs base to (b + 1)=iy zs base to b ++ [(b:Int)]:=if_pos tu
    simp (disch:=(refine am ?_; first | assumption | decide | omega | (simp only [aT,aW] <;> omega) | with_unfolding_all exact a6 rfl | with_unfolding_all exact a7 rfl)) only [go_sem,AM,lZ,fV,aZ,AL,dO,oQ,wrap_i64]
    refine ⟨_,by omega,b + 1,_,aF,rfl,rfl,rfl,?_⟩
    rw [fT,List.map_append]
    exact aeg
   | false=>
    rw [tu] at lZ
    have fT:iy zs base to (b + 1)=iy zs base to b:=if_neg (by rw [tu]; decide)
    simp (disch:=(refine am ?_; first | assumption | decide | omega | (simp only [aT,aW] <;> omega) | with_unfolding_all exact a6 rfl | with_unfolding_all exact a7 rfl)) only [go_sem,AM,lZ,fV,aZ,AL,dO,wrap_i64]
    refine ⟨_,by omega,b + 1,_,aF,rfl,rfl,rfl,?_⟩
    rw [fT]
    exact ts
 ·
  simp (disch:=(refine am ?_; first | decide | omega)) only [go_sem,AL,dO,aZ]
  obtain rfl:b=bs.length:=by omega
  exact .inl (ab _ _ aC)
end
end Go.az
namespace Go.az
open Go.Proofs
noncomputable section
set_option maxRecDepth 100000
def jQ (H:aa) (base:Nat) (v:I) (l:List Int):Prop:=(v= .aE /\ l= [])∨∃b k cy x,base≤b /\ b < H.next /\ v= .slice b 0 l.length k /\ H.m.get b=some (.cells (l.map ir ++ cy) 3 x true)
theorem I6 (l:List Int):a3 (l.map ir)=l.map ir:=by
 induction l with
 | nil=>rfl
 | cons a l aH=>rw [List.map_cons,hL,List.flatMap_cons,<- hL,aH]; rfl
theorem jQ.acc {H0 H:aa} {v:I} {l:List Int} (h:Acc aq H0 H 3 1 v (l.map ir)):jQ H H0.next v l:=by
 rcases h.own.2 with ⟨rfl,aD⟩ | ⟨b,x,J,O,rfl,ag⟩
 ·
  exact .inl ⟨rfl,List.eq_nil_of_length_eq_zero (by simpa using aD)⟩
 ·
  rw [I6] at ag
  refine .inr ⟨b,_,[],x,J,O,by rw [List.length_map],by rw [List.append_nil]; exact ag⟩
section
variable {H:aa} {base:Nat} {v:I} {l:List Int}
theorem jQ.b3 (h:jQ H base v l) {H':aa} (ao:Fr H H'):jQ H' base v l:=by
 refine h.imp id ?_
 rintro ⟨b,k,cy,x,J,O,ag,aP⟩
 exact ⟨b,k,cy,x,J,Nat.lt_of_lt_of_le O ao.nx,ag,(ao.get b O).trans aP⟩
theorem jQ.len (h:jQ H base v l) {ty:TypeId}:hh (.slice ty) aq v=some (.int .i64 (l.length:Int)):=by
 rcases h with ⟨rfl,rfl⟩ | ⟨b,k,cy,x,J,O,rfl,aP⟩ <;> rfl
theorem jQ.idx (h:jQ H base v l) {i:Nat} (ad:i < l.length):e9 (.slice 3) aq v i=some (.ptr (aY v) i):=by
 rcases h with ⟨rfl,rfl⟩ | ⟨b,k,cy,x,J,O,rfl,aP⟩
 ·
  cases ad
 ·
  show ap (Nat.blt i l.length) (some (I.ptr b (Nat.add 0 (Nat.mul i (au aq 3))))) none=_
  rw [(cZ _ _).2 ad,s7]
  show some (I.ptr b (0 + i * 1))=_
  rw [Nat.zero_add,Nat.mul_one]; rfl
theorem jQ.cell (h:jQ H base v l) {i:Nat} (ad:i < l.length):cellAt H (aY v) i=some (.int .i64 l[i]):=by
 rcases h with ⟨rfl,rfl⟩ | ⟨b,k,cy,x,J,O,rfl,aP⟩
 ·
  cases ad
 ·
  show cellAt H b i=_
  rw [lo,aP]
  show rj i (.cells (l.map ir ++ cy) 3 x true)=_
  rw [pO,ke,List.getElem?_append_left (by rw [List.length_map]; exact ad),List.getElem?_map,List.getElem?_eq_getElem ad]; rfl
end
theorem WU {H:aa} {base:Nat} {v0:I} {l:List Int} {K:I -> aa -> Prop} (gc:jQ H base v0 l) (U:l.length≤1000) (af:∀a∈l,-9223372036854775808≤a /\ a < 9223372036854775808) (ab:K (.aJ 2 ((bP l l.length).map s6)) H):Call (.func 82 [] []) [v0] H K:=by
 refine bR (N:=50) rfl abe rfl rfl rfl rfl rfl fun bC=> ?_
 simp (disch:=(refine am ?_; decide)) only [go_sem,gc.len]
 refine gw 562949953421112 (by kernel_rfl) (fun r G H'=>∃(i:Nat) (out:I),i≤l.length /\ r=l.length - i /\ G.get 8=some (.int .i64 i) /\ G.get 3=some out /\
  Acc aq H H' 138 2 out ((bP l i).map s6)) l.length ?_ ?_
 ·
  exact ⟨0,.aE,Nat.zero_le _,rfl,rfl,rfl,Acc.nil Jx (by decide) WV⟩
 rintro r G H' aZ ⟨i,out,ad,rfl,em,bW,aC⟩
 have gc:=gc.b3 aC.fr
 have hlen:=sE l i
 have fm:=aC.len (ty:=138)
 rw [List.length_map] at fm
 by_cases aF:i < l.length
 ·
  have d8:=af _ (List.getElem_mem aF)
  have gQ:=af _ (List.getElem_mem (show i - 1 < l.length by omega))
  have cN:=gc.idx aF
  have dL:=gc.cell aF
  have mR:=gc.idx (show i - 1 < l.length by omega)
  have qG:=gc.cell (show i - 1 < l.length by omega)
  by_cases a4:jq l i
  ·
   have bU:=hlen.2 a4.1
   have V:=BU l i _ (List.getElem_mem (show (bP l i).length - 1 < (bP l i).length by omega))
   have qx:(bP l i).length - 1 < ((bP l i).map s6).length:=by simp; omega
   have gW:cellAt H' (aY out) (fg out + ((bP l i).length - 1) * 2 + 1)=some (.int .i64 (bP l i)[(bP l i).length - 1].2):=by
    rw [aC.cell qx (by decide),List.getElem_map]; rfl
   have vt:=a4
   obtain ⟨J,O,ag⟩:=a4
   simp (disch:=(refine am ?_; first | assumption | omega)) only [d6] at O ag
   have dE:bG .i64 ((i:Int) - 1)=((i - 1:Nat):Int):=by rw [wrap_i64 (by omega) (by omega)]; omega
   simp (disch:=(refine am ?_; first | assumption | decide | omega | with_unfolding_all exact a6 rfl)) only [go_sem,em,bW,aZ,cN,dL,dE,mR,qG,wrap_i64,fm,aC.idx qx,gW,aC.put qx,ag]
   refine ⟨_,?_,i + 1,out,aF,rfl,rfl,rfl,?_⟩
   ·
    omega
   ·
    have:=aC.zw qx (o:=1) (by decide) (x:= .int .i64 ((bP l i)[(bP l i).length - 1].2 + 1)) rfl (s6 ((bP l i)[(bP l i).length - 1].1,(bP l i)[(bP l i).length - 1].2 + 1)) (by rw [List.getElem_map]; rfl)
    rw [zM vt]
    unfold nS
    rw [d6 (by omega),List.map_set]; exact this
  ·
   have oQ:=aC.push (by simp; omega)
   simp only [List.length_map] at oQ
   have Dz:∃bY,bY < l.length - i /\ ∃(j:Nat) (Kx:I),j≤l.length /\ bY=l.length - j /\ some (I.int .i64 ((i:Int) + 1))=some (.int .i64 j) /\ some (I.slice (H'.next + 1) 0 ((bP l i).length + 1) (.rest 0 2 ((bP l i).length + 1)))=some Kx /\
    Acc aq H (jI aq H' 138 out [.int .i64 l[i],.int .i64 1]) 138 2 Kx ((bP l j).map s6):=by
    refine ⟨_,?_,i + 1,_,aF,rfl,rfl,rfl,?_⟩
    ·
     omega
    ·
     have:=aC.wS (by simp; omega) (s6 (l[i],1)) (new:= [.int .i64 l[i],.int .i64 1]) rfl rfl rfl
     rw [zN a4,d6 aF,List.map_append]
     simpa using this
   by_cases J:0 < i
   ·
    have jX:(0:Int) < (i:Int):=by omega
    have dE:bG .i64 ((i:Int) - 1)=((i - 1:Nat):Int):=by rw [wrap_i64 (by omega) (by omega)]; omega
    by_cases O:l[i - 1] < 4611686018427387904
    ·
     have ag:¬l[i]=l[i - 1] + 1:=fun ag=>a4 ⟨J,by rw [d6 (by omega)]; exact O,by rw [d6 aF,d6 (by omega)]; exact ag⟩
     simp (disch:=(refine am ?_; first | assumption | decide | omega | (simp only [aT,aW] <;> omega) | with_unfolding_all exact a6 rfl | with_unfolding_all exact a7 rfl)) only [go_sem,em,bW,aZ,cN,dL,jX,dE,mR,qG,O,ag,wrap_i64,oQ,fm]
     exact Dz
    ·
     simp (disch:=(refine am ?_; first | assumption | decide | omega | (simp only [aT,aW] <;> omega) | with_unfolding_all exact a6 rfl | with_unfolding_all exact a7 rfl)) only [go_sem,em,bW,aZ,cN,dL,jX,dE,mR,qG,O,wrap_i64,oQ,fm]
     exact Dz
   ·
    have jX:¬(0:Int) < (i:Int):=by omega
    simp (disch:=(refine am ?_; first | assumption | decide | omega | (simp only [aT,aW] <;> omega) | with_unfolding_all exact a6 rfl | with_unfolding_all exact a7 rfl)) only [go_sem,em,bW,aZ,cN,dL,jX,wrap_i64,oQ,fm]
    exact Dz
 ·
  simp (disch:=(refine am ?_; first | decide | omega)) only [go_sem,em,bW,aZ]
  obtain rfl:i=l.length:=by omega
  exact aC.q3 bC (kb fun _=>rfl) ab
end
end Go.az
namespace Go.az
open Go.Proofs
noncomputable section
set_option maxRecDepth 100000
theorem zy {n:Nat} {l:List Int} (ah:∀x∈l,0≤x /\ x < n) (ar:n≤1000):∀k,k≤l.length -> (∀p∈bP l k,0≤p.1 /\ 1≤p.2 /\ p.1 + p.2≤n) /\ (∀p,(bP l k)[(bP l k).length - 1]? =some p -> p.1 + p.2=l.getD (k - 1) 0 + 1)
 | 0,_=>⟨by simp [bP],fun p h=>by simp [bP] at h⟩
 | k + 1,ab=>by
  obtain ⟨i1,i2⟩:=zy ah ar k (by omega)
  have R:=ah _ (List.getElem_mem (show k < l.length by omega))
  have dn:l.getD k 0=l[k]:=d6 (by omega)
  by_cases a4:jq l k
  ·
   obtain ⟨cg,cn,bW⟩:=a4
   have bU:0 < (bP l k).length:=(sE l k).2 cg
   have ax:(bP l k).length - 1 < (bP l k).length:=by omega
   have f':=i2 _ (List.getElem?_eq_getElem ax)
   rw [zM ⟨cg,cn,bW⟩]
   have aR:=i1 _ (List.getElem_mem ax)
   have U:nS (bP l k)=(bP l k).set ((bP l k).length - 1) ((bP l k)[(bP l k).length - 1].1,(bP l k)[(bP l k).length - 1].2 + 1):=by unfold nS; rw [d6 ax]
   rw [dn] at bW
   rw [U]
   refine ⟨fun p jG=> ?_,fun p h=> ?_⟩
   ·
    rcases List.mem_or_eq_of_mem_set jG with jG | rfl
    ·
     exact i1 p jG
    ·
     exact ⟨aR.1,by show 1≤_ + 1; omega,by show _ + (_ + 1)≤(n:Int); omega⟩
   ·
    rw [List.length_set,List.getElem?_set_self ax] at h
    cases h
    show _ + (_ + 1)=l.getD (k + 1 - 1) 0 + 1
    rw [show k + 1 - 1=k from rfl,dn]; omega
  ·
   rw [zN a4]
   refine ⟨fun p jG=> ?_,fun p h=> ?_⟩
   ·
    rcases List.mem_append.1 jG with jG | jG
    ·
     exact i1 p jG
    ·
     rw [List.mem_singleton] at jG
     subst jG
     rw [dn]
     exact ⟨R.1,by show (1:Int)≤1; decide,by show _ + 1≤(n:Int); omega⟩
   ·
    rw [List.length_append,List.length_singleton,Nat.add_sub_cancel,List.getElem?_append_right (Nat.le_refl _),Nat.sub_self] at h
    cases h
    rfl
def gU (rs:List Rec) (first:Bool) (b:Int) (x:List UInt8):List Rec:=
 match rs[rs.length - 1]? with
 | some r=>if !first && (r.zs==zeros x) then rs.set (rs.length - 1) { r with aX:=r.aX + 1,data:=r.data ++ (if zeros x then [] else x)} else rs ++ [⟨b,1,zeros x,if zeros x then [] else x⟩]
 | none=>rs ++ [⟨b,1,zeros x,if zeros x then [] else x⟩]
def jt (bs:List (List UInt8)) (rs:List Rec) (r:Int × Int):Nat -> List Rec
 | 0=>rs
 | k + 1=>gU (jt bs rs r k) (decide (k=0)) (r.1 + k) (bs.getD (r.1.toNat + k) [])
def iW (bs:List (List UInt8)) (runs:List (Int × Int)):Nat -> List Rec
 | 0=> []
 | k + 1=>jt bs (iW bs runs k) (runs.getD k (0,0)) (runs.getD k (0,0)).2.toNat
def ea (q:Rec × I):I:= .agg [.int .i64 q.1.fr,.int .i64 q.1.aX,.bool q.1.zs,q.2]
theorem sB (q:Rec × I):(ea q).cells= [.int .i64 q.1.fr,.int .i64 q.1.aX,.bool q.1.zs,q.2]:=rfl
def hB (H:aa) (base:Nat) (v:I) (d:List UInt8):Prop:=(v= .aE /\ d= [])∨(∃b,base≤b /\ b < H.next /\ d.length=64 /\ v= .slice b 0 64 (.ex 64) /\ H.m.get b=some (.cells (d.map aI) 53 true true))∨∃b,base≤b /\ b < H.next /\ 0 < d.length /\ v= .slice b 0 d.length (.rest 0 1 d.length) /\ H.m.get b=some (.cells (d.map aI) 5 false true)
section
variable {H:aa} {base:Nat} {v:I} {d:List UInt8}
theorem hB.a_ (h:hB H base v d) {H':aa} (ar:H.next≤H'.next) (a4:v= .aE∨H'.m.get (aY v)=H.m.get (aY v)):hB H' base v d:=by
 rcases h with h | ⟨b,J,O,ag,rfl,aP⟩ | ⟨b,J,O,ag,rfl,aP⟩
 ·
  exact .inl h
 ·
  exact .inr (.inl ⟨b,J,Nat.lt_of_lt_of_le O ar,ag,rfl,(a4.resolve_left (fun h=>(by cases h))).trans aP⟩)
 ·
  exact .inr (.inr ⟨b,J,Nat.lt_of_lt_of_le O ar,ag,rfl,(a4.resolve_left (fun h=>(by cases h))).trans aP⟩)
theorem hB.lt (h:hB H base v d):v= .aE∨(base≤aY v /\ aY v < H.next):=by
 rcases h with h | ⟨b,J,O,ag,rfl,aP⟩ | ⟨b,J,O,ag,rfl,aP⟩
 ·
  exact .inl h.1
 ·
  exact .inr ⟨J,O⟩
 ·
  exact .inr ⟨J,O⟩
theorem hB.b3 (h:hB H base v d) {H':aa} (ao:Fr H H'):hB H' base v d:=h.a_ ao.nx (h.lt.imp id fun ah=>ao.get _ ah.2)
theorem hB.one (h:hB H base v d):b2 v=true:=by
 rcases h with ⟨rfl,_⟩ | ⟨b,J,O,ag,rfl,aP⟩ | ⟨b,J,O,ag,rfl,aP⟩ <;> rfl
theorem hB.ne (h:hB H base v d) {c fG:Nat} {l:List I} {x w:Bool} (V:H.m.get c=some (.cells l fG x w)) (J:Nat.beq 53 fG=false) (O:Nat.beq 5 fG=false):v= .aE∨aY v≠c:=by
 rcases h with h | ⟨b,_,_,_,rfl,aP⟩ | ⟨b,_,_,_,rfl,aP⟩
 ·
  exact .inl h.1
 ·
  exact .inr (gv aP V J)
 ·
  exact .inr (gv aP V O)
theorem hB.own (h:hB H base v d):∃e,cz H base e 1 v d.length (d.map aI):=by
 rcases h with ⟨rfl,rfl⟩ | ⟨b,J,O,ag,rfl,aP⟩ | ⟨b,J,O,ag,rfl,aP⟩
 ·
  exact ⟨5,rfl,.inl ⟨rfl,rfl⟩⟩
 ·
  exact ⟨53,by rw [List.length_map,Nat.mul_one],.inr ⟨b,true,J,O,by rw [ag]; rfl,aP⟩⟩
 ·
  exact ⟨5,by rw [List.length_map,Nat.mul_one],.inr ⟨b,false,J,O,rfl,aP⟩⟩
theorem hB.grow (h:hB H base v d) (U:base≤H.next) (ak:v≠ .aE) {x:List UInt8} (R:x.length=64) (aw:d.length≤100000):
 ∃cc H',cJ aq H 5 v 64 (x.map aI)=some (cc,H') /\ hB H' base cc (d ++ x) /\ H.next≤H'.next /\ (∀c,c < H.next -> c≠aY v -> H'.m.get c=H.m.get c) /\ H.next≤aY cc /\ cc≠ .aE /\ eK base H H':=by
 have k8:(x.map aI).length=64 * 1:=by rw [List.length_map,R]
 have Fi:br (x.map aI)=true:=by rw [<- eY]; exact jl x
 rcases h with h | ⟨b,J,O,ag,rfl,aP⟩ | ⟨b,J,O,ag,rfl,aP⟩
 ·
  exact absurd h.1 ak
 ·
  have V:bA H b 0 (64 * au aq 5)=some (d.map aI):=by
   rw [e2,(a2 aP).2.2.1]
   show cG 64 (co 0 (d.map aI))=_
   rw [dz,fL,List.drop_zero,if_pos (by rw [List.length_map,ag]; exact Nat.le_refl _),List.take_of_length_le (by rw [List.length_map,ag]; exact Nat.le_refl _)]
  refine ⟨.slice H.next 0 128 (.rest 0 1 128),(aS H (.cells ((d ++ x).map aI) 5 false true)).2,?_,.inr (.inr ⟨H.next,U,Nat.lt_succ_self _,by rw [List.length_append]; omega,by rw [List.length_append,ag,R],eP⟩),Nat.le_succ _,fun c V _=>hK (Nat.ne_of_lt V),Nat.le_refl _,fun h=>(by cases h),(eK.refl _ _).ce U _⟩
  show jr (.ex 64) aq H 5 b 0 64 64 (x.map aI)=_
  show ap (Nat.ble (64 + 64) 64) ((bT H b (Nat.add 0 (Nat.mul 64 (au aq 5))) (x.map aI)).omap fun H'=>(I.slice b 0 (Nat.add 64 64) (.ex 64),H')) ((bA H b 0 (64 * au aq 5)).ac fun old=>dA aq H 5 (64 + 64) (cb old (x.map aI)))=_
  rw [V]
  show dA aq H 5 128 (cb (d.map aI) (x.map aI))=_
  unfold dA
  rw [oy nT (by decide),e2,eZ,<- List.map_append]; rfl
 ·
  have aC:cz H base 5 1 (.slice b 0 d.length (.rest 0 1 d.length)) d.length (d.map aI):=⟨by rw [List.length_map,Nat.mul_one],.inr ⟨b,false,J,O,rfl,aP⟩⟩
  obtain ⟨H',a8,bk,c3,eD,fZ⟩:=aC.append (m:=64) e2 (by decide) (by decide) k8 Fi (oy nT (by omega)) U
  refine ⟨_,H',a8,?_,by omega,fun c V bX=>fZ c (.inr bX) V,Nat.le_refl _,fun h=>(by cases h),c3⟩
  rcases bk.2 with ⟨h,_⟩ | ⟨cv,y,cg,cn,bW,fb⟩
  ·
   cases h
  ·
   cases y
   ·
    cases bW
    exact .inr (.inr ⟨H.next,cg,cn,by rw [List.length_append]; omega,by rw [List.length_append,R],by rw [List.map_append]; exact fb⟩)
   ·
    cases bW
end
theorem SR {H:aa} {c:Nat} {x:List UInt8} {K:I -> aa -> Prop} (V:H.m.get c=some (.cells (x.map aI) 53 true true)) (R:x.length=64) (ab:K (.bool (zeros x)) H):Call (.func 53 [] []) [.slice c 0 64 (.ex 64)] H K:=by
 refine fi.read (v:= .bool (zeros x)) rfl (CO (l:=x) (H:=mw) (K:=fun cc _=>cc= .bool (zeros x)) (by omega) rfl) (fun σ H1 fD r ak=> ?_) ab
 obtain ⟨y,bi,J,O,rfl⟩:=av.cons.1 ak
 rw [av.nil] at O
 subst O
 have ah:(x.map aI).length=64:=by rw [List.length_map,R]
 have:=zk (sz:=1) (l:=x.map aI) (o:=0) (b:=c) (k:= .ex 64) r (by rw [ah]; exact J) (by
  rw [ah,Nat.mul_one,(a2 V).2.2.1,eY]
  show cG 64 (co 0 (x.map aI))=_
  rw [dz,fL,List.drop_zero,if_pos (by omega),List.take_of_length_le (by omega)]) (kb fun _=>rfl) (sN x) (by decide) trivial (fun _=>by rw [ah]; exact Nat.le_refl _)
 exact av.one this
end
end Go.az
namespace Go.az
open Go.Proofs
noncomputable section
set_option maxRecDepth 100000
theorem abR:bE.fn 55=some Try.f55:=by kernel_rfl
def kX (runs:List (Int × Int)):Nat -> Nat
 | 0=>0
 | k + 1=>kX runs k + (runs.getD k (0,0)).2.toNat
def vu (rs:List Rec) (m:Nat):Prop:=rs.length≤m /\ ∀r∈rs,r.data.length≤64 * m /\ 0≤r.aX /\ r.aX≤m
theorem OV {rs:List Rec} {m:Nat} {f:Bool} {b:Int} {x:List UInt8} (h:vu rs m) (R:x.length≤64):vu (gU rs f b x) (m + 1):=by
 have aj:(if zeros x then [] else x).length≤64:=by
  split
  ·
   exact Nat.zero_le _
  ·
   exact R
 have new:vu (rs ++ [⟨b,1,zeros x,if zeros x then [] else x⟩]) (m + 1):=by
  refine ⟨by rw [List.length_append]; exact Nat.succ_le_succ h.1,fun r af=> ?_⟩
  rcases List.mem_append.1 af with af | af
  ·
   have:=h.2 r af; exact ⟨by omega,by omega,by omega⟩
  ·
   rw [List.mem_singleton] at af
   subst af
   exact ⟨by show (if zeros x then [] else x).length≤_; omega,by show (0:Int)≤1; decide,by show (1:Int)≤_; omega⟩
 unfold gU
 split
 ·
  rename_i r af
  split
  ·
   refine ⟨by rw [List.length_set]; exact Nat.le_succ_of_le h.1,fun q aB=> ?_⟩
   have lU:=List.mem_of_getElem? af
   rcases List.mem_or_eq_of_mem_set aB with aB | rfl
   ·
    have:=h.2 q aB; exact ⟨by omega,by omega,by omega⟩
   ·
    have:=h.2 r lU
    exact ⟨by show (r.data ++ _).length≤_; rw [List.length_append]; omega,by show 0≤r.aX + 1; omega,by show r.aX + 1≤_; omega⟩
  ·
   exact new
 ·
  exact new
theorem Hx {bs:List (List UInt8)} (U:∀x∈bs,x.length=64) {rs:List Rec} {m:Nat} {r:Int × Int} (h:vu rs m) (k:Nat):vu (jt bs rs r k) (m + k):=by
 induction k with
 | zero=>exact h
 | succ k aH=>
  refine OV aH ?_
  by_cases aF:r.1.toNat + k < bs.length
  ·
   rw [d6 aF,U _ (List.getElem_mem aF)]; exact Nat.le_refl _
  ·
   rw [List.getD_eq_getElem?_getD,List.getElem?_eq_none (by omega)]; exact Nat.zero_le _
theorem Hy {bs:List (List UInt8)} (U:∀x∈bs,x.length=64) (runs:List (Int × Int)) (k:Nat):vu (iW bs runs k) (kX runs k):=by
 induction k with
 | zero=>exact ⟨Nat.le_refl _,fun r af=>by cases af⟩
 | succ k aH=>exact Hx U aH _
structure eN (H0 H:aa) (bj:I) (qs:List (Rec × I)):Prop where
 a:Acc aq H0 H 68 4 bj (qs.map ea)
 d:∀q∈qs,hB H H0.next q.2 q.1.data
 z:∀q∈qs,(q.1.zs=true /\ q.2= .aE)∨(q.1.zs=false /\ q.2≠ .aE)
 n:∀(i j:Nat) (ad:i < qs.length) (ax:j < qs.length),i≠j -> qs[i].2= .aE∨qs[j].2= .aE∨aY qs[i].2≠aY qs[j].2
theorem eN.b3 {H0 H H':aa} {bj:I} {qs:List (Rec × I)} (h:eN H0 H bj qs) (ao:Fr H H'):eN H0 H' bj qs:=⟨h.a.b3 ao,fun q aB=>(h.d q aB).b3 ao,h.z,h.n⟩
theorem eN.fz {H0 H:aa} {bj:I} {qs:List (Rec × I)} (h:eN H0 H bj qs) (bC:WF H0):b_ H0 H (.aJ 4 ((qs.map (·.1)).map hO)) bj:=by
 refine h.a.own.fz h.a.bU bC rfl rfl h.a.el ?_
 rw [List.map_map]
 refine gO.map fun q aB=>b_.agg (.cons .int (.cons .int (.cons .bool (.cons ?_ .nil))))
 obtain ⟨e,aC⟩:=(h.d q aB).own
 exact aC.fz (l:=q.1.data.map aI) (by decide) bC (List.length_map _) (eY _) (sN _) (gO.plain (kb fun _=>rfl))
theorem eN.push {H0 H:aa} {bj:I} {qs:List (Rec × I)} (h:eN H0 H bj qs) {q:Rec × I} (aw:hB H H0.next q.2 q.1.data) (ai:(q.1.zs=true /\ q.2= .aE)∨(q.1.zs=false /\ q.2≠ .aE)) (ar:∀j (ax:j < qs.length),q.2= .aE∨qs[j].2= .aE∨aY q.2≠aY qs[j].2) (ah:qs.length < 1000000):
 ∃iK H',cJ aq (aS H (.cells (ea q).cells 68 true true)).2 68 bj 1 (ea q).cells=some (iK,H') /\ eN H0 H' iK (qs ++ [q]) /\ H.next≤H'.next /\ ∀c,c < H.next -> (bj= .aE∨c≠aY bj) -> H'.m.get c=H.m.get c:=by
 have dl:br (ea q).cells=true:=by
  rw [sB,eb,eb,eb,eb,aw.one]; rfl
 have hlen:(qs.map ea).length < 1048576:=by rw [List.length_map]; omega
 have J:=h.a.push hlen (ea q).cells rfl dl
 have O:=h.a.wS hlen (ea q) rfl rfl dl
 obtain ⟨ag,aP⟩:=h.a.QI hlen (new:=(ea q).cells) rfl dl
 have ne:∀v d,hB H H0.next v d -> v= .aE∨((bj= .aE∨aY v≠aY bj) /\ aY v < H.next):=fun v d aw=>by
  rcases aw.lt with aQ | ⟨_,aF⟩
  ·
   exact .inl aQ
  ·
   refine (h.a.own.2).elim (fun aQ=> .inr ⟨.inl aQ.1,aF⟩) ?_
   rintro ⟨b,x,_,_,rfl,U⟩
   rcases aw.ne U rfl rfl with aQ | aQ
   ·
    exact .inl aQ
   ·
    exact .inr ⟨.inr aQ,aF⟩
 have a_:∀v d,hB H H0.next v d -> hB (jI aq H 68 bj (ea q).cells) H0.next v d:=fun v d aw=>aw.a_ (by rw [ag]; omega) ((ne v d aw).imp id fun ⟨cg,cn⟩=>aP _ cg cn)
 refine ⟨_,_,J,⟨?_,fun r af=> ?_,fun r af=> ?_,fun i j ad ax cL=> ?_⟩,by rw [ag]; omega,fun c V bX=>aP c bX V⟩
 ·
  rw [List.map_append]; exact O
 ·
  rcases List.mem_append.1 af with af | af
  ·
   exact a_ _ _ (h.d r af)
  ·
   rw [List.mem_singleton] at af
   subst af
   exact a_ _ _ aw
 ·
  rcases List.mem_append.1 af with af | af
  ·
   exact h.z r af
  ·
   rw [List.mem_singleton] at af
   subst af
   exact ai
 ·
  rw [List.length_append,List.length_singleton] at ad ax
  by_cases J:i < qs.length
  ·
   rw [List.getElem_append_left J]
   by_cases O:j < qs.length
   ·
    rw [List.getElem_append_left O]; exact h.n i j J O cL
   ·
    rw [List.getElem_append_right (by omega),List.getElem_singleton]
    rcases ar i J with h | h | h
    ·
     exact .inr (.inl h)
    ·
     exact .inl h
    ·
     exact .inr (.inr h.symm)
  ·
   rw [List.getElem_append_right (by omega),List.getElem_singleton]
   have O:j < qs.length:=by omega
   rw [List.getElem_append_left O]
   exact ar j O
theorem eN.Jy {H0 H:aa} {bj:I} {qs:List (Rec × I)} (h:eN H0 H bj qs) {j:Nat} (ax:j < qs.length) (n:Int):
 ∃H',bT H (aY bj) (fg bj + j * 4 + 1) [.int .i64 n]=some H' /\ eN H0 H' bj (qs.set j ({ qs[j].1 with aX:=n},qs[j].2)) /\ H'.next=H.next /\ ∀c,c≠aY bj -> H'.m.get c=H.m.get c:=by
 have hQ:j < (qs.map ea).length:=by rw [List.length_map]; exact ax
 have J:=h.a.put hQ (o:=1) (by decide) (x:= .int .i64 n) rfl
 have O:=h.a.zw hQ (o:=1) (by decide) (x:= .int .i64 n) rfl (ea ({ qs[j].1 with aX:=n},qs[j].2)) (by rw [List.getElem_map]; rfl)
 obtain ⟨b,x,_,c5,iF,U⟩:=h.a.own.2.resolve_left (fun aQ=>by rw [List.length_map] at aQ; omega)
 have cq:og H bj (j * 4 + 1) (.int .i64 n)=aN H (aY bj) (.cells ((a3 (qs.map ea)).set (j * 4 + 1) (.int .i64 n)) 68 x true):=by
  have cP:j * 4 + 1 < (a3 (qs.map ea)).length:=by
   rw [(fv h.a.el).1,List.length_map]; omega
  have:bT H (aY bj) (fg bj + (j * 4 + 1)) [.int .i64 n]=some (aN H (aY bj) (.cells ((a3 (qs.map ea)).set (j * 4 + 1) (.int .i64 n)) 68 x true)):=by
   subst iF
   rw [g4]
   show (H.m.get b).ac _=_
   rw [U]
   show hi H b (0 + (j * 4 + 1)) [.int .i64 n] (.cells (a3 (qs.map ea)) 68 x true)=_
   rw [hM,eb,show b2 (I.int .i64 n)=true from rfl,Nat.zero_add,kP cP]; rfl
  unfold og
  rw [this]; rfl
 have kY:∀q∈qs.set j ({ qs[j].1 with aX:=n},qs[j].2),∃mM∈qs,q.2=mM.2 /\ q.1.data=mM.1.data /\ q.1.zs=mM.1.zs:=fun q aB=>by
  rcases List.mem_or_eq_of_mem_set aB with aB | rfl
  ·
   exact ⟨q,aB,rfl,rfl,rfl⟩
  ·
   exact ⟨qs[j],List.getElem_mem ax,rfl,rfl,rfl⟩
 have bk:∀i (ad:i < (qs.set j ({ qs[j].1 with aX:=n},qs[j].2)).length),(qs.set j ({ qs[j].1 with aX:=n},qs[j].2))[i].2=(qs[i]'(by rw [List.length_set] at ad; exact ad)).2:=fun i ad=>by
  by_cases cL:i=j
  ·
   subst cL; rw [List.getElem_set_self]
  ·
   rw [List.getElem_set_ne (Ne.symm cL)]
 refine ⟨_,J,⟨?_,fun q aB=> ?_,fun q aB=> ?_,fun i k ad ab x6=> ?_⟩,by rw [cq]; rfl,fun c V=>by rw [cq]; exact cY V⟩
 ·
  rw [List.map_set]; exact O
 ·
  obtain ⟨mM,kD,a8,c3,_⟩:=kY q aB
  rw [a8,c3,cq]
  have aw:=h.d mM kD
  refine aw.a_ (Nat.le_refl _) ?_
  have ni:H.m.get (aY bj)=some (.cells (a3 (qs.map ea)) 68 x true):=by rw [iF]; exact U
  rcases aw.ne ni rfl rfl with aQ | aQ
  ·
   exact .inl aQ
  ·
   exact .inr (cY aQ)
 ·
  obtain ⟨mM,kD,a8,_,eD⟩:=kY q aB
  rw [a8,eD]; exact h.z mM kD
 ·
  rw [bk i ad,bk k ab]
  exact h.n i k _ _ x6
end
end Go.az
namespace Go.az
open Go.Proofs
noncomputable section
set_option maxRecDepth 100000
theorem eN.WW {H0 H:aa} {bj:I} {qs:List (Rec × I)} (h:eN H0 H bj qs) {j:Nat} (ax:j < qs.length) (ai:qs[j].1.zs=false) {x:List UInt8} (R:x.length=64) (aw:qs[j].1.data.length≤100000):
 ∃cc H1 ay,cJ aq H 5 qs[j].2 64 (x.map aI)=some (cc,H1) /\ b2 cc=true /\ H.next≤H1.next /\ (∀c,c < H.next -> c≠aY qs[j].2 -> H1.m.get c=H.m.get c) /\ bT H1 (aY bj) (fg bj + j * 4 + 3) [cc]=some ay /\
  eN H0 ay bj (qs.set j ({ qs[j].1 with data:=qs[j].1.data ++ x},cc)) /\ ay.next=H1.next /\ ∀c,c≠aY bj -> ay.m.get c=H1.m.get c:=by
 have Av:=List.getElem_mem ax
 have o5:qs[j].2≠ .aE:=by
  rcases h.z _ Av with ⟨J,_⟩ | ⟨_,O⟩
  ·
   rw [ai] at J; cases J
  ·
   exact O
 have LG:=h.d _ Av
 obtain ⟨cc,H1,a8,bk,c3,eD,fZ,jh,AZ⟩:=LG.grow h.a.fr.nx o5 R aw
 obtain ⟨b,y,kx,c5,iF,U⟩:=h.a.own.2.resolve_left (fun aQ=>by rw [List.length_map] at aQ; omega)
 have ni:H.m.get (aY bj)=some (.cells (a3 (qs.map ea)) 68 y true):=by rw [iF]; exact U
 have lS:aY bj < H.next:=by rw [iF]; exact c5
 have bX:aY bj≠aY qs[j].2:=((LG.ne ni rfl rfl).resolve_left o5).symm
 have Ky:H1.m.get (aY bj)=some (.cells (a3 (qs.map ea)) 68 y true):=(eD _ lS bX).trans ni
 have hQ:j < (qs.map ea).length:=by rw [List.length_map]; exact ax
 have LH:Acc aq H0 H1 68 4 bj (qs.map ea):=⟨eK.trans h.a.fr AZ,h.a.own.a_ c3 (.inr (Ky.trans ni.symm)),h.a.el,h.a.bm,h.a.bU,h.a.a4⟩
 have J:=LH.put hQ (o:=3) (by decide) (x:=cc) bk.one
 have O:=LH.zw hQ (o:=3) (by decide) (x:=cc) bk.one (ea ({ qs[j].1 with data:=qs[j].1.data ++ x},cc)) (by rw [List.getElem_map]; rfl)
 have cP:j * 4 + 3 < (a3 (qs.map ea)).length:=by rw [(fv h.a.el).1,List.length_map]; omega
 have cq:og H1 bj (j * 4 + 3) cc=aN H1 (aY bj) (.cells ((a3 (qs.map ea)).set (j * 4 + 3) cc) 68 y true):=by
  have:bT H1 (aY bj) (fg bj + (j * 4 + 3)) [cc]=some (aN H1 (aY bj) (.cells ((a3 (qs.map ea)).set (j * 4 + 3) cc) 68 y true)):=by
   have aD:fg bj=0:=by rw [iF]; rfl
   rw [g4,Ky]
   show hi H1 (aY bj) (fg bj + (j * 4 + 3)) [cc] (.cells (a3 (qs.map ea)) 68 y true)=_
   rw [aD,hM,eb,bk.one,Nat.zero_add,kP cP]; rfl
  unfold og
  rw [this]; rfl
 have p':∀i (ad:i < qs.length),i≠j -> qs[i].2= .aE∨(aY qs[i].2≠aY qs[j].2 /\ aY qs[i].2≠aY bj /\ aY qs[i].2 < H.next):=fun i ad cL=>by
  have o_:=h.d _ (List.getElem_mem ad)
  rcases h.n i j ad ax cL with aQ | aQ | aQ
  ·
   exact .inl aQ
  ·
   exact absurd aQ o5
  ·
   rcases o_.ne ni rfl rfl with g | g
   ·
    exact .inl g
   ·
    rcases o_.lt with k | ⟨_,k⟩
    ·
     exact .inl k
    ·
     exact .inr ⟨aQ,g,k⟩
 have aeh:aY cc≠aY bj:=by omega
 refine ⟨cc,H1,_,a8,bk.one,c3,eD,J,⟨?_,fun q aB=> ?_,fun q aB=> ?_,fun a b ae U ge=> ?_⟩,by rw [cq]; rfl,fun c V=>by rw [cq]; exact cY V⟩
 ·
  rw [List.map_set]; exact O
 ·
  obtain ⟨i,ad,rfl⟩:=List.getElem_of_mem aB
  rw [List.length_set] at ad
  rw [cq]
  by_cases cL:i=j
  ·
   subst cL
   rw [List.getElem_set_self]
   exact bk.a_ (Nat.le_refl _) (.inr (cY aeh))
  ·
   rw [List.getElem_set_ne (Ne.symm cL)]
   refine (h.d _ (List.getElem_mem ad)).a_ (show H.next≤H1.next from c3) ?_
   rcases p' i ad cL with aQ | ⟨cg,cn,bW⟩
   ·
    exact .inl aQ
   ·
    exact .inr ((cY cn).trans (eD _ bW cg))
 ·
  rcases List.mem_or_eq_of_mem_set aB with aB | rfl
  ·
   exact h.z q aB
  ·
   exact .inr ⟨ai,jh⟩
 ·
  have cT:a < qs.length:=by rw [List.length_set] at ae; exact ae
  have dx:b < qs.length:=by rw [List.length_set] at U; exact U
  by_cases vi:a=j
  ·
   subst vi
   rw [List.getElem_set_self,List.getElem_set_ne ge]
   rcases p' b dx (Ne.symm ge) with aQ | ⟨_,_,bW⟩
   ·
    exact .inr (.inl aQ)
   ·
    exact .inr (.inr (by show aY cc≠_; omega))
  ·
   rw [List.getElem_set_ne (Ne.symm vi)]
   by_cases LI:b=j
   ·
    subst LI
    rw [List.getElem_set_self]
    rcases p' a cT vi with aQ | ⟨_,_,bW⟩
    ·
     exact .inl aQ
    ·
     exact .inr (.inr (by show _≠aY cc; omega))
   ·
    rw [List.getElem_set_ne (Ne.symm LI)]
    exact h.n a b cT dx ge
end
end Go.az
namespace Go.az
open Go.Proofs
noncomputable section
set_option maxRecDepth 100000
theorem Bo {rs qs:List (Int × Int)}:∀k,(∀i,i < k -> rs.getD i (0,0)=qs.getD i (0,0)) -> kX rs k=kX qs k
 | 0,_=>rfl
 | k + 1,h=>by
  show kX rs k + _=kX qs k + _
  rw [Bo k (fun i ad=>h i (by omega)),h k (by omega)]
theorem OW (rs:List (Int × Int)) {i j:Nat} (h:i≤j):kX rs i≤kX rs j:=by
 induction h with
 | refl=>exact Nat.le_refl _
 | step _ aH=>exact Nat.le_trans aH (Nat.le_add_right _ _)
theorem CQ (l:List Int):∀k,kX (bP l k) (bP l k).length=k
 | 0=>rfl
 | k + 1=>by
  have aH:=CQ l k
  by_cases a4:jq l k
  ·
   rw [zM a4]
   have bU:0 < (bP l k).length:=(sE l k).2 a4.1
   obtain ⟨m,hm⟩:∃m,(bP l k).length=m + 1:=⟨_,(Nat.succ_pred_eq_of_pos bU).symm⟩
   have ax:m < (bP l k).length:=by omega
   have V:=BU l k _ (List.getElem_mem ax)
   have U:nS (bP l k)=(bP l k).set m ((bP l k)[m].1,(bP l k)[m].2 + 1):=by
    unfold nS
    rw [hm,Nat.add_sub_cancel,d6 ax]
   rw [U,List.length_set,hm]
   rw [hm] at aH
   show kX _ m + _=_
   have aei:kX (bP l k) m + ((bP l k).getD m (0,0)).2.toNat=k:=aH
   rw [d6 ax] at aei
   rw [Bo (qs:=bP l k) m (fun i ad=>by rw [List.getD_eq_getElem?_getD,List.getElem?_set_ne (by omega),<- List.getD_eq_getElem?_getD]),d6 (by rw [List.length_set]; exact ax),List.getElem_set_self]
   show _ + ((bP l k)[m].2 + 1).toNat=k + 1
   omega
  ·
   rw [zN a4,List.length_append,List.length_singleton]
   show kX _ (bP l k).length + _=_
   rw [Bo (qs:=bP l k) _ (fun i ad=>by rw [List.getD_eq_getElem?_getD,List.getElem?_append_left ad,<- List.getD_eq_getElem?_getD]),aH,d6 (by rw [List.length_append,List.length_singleton]; omega),List.getElem_append_right (Nat.le_refl _),List.getElem_singleton]
   rfl
section
variable {H0 H:aa} {bj:I} {qs:List (Rec × I)}
theorem eN.lS (h:eN H0 H bj qs) (aD:0 < qs.length):∃x,H.m.get (aY bj)=some (.cells (a3 (qs.map ea)) 68 x true) /\ aY bj < H.next /\ fg bj=0:=by
 obtain ⟨b,x,_,c5,iF,U⟩:=h.a.own.2.resolve_left (fun aQ=>by rw [List.length_map] at aQ; omega)
 exact ⟨x,by rw [iF]; exact U,by rw [iF]; exact c5,by rw [iF]; rfl⟩
theorem eN.WX (h:eN H0 H bj qs) {j:Nat} (ax:j < qs.length) (ai:qs[j].1.zs=true):
 ∃H',bT H (aY bj) (fg bj + j * 4 + 3) [.aE]=some H' /\ eN H0 H' bj qs /\ H'.next=H.next /\ ∀c,c≠aY bj -> H'.m.get c=H.m.get c:=by
 have ak:qs[j].2= .aE:=by
  rcases h.z _ (List.getElem_mem ax) with ⟨_,O⟩ | ⟨J,_⟩
  ·
   exact O
  ·
   rw [ai] at J; cases J
 have hQ:j < (qs.map ea).length:=by rw [List.length_map]; exact ax
 have J:=h.a.put hQ (o:=3) (by decide) (x:= .aE) rfl
 have O:=h.a.zw hQ (o:=3) (by decide) (x:= .aE) rfl (ea qs[j]) (by rw [List.getElem_map,sB,ak]; rfl)
 obtain ⟨x,U,c5,aC⟩:=h.lS (by omega)
 have cP:j * 4 + 3 < (a3 (qs.map ea)).length:=by
  rw [(fv h.a.el).1,List.length_map]; omega
 have cq:og H bj (j * 4 + 3) .aE=aN H (aY bj) (.cells ((a3 (qs.map ea)).set (j * 4 + 3) .aE) 68 x true):=by
  have:bT H (aY bj) (fg bj + (j * 4 + 3)) [.aE]=some (aN H (aY bj) (.cells ((a3 (qs.map ea)).set (j * 4 + 3) .aE) 68 x true)):=by
   rw [g4,U]
   show hi H (aY bj) (fg bj + (j * 4 + 3)) [.aE] (.cells (a3 (qs.map ea)) 68 x true)=_
   rw [aC,hM,eb,show b2 I.aE=true from rfl,Nat.zero_add,kP cP]; rfl
  unfold og
  rw [this]; rfl
 refine ⟨_,J,⟨?_,fun q aB=> ?_,h.z,h.n⟩,by rw [cq]; rfl,fun c V=>by rw [cq]; exact cY V⟩
 ·
  have e:(qs.map ea).set j (ea qs[j])=qs.map ea:=by
   rw [show ea qs[j]=(qs.map ea)[j] from (List.getElem_map ..).symm,List.set_getElem_self]
  rw [e] at O; exact O
 ·
  rw [cq]
  refine (h.d q aB).a_ (Nat.le_refl _) ?_
  rcases (h.d q aB).ne U rfl rfl with aQ | aQ
  ·
   exact .inl aQ
  ·
   exact .inr (cY aQ)
theorem eN.cells (h:eN H0 H bj qs) {j:Nat} (ax:j < qs.length):bA H (aY bj) (fg bj + j * 4) 4=some [.int .i64 qs[j].1.fr,.int .i64 qs[j].1.aX,.bool qs[j].1.zs,qs[j].2]:=by
 have:=h.a.cells (i:=j) (by rw [List.length_map]; exact ax)
 rw [List.getElem_map] at this
 exact this
theorem eN.len (h:eN H0 H bj qs) {ty:TypeId}:hh (.slice ty) aq bj=some (.int .i64 (qs.length:Int)):=by
 have:=h.a.len (ty:=ty)
 rw [List.length_map] at this
 exact this
theorem eN.idx (h:eN H0 H bj qs) {j:Nat} (ax:j < qs.length):e9 (.slice 68) aq bj j=some (.ptr (aY bj) (fg bj + j * 4)):=by
 have:=h.a.idx (ty:=68) (i:=j) (by rw [List.length_map]; exact ax)
 rw [zO] at this
 exact this
theorem eN.set (h:eN H0 H bj qs) {c:Nat} {z:bf} (oe:H0.next≤c) (J:bj= .aE∨c≠aY bj) (O:∀q∈qs,q.2= .aE∨c≠aY q.2):eN H0 (aN H c z) bj qs:=
 ⟨h.a.Jw J oe,fun q aB=>(h.d q aB).a_ (Nat.le_refl _) ((O q aB).imp id fun aQ=>cY aQ.symm),h.z,h.n⟩
theorem eN.h9 (h:eN H0 H bj qs) {c:Nat} (V:H.next≤c):(bj= .aE∨c≠aY bj) /\ ∀q∈qs,q.2= .aE∨c≠aY q.2:=by
 refine ⟨h.a.sep V,fun q aB=>(h.d q aB).lt.imp id fun aQ=>by omega⟩
end
end
end Go.az
namespace Go.az
open Go.Proofs
noncomputable section
set_option maxRecDepth 100000
theorem OX (r:Int × Int):(s6 r).cells= [.int .i64 r.1,.int .i64 r.2]:=rfl
theorem ND (rs:List Rec) (f:Bool) (b:Int) (x:List UInt8):0 < (gU rs f b x).length:=by
 unfold gU
 split
 ·
  rename_i r af
  have:=(List.getElem?_eq_some_iff.1 af).1
  split
  ·
   rw [List.length_set]; omega
  ·
   rw [List.length_append,List.length_singleton]; omega
 ·
  rw [List.length_append,List.length_singleton]; omega
theorem OY {bs:List (List UInt8)} {rs:List Rec} {r:Int × Int} {k:Nat} (h:0 < k):0 < (jt bs rs r k).length:=by
 obtain ⟨m,rfl⟩:∃m,k=m + 1:=⟨k - 1,by omega⟩
 exact ND _ _ _ _
theorem SS {H:aa} {x:List UInt8} (R:x.length=64):dW (aS H (.cells (List.replicate 64 (.int .u8 0)) 53 true true)).2 64 (.ptr H.next 0) (.agg (x.map aI))=some (.undef,aN (aS H (.cells (List.replicate 64 (.int .u8 0)) 53 true true)).2 H.next (.cells (x.map aI) 53 true true)):=by
 have Fi:br (x.map aI)=true:=by rw [<- eY]; exact jl x
 have ah:(x.map aI).length=64:=by rw [List.length_map,R]
 rw [R7 ah]
 have:bT (aS H (.cells (List.replicate 64 (.int .u8 0)) 53 true true)).2 H.next 0 (x.map aI)=some (aN (aS H (.cells (List.replicate 64 (.int .u8 0)) 53 true true)).2 H.next (.cells (x.map aI) 53 true true)):=by
  rw [g4,(eP:(aS H (.cells (List.replicate 64 (.int .u8 0)) 53 true true)).2.m.get H.next=_)]
  show hi _ H.next 0 (x.map aI) (.cells (List.replicate 64 (.int .u8 0)) 53 true true)=_
  rw [hM,Fi]
  rw [B' (by rw [List.length_replicate,ah])]; rfl
 rw [this]; rfl
theorem Gd {qs:List (Rec × I)} {b:Int} {x:List UInt8} (ax:qs.length - 1 < qs.length) (ai:qs[qs.length - 1].1.zs=zeros x):
 gU (qs.map (·.1)) false b x=(qs.map (·.1)).set (qs.length - 1) { qs[qs.length - 1].1 with aX:=qs[qs.length - 1].1.aX + 1,data:=qs[qs.length - 1].1.data ++ (if zeros x then [] else x)}:=by
 unfold gU
 rw [List.length_map,List.getElem?_map,List.getElem?_eq_getElem ax]
 show (if (!false && (qs[qs.length - 1].1.zs==zeros x))=true then _ else _)=_
 rw [if_pos (by simp [ai])]
theorem yJ {qs:List (Rec × I)} {f:Bool} {b:Int} {x:List UInt8} (h:f=true∨∃ax:qs.length - 1 < qs.length,qs[qs.length - 1].1.zs≠zeros x):
 gU (qs.map (·.1)) f b x=qs.map (·.1) ++ [⟨b,1,zeros x,if zeros x then [] else x⟩]:=by
 unfold gU
 split
 ·
  rename_i r af
  rw [if_neg]
  rcases h with rfl | ⟨ax,bX⟩
  ·
   simp
  ·
   rw [List.length_map,List.getElem?_map,List.getElem?_eq_getElem ax,Option.map_some,Option.some.injEq] at af
   rw [<- af]
   simp [bX]
 ·
  rfl
theorem SU {H:aa}:cJ aq H 5 .aE 0 []=some (.aE,H):=by kernel_rfl
set_option maxHeartbeats 2000000 in
theorem Hz {H:aa} {v0 c2:I} {id:Int} {l:List Int} {base:Nat} {bs:List (List UInt8)} {K:I -> aa -> Prop} (gc:jQ H base v0 l) (ah:∀x∈l,0≤x /\ x < bs.length) (ar:bs.length≤64) (fm:l.length≤64) (U:∀x∈bs,x.length=64) (hw:b2 c2=true)
 (ab:K (.aJ 4 ((iW bs (bP l l.length) (bP l l.length).length).map hO)) H):Call (.func 55 [] []) [.agg [.int .i64 id,.aJ 64 (bs.map bL),c2],v0] H K:=by
 refine bR (N:=89) rfl abR rfl rfl rfl rfl rfl fun bC=> ?_
 simp (disch:=(refine am ?_; first | assumption | decide | omega | (simp only [aT,aW] <;> omega) | with_unfolding_all exact a6 rfl | with_unfolding_all exact a7 rfl)) only [go_sem,hw,l8 (eo hw),eo hw]
 refine WU (gc.b3 (Fr.alloc _ _)) (by omega) (fun a ae=>by have:=ah a ae; omega) ?_
 have k3:=(zy ah (by omega) l.length (Nat.le_refl _)).1
 have Kz:=CQ l l.length
 have k9:(bP l l.length).length≤l.length:=(sE l l.length).1
 generalize bP l l.length=runs at ab k3 Kz k9 ⊢
 simp (disch:=(refine am ?_; decide)) only [go_sem]
 have z_:(aS H (.cells [.int .i64 id,.aJ 64 (bs.map bL),c2] 95 true true)).2.m.get H.next=some (.cells [.int .i64 id,.aJ 64 (bs.map bL),c2] 95 true true):=eP
 have xr:H.next < (aS H (.cells [.int .i64 id,.aJ 64 (bs.map bL),c2] 95 true true)).2.next:=Nat.lt_succ_self _
 have vp:Fr H (aS H (.cells [.int .i64 id,.aJ 64 (bs.map bL),c2] 95 true true)).2:=Fr.alloc _ _
 generalize (aS H (.cells [.int .i64 id,.aJ 64 (bs.map bL),c2] 95 true true)).2=kN at z_ xr vp ⊢
 refine gw 309485009821345068724752288 (by kernel_rfl) (fun r G H'=>∃(i:Nat) (bj:I) (qs:List (Rec × I)),i≤runs.length /\ r=runs.length - i /\ G.get 15=some (.int .i64 (i:Int)) /\ G.get 5=some bj /\ eN H H' bj qs /\ qs.map (·.1)=iW bs runs i /\ H'.m.get H.next=some (.cells [.int .i64 id,.aJ 64 (bs.map bL),c2] 95 true true) /\ H.next < H'.next) runs.length
  ⟨0,.aE,[],Nat.zero_le _,(Nat.sub_zero _).symm,rfl,rfl,⟨Acc.z5 vp zO (by decide) JX,fun q aB=>(by cases aB),fun q aB=>(by cases aB),fun i j ad _ _=>absurd ad (Nat.not_lt_zero _)⟩,rfl,z_,xr⟩ ?_
 rintro r G H' aZ ⟨i,bj,qs,ad,rfl,Fj,b6,aC,aB,rY,aF⟩
 by_cases qy:i < runs.length
 ·
  have Ek:=k3 _ (List.getElem_mem qy)
  simp (disch:=(refine am ?_; first | assumption | decide | omega | (simp only [aT,aW] <;> omega) | with_unfolding_all exact a6 rfl | with_unfolding_all exact a7 rfl)) only [go_sem,Fj,b6,aZ,List.length_map,fh,OX]
  have abS:∀ {X Y:bf},(aN (aS H' X).2 H'.next Y).m.get H.next=some (.cells [.int .i64 id,.aJ 64 (bs.map bL),c2] 95 true true):=fun {X Y}=>(cY (Nat.ne_of_lt aF)).trans ((hK (Nat.ne_of_lt aF)).trans rY)
  have abT:∀ {X Y:bf},H.next < (aN (aS H' X).2 H'.next Y).next:=fun {X Y}=>Nat.lt_succ_of_lt aF
  have aej:∀ {X Y:bf},eN H (aN (aS H' X).2 H'.next Y) bj qs:=fun {X Y}=>aC.b3 ((Fr.alloc _ _).set (Nat.le_refl _) _)
  have AD:=Ek.2.1
  have n8:kX runs i + runs[i].2.toNat≤l.length:=by
   have:kX runs (i + 1)=kX runs i + runs[i].2.toNat:=by rw [<- d6 qy (d:=(0,0))]; rfl
   rw [<- this,<- Kz]
   exact OW _ qy
  have KA:=Hy U runs i
  have fT:iW bs runs (i + 1)=jt bs (iW bs runs i) runs[i] runs[i].2.toNat:=by
   show jt bs (iW bs runs i) (runs.getD i (0,0)) (runs.getD i (0,0)).2.toNat=_
   rw [d6 qy]
  generalize runs[i]=run at Ek n8 fT AD ⊢
  generalize r1:iW bs runs i=rs at aB fT KA
  refine gw 154742504910672534360297248 (by kernel_rfl) (fun r kG ay=>∃(k:Nat) (bj:I) (qs:List (Rec × I)),k≤run.2.toNat /\ r=run.2.toNat - k /\ kG.get 21=some (.int .i64 (k:Int)) /\ kG.get 5=some bj /\ eN H ay bj qs /\ qs.map (·.1)=jt bs rs run k /\ ay.m.get H.next=some (.cells [.int .i64 id,.aJ 64 (bs.map bL),c2] 95 true true) /\ H.next < ay.next /\
   ay.m.get H'.next=some (.cells [.int .i64 run.1,.int .i64 run.2] 138 true true) /\ H'.next < ay.next) run.2.toNat
   ⟨0,bj,qs,Nat.zero_le _,(Nat.sub_zero _).symm,(by simp (disch:=(refine am ?_; first | assumption | decide | omega | (simp only [aT,aW] <;> omega) | with_unfolding_all exact a6 rfl | with_unfolding_all exact a7 rfl)) only [go_sem]; first | done | rfl),(by simp (disch:=(refine am ?_; first | assumption | decide | omega | (simp only [aT,aW] <;> omega) | with_unfolding_all exact a6 rfl | with_unfolding_all exact a7 rfl)) only [go_sem,b6]; first | done | rfl),aej,aB,abS,abT,gj,Nat.lt_succ_self _⟩ ?_
  rintro ck kG ay fV ⟨k,bj,qs,u0,rfl,r',b6,aC,aB,rY,aF,fd,z'⟩
  by_cases LJ:k < run.2.toNat
  ·
   have Fk:run.1.toNat + k < bs.length:=by omega
   have kZ:=U _ (List.getElem_mem Fk)
   have dE:bG .i64 (run.1 + (k:Int))=((run.1.toNat + k:Nat):Int):=by rw [wrap_i64 (by omega) (by omega)]; omega
   have lM:=Hx U KA k (r:=run)
   rw [<- aB] at lM
   have Aa:jt bs rs run (k + 1)=gU (jt bs rs run k) (decide (k=0)) (run.1 + k) bs[run.1.toNat + k]:=by
    show gU _ _ _ (bs.getD _ _)=_
    rw [d6 Fk]
   have bU:=OY (bs:=bs) (rs:=rs) (r:=run) (k:=k)
   rw [<- aB] at Aa bU
   generalize aek:bs[run.1.toNat + k]=x at kZ Aa
   have Am:cG 64 (x.map aI)=some (x.map aI):=by rw [fL,if_pos (by rw [List.length_map]; omega),List.take_of_length_le (by rw [List.length_map]; omega)]
   simp (disch:=(refine am ?_; first | assumption | decide | omega | (simp only [aT,aW] <;> omega) | with_unfolding_all exact a6 rfl | with_unfolding_all exact a7 rfl)) only [go_sem,r',b6,fV,aZ,a2 rY,a2 fd,dE,BI Fk,aek,Am,SS kZ]
   refine oP [0,4,0,0,0,2,0,0,0] (by kernel_rfl) (by kernel_rfl) rfl (by kernel_rfl) ?_
   have ael:∀ {X Y:bf},(aN (aS ay X).2 ay.next Y).m.get H'.next=some (.cells [.int .i64 run.1,.int .i64 run.2] 138 true true):=fun {X Y}=>(cY (Nat.ne_of_lt z')).trans ((hK (Nat.ne_of_lt z')).trans fd)
   simp (disch:=(refine am ?_; first | assumption | decide | omega | (simp only [aT,aW] <;> omega) | with_unfolding_all exact a6 rfl | with_unfolding_all exact a7 rfl)) only [go_sem,fV,aZ,a2 ael,dE,Cs]
   refine SR (x:=x) gj kZ ?_
   have af2:∀ {X Y:bf},eN H (aN (aS ay X).2 ay.next Y) bj qs:=fun {X Y}=>aC.b3 ((Fr.alloc _ _).set (Nat.le_refl _) _)
   have aft:∀ {X Y:bf},(aN (aS ay X).2 ay.next Y).m.get H.next=some (.cells [.int .i64 id,.aJ 64 (bs.map bL),c2] 95 true true):=fun {X Y}=>(cY (Nat.ne_of_lt aF)).trans ((hK (Nat.ne_of_lt aF)).trans rY)
   have iq:∀ {X Y:bf},(aN (aS ay X).2 ay.next Y).m.get ay.next=some Y:=fun {X Y}=>gj
   have af3:∀ {X Y:bf},(aN (aS ay X).2 ay.next Y).next=ay.next + 1:=fun {X Y}=>rfl
   cases ai:zeros x with
   | true=>
    simp (disch:=(refine am ?_; first | decide | (simp only [aT,aW] <;> omega) | assumption)) only [go_sem]
    have ik:(aN (aS (aN (aS ay (.cells (List.replicate 64 (.int .u8 0)) 53 true true)).2 ay.next (.cells (x.map aI) 53 true true)) (.cells [.int .i64 0,.int .i64 0,.bool false,.aE] 68 true true)).2 (ay.next + 1) (.cells [.int .i64 ((run.1.toNat + k:Nat):Int),.int .i64 1,.bool true,.aE] 68 true true)).m.get (ay.next + 1)=some (.cells [.int .i64 ((run.1.toNat + k:Nat):Int),.int .i64 1,.bool true,.aE] 68 true true):=gj
    have qP:(aN (aS (aN (aS ay (.cells (List.replicate 64 (.int .u8 0)) 53 true true)).2 ay.next (.cells (x.map aI) 53 true true)) (.cells [.int .i64 0,.int .i64 0,.bool false,.aE] 68 true true)).2 (ay.next + 1) (.cells [.int .i64 ((run.1.toNat + k:Nat):Int),.int .i64 1,.bool true,.aE] 68 true true)).m.get ay.next=some (.cells (x.map aI) 53 true true):=(cY (Nat.ne_of_lt (Nat.lt_succ_self _))).trans ((hK (Nat.ne_of_lt (Nat.lt_succ_self _))).trans iq)
    have f4:Fr ay (aN (aS (aN (aS ay (.cells (List.replicate 64 (.int .u8 0)) 53 true true)).2 ay.next (.cells (x.map aI) 53 true true)) (.cells [.int .i64 0,.int .i64 0,.bool false,.aE] 68 true true)).2 (ay.next + 1) (.cells [.int .i64 ((run.1.toNat + k:Nat):Int),.int .i64 1,.bool true,.aE] 68 true true)):=((Fr.alloc _ _).set (Nat.le_refl _) _).trans ((Fr.alloc _ _).set (Nat.le_refl _) _)
    have pt:(aN (aS (aN (aS ay (.cells (List.replicate 64 (.int .u8 0)) 53 true true)).2 ay.next (.cells (x.map aI) 53 true true)) (.cells [.int .i64 0,.int .i64 0,.bool false,.aE] 68 true true)).2 (ay.next + 1) (.cells [.int .i64 ((run.1.toNat + k:Nat):Int),.int .i64 1,.bool true,.aE] 68 true true)).next=ay.next + 2:=rfl
    generalize aN (aS (aN (aS ay (.cells (List.replicate 64 (.int .u8 0)) 53 true true)).2 ay.next (.cells (x.map aI) 53 true true)) (.cells [.int .i64 0,.int .i64 0,.bool false,.aE] 68 true true)).2 (ay.next + 1) (.cells [.int .i64 ((run.1.toNat + k:Nat):Int),.int .i64 1,.bool true,.aE] 68 true true)=c_ at ik qP f4 pt ⊢
    have hp:=aC.b3 f4
    have kD:=hp.len (ty:=68)
    have aem:qs.length≤64:=by have:=lM.1; rw [List.length_map] at this; omega
    have D5:=(f4.get _ aF).trans rY
    have Fl:=(f4.get _ z').trans fd
    have eR:b2 .aE=true:=rfl
    have xt:hB c_ H.next .aE (if zeros x then [] else x):=by rw [ai]; exact .inl ⟨rfl,rfl⟩
    have lI:∀ {iK:I} {fc:aa} {qz:List (Rec × I)},eN H fc iK qz -> qz.map (·.1)=gU (qs.map (·.1)) (decide (k=0)) (run.1 + k) x -> c_.next≤fc.next -> (∀c,c < c_.next -> (bj= .aE∨c≠aY bj) -> (∀q∈qs,q.2= .aE∨c≠aY q.2) -> fc.m.get c=c_.m.get c) -> ∃bY,bY < run.2.toNat - k /\ ∃qA xu xv,
     qA≤run.2.toNat /\ bY=run.2.toNat - qA /\ some (I.int .i64 ((k:Int) + 1))=some (I.int .i64 (qA:Int)) /\ some iK=some xu /\ eN H fc xu xv /\ List.map (fun x=>x.1) xv=jt bs rs run qA /\
     fc.m.get H.next=some (.cells [.int .i64 id,.aJ 64 (bs.map bL),c2] 95 true true) /\ H.next < fc.next /\ fc.m.get H'.next=some (.cells [.int .i64 run.1,.int .i64 run.2] 138 true true) /\ H'.next < fc.next:=fun {iK fc qz} J O ag aP=>by
     have xw:∀ {c:Nat} {l:List I} {e:Nat} {a b:Bool},c_.m.get c=some (.cells l e a b) -> Nat.beq 68 e=false -> Nat.beq 53 e=false -> Nat.beq 5 e=false -> c < c_.next -> fc.m.get c=some (.cells l e a b):=fun {c l e a b} cg cn bW fb b6=>by
      refine (aP c b6 ?_ fun q aB=> ?_).trans cg
      ·
       rcases hp.a.own.2 with ⟨h,_⟩ | ⟨cv,y,_,_,iF,dx⟩
       ·
        exact .inl h
       ·
        refine .inr ?_
        rw [iF]
        exact (gv dx cg cn).symm
      ·
       exact ((hp.d q aB).ne cg bW fb).imp (fun h=>h) fun h=>h.symm
     exact ⟨_,by omega,k + 1,iK,qz,LJ,rfl,rfl,rfl,J,by rw [O,Aa],xw D5 rfl rfl rfl (by omega),by omega,xw Fl rfl rfl rfl (by omega),by omega⟩
    simp (disch:=(refine am ?_; first | assumption | decide | omega | (simp only [aT,aW] <;> omega) | with_unfolding_all exact a6 rfl | with_unfolding_all exact a7 rfl)) only [go_sem,b6,fV,aZ,kD]
    refine iX (by kernel_rfl) (by kernel_rfl) ?_
    by_cases pi:0 < k
    ·
     have ax:qs.length - 1 < qs.length:=by have:=bU pi; rw [List.length_map] at this; omega
     have k7:bG .i64 ((qs.length:Int) - 1)=((qs.length - 1:Nat):Int):=by rw [wrap_i64 (by omega) (by omega)]; omega
     have lQ:cellAt c_ (aY bj) (fg bj + (qs.length - 1) * 4 + 2)=some (.bool qs[qs.length - 1].1.zs):=ln (j:=2) (hp.cells ax) (by decide)
     have qa:(0:Int) < (k:Int):=by omega
     have li:decide (k=0)=false:=decide_eq_false (by omega)
     rw [li] at lI
     have aen:0 < qs.length:=by omega
     have qb:bj≠ .aE:=by
      rcases hp.a.own.2 with ⟨_,h⟩ | ⟨cv,y,_,_,iF,_⟩
      ·
       rw [List.length_map] at h; omega
      ·
       rw [iF]; exact fun h=>(by cases h)
     have tv:=ln (j:=1) (hp.cells ax) (by decide)
     have tv:cellAt c_ (aY bj) (fg bj + (qs.length - 1) * 4 + 1)=some (.int .i64 qs[qs.length - 1].1.aX):=tv
     have aeo:=lM.2 qs[qs.length - 1].1 (List.mem_map_of_mem (List.getElem_mem ax))
     have xD:bG .i64 (qs[qs.length - 1].1.aX + 1)=qs[qs.length - 1].1.aX + 1:=wrap_i64 (by omega) (by omega)
     have xY:ay.next≠aY bj:=(aC.h9 (Nat.le_refl _)).1.resolve_left qb
     have tq:ay.next + 1≠aY bj:=(aC.h9 (Nat.le_succ _)).1.resolve_left qb
     cases ig:qs[qs.length - 1].1.zs with
     | true=>
      rw [ig] at lQ
      obtain ⟨fc,fZ,tw,vA,tW⟩:=hp.Jy ax (qs[qs.length - 1].1.aX + 1)
      simp (disch:=(refine am ?_; first | assumption | decide | omega | (simp only [aT,aW] <;> omega) | with_unfolding_all exact a6 rfl | with_unfolding_all exact a7 rfl)) only [go_sem,b6,fV,aZ,a2 ik,ik,k7,hp.idx ax,lQ,qa,show (true==true)=true from rfl,show (false==false)=true from rfl,show (true==false)=false from rfl,show (false==true)=false from rfl,tv,xD,fZ]
      refine iX (by kernel_rfl) (by kernel_rfl) ?_
      have jH:qs.length - 1 < (qs.set (qs.length - 1) ({ qs[qs.length - 1].1 with aX:=qs[qs.length - 1].1.aX + 1},qs[qs.length - 1].2)).length:=by rw [List.length_set]; exact ax
      have bw:=ln (j:=3) (tw.cells jH) (by decide)
      have xx:=(tW _ tq).trans ik
      have LK:=(tW _ xY).trans qP
      have kM:∀ {H:aa} {u x:I},fQ .append aq H [u,x] [32,32]=(fu aq H 5 x).ac fun p=>cJ aq H 5 u p.1 p.2:=mY i6 i6
      have Fm:gU (qs.map (·.1)) false (run.1 + k) x=_:=Gd ax (ig.trans ai.symm)
      have Fo:=tw.idx jH
      have ak:qs[qs.length - 1].2= .aE:=by
       rcases hp.z _ (List.getElem_mem ax) with ⟨_,O⟩ | ⟨J,_⟩
       ·
        exact O
       ·
        rw [ig] at J; cases J
      obtain ⟨nq,jh,nn,tX,ox⟩:=tw.WX jH (by rw [List.getElem_set_self]; exact ig)
      have bw:cellAt fc (aY bj) (fg bj + (qs.length - 1) * 4 + 3)=some .aE:=by
       rw [List.getElem_set_self] at bw
       exact bw.trans (congrArg some ak)
      have s_:fu aq fc 5 .aE=some (0,[]):=by kernel_rfl
      have ae:cJ aq fc 5 .aE 0 []=some (.aE,fc):=SU
      simp (disch:=(refine am ?_; first | assumption | decide | omega | (simp only [aT,aW] <;> omega) | with_unfolding_all exact a6 rfl | with_unfolding_all exact a7 rfl)) only [go_sem,b6,fV,aZ,a2 xx,xx,k7,Fo,bw,kM,s_,ae,jh,r',wrap_i64]
      refine lI nn ?_ (by omega) (fun c V J _=>(ox c (J.resolve_left qb)).trans (tW c (J.resolve_left qb)))
      rw [Fm,List.map_set,ai,if_pos rfl,List.append_nil]
     | false=>
      rw [ig] at lQ
      have tx:gU (qs.map (·.1)) false (run.1 + k) x=_:=yJ (.inr ⟨ax,by rw [ig,ai]; decide⟩)
      obtain ⟨iK,nq,jh,nn,tX,ox⟩:=hp.push (q:=(⟨run.1 + k,1,zeros x,if zeros x then [] else x⟩,.aE)) xt (by rw [ai]; exact .inl ⟨rfl,rfl⟩) (fun j ax=> .inl rfl) (by omega)
      have tz:cJ aq (aS c_ (.cells [.int .i64 ((run.1.toNat + k:Nat):Int),.int .i64 1,.bool true,.aE] 68 true true)).2 68 bj 1 [.int .i64 ((run.1.toNat + k:Nat):Int),.int .i64 1,.bool true,.aE]=some (iK,nq):=by
       rw [show ((run.1.toNat + k:Nat):Int)=run.1 + k by omega]
       simp only [sB,ai] at jh
       exact jh
      simp (disch:=(refine am ?_; first | assumption | decide | omega | (simp only [aT,aW] <;> omega) | with_unfolding_all exact a6 rfl | with_unfolding_all exact a7 rfl)) only [go_sem,b6,fV,aZ,a2 ik,ik,k7,hp.idx ax,lQ,qa,show (true==true)=true from rfl,show (false==false)=true from rfl,show (true==false)=false from rfl,show (false==true)=false from rfl,tz,r',wrap_i64]
      refine lI nn ?_ (by omega) (fun c V J _=>ox c V J)
      rw [tx,List.map_append]; rfl
    ·
     have qa:¬(0:Int) < (k:Int):=by omega
     have li:decide (k=0)=true:=decide_eq_true (by omega)
     rw [li] at lI
     have tx:gU (qs.map (·.1)) true (run.1 + k) x=_:=yJ (.inl rfl)
     obtain ⟨iK,nq,jh,nn,tX,ox⟩:=hp.push (q:=(⟨run.1 + k,1,zeros x,if zeros x then [] else x⟩,.aE)) xt (by rw [ai]; exact .inl ⟨rfl,rfl⟩) (fun j ax=> .inl rfl) (by omega)
     have tz:cJ aq (aS c_ (.cells [.int .i64 ((run.1.toNat + k:Nat):Int),.int .i64 1,.bool true,.aE] 68 true true)).2 68 bj 1 [.int .i64 ((run.1.toNat + k:Nat):Int),.int .i64 1,.bool true,.aE]=some (iK,nq):=by
      rw [show ((run.1.toNat + k:Nat):Int)=run.1 + k by omega]
      simp only [sB,ai] at jh
      exact jh
     simp (disch:=(refine am ?_; first | assumption | decide | omega | (simp only [aT,aW] <;> omega) | with_unfolding_all exact a6 rfl | with_unfolding_all exact a7 rfl)) only [go_sem,b6,fV,aZ,a2 ik,ik,qa,show (true==true)=true from rfl,show (false==false)=true from rfl,show (true==false)=false from rfl,show (false==true)=false from rfl,tz,r',wrap_i64]
     refine lI nn ?_ (by omega) (fun c V J _=>ox c V J)
     rw [tx,List.map_append]; rfl
   | false=>
    simp (disch:=(refine am ?_; first | decide | (simp only [aT,aW] <;> omega) | assumption)) only [go_sem]
    have ik:(aN (aS (aN (aS ay (.cells (List.replicate 64 (.int .u8 0)) 53 true true)).2 ay.next (.cells (x.map aI) 53 true true)) (.cells [.int .i64 0,.int .i64 0,.bool false,.aE] 68 true true)).2 (ay.next + 1) (.cells [.int .i64 ((run.1.toNat + k:Nat):Int),.int .i64 1,.bool false,.aE] 68 true true)).m.get (ay.next + 1)=some (.cells [.int .i64 ((run.1.toNat + k:Nat):Int),.int .i64 1,.bool false,.aE] 68 true true):=gj
    have qP:(aN (aS (aN (aS ay (.cells (List.replicate 64 (.int .u8 0)) 53 true true)).2 ay.next (.cells (x.map aI) 53 true true)) (.cells [.int .i64 0,.int .i64 0,.bool false,.aE] 68 true true)).2 (ay.next + 1) (.cells [.int .i64 ((run.1.toNat + k:Nat):Int),.int .i64 1,.bool false,.aE] 68 true true)).m.get ay.next=some (.cells (x.map aI) 53 true true):=(cY (Nat.ne_of_lt (Nat.lt_succ_self _))).trans ((hK (Nat.ne_of_lt (Nat.lt_succ_self _))).trans iq)
    have f4:Fr ay (aN (aS (aN (aS ay (.cells (List.replicate 64 (.int .u8 0)) 53 true true)).2 ay.next (.cells (x.map aI) 53 true true)) (.cells [.int .i64 0,.int .i64 0,.bool false,.aE] 68 true true)).2 (ay.next + 1) (.cells [.int .i64 ((run.1.toNat + k:Nat):Int),.int .i64 1,.bool false,.aE] 68 true true)):=((Fr.alloc _ _).set (Nat.le_refl _) _).trans ((Fr.alloc _ _).set (Nat.le_refl _) _)
    have pt:(aN (aS (aN (aS ay (.cells (List.replicate 64 (.int .u8 0)) 53 true true)).2 ay.next (.cells (x.map aI) 53 true true)) (.cells [.int .i64 0,.int .i64 0,.bool false,.aE] 68 true true)).2 (ay.next + 1) (.cells [.int .i64 ((run.1.toNat + k:Nat):Int),.int .i64 1,.bool false,.aE] 68 true true)).next=ay.next + 2:=rfl
    generalize aN (aS (aN (aS ay (.cells (List.replicate 64 (.int .u8 0)) 53 true true)).2 ay.next (.cells (x.map aI) 53 true true)) (.cells [.int .i64 0,.int .i64 0,.bool false,.aE] 68 true true)).2 (ay.next + 1) (.cells [.int .i64 ((run.1.toNat + k:Nat):Int),.int .i64 1,.bool false,.aE] 68 true true)=vv at ik qP f4 pt ⊢
    simp (disch:=(refine am ?_; first | assumption | decide | omega | (simp only [aT,aW] <;> omega) | with_unfolding_all exact a6 rfl | with_unfolding_all exact a7 rfl)) only [go_sem,Cs,a2 ik,ik]
    have LL:Fr ay (aN vv (ay.next + 1) (.cells [.int .i64 ((run.1.toNat + k:Nat):Int),.int .i64 1,.bool false,.slice ay.next 0 64 (.ex 64)] 68 true true)):=f4.set (Nat.le_succ _) _
    replace qP:(aN vv (ay.next + 1) (.cells [.int .i64 ((run.1.toNat + k:Nat):Int),.int .i64 1,.bool false,.slice ay.next 0 64 (.ex 64)] 68 true true)).m.get ay.next=some (.cells (x.map aI) 53 true true):=(cY (Nat.ne_of_lt (Nat.lt_succ_self _))).trans qP
    replace ik:(aN vv (ay.next + 1) (.cells [.int .i64 ((run.1.toNat + k:Nat):Int),.int .i64 1,.bool false,.slice ay.next 0 64 (.ex 64)] 68 true true)).m.get (ay.next + 1)=some (.cells [.int .i64 ((run.1.toNat + k:Nat):Int),.int .i64 1,.bool false,.slice ay.next 0 64 (.ex 64)] 68 true true):=gj
    replace pt:(aN vv (ay.next + 1) (.cells [.int .i64 ((run.1.toNat + k:Nat):Int),.int .i64 1,.bool false,.slice ay.next 0 64 (.ex 64)] 68 true true)).next=ay.next + 2:=pt
    generalize aN vv (ay.next + 1) (.cells [.int .i64 ((run.1.toNat + k:Nat):Int),.int .i64 1,.bool false,.slice ay.next 0 64 (.ex 64)] 68 true true)=c_ at qP ik pt LL ⊢
    clear f4
    rename_i vv
    have f4:=LL
    have hp:=aC.b3 f4
    have kD:=hp.len (ty:=68)
    have aem:qs.length≤64:=by have:=lM.1; rw [List.length_map] at this; omega
    have D5:=(f4.get _ aF).trans rY
    have Fl:=(f4.get _ z').trans fd
    have eR:b2 (.slice ay.next 0 64 (.ex 64))=true:=rfl
    have xt:hB c_ H.next (.slice ay.next 0 64 (.ex 64)) (if zeros x then [] else x):=by rw [ai]; exact .inr (.inl ⟨ay.next,aC.a.fr.nx,(by omega),kZ,rfl,qP⟩)
    have lI:∀ {iK:I} {fc:aa} {qz:List (Rec × I)},eN H fc iK qz -> qz.map (·.1)=gU (qs.map (·.1)) (decide (k=0)) (run.1 + k) x -> c_.next≤fc.next -> (∀c,c < c_.next -> (bj= .aE∨c≠aY bj) -> (∀q∈qs,q.2= .aE∨c≠aY q.2) -> fc.m.get c=c_.m.get c) -> ∃bY,bY < run.2.toNat - k /\ ∃qA xu xv,
     qA≤run.2.toNat /\ bY=run.2.toNat - qA /\ some (I.int .i64 ((k:Int) + 1))=some (I.int .i64 (qA:Int)) /\ some iK=some xu /\ eN H fc xu xv /\ List.map (fun x=>x.1) xv=jt bs rs run qA /\
     fc.m.get H.next=some (.cells [.int .i64 id,.aJ 64 (bs.map bL),c2] 95 true true) /\ H.next < fc.next /\ fc.m.get H'.next=some (.cells [.int .i64 run.1,.int .i64 run.2] 138 true true) /\ H'.next < fc.next:=fun {iK fc qz} J O ag aP=>by
     have xw:∀ {c:Nat} {l:List I} {e:Nat} {a b:Bool},c_.m.get c=some (.cells l e a b) -> Nat.beq 68 e=false -> Nat.beq 53 e=false -> Nat.beq 5 e=false -> c < c_.next -> fc.m.get c=some (.cells l e a b):=fun {c l e a b} cg cn bW fb b6=>by
      refine (aP c b6 ?_ fun q aB=> ?_).trans cg
      ·
       rcases hp.a.own.2 with ⟨h,_⟩ | ⟨cv,y,_,_,iF,dx⟩
       ·
        exact .inl h
       ·
        refine .inr ?_
        rw [iF]
        exact (gv dx cg cn).symm
      ·
       exact ((hp.d q aB).ne cg bW fb).imp (fun h=>h) fun h=>h.symm
     exact ⟨_,by omega,k + 1,iK,qz,LJ,rfl,rfl,rfl,J,by rw [O,Aa],xw D5 rfl rfl rfl (by omega),by omega,xw Fl rfl rfl rfl (by omega),by omega⟩
    simp (disch:=(refine am ?_; first | assumption | decide | omega | (simp only [aT,aW] <;> omega) | with_unfolding_all exact a6 rfl | with_unfolding_all exact a7 rfl)) only [go_sem,b6,fV,aZ,kD]
    refine iX (by kernel_rfl) (by kernel_rfl) ?_
    by_cases pi:0 < k
    ·
     have ax:qs.length - 1 < qs.length:=by have:=bU pi; rw [List.length_map] at this; omega
     have k7:bG .i64 ((qs.length:Int) - 1)=((qs.length - 1:Nat):Int):=by rw [wrap_i64 (by omega) (by omega)]; omega
     have lQ:cellAt c_ (aY bj) (fg bj + (qs.length - 1) * 4 + 2)=some (.bool qs[qs.length - 1].1.zs):=ln (j:=2) (hp.cells ax) (by decide)
     have qa:(0:Int) < (k:Int):=by omega
     have li:decide (k=0)=false:=decide_eq_false (by omega)
     rw [li] at lI
     have aen:0 < qs.length:=by omega
     have qb:bj≠ .aE:=by
      rcases hp.a.own.2 with ⟨_,h⟩ | ⟨cv,y,_,_,iF,_⟩
      ·
       rw [List.length_map] at h; omega
      ·
       rw [iF]; exact fun h=>(by cases h)
     have tv:=ln (j:=1) (hp.cells ax) (by decide)
     have tv:cellAt c_ (aY bj) (fg bj + (qs.length - 1) * 4 + 1)=some (.int .i64 qs[qs.length - 1].1.aX):=tv
     have aeo:=lM.2 qs[qs.length - 1].1 (List.mem_map_of_mem (List.getElem_mem ax))
     have xD:bG .i64 (qs[qs.length - 1].1.aX + 1)=qs[qs.length - 1].1.aX + 1:=wrap_i64 (by omega) (by omega)
     have xY:ay.next≠aY bj:=(aC.h9 (Nat.le_refl _)).1.resolve_left qb
     have tq:ay.next + 1≠aY bj:=(aC.h9 (Nat.le_succ _)).1.resolve_left qb
     cases ig:qs[qs.length - 1].1.zs with
     | false=>
      rw [ig] at lQ
      obtain ⟨fc,fZ,tw,vA,tW⟩:=hp.Jy ax (qs[qs.length - 1].1.aX + 1)
      simp (disch:=(refine am ?_; first | assumption | decide | omega | (simp only [aT,aW] <;> omega) | with_unfolding_all exact a6 rfl | with_unfolding_all exact a7 rfl)) only [go_sem,b6,fV,aZ,a2 ik,ik,k7,hp.idx ax,lQ,qa,show (true==true)=true from rfl,show (false==false)=true from rfl,show (true==false)=false from rfl,show (false==true)=false from rfl,tv,xD,fZ]
      refine iX (by kernel_rfl) (by kernel_rfl) ?_
      have jH:qs.length - 1 < (qs.set (qs.length - 1) ({ qs[qs.length - 1].1 with aX:=qs[qs.length - 1].1.aX + 1},qs[qs.length - 1].2)).length:=by rw [List.length_set]; exact ax
      have bw:=ln (j:=3) (tw.cells jH) (by decide)
      have xx:=(tW _ tq).trans ik
      have LK:=(tW _ xY).trans qP
      have kM:∀ {H:aa} {u x:I},fQ .append aq H [u,x] [32,32]=(fu aq H 5 x).ac fun p=>cJ aq H 5 u p.1 p.2:=mY i6 i6
      have Fm:gU (qs.map (·.1)) false (run.1 + k) x=_:=Gd ax (ig.trans ai.symm)
      have Fo:=tw.idx jH
      have Fp:(qs.set (qs.length - 1) ({ qs[qs.length - 1].1 with aX:=qs[qs.length - 1].1.aX + 1},qs[qs.length - 1].2))[qs.length - 1].1.zs=false:=by rw [List.getElem_set_self]; exact ig
      obtain ⟨cc,nq,L6,bI,bN,dG,gh,hH,nn,tX,ox⟩:=tw.WW jH Fp kZ (by rw [List.getElem_set_self]; show qs[qs.length - 1].1.data.length≤_; omega)
      have bw:cellAt fc (aY bj) (fg bj + (qs.length - 1) * 4 + 3)=some (qs.set (qs.length - 1) ({ qs[qs.length - 1].1 with aX:=qs[qs.length - 1].1.aX + 1},qs[qs.length - 1].2))[qs.length - 1].2:=bw
      have s_:fu aq fc 5 (.slice ay.next 0 64 (.ex 64))=some (64,x.map aI):=by
       show (bA fc ay.next 0 (Nat.mul 64 (au aq 5))).omap _=_
       rw [e2,(a2 LK).2.2.1]
       show (cG 64 (co 0 (x.map aI))).omap _=_
       rw [dz,List.drop_zero,Am]; rfl
      rw [List.getElem_set_self] at bw bI gh nn
      simp (disch:=(refine am ?_; first | assumption | decide | omega | (simp only [aT,aW] <;> omega) | with_unfolding_all exact a6 rfl | with_unfolding_all exact a7 rfl)) only [go_sem,b6,fV,aZ,a2 xx,xx,k7,Fo,bw,kM,s_,bI,bN,l8 (eo bN),eo bN,hH,r',wrap_i64]
      refine lI nn ?_ (by omega) (fun c V J O=>(ox c (J.resolve_left qb)).trans ((gh c (by omega) ?_).trans (tW c (J.resolve_left qb))))
      ·
       rw [Fm,List.set_set,List.map_set,ai]; rfl
      ·
       refine (O _ (List.getElem_mem ax)).resolve_left fun h=> ?_
       rcases hp.z _ (List.getElem_mem ax) with ⟨J,_⟩ | ⟨_,ag⟩
       ·
        rw [ig] at J; cases J
       ·
        exact ag h
     | true=>
      rw [ig] at lQ
      have tx:gU (qs.map (·.1)) false (run.1 + k) x=_:=yJ (.inr ⟨ax,by rw [ig,ai]; decide⟩)
      obtain ⟨iK,nq,jh,nn,tX,ox⟩:=hp.push (q:=(⟨run.1 + k,1,zeros x,if zeros x then [] else x⟩,(.slice ay.next 0 64 (.ex 64)))) xt (by rw [ai]; exact .inr ⟨rfl,fun h=>(by cases h)⟩) (fun j ax=> .inr ((aC.h9 (Nat.le_refl _)).2 _ (List.getElem_mem ax))) (by omega)
      have tz:cJ aq (aS c_ (.cells [.int .i64 ((run.1.toNat + k:Nat):Int),.int .i64 1,.bool false,(.slice ay.next 0 64 (.ex 64))] 68 true true)).2 68 bj 1 [.int .i64 ((run.1.toNat + k:Nat):Int),.int .i64 1,.bool false,(.slice ay.next 0 64 (.ex 64))]=some (iK,nq):=by
       rw [show ((run.1.toNat + k:Nat):Int)=run.1 + k by omega]
       simp only [sB,ai] at jh
       exact jh
      simp (disch:=(refine am ?_; first | assumption | decide | omega | (simp only [aT,aW] <;> omega) | with_unfolding_all exact a6 rfl | with_unfolding_all exact a7 rfl)) only [go_sem,b6,fV,aZ,a2 ik,ik,k7,hp.idx ax,lQ,qa,show (true==true)=true from rfl,show (false==false)=true from rfl,show (true==false)=false from rfl,show (false==true)=false from rfl,tz,r',wrap_i64]
      refine lI nn ?_ (by omega) (fun c V J _=>ox c V J)
      rw [tx,List.map_append]; rfl
    ·
     have qa:¬(0:Int) < (k:Int):=by omega
     have li:decide (k=0)=true:=decide_eq_true (by omega)
     rw [li] at lI
     have tx:gU (qs.map (·.1)) true (run.1 + k) x=_:=yJ (.inl rfl)
     obtain ⟨iK,nq,jh,nn,tX,ox⟩:=hp.push (q:=(⟨run.1 + k,1,zeros x,if zeros x then [] else x⟩,(.slice ay.next 0 64 (.ex 64)))) xt (by rw [ai]; exact .inr ⟨rfl,fun h=>(by cases h)⟩) (fun j ax=> .inr ((aC.h9 (Nat.le_refl _)).2 _ (List.getElem_mem ax))) (by omega)
     have tz:cJ aq (aS c_ (.cells [.int .i64 ((run.1.toNat + k:Nat):Int),.int .i64 1,.bool false,(.slice ay.next 0 64 (.ex 64))] 68 true true)).2 68 bj 1 [.int .i64 ((run.1.toNat + k:Nat):Int),.int .i64 1,.bool false,(.slice ay.next 0 64 (.ex 64))]=some (iK,nq):=by
      rw [show ((run.1.toNat + k:Nat):Int)=run.1 + k by omega]
      simp only [sB,ai] at jh
      exact jh
     simp (disch:=(refine am ?_; first | assumption | decide | omega | (simp only [aT,aW] <;> omega) | with_unfolding_all exact a6 rfl | with_unfolding_all exact a7 rfl)) only [go_sem,b6,fV,aZ,a2 ik,ik,qa,show (true==true)=true from rfl,show (false==false)=true from rfl,show (true==false)=false from rfl,show (false==true)=false from rfl,tz,r',wrap_i64]
     refine lI nn ?_ (by omega) (fun c V J _=>ox c V J)
     rw [tx,List.map_append]; rfl
  ·
   simp (disch:=(refine am ?_; first | assumption | decide | omega | (simp only [aT,aW] <;> omega) | with_unfolding_all exact a6 rfl | with_unfolding_all exact a7 rfl)) only [go_sem,r',b6,fV,aZ,Fj]
   obtain rfl:k=run.2.toNat:=by omega
   refine ⟨_,by omega,i + 1,_,qs,qy,rfl,?_,rfl,aC,by rw [aB,fT],rY,aF⟩
   rw [wrap_i64 (by omega) (by omega)]; rfl
 ·
  simp (disch:=(refine am ?_; first | decide | omega)) only [go_sem,Fj,b6,aZ,List.length_map]
  obtain rfl:i=runs.length:=by omega
  rw [<- aB] at ab
  exact .inr (.inl ⟨aC.a.fr,_,aC.fz bC,ab⟩)
end
end Go.az
namespace Go.az
open Go.Proofs
noncomputable section
set_option maxRecDepth 100000
theorem abU:bE.fn 51=some Try.f51:=by kernel_rfl
theorem abV:bE.fn 52=some Try.f52:=by kernel_rfl
theorem abW:bE.fn 76=some Try.f76:=by kernel_rfl
def lm (bs:List (List UInt8)) (b:Int):Bool:=zeros (bs.getD b.toNat [])
theorem JY {H:aa} {c:Nat} {id b:Int} {c2:I} {bs:List (List UInt8)} {K:I -> aa -> Prop} (V:H.m.get c=some (.cells [.int .i64 id,.aJ 64 (bs.map bL),c2] 95 true true)) (U:0≤b /\ b < bs.length) (dq:∀x∈bs,x.length=64)
 (ab:K (.bool (lm bs b)) H):Call (.func 52 [] [.ptr c 0]) [.int .i64 b] H K:=by
 obtain ⟨j,rfl⟩:=Int.eq_ofNat_of_zero_le U.1
 have ax:j < bs.length:=by omega
 have R:=dq _ (List.getElem_mem ax)
 unfold lm at ab
 rw [show ((j:Int)).toNat=j from rfl,d6 ax] at ab
 refine bR (N:=10) rfl abV rfl rfl rfl rfl rfl fun bC=> ?_
 simp (disch:=(refine am ?_; decide)) only [go_sem,a2 V,BI ax,UZ R]
 refine CO (l:=bs[j]) (by omega) ?_
 simp (disch:=(refine am ?_; decide)) only [go_sem]
 exact .inl ab
theorem U2 {H:aa} {c base:Nat} {id:Int} {c2 v0:I} {bs:List (List UInt8)} {l:List Int} {K:I -> aa -> Prop} (V:H.m.get c=some (.cells [.int .i64 id,.aJ 64 (bs.map bL),c2] 95 true true)) (gc:jQ H base v0 l) (ah:∀x∈l,0≤x /\ x < bs.length) (dq:∀x∈bs,x.length=64) (ar:l.length≤1000)
 (ab:K (.int .i64 (hZ (lm bs) l)) H):Call (.func 76 [] []) [v0,.func 52 [] [.ptr c 0]] H K:=by
 have hlen:=gc.len (ty:=3)
 refine bR (N:=19) rfl abW rfl rfl rfl rfl rfl fun bC=> ?_
 simp (disch:=(refine am ?_; decide)) only [go_sem,hlen]
 refine gw 524080 (by kernel_rfl) (fun r G H'=>H'=H /\ ∃i:Nat,i≤l.length /\ r=l.length - i /\ G.get 8=some (.int .i64 i) /\ ∀j (ax:j < l.length),j < i -> lm bs l[j]=false) l.length ⟨rfl,0,Nat.zero_le _,rfl,rfl,fun j _ h=>absurd h (by omega)⟩ ?_
 rintro r G H' aZ ⟨rfl,i,ad,rfl,em,fU⟩
 by_cases aF:i < l.length
 ·
  simp (disch:=(refine am ?_; first | decide | omega)) only [go_sem,em,aZ,gc.idx aF,gc.cell aF]
  refine JY V (ah _ (List.getElem_mem aF)) dq ?_
  cases aR:lm bs l[i] with
  | true=>
   simp (disch:=(refine am ?_; first | assumption | decide | omega | (simp only [aT,aW] <;> omega) | with_unfolding_all exact a6 rfl | with_unfolding_all exact a7 rfl)) only [go_sem,em,aZ]
   rw [I3 aF aR fU] at ab
   exact .inl ab
  | false=>
   simp (disch:=(refine am ?_; first | assumption | decide | omega | (simp only [aT,aW] <;> omega) | with_unfolding_all exact a6 rfl | with_unfolding_all exact a7 rfl)) only [go_sem,em,aZ,wrap_i64]
   refine ⟨_,by omega,i + 1,aF,rfl,rfl,fun j ax h=> ?_⟩
   by_cases tt:j=i
   ·
    subst tt; exact aR
   ·
    exact fU j ax (by omega)
 ·
  simp (disch:=(refine am ?_; first | decide | omega)) only [go_sem,em,aZ]
  rw [Cr fun j ax=>fU j ax (by omega)] at ab
  exact .inl ab
end
end Go.az
namespace Go.az
open Go.Proofs
noncomputable section
set_option maxRecDepth 100000
theorem WY {b n i:Nat} {x:Bool} (h:i < n):∃k,dp (.slice 3) aq (.slice b 0 n (nU x n)) (some (.int .i64 (i:Int))) none none=some (.slice b i (n - i) k):=by
 have e:=QM (Nat.le_of_lt h)
 cases x with
 | true=>
  refine ⟨.ex (n - i),?_⟩
  show (bF n n (some (.int .i64 (i:Int))) none none).omap (fun r=>I.slice b (addrAt r.2.2 r.1 0 (au aq 3)) (Nat.sub r.2.1 r.1) (.ex (Nat.sub r.2.2 r.1)))=_
  rw [e]
  show some (I.slice b (addrAt n i 0 (au aq 3)) (n - i) (.ex (n - i)))=_
  unfold addrAt
  rw [lF (by omega),s7]
  show some (I.slice b (0 + i * 1) _ _)=_
  rw [Nat.zero_add,Nat.mul_one]
 | false=>
  refine ⟨.rest i 1 (n - i),?_⟩
  show ap (Nat.beq 1 (au aq 3)) ((bF n n (some (.int .i64 (i:Int))) none none).ac fun r=>_) none=_
  rw [s7,e]
  show ap (Nat.blt i n || Nat.beq i 0) (some (I.slice b (0 + i * 1) (n - i) (.rest (0 + i) 1 (n - i)))) _=_
  rw [(cZ _ _).2 h,Nat.zero_add,Nat.mul_one,Nat.zero_add]; rfl
theorem WZ {b n i:Nat} {x:Bool} (h:i≤n):∃k,dp (.slice 3) aq (.slice b 0 n (nU x n)) none (some (.int .i64 (i:Int))) none=some (.slice b 0 i k):=by
 have e:=QN h
 cases x with
 | true=>
  refine ⟨.ex n,?_⟩
  show (bF n n none (some (.int .i64 (i:Int))) none).omap (fun r=>I.slice b (addrAt r.2.2 r.1 0 (au aq 3)) (Nat.sub r.2.1 r.1) (.ex (Nat.sub r.2.2 r.1)))=_
  rw [e]
  show some (I.slice b (addrAt n 0 0 (au aq 3)) i (.ex n))=_
  unfold addrAt
  cases Nat.beq n 0 with
  | true=>rfl
  | false=>
   show some (I.slice b (0 + 0 * _) _ _)=_
   rw [Nat.zero_mul]
 | false=>
  refine ⟨.rest 0 1 n,?_⟩
  show ap (Nat.beq 1 (au aq 3)) ((bF n n none (some (.int .i64 (i:Int))) none).ac fun r=>_) none=_
  rw [s7,e]
  show ap (Nat.blt 0 n || Nat.beq 0 0) (some (I.slice b (Nat.add 0 (Nat.mul 0 1)) (Nat.sub i 0) (.rest (Nat.add 0 0) 1 (Nat.sub n 0)))) _=_
  rw [show (Nat.blt 0 n || Nat.beq 0 0)=true by simp]; rfl
theorem W0 (m:Nat) (v:I):cR m [v]=List.replicate m v:=by
 induction m with
 | zero=>rfl
 | succ m aH=>show cb [v] (cR m [v])=_; rw [aH]; rfl
theorem W1 {H:aa} {b i n:Nat} {k:dm} {x:Bool} {cs:List Int} (U:H.m.get b=some (.cells (cs.map ir) 3 x true)) (ar:cs.length=n) (ad:i < n):
 ut aq H 3 (.slice b i (n - i) k)=some (.undef,aN H b (.cells ((cs.take i ++ List.replicate (n - i) 0).map ir) 3 x true)):=by
 show (cr aq 3).ac _=_
 rw [KB]
 show ap (Nat.beq (n - i) 0) (some (I.undef,H)) ((bT H b i (cR (n - i) [.int .i64 0])).omap fun H=>(I.undef,H))=_
 have dl:br (List.replicate (n - i) (I.int .i64 0))=true:=by
  generalize n - i=m
  induction m with
  | zero=>rfl
  | succ m aH=>rw [List.replicate_succ,eb,aH]; rfl
 have J:bT H b i (List.replicate (n - i) (I.int .i64 0))=some (aN H b (.cells ((cs.take i ++ List.replicate (n - i) 0).map ir) 3 x true)):=by
  rw [g4,U]
  show hi H b i (List.replicate (n - i) (I.int .i64 0)) (.cells (cs.map ir) 3 x true)=_
  rw [hM,dl,yY (by rw [List.length_replicate,List.length_map]; omega),List.length_replicate,List.drop_of_length_le (by rw [List.length_map]; omega),List.append_nil,List.map_append,List.map_take,List.map_replicate]; rfl
 rw [lF (by omega),W0,J]; rfl
theorem abX {H:aa} {b i:Nat} {a:Int} {x:Bool} {cs:List Int} (U:H.m.get b=some (.cells (cs.map ir) 3 x true)) (ad:i < cs.length):bT H b i [.int .i64 a]=some (aN H b (.cells ((cs.set i a).map ir) 3 x true)):=by
 rw [g4,U]
 show hi H b i [.int .i64 a] (.cells (cs.map ir) 3 x true)=_
 rw [hM,kP (by rw [List.length_map]; exact ad),List.map_set]; rfl
theorem Bp {α:Type} (p:α -> Bool) (l:List α) {j:Nat} (ax:j < l.length):(l.take (j + 1)).filter p=(l.take j).filter p ++ (if p l[j] then [l[j]] else []):=by
 rw [List.take_succ_eq_append_getElem ax,List.filter_append]
 congr 1
 cases h:p l[j] <;> simp [h]
theorem QQ {α:Type} {p:α -> Bool} {l:List α}:∀j,(∀i (ad:i < l.length),i < j -> p l[i]=true) -> (l.take j).filter p=l.take j:=fun j h=>by
 rw [List.filter_eq_self]
 intro a ae
 obtain ⟨i,ad,rfl⟩:=List.getElem_of_mem ae
 rw [List.length_take] at ad
 rw [List.getElem_take]
 exact h i (by omega) (by omega)
theorem OZ {α:Type} {p:α -> Bool} {l:List α} {i:Nat} (h:hZ p l=i):∃ad:i < l.length,p l[i]=true /\ ∀j (ax:j < l.length),j < i -> p l[j]=false:=by
 unfold hZ at h
 cases ao:l.findIdx? p with
 | none=>rw [ao] at h; exact absurd h (by show ¬(-1:Int)=i; omega)
 | some k=>
  rw [ao] at h
  have:k=i:=by have:(k:Int)=i:=h; omega
  subst this
  obtain ⟨J,O,ag⟩:=List.findIdx?_eq_some_iff_getElem.1 ao
  exact ⟨J,O,fun j ax tt=>by have:=ag j tt; simpa using this⟩
set_option maxHeartbeats 1000000 in
theorem SV {H0 H:aa} {c:Nat} {id:Int} {c2 v0:I} {bs:List (List UInt8)} {l:List Int} {K:I -> aa -> Prop} (V:H.m.get c=some (.cells [.int .i64 id,.aJ 64 (bs.map bL),c2] 95 true true)) (ae:Acc aq H0 H 3 1 v0 (l.map ir)) (ah:∀x∈l,0≤x /\ x < bs.length) (dq:∀x∈bs,x.length=64) (ar:l.length≤1000)
 (ab:∀cc H',jQ H' H0.next cc (l.filter fun b=> !lm bs b) -> Fr H0 H' -> H.next≤H'.next -> (∀a,(v0= .aE∨a≠aY v0) -> H'.m.get a=H.m.get a) -> K cc H'):Call (.func 51 [] []) [v0,.func 52 [] [.ptr c 0]] H K:=by
 have gc:=jQ.acc ae
 refine bR (N:=42) rfl abU rfl rfl rfl rfl rfl fun bC=> ?_
 simp (disch:=(refine am ?_; decide)) only [go_sem]
 refine U2 V gc ah dq ar ?_
 rcases vT (lm bs) l with ⟨R,fU⟩ | ⟨i0,LM,R,_⟩
 ·
  have e:l.filter (fun b=> !lm bs b)=l:=by
   rw [List.filter_eq_self]
   intro a ae
   obtain ⟨i,ad,rfl⟩:=List.getElem_of_mem ae
   rw [fU i ad]; rfl
  rw [e] at ab
  simp (disch:=(refine am ?_; decide)) only [go_sem,R]
  exact .inl (ab _ _ gc ae.fr (Nat.le_refl _) fun _ _=>rfl)
 ·
  obtain ⟨_,aR,fU⟩:=OZ R
  have bX:¬(i0:Int)= -1:=by omega
  rcases ae.own.2 with ⟨_,aD⟩ | ⟨b,x,kx,jB,rfl,U⟩
  ·
   rw [List.length_map] at aD; omega
  rw [I6] at U
  have x2:(l.map ir).length=l.length:=List.length_map _
  rw [x2] at ab ⊢
  have o1:(if x=true then dm.ex l.length else dm.rest 0 1 l.length)=nU x l.length:=rfl
  rw [o1] at ab ⊢
  simp (disch:=(refine am ?_; first | decide | omega)) only [go_sem,R,bX,wrap_i64]
  refine gw 68719411424 (by kernel_rfl) (fun r G H'=>∃(i j:Nat) (cs:List Int),i < j /\ j≤l.length /\ r=l.length - j /\ G.get 5=some (.int .i64 (i:Int)) /\ G.get 6=some (.int .i64 (j:Int)) /\
   cs.length=l.length /\ cs.take i=(l.take j).filter (fun b=> !lm bs b) /\ cs.drop j=l.drop j /\ H'.m.get b=some (.cells (cs.map ir) 3 x true) /\ H'.next=H.next /\ (∀a,a≠b -> H'.m.get a=H.m.get a) /\ Fr H0 H') (l.length - (i0 + 1)) ?_ ?_
  ·
   refine ⟨i0,i0 + 1,l,by omega,by omega,rfl,rfl,by simp (disch:=(refine am ?_; first | assumption | decide | omega | (simp only [aT,aW] <;> omega) | with_unfolding_all exact a6 rfl | with_unfolding_all exact a7 rfl)) only [go_sem]; first | done | rfl,rfl,?_,rfl,U,rfl,fun _ _=>rfl,ae.fr⟩
   rw [Bp _ _ LM,aR]
   show _=_ ++ []
   rw [List.append_nil,QQ i0 fun j ax h=>by rw [fU j ax h]; rfl]
  rintro r G H' aZ ⟨i,j,cs,cL,ax,rfl,b6,dy,cP,n8,bw,u7,fT,x7,eg⟩
  have z_:H'.m.get c=some (.cells [.int .i64 id,.aJ 64 (bs.map bL),c2] 95 true true):=(x7 c (gv V U rfl)).trans V
  have pd:∀m,m < l.length -> e9 (.slice 3) aq (.slice b 0 l.length (nU x l.length)) m=some (.ptr b m):=fun m hm=>by
   show ap (Nat.blt m l.length) (some (I.ptr b (Nat.add 0 (Nat.mul m (au aq 3))))) none=_
   rw [(cZ _ _).2 hm,s7]
   show some (I.ptr b (0 + m * 1))=_
   rw [Nat.zero_add,Nat.mul_one]
  by_cases aF:j < l.length
  ·
   have Fb:cs[j]'(by omega)=l[j]:=by
    have J:(cs.drop j)[0]? =(l.drop j)[0]? :=by rw [bw]
    rw [List.getElem?_drop,List.getElem?_drop,Nat.add_zero,List.getElem?_eq_getElem (by omega),List.getElem?_eq_getElem aF] at J
    exact Option.some.inj J
   have gW:cellAt H' b j=some (.int .i64 l[j]):=by
    rw [lo,u7]
    show rj j (.cells (cs.map ir) 3 x true)=_
    rw [pO,ke,List.getElem?_map,List.getElem?_eq_getElem (by omega),Fb]; rfl
   have LN:cs.drop (j + 1)=l.drop (j + 1):=by rw [<- List.drop_drop,bw,List.drop_drop]
   simp (disch:=(refine am ?_; first | assumption | decide | omega | (simp only [aT,aW] <;> omega) | with_unfolding_all exact a6 rfl | with_unfolding_all exact a7 rfl)) only [go_sem,b6,dy,aZ,pd j aF,gW]
   refine JY z_ (ah _ (List.getElem_mem aF)) dq ?_
   cases ai:lm bs l[j] with
   | true=>
    simp (disch:=(refine am ?_; first | assumption | decide | omega | (simp only [aT,aW] <;> omega) | with_unfolding_all exact a6 rfl | with_unfolding_all exact a7 rfl)) only [go_sem,b6,dy,aZ,wrap_i64]
    refine ⟨_,by omega,i,j + 1,cs,by omega,aF,rfl,rfl,rfl,cP,?_,LN,u7,fT,x7,eg⟩
    rw [Bp _ _ aF,ai,n8]
    show _=_ ++ []
    rw [List.append_nil]
   | false=>
    have p3:=abX (a:=l[j]) u7 (show i < cs.length by omega)
    simp (disch:=(refine am ?_; first | decide | omega)) only [go_sem,b6,dy,aZ,pd i (by omega),p3,wrap_i64]
    refine ⟨_,by omega,i + 1,j + 1,cs.set i l[j],by omega,aF,rfl,rfl,rfl,(by rw [List.length_set]; exact cP),?_,?_,rfl,fT,fun a ae=>(cY ae).trans (x7 a ae),eg.set kx _⟩
    ·
     rw [Bp _ _ aF,ai,<- n8]
     show _=_ ++ [l[j]]
     rw [List.take_succ_eq_append_getElem (by rw [List.length_set]; omega),List.getElem_set_self,List.take_set_of_le (Nat.le_refl _)]
    ·
     rw [List.drop_set_of_lt (by omega),LN]
  ·
   obtain rfl:j=l.length:=by omega
   obtain ⟨bc,s1⟩:=WY (b:=b) (x:=x) (show i < l.length by omega)
   obtain ⟨a9,s2⟩:=WZ (b:=b) (x:=x) (show i≤l.length by omega)
   have aep:=W1 (k:=bc) u7 cP (show i < l.length by omega)
   simp (disch:=(refine am ?_; first | decide | omega)) only [go_sem,b6,dy,aZ,s1,s2,aep]
   rw [List.take_length] at n8
   have qy:(l.filter fun b=> !lm bs b).length=i:=by rw [<- n8,List.length_take]; omega
   refine .inl (ab _ _ (.inr ⟨b,a9,(List.replicate (l.length - i) 0).map ir,x,kx,(by show b < H'.next; omega),by rw [qy],?_⟩) ?_ (by show H.next≤H'.next; omega) fun a ae=> ?_)
   ·
    rw [<- n8,<- List.map_append]; exact gj
   ·
    exact eg.set kx _
   ·
    have ge:a≠b:=ae.resolve_left fun h=>(by cases h)
    exact (cY ge).trans (x7 a ge)
end
end Go.az
namespace Go.az
open Go.Proofs
noncomputable section
set_option maxRecDepth 100000
theorem abY:bE.fn 29=some Try.f29:=by kernel_rfl
def vw (rs:List Rec) (n:Int):Prop:=∀r∈rs,0≤r.fr /\ r.fr < n
theorem O0 {rs:List Rec} {n:Int} {f:Bool} {b:Int} {x:List UInt8} (h:vw rs n) (U:0≤b /\ b < n):vw (gU rs f b x) n:=by
 have new:vw (rs ++ [⟨b,1,zeros x,if zeros x then [] else x⟩]) n:=fun r af=>by
  rcases List.mem_append.1 af with af | af
  ·
   exact h r af
  ·
   rw [List.mem_singleton] at af; subst af; exact U
 unfold gU
 split
 ·
  rename_i r af
  split
  ·
   intro q aB
   rcases List.mem_or_eq_of_mem_set aB with aB | rfl
   ·
    exact h q aB
   ·
    exact h r (List.mem_of_getElem? af)
  ·
   exact new
 ·
  exact new
theorem HA {bs:List (List UInt8)} {rs:List Rec} {n:Int} {r:Int × Int} (h:vw rs n) (J:0≤r.1):∀k:Nat,r.1 + k≤n -> vw (jt bs rs r k) n
 | 0,_=>h
 | k + 1,ab=>O0 (HA h J k (by omega)) ⟨by omega,by omega⟩
theorem HC {bs:List (List UInt8)} {runs:List (Int × Int)} {n:Int} (h:∀p∈runs,0≤p.1 /\ 1≤p.2 /\ p.1 + p.2≤n):∀k,k≤runs.length -> vw (iW bs runs k) n
 | 0,_=>fun r af=>by cases af
 | k + 1,ab=>by
  have aR:=h _ (List.getElem_mem (show k < runs.length by omega))
  unfold iW
  rw [d6 (show k < runs.length by omega)]
  exact HA (HC h k (by omega)) aR.1 _ (by omega)
def rN (zs:List (bq × I)) (s:bq) (n:Nat) (base i:Int) (j:Nat):List Int:=if base= -1 then (iy zs (-1) j n).filter fun b=> !lm s.bs b else iy zs i j n
def gk (n:Nat) (base id:Int) (s:bq) (l:List Int):cS:=⟨n,base,id,iW s.bs (bP l l.length) (bP l l.length).length⟩
def nM (s:cS):List UInt8 × Int:=if fS s then (gm s,0) else ([],11)
def xy (n:Nat) (zs:List (bq × I)) (base id:Int):List UInt8 × Int:=
 if ku zs id= -1∨(base≠ -1 /\ ku zs base= -1) then ([],13) else if id≤base then ([],26) else
 match zs[(ku zs id).toNat]? with
 | some z=>nM (gk n base id z.1 (rN zs z.1 n base (ku zs base) (ku zs id).toNat))
 | none=>([],0)
theorem I7 {zs:List (bq × I)} {s:bq} {n:Nat} {base i:Int} {j:Nat}:(rN zs s n base i j).length≤n /\ ∀x∈rN zs s n base i j,0≤x /\ x < n:=by
 unfold rN
 split
 ·
  exact ⟨Nat.le_trans (List.length_filter_le _ _) (yX _ _ _ _),fun x R=>Cl _ _ _ _ x (List.mem_filter.1 R).1⟩
 ·
  exact ⟨yX _ _ _ _,Cl _ _ _ _⟩
theorem vU {n:Nat} {base id:Int} {s:bq} {l:List Int} (ar:n≤64) (ah:l.length≤n) (af:∀x∈l,0≤x /\ x < n) (U:∀x∈s.bs,x.length=64):(gk n base id s l).aV.length≤100 /\ ∀r∈(gk n base id s l).aV,r.data.length≤5000 /\ ia r.fr /\ ia r.aX:=by
 have J:=Hy U (bP l l.length) (bP l l.length).length
 have O:=HC (bs:=s.bs) (zy af (by omega) l.length (Nat.le_refl _)).1 (bP l l.length).length (Nat.le_refl _)
 rw [CQ] at J
 unfold ia
 refine ⟨by have:=J.1; show List.length (iW _ _ _)≤_; omega,fun r af=> ?_⟩
 have a:=J.2 r af
 have b:=O r af
 exact ⟨by omega,by omega,by omega⟩
set_option maxHeartbeats 1000000 in
theorem SW {H:aa} {p:Nat} {base id:Int} {bs:List (List UInt8)} {zs:List (bq × I)} {next:Int} {bv aA:I} {K:I -> aa -> Prop} (h:cE H p bs zs next bv aA) (ky:∀(i j:Nat) (ad:i < zs.length) (ax:j < zs.length),i < j -> zs[i].1.id < zs[j].1.id)
 (ab:K (.tuple [.aJ 1 ((xy bs.length zs base id).1.map aI),.int .i64 (xy bs.length zs base id).2]) H):Call (.func 29 [] []) [.ptr p 0,.int .i64 base,.int .i64 id] H K:=by
 have ar:=h.n
 have ai:∀ {e:Int},b_ H H (.tuple [.aJ 1 [],.int .i64 e]) (.tuple [.aE,.int .i64 e]):=b_.tuple (.cons .zJ (.cons .int .nil))
 refine bR (N:=65) rfl abY rfl rfl rfl rfl rfl fun bC=> ?_
 simp (disch:=(refine am ?_; decide)) only [go_sem]
 refine I4 h ?_
 simp (disch:=(refine am ?_; decide)) only [go_sem]
 refine I4 h ?_
 unfold xy at ab
 rcases vT (fun z:bq × I=>decide (z.1.id=id)) zs with ⟨R,_⟩ | ⟨j,ax,R,aeq⟩
 ·
  have R:ku zs id= -1:=R
  rw [if_pos (.inl R)] at ab
  simp (disch:=(refine am ?_; decide)) only [go_sem,R]
  exact .inr (.inl ⟨Fr.refl _,_,ai,ab⟩)
 have R:ku zs id=j:=R
 have afu:zs[j].1.id=id:=of_decide_eq_true aeq
 have pn:¬(j:Int) < 0:=by omega
 rw [R] at ab ⊢
 have o4:=h.s.cells ax
 have eR:=(h.w _ (List.getElem_mem ax)).one
 have po:=h.fo _ (List.getElem_mem ax)
 rw [show ((j:Int)).toNat=j from rfl,List.getElem?_eq_getElem ax] at ab
 by_cases b1:base= -1
 ·
  subst b1
  rw [if_neg (by rintro (h | ⟨h,_⟩) <;> first | omega | exact h rfl)] at ab
  by_cases bV:id≤ -1
  ·
   rw [if_pos bV] at ab
   simp (disch:=(refine am ?_; decide)) only [go_sem,bV,pn]
   exact .inr (.inl ⟨Fr.refl _,_,ai,ab⟩)
  ·
   rw [if_neg bV] at ab
   simp (disch:=(refine am ?_; decide)) only [go_sem,bV,pn]
   simp (disch:=(refine am ?_; first | assumption | decide | omega | (simp only [aT,aW] <;> omega) | with_unfolding_all exact a6 rfl | with_unfolding_all exact a7 rfl)) only [go_sem,a2 h.m,h.s.idx ax,o4,l8 (eo eR),eR,eo eR]
   have pv:Fr H (aN (aS H (.cells [.int .i64 0,.aE,.aE] 95 true true)).2 H.next (.cells [.int .i64 zs[j].1.id,.aJ 64 (zs[j].1.bs.map bL),zs[j].2] 95 true true)):=(Fr.alloc _ _).set (Nat.le_refl _) _
   have V:(aN (aS H (.cells [.int .i64 0,.aE,.aE] 95 true true)).2 H.next (.cells [.int .i64 zs[j].1.id,.aJ 64 (zs[j].1.bs.map bL),zs[j].2] 95 true true)).m.get H.next=some (.cells [.int .i64 zs[j].1.id,.aJ 64 (zs[j].1.bs.map bL),zs[j].2] 95 true true):=gj
   have lP:H.next < (aN (aS H (.cells [.int .i64 0,.aE,.aE] 95 true true)).2 H.next (.cells [.int .i64 zs[j].1.id,.aJ 64 (zs[j].1.bs.map bL),zs[j].2] 95 true true)).next:=Nat.lt_succ_self _
   generalize aN (aS H (.cells [.int .i64 0,.aE,.aE] 95 true true)).2 H.next (.cells [.int .i64 zs[j].1.id,.aJ 64 (zs[j].1.bs.map bL),zs[j].2] 95 true true)=X at pv V lP ⊢
   refine Hw (h.b3 pv) ax (.inl rfl) fun v H1 ae=> ?_
   have dS:=(ae.fr.get _ lP).trans V
   simp (disch:=(refine am ?_; decide)) only [go_sem]
   refine SV dS ae (fun x R=>by have:=Cl _ _ _ _ x R; have:=po.2.1; omega) po.2.2 (by have:=yX zs (-1) j bs.length; omega) fun v2 ay gc f12 fT x7=> ?_
   have f2:Fr H ay:=pv.trans f12
   have hF:=(f12.get _ lP).trans V
   have ie:=h.b3 f2
   have iG:=ie.lt
   have c5:=ie.b.ks.len (E:=aq) (e:=53)
   have xz:rN zs zs[j].1 bs.length (-1) (ku zs (-1)) j=((iy zs (-1) j bs.length).filter fun b=> !lm zs[j].1.bs b):=if_pos rfl
   have ht:=I7 (zs:=zs) (s:=zs[j].1) (n:=bs.length) (base:=(-1)) (i:=(ku zs (-1))) (j:=j)
   dsimp only at ab
   rw [xz] at ab
   rw [xz] at ht
   obtain ⟨x8,tA⟩:=ht
   generalize ((iy zs (-1) j bs.length).filter fun b=> !lm zs[j].1.bs b)=FI at ab gc x8 tA
   obtain ⟨hq,jJ⟩:=vU (base:=(-1)) (id:=id) (s:=zs[j].1) ar.2 x8 tA po.2.2
   simp (disch:=(refine am ?_; decide)) only [go_sem]
   refine oP [0,0,0,4,0,0,0,0,0,2,0,0,0,0,0,0] (by kernel_rfl) (by kernel_rfl) rfl (by kernel_rfl) ?_
   simp (disch:=(refine am ?_; first | assumption | decide | omega | (simp only [aT,aW] <;> omega) | with_unfolding_all exact a6 rfl | with_unfolding_all exact a7 rfl)) only [go_sem,a2 ie.m,c5,a2 hF,eR]
   refine Hz gc (fun x R=>by have:=tA x R; have:=po.2.1; omega) (by have:=po.2.1; omega) (by omega) po.2.2 eR ?_
   simp (disch:=(refine am ?_; decide)) only [go_sem]
   refine Ht (s:=gk bs.length (-1) id zs[j].1 FI) hq jJ (fun a4=> ?_) (fun a4=> ?_)
   ·
    simp (disch:=(refine am ?_; decide)) only [go_sem]
    unfold nM at ab
    rw [if_neg (by rw [a4]; decide)] at ab
    exact .inr (.inl ⟨f2,_,b_.tuple (.cons (b_.aJ (gO.plain fun x R=>(by cases R))) (.cons .int .nil)),ab⟩)
   ·
    simp (disch:=(refine am ?_; decide)) only [go_sem]
    unfold nM at ab
    rw [if_pos a4] at ab
    exact .inr (.inl ⟨f2,_,b_.tuple (.cons (b_.aJ (gO.plain (kb fun _=>rfl))) (.cons .int .nil)),ab⟩)
 ·
  rcases vT (fun z:bq × I=>decide (z.1.id=base)) zs with ⟨aj,_⟩ | ⟨i,ad,aj,aer⟩
  ·
   have aj:ku zs base= -1:=aj
   rw [if_pos (.inr ⟨b1,aj⟩)] at ab
   simp (disch:=(refine am ?_; decide)) only [go_sem,aj,b1,pn]
   exact .inr (.inl ⟨Fr.refl _,_,ai,ab⟩)
  ·
   have aj:ku zs base=i:=aj
   have afv:zs[i].1.id=base:=of_decide_eq_true aer
   have LO:¬(i:Int) < 0:=by omega
   rw [aj] at ab ⊢
   rw [if_neg (by rintro (h | ⟨_,h⟩) <;> omega)] at ab
   by_cases bV:id≤base
   ·
    rw [if_pos bV] at ab
    simp (disch:=(refine am ?_; decide)) only [go_sem,b1,bV,pn,LO]
    exact .inr (.inl ⟨Fr.refl _,_,ai,ab⟩)
   ·
    rw [if_neg bV] at ab
    simp (disch:=(refine am ?_; decide)) only [go_sem,b1,bV,pn,LO]
    simp (disch:=(refine am ?_; first | assumption | decide | omega | (simp only [aT,aW] <;> omega) | with_unfolding_all exact a6 rfl | with_unfolding_all exact a7 rfl)) only [go_sem,a2 h.m,h.s.idx ax,o4,l8 (eo eR),eR,eo eR]
    have pv:Fr H (aN (aS H (.cells [.int .i64 0,.aE,.aE] 95 true true)).2 H.next (.cells [.int .i64 zs[j].1.id,.aJ 64 (zs[j].1.bs.map bL),zs[j].2] 95 true true)):=(Fr.alloc _ _).set (Nat.le_refl _) _
    have V:(aN (aS H (.cells [.int .i64 0,.aE,.aE] 95 true true)).2 H.next (.cells [.int .i64 zs[j].1.id,.aJ 64 (zs[j].1.bs.map bL),zs[j].2] 95 true true)).m.get H.next=some (.cells [.int .i64 zs[j].1.id,.aJ 64 (zs[j].1.bs.map bL),zs[j].2] 95 true true):=gj
    have lP:H.next < (aN (aS H (.cells [.int .i64 0,.aE,.aE] 95 true true)).2 H.next (.cells [.int .i64 zs[j].1.id,.aJ 64 (zs[j].1.bs.map bL),zs[j].2] 95 true true)).next:=Nat.lt_succ_self _
    generalize aN (aS H (.cells [.int .i64 0,.aE,.aE] 95 true true)).2 H.next (.cells [.int .i64 zs[j].1.id,.aJ 64 (zs[j].1.bs.map bL),zs[j].2] 95 true true)=X at pv V lP ⊢
    refine Hw (h.b3 pv) ax (.inr ⟨by omega,by have cL:i≤j:=(Nat.lt_or_ge j i).elim (fun tt=>absurd (ky j i ax ad tt) (by omega)) (fun h=>h); omega⟩) fun v H1 ae=> ?_
    have dS:=(ae.fr.get _ lP).trans V
    have f2:Fr H H1:=pv.trans ae.fr
    have gc:=jQ.acc ae
    have hF:=dS
    simp (disch:=(refine am ?_; decide)) only [go_sem,b1]
    have ie:=h.b3 f2
    have iG:=ie.lt
    have c5:=ie.b.ks.len (E:=aq) (e:=53)
    have xz:rN zs zs[j].1 bs.length base (i:Int) j=(iy zs (i:Int) j bs.length):=if_neg b1
    have ht:=I7 (zs:=zs) (s:=zs[j].1) (n:=bs.length) (base:=base) (i:=(i:Int)) (j:=j)
    dsimp only at ab
    rw [xz] at ab
    rw [xz] at ht
    obtain ⟨x8,tA⟩:=ht
    generalize (iy zs (i:Int) j bs.length)=FI at ab gc x8 tA
    obtain ⟨hq,jJ⟩:=vU (base:=base) (id:=id) (s:=zs[j].1) ar.2 x8 tA po.2.2
    refine oP [0,0,0,4,0,0,0,0,0,2,0,0,0,0,0,0] (by kernel_rfl) (by kernel_rfl) rfl (by kernel_rfl) ?_
    simp (disch:=(refine am ?_; first | assumption | decide | omega | (simp only [aT,aW] <;> omega) | with_unfolding_all exact a6 rfl | with_unfolding_all exact a7 rfl)) only [go_sem,a2 ie.m,c5,a2 hF,eR]
    refine Hz gc (fun x R=>by have:=tA x R; have:=po.2.1; omega) (by have:=po.2.1; omega) (by omega) po.2.2 eR ?_
    simp (disch:=(refine am ?_; decide)) only [go_sem]
    refine Ht (s:=gk bs.length base id zs[j].1 FI) hq jJ (fun a4=> ?_) (fun a4=> ?_)
    ·
     simp (disch:=(refine am ?_; decide)) only [go_sem]
     unfold nM at ab
     rw [if_neg (by rw [a4]; decide)] at ab
     exact .inr (.inl ⟨f2,_,b_.tuple (.cons (b_.aJ (gO.plain fun x R=>(by cases R))) (.cons .int .nil)),ab⟩)
    ·
     simp (disch:=(refine am ?_; decide)) only [go_sem]
     unfold nM at ab
     rw [if_pos a4] at ab
     exact .inr (.inl ⟨f2,_,b_.tuple (.cons (b_.aJ (gO.plain (kb fun _=>rfl))) (.cons .int .nil)),ab⟩)
end
end Go.az
