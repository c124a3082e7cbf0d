/-
  A model in memory: blocks, snapshots taken, dropped, rolled back to. No conditions.
-/
import Derived.Test.YtajekleknljggaaPB
set_option linter.unusedVariables false
set_option linter.unusedSimpArgs false
namespace Go.az
open Go.Proofs
noncomputable section
set_option maxRecDepth 100000
theorem abE:bE.fn 22=some Try.f22:=by kernel_rfl
theorem abF:bE.fn 75=some Try.f75:=by kernel_rfl
theorem abG:bE.fn 74=some Try.f74:=by kernel_rfl
theorem abH:bE.fn 48=some Try.f48:=by kernel_rfl
def bL (b:List UInt8):I:= .agg (b.map aI)
theorem qY (b:List UInt8):(bL b).cells=b.map aI:=rfl
def et (b:Bool):I:= .bool b
structure bq where
 id:Int
 bs:List (List UInt8)
 w:List Bool
def e5 (zs:List (bq × I)):List I:=zs.flatMap fun z=> [.int .i64 z.1.id,.aJ 64 (z.1.bs.map bL),z.2]
theorem uu (zs:List (bq × I)):(e5 zs).length=zs.length * 3:=by
 unfold e5
 induction zs with
 | nil=>rfl
 | cons z zs aH=>rw [List.flatMap_cons,List.length_append,aH,List.length_cons]; simp only [List.length_cons,List.length_nil]; omega
theorem UX {zs:List (bq × I)} {i:Nat} (ad:i < zs.length):((e5 zs).drop (i * 3)).take 3= [.int .i64 zs[i].1.id,.aJ 64 (zs[i].1.bs.map bL),zs[i].2]:=by
 induction zs generalizing i with
 | nil=>cases ad
 | cons z zs aH=>
  cases i with
  | zero=>rfl
  | succ i=>
   have e:e5 (z :: zs)= [.int .i64 z.1.id,.aJ 64 (z.1.bs.map bL),z.2] ++ e5 zs:=by unfold e5; rw [List.flatMap_cons]
   rw [e,List.getElem_cons_succ,<- aH (by simpa using ad),show (i + 1) * 3=3 + i * 3 by omega,<- List.drop_drop]; rfl
def gp (H:aa) (aA:I) (zs:List (bq × I)):Prop:=
 (aA= .aE /\ zs= [])∨∃b N cy,aA= .slice b 0 zs.length (.rest 0 3 N) /\ H.m.get b=some (.cells (e5 zs ++ cy) 95 false true) /\ zs.length * 3 + cy.length=N * 3 /\ b < H.next /\ br (e5 zs ++ cy)=true
structure cE (H:aa) (p:Nat) (bs:List (List UInt8)) (zs:List (bq × I)) (next:Int) (bv aA:I):Prop where
 m:H.m.get p=some (.cells [bv,aA,.int .i64 next] 72 true true)
 lt:p < H.next
 b:cz H 0 53 64 bv bs.length (a3 (bs.map bL))
 s:gp H aA zs
 w:∀z∈zs,cz H 0 4 1 z.2 z.1.w.length (a3 (z.1.w.map et))
 lj:∀(i j:Nat) (ad:i < zs.length) (ax:j < zs.length),i≠j -> aY zs[i].2≠aY zs[j].2
 bg:∀x∈bs,x.length=64
 fo:∀z∈zs,z.1.w.length=bs.length /\ z.1.bs.length=bs.length /\ ∀x∈z.1.bs,x.length=64
 n:0 < bs.length /\ bs.length≤64
 k:zs.length≤8
section
variable {H:aa} {p:Nat} {bs:List (List UInt8)} {zs:List (bq × I)} {next:Int} {bv aA:I}
theorem gp.len (h:gp H aA zs) {ty:TypeId}:hh (.slice ty) aq aA=some (.int .i64 (zs.length:Int)):=by
 rcases h with ⟨rfl,rfl⟩ | ⟨b,N,cy,rfl,_⟩ <;> rfl
theorem gp.idx (h:gp H aA zs) {i:Nat} (ad:i < zs.length):e9 (.slice 95) aq aA i=some (.ptr (aY aA) (i * 3)):=by
 rcases h with ⟨rfl,rfl⟩ | ⟨b,N,cy,rfl,_⟩
 ·
  cases ad
 ·
  show ap (Nat.blt i zs.length) (some (I.ptr b (Nat.add 0 (Nat.mul i (au aq 95))))) none=_
  rw [(cZ _ _).2 ad,show au aq 95=3 from rx]
  show some (I.ptr b (0 + i * 3))=_
  rw [Nat.zero_add]; rfl
theorem gp.cells (h:gp H aA zs) {i:Nat} (ad:i < zs.length):bA H (aY aA) (i * 3) 3=some [.int .i64 zs[i].1.id,.aJ 64 (zs[i].1.bs.map bL),zs[i].2]:=by
 rcases h with ⟨rfl,rfl⟩ | ⟨b,N,cy,rfl,U,_⟩
 ·
  cases ad
 ·
  show bA H b (i * 3) 3=_
  rw [(a2 U).2.2.1]
  show cG 3 (co (i * 3) (e5 zs ++ cy))=_
  have ah:=uu zs
  rw [dz,fL,if_pos (by rw [List.length_drop,List.length_append]; omega),List.drop_append_of_le_length (by omega),List.take_append_of_le_length (by rw [List.length_drop]; omega),UX ad]
end
theorem Dy {H:aa} {p:Nat} {bs:List (List UInt8)} {zs:List (bq × I)} {next b:Int} {bv aA:I} {K:I -> aa -> Prop} (h:cE H p bs zs next bv aA) (ab:K (.bool (decide (0≤b /\ b < bs.length))) H):Call (.func 22 [] []) [.ptr p 0,.int .i64 b] H K:=by
 refine bR (N:=16) rfl abE rfl rfl rfl rfl rfl fun bC=> ?_
 have ah:=h.b.ks.len (E:=aq) (e:=53)
 by_cases aD:0≤b
 ·
  by_cases J:b < bs.length
  ·
   rw [decide_eq_true (show 0≤b /\ b < bs.length from ⟨aD,J⟩)] at ab
   simp (disch:=(refine am ?_; decide)) only [go_sem,a2 h.m,ah,aD,J]
   exact .inl ab
  ·
   rw [decide_eq_false (show ¬(0≤b /\ b < bs.length) from fun h=>J h.2)] at ab
   simp (disch:=(refine am ?_; decide)) only [go_sem,a2 h.m,ah,aD,J]
   exact .inl ab
 ·
  rw [decide_eq_false (show ¬(0≤b /\ b < bs.length) from fun h=>aD h.1)] at ab
  simp (disch:=(refine am ?_; first | assumption | decide | omega | (simp only [aT,aW] <;> omega) | with_unfolding_all exact a6 rfl | with_unfolding_all exact a7 rfl)) only [go_sem,a2 h.m,ah,aD]
  exact .inl ab
def hZ {α:Type} (p:α -> Bool) (l:List α):Int:=match l.findIdx? p with | some i=>(i:Int) | none=> -1
theorem I3 {α:Type} {p:α -> Bool} {l:List α} {i:Nat} (ad:i < l.length) (aR:p l[i]=true) (fU:∀j (ax:j < l.length),j < i -> p l[j]=false):hZ p l=i:=by
 have:l.findIdx? p=some i:=by
  rw [List.findIdx?_eq_some_iff_getElem]
  exact ⟨ad,aR,fun j ax=>by rw [fU j (by omega) ax]; decide⟩
 unfold hZ
 rw [this]
theorem Cr {α:Type} {p:α -> Bool} {l:List α} (fU:∀j (ax:j < l.length),p l[j]=false):hZ p l= -1:=by
 have:l.findIdx? p=none:=by
  rw [List.findIdx?_eq_none_iff]
  intro x R
  obtain ⟨j,ax,rfl⟩:=List.getElem_of_mem R
  exact fU j ax
 unfold hZ
 rw [this]
theorem vT {α:Type} (p:α -> Bool) (l:List α):(hZ p l= -1 /\ ∀j (ax:j < l.length),p l[j]=false)∨∃i,∃ad:i < l.length,hZ p l=i /\ p l[i]=true:=by
 unfold hZ
 cases h:l.findIdx? p with
 | none=>exact .inl ⟨rfl,fun j ax=>List.findIdx?_eq_none_iff.1 h _ (List.getElem_mem ax)⟩
 | some i=>
  obtain ⟨ad,aR,_⟩:=List.findIdx?_eq_some_iff_getElem.1 h
  exact .inr ⟨i,ad,rfl,aR⟩
def ku (zs:List (bq × I)) (id:Int):Int:=hZ (fun z=>decide (z.1.id=id)) zs
theorem WR {H:aa} {b:Nat} {id i:Int} {x y:I} {K:I -> aa -> Prop} (U:H.m.get b=some (.cells [.int .i64 id] 3 true true)) (aF:b < H.next) (J:b2 x=true) (O:b2 y=true) (ab:K (.bool (decide (i=id))) H):Call (.func 75 [] [.ptr b 0]) [.agg [.int .i64 i,x,y]] H K:=by
 refine bR (N:=8) rfl abF rfl rfl rfl rfl rfl fun bC=> ?_
 simp (disch:=(refine am ?_; first | assumption | decide | omega | (simp only [aT,aW] <;> omega) | with_unfolding_all exact a6 rfl | with_unfolding_all exact a7 rfl)) only [go_sem,fun z=>hK (H:=H) (x:=z) (Nat.ne_of_lt aF),U,J,O]
 exact .inr (.inl ⟨(Fr.refl H).ce _,_,b_.hj rfl,ab⟩)
theorem YS {H:aa} {b:Nat} {id:Int} {aA:I} {zs:List (bq × I)} {K:I -> aa -> Prop} (U:H.m.get b=some (.cells [.int .i64 id] 3 true true)) (xr:b < H.next) (aG:gp H aA zs) (hw:∀z∈zs,b2 z.2=true) (ah:zs.length≤8) (ab:K (.int .i64 (ku zs id)) H):
 Call (.func 74 [] []) [aA,.func 75 [] [.ptr b 0]] H K:=by
 have hlen:=aG.len (ty:=95)
 refine bR (N:=19) rfl abG rfl rfl rfl rfl rfl fun bC=> ?_
 simp (disch:=(refine am ?_; decide)) only [go_sem,hlen]
 refine gw 524080 (by kernel_rfl) (fun r G H'=>H'=H /\ ∃i:Nat,i≤zs.length /\ r=zs.length - i /\ G.get 8=some (.int .i64 i) /\ ∀j (ax:j < zs.length),j < i -> decide (zs[j].1.id=id)=false) zs.length ⟨rfl,0,Nat.zero_le _,rfl,rfl,fun j _ h=>absurd h (by omega)⟩ ?_
 rintro r G H' aZ ⟨rfl,i,ad,rfl,em,fU⟩
 unfold ku at ab
 by_cases aF:i < zs.length
 ·
  simp (disch:=(refine am ?_; first | decide | omega)) only [go_sem,em,aZ,aG.idx aF,aG.cells aF]
  refine WR U xr rfl (hw _ (List.getElem_mem aF)) ?_
  by_cases aR:zs[i].1.id=id
  ·
   simp (disch:=(refine am ?_; first | assumption | decide | omega | (simp only [aT,aW] <;> omega) | with_unfolding_all exact a6 rfl | with_unfolding_all exact a7 rfl)) only [go_sem,Ch aR,em,aZ]
   rw [I3 aF (Ch aR) fU] at ab
   exact .inl ab
  ·
   simp (disch:=(refine am ?_; first | assumption | decide | omega | (simp only [aT,aW] <;> omega) | with_unfolding_all exact a6 rfl | with_unfolding_all exact a7 rfl)) only [go_sem,Ci aR,em,aZ,wrap_i64]
   refine ⟨_,by omega,i + 1,aF,rfl,rfl,fun j ax h=> ?_⟩
   by_cases tt:j=i
   ·
    subst tt; exact Ci aR
   ·
    exact fU j ax (by omega)
 ·
  simp (disch:=(refine am ?_; first | decide | omega)) only [go_sem,em,aZ]
  rw [Cr fun j ax=>fU j ax (by omega)] at ab
  exact .inl ab
theorem gp.b3 {H H':aa} {aA:I} {zs:List (bq × I)} (h:gp H aA zs) (ao:Fr H H'):gp H' aA zs:=by
 refine h.imp id ?_
 rintro ⟨b,N,cy,J,O,ag,aP,bH⟩
 exact ⟨b,N,cy,J,(ao.get b aP).trans O,ag,Nat.lt_of_lt_of_le aP ao.nx,bH⟩
theorem cE.b3 {H H':aa} {p:Nat} {bs:List (List UInt8)} {zs:List (bq × I)} {next:Int} {bv aA:I} (h:cE H p bs zs next bv aA) (ao:Fr H H'):cE H' p bs zs next bv aA:=
 ⟨(ao.get p h.lt).trans h.m,Nat.lt_of_lt_of_le h.lt ao.nx,h.b.b3 ao,h.s.b3 ao,fun z ai=>(h.w z ai).b3 ao,h.lj,h.bg,h.fo,h.n,h.k⟩
theorem I4 {H:aa} {p:Nat} {bs:List (List UInt8)} {zs:List (bq × I)} {next id:Int} {bv aA:I} {K:I -> aa -> Prop} (h:cE H p bs zs next bv aA) (ab:K (.int .i64 (ku zs id)) H):Call (.func 48 [] []) [.ptr p 0,.int .i64 id] H K:=by
 refine bR (N:=11) rfl abH rfl rfl rfl rfl rfl fun bC=> ?_
 have aQ:cE (aS H (.cells [.int .i64 id] 3 true true)).2 p bs zs next bv aA:=h.b3 (Fr.alloc _ _)
 simp (disch:=(refine am ?_; decide)) only [go_sem,a2 aQ.m]
 refine YS eP (Nat.lt_succ_self _) aQ.s (fun z ai=>(h.w z ai).one) h.k ?_
 simp (disch:=(refine am ?_; decide)) only [go_sem]
 exact .inr (.inl ⟨(Fr.refl H).ce _,_,b_.hj rfl,ab⟩)
end
end Go.az
namespace Go.az
open Go.Proofs
noncomputable section
set_option maxRecDepth 100000
attribute [go_sem] qY
theorem abI:bE.fn 46=some Try.f46:=by kernel_rfl
theorem Kw:bE.fn 24=some Try.f24:=by kernel_rfl
def fE (p:Nat) (bv aA:I) (zs:List (bq × I)) (c:Nat):Prop:=c=p∨c=aY bv∨(aA≠ .aE /\ c=aY aA)∨∃z∈zs,c=aY z.2
structure cO (H H':aa) (F e6:Nat -> Prop):Prop where
 nx:H.next≤H'.next
 old:∀c,c < H.next -> ¬F c -> H'.m.get c=H.m.get c
 new:∀c,e6 c -> F c∨H.next≤c
theorem cO.refl (H:aa) (F:Nat -> Prop):cO H H F F:=⟨Nat.le_refl _,fun _ _ _=>rfl,fun _ h=> .inl h⟩
theorem cO.trans {H H' dF:aa} {F e6 LD:Nat -> Prop} (h:cO H H' F e6) (k:cO H' dF e6 LD):cO H dF F LD:=by
 refine ⟨Nat.le_trans h.nx k.nx,fun c V ao=> ?_,fun c V=> ?_⟩
 ·
  have:¬e6 c:=fun aQ=>by
   rcases h.new c aQ with aQ | aQ
   ·
    exact ao aQ
   ·
    omega
  rw [k.old c (Nat.lt_of_lt_of_le V h.nx) this,h.old c V ao]
 ·
  rcases k.new c V with aQ | aQ
  ·
   exact h.new c aQ
  ·
   exact .inr (Nat.le_trans h.nx aQ)
theorem cO.fr {H H':aa} {F:Nat -> Prop} (h:Fr H H'):cO H H' F F:=⟨h.nx,fun c V _=>h.get c V,fun _ h=> .inl h⟩
theorem cO.set {H H':aa} {F e6:Nat -> Prop} (h:cO H H' F e6) {c:Nat} (V:e6 c) (z:bf):cO H (aN H' c z) F e6:=
 ⟨h.nx,fun a ae ao=>by
  rw [cY]
  ·
   exact h.old a ae ao
  ·
   rintro rfl
   rcases h.new _ V with aQ | aQ
   ·
    exact ao aQ
   ·
    omega,h.new⟩
section
variable {H:aa} {e sz n c base:Nat} {v:I} {cs:List I} {z:bf}
theorem cz.ed (h:cz H base e sz v n cs) (ar:v= .aE∨c≠aY v):cz (aN H c z) base e sz v n cs:=by
 refine ⟨h.1,h.2.imp id ?_⟩
 rintro ⟨b,x,J,O,rfl,aP⟩
 refine ⟨b,x,J,O,rfl,?_⟩
 rw [cY]
 ·
  exact aP
 ·
  rintro rfl
  rcases ar with ar | ar
  ·
   cases ar
  ·
   exact ar rfl
theorem cz.ty (h:cz H base e sz v n cs) (ar:0 < n):∃x,H.m.get (aY v)=some (.cells cs e x true) /\ aY v < H.next /\ fg v=0 /\ v≠ .aE:=by
 rcases h.2 with ⟨rfl,aD⟩ | ⟨b,x,J,O,rfl,aP⟩
 ·
  omega
 ·
  exact ⟨x,aP,O,rfl,fun h=>by cases h⟩
theorem cz.pr (h:cz H base e sz v n cs) (ar:0 < n) {cs':List I} (ah:cs'.length=cs.length) {x:Bool} (R:H.m.get (aY v)=some (.cells cs e x true)):cz (aN H (aY v) (.cells cs' e x true)) base e sz v n cs':=by
 rcases h.2 with ⟨rfl,aD⟩ | ⟨b,y,J,O,rfl,aP⟩
 ·
  omega
 ·
  change H.m.get b=_ at R
  rw [aP] at R
  cases R
  exact ⟨ah.trans h.1,.inr ⟨b,x,J,O,rfl,gj⟩⟩
theorem gv {a b fG:Nat} {l l':List I} {x w x' w':Bool} (J:H.m.get a=some (.cells l e x w)) (O:H.m.get b=some (.cells l' fG x' w')) (h:Nat.beq e fG=false):a≠b:=by
 rintro rfl
 rw [J] at O
 cases O
 rw [Nat.beq_refl] at h; cases h
end
section
variable {H:aa} {p:Nat} {bs:List (List UInt8)} {zs:List (bq × I)} {next:Int} {bv aA:I}
theorem gp.ed {c:Nat} {z:bf} (h:gp H aA zs) (ar:aA= .aE∨c≠aY aA):gp (aN H c z) aA zs:=by
 refine h.imp id ?_
 rintro ⟨b,N,cy,rfl,O,ag,aP,bH⟩
 refine ⟨b,N,cy,rfl,?_,ag,aP,bH⟩
 rw [cY]
 ·
  exact O
 ·
  rintro rfl
  rcases ar with ar | ar
  ·
   cases ar
  ·
   exact ar rfl
theorem gp.ty (h:gp H aA zs):aA= .aE∨∃cs,H.m.get (aY aA)=some (.cells cs 95 false true) /\ aA≠ .aE:=by
 rcases h with ⟨rfl,rfl⟩ | ⟨b,N,cy,rfl,O,ag,aP⟩
 ·
  exact .inl rfl
 ·
  exact .inr ⟨_,O,fun h=>by cases h⟩
theorem cE.jx (h:cE H p bs zs next bv aA) {z:bq × I} (ai:z∈zs):0 < z.1.w.length:=by rw [(h.fo z ai).1]; exact h.n.1
theorem cE.zU (h:cE H p bs zs next bv aA) {bs':List (List UInt8)} (ah:bs'.length=bs.length) (U:∀x∈bs',x.length=64) {x:Bool} (R:H.m.get (aY bv)=some (.cells (a3 (bs.map bL)) 53 x true)):
 cE (aN H (aY bv) (.cells (a3 (bs'.map bL)) 53 x true)) p bs' zs next bv aA:=by
 have V:∀l:List (List UInt8),(∀x∈l,x.length=64) -> (a3 (l.map bL)).length=l.length * 64:=fun l ah=>by
  rw [(fv (sz:=64) fun x R=>by obtain ⟨y,aj,rfl⟩:=List.mem_map.1 R; rw [qY,List.length_map]; exact ah y aj).1,List.length_map]
 refine ⟨(cY (gv h.m R rfl)).trans h.m,h.lt,?_,h.s.ed ?_,fun z ai=>(h.w z ai).ed (.inr ?_),h.lj,U,fun z ai=> ?_,by rw [ah]; exact h.n,h.k⟩
 ·
  have:=h.b.pr h.n.1 (cs':=a3 (bs'.map bL)) (by rw [V _ U,V _ h.bg,ah]) R
  rw [ah]; exact this
 ·
  rcases h.s.ty with aQ | ⟨cs,aQ,_⟩
  ·
   exact .inl aQ
  ·
   exact .inr (gv R aQ rfl)
 ·
  obtain ⟨y,aj,_⟩:=(h.w z ai).ty (h.jx ai)
  exact gv R aj rfl
 ·
  rw [ah]; exact h.fo z ai
theorem cE.xa (h:cE H p bs zs next bv aA) {j:Nat} (ax:j < zs.length) {w':List Bool} (ah:w'.length=zs[j].1.w.length) {x:Bool} (R:H.m.get (aY zs[j].2)=some (.cells (a3 (zs[j].1.w.map et)) 4 x true)):
 cE (aN H (aY zs[j].2) (.cells (a3 (w'.map et)) 4 x true)) p bs (zs.set j ({ zs[j].1 with w:=w'},zs[j].2)) next bv aA:=by
 have V:∀l:List Bool,(a3 (l.map et)).length=l.length:=fun l=>by
  rw [(fv (sz:=1) fun x R=>by obtain ⟨y,aj,rfl⟩:=List.mem_map.1 R; rfl).1,List.length_map,Nat.mul_one]
 have jW:=List.getElem_mem ax
 have o4:e5 (zs.set j ({ zs[j].1 with w:=w'},zs[j].2))=e5 zs:=by
  have e:∀(l:List (bq × I)) (j:Nat) (ax:j < l.length),e5 (l.set j ({ l[j].1 with w:=w'},l[j].2))=e5 l:=by
   intro l
   induction l with
   | nil=>intro j ax; cases ax
   | cons a l aH=>
    intro j ax
    cases j with
    | zero=>rfl
    | succ j=>
     have:=aH j (by simpa using ax)
     show e5 (a :: l.set j _)=_
     unfold e5 at this ⊢
     rw [List.flatMap_cons,List.flatMap_cons]
     congr 1
  exact e zs j ax
 have kY:∀z∈zs.set j ({ zs[j].1 with w:=w'},zs[j].2),z=({ zs[j].1 with w:=w'},zs[j].2)∨∃i,∃ad:i < zs.length,i≠j /\ z=zs[i]:=by
  intro z ai
  obtain ⟨i,ad,rfl⟩:=List.getElem_of_mem ai
  rw [List.length_set] at ad
  by_cases cL:i=j
  ·
   subst cL; exact .inl (by rw [List.getElem_set_self])
  ·
   exact .inr ⟨i,ad,cL,by rw [List.getElem_set_ne (Ne.symm cL)]⟩
 have YT:∀i (ad:i < zs.length),i≠j -> aY zs[j].2≠aY zs[i].2:=fun i ad cL=>h.lj j i ax ad (Ne.symm cL)
 refine ⟨(cY (gv h.m R rfl)).trans h.m,h.lt,h.b.ed (.inr ?_),?_,fun z ai=> ?_,?_,h.bg,fun z ai=> ?_,h.n,by rw [List.length_set]; exact h.k⟩
 ·
  obtain ⟨y,aj,_⟩:=h.b.ty h.n.1
  exact gv R aj rfl
 ·
  have J:=h.s.ed (c:=aY zs[j].2) (z:= .cells (a3 (w'.map et)) 4 x true) (by
   rcases h.s.ty with aQ | ⟨cs,aQ,_⟩
   ·
    exact .inl aQ
   ·
    exact .inr (gv R aQ rfl))
  rcases J with ⟨J,O⟩ | ⟨b,N,cy,J,O,ag,aP,bH⟩
  ·
   rw [O] at ax; cases ax
  ·
   exact .inr ⟨b,N,cy,by rw [List.length_set]; exact J,by rw [o4]; exact O,by rw [List.length_set]; exact ag,aP,by rw [o4]; exact bH⟩
 ·
  rcases kY z ai with rfl | ⟨i,ad,cL,rfl⟩
  ·
   have:=(h.w _ jW).pr (h.jx jW) (cs':=a3 (w'.map et)) (by rw [V,V,ah]) R
   show cz _ 0 4 1 zs[j].2 w'.length _
   rw [ah]; exact this
  ·
   exact (h.w _ (List.getElem_mem ad)).ed (.inr (YT i ad cL))
 ·
  intro i k ad ab x6
  have e:∀i (ad:i < (zs.set j ({ zs[j].1 with w:=w'},zs[j].2)).length),aY (zs.set j ({ zs[j].1 with w:=w'},zs[j].2))[i].2=aY (zs[i]'(by rw [List.length_set] at ad; exact ad)).2:=fun i ad=>by
   by_cases cL:i=j
   ·
    subst cL; rw [List.getElem_set_self]
   ·
    rw [List.getElem_set_ne (Ne.symm cL)]
  rw [e i ad,e k ab]
  exact h.lj i k _ _ x6
 ·
  rcases kY z ai with rfl | ⟨i,ad,cL,rfl⟩
  ·
   exact ⟨ah.trans (h.fo _ jW).1,(h.fo _ jW).2⟩
  ·
   exact h.fo _ (List.getElem_mem ad)
theorem WS {j:Nat} (ax:j < zs.length) {s':bq}:fE p bv aA (zs.set j (s',zs[j].2))=fE p bv aA zs:=by
 have e:∀c,(∃z∈zs.set j (s',zs[j].2),c=aY z.2)↔∃z∈zs,c=aY z.2:=fun c=>by
  constructor
  ·
   rintro ⟨z,ai,rfl⟩
   obtain ⟨i,ad,rfl⟩:=List.getElem_of_mem ai
   rw [List.length_set] at ad
   refine ⟨zs[i],List.getElem_mem ad,?_⟩
   by_cases cL:i=j
   ·
    subst cL; rw [List.getElem_set_self]
   ·
    rw [List.getElem_set_ne (Ne.symm cL)]
  ·
   rintro ⟨z,ai,rfl⟩
   obtain ⟨i,ad,rfl⟩:=List.getElem_of_mem ai
   refine ⟨(zs.set j (s',zs[j].2))[i]'(by rw [List.length_set]; exact ad),List.getElem_mem _,?_⟩
   by_cases cL:i=j
   ·
    subst cL; rw [List.getElem_set_self]
   ·
    rw [List.getElem_set_ne (Ne.symm cL)]
 funext c
 unfold fE
 rw [propext (e c)]
end
end
end Go.az
namespace Go.az
open Go.Proofs
noncomputable section
set_option maxRecDepth 100000
theorem F2 {sz:Nat} {l:List I} {i:Nat} {y:I} (ad:i < l.length) (V:∀x∈l,x.cells.length=sz):a3 (l.set i y)=(a3 l).take (i * sz) ++ (y.cells ++ (a3 l).drop (i * sz + sz)):=by
 obtain ⟨_,O⟩:=fv V
 rw [(O i).2,show i * sz + sz=(i + 1) * sz by rw [Nat.add_mul,Nat.one_mul],(O (i + 1)).1,List.set_eq_take_append_cons_drop,if_pos ad,v_,hL (y :: _),List.flatMap_cons,<- hL]
theorem kc {bs:List (List UInt8)} (h:∀x∈bs,x.length=64):∀x∈bs.map bL,x.cells.length=64:=fun x R=>by
 obtain ⟨y,aj,rfl⟩:=List.mem_map.1 R
 rw [qY,List.length_map]; exact h y aj
def nV (zs:List (bq × I)) (i:Nat):List (bq × I):=match zs[zs.length - 1]? with
 | some z=>zs.set (zs.length - 1) ({ z.1 with w:=z.1.w.set i true},z.2)
 | none=>zs
theorem Io {zs:List (bq × I)} (i:Nat) (h:0 < zs.length):nV zs i=zs.set (zs.length - 1) ({ (zs[zs.length - 1]'(by omega)).1 with w:=(zs[zs.length - 1]'(by omega)).1.w.set i true},(zs[zs.length - 1]'(by omega)).2):=by
 unfold nV
 rw [List.getElem?_eq_getElem (by omega)]
section
variable {H:aa} {p:Nat} {bs:List (List UInt8)} {zs:List (bq × I)} {next:Int} {bv aA:I}
theorem cE.w_ (h:cE H p bs zs next bv aA) {ty:TypeId} {i:Nat} (ad:i < bs.length):e9 (.slice ty) aq bv i=some (.ptr (aY bv) (i * au aq ty)):=by
 have:=h.b.ks.idx (E:=aq) (e:=ty) ad
 obtain ⟨_,_,_,aD,_⟩:=h.b.ty h.n.1
 rw [aD,Nat.zero_add] at this
 exact this
theorem cE.CT (h:cE H p bs zs next bv aA) {i:Nat} (ad:i < bs.length) {b:List UInt8} (U:b.length=64):
 ∃H',bT H (aY bv) (i * 64) (b.map aI)=some H' /\ cE H' p (bs.set i b) zs next bv aA /\ cO H H' (fE p bv aA zs) (fE p bv aA zs):=by
 obtain ⟨x,R,_⟩:=h.b.ty h.n.1
 refine ⟨aN H (aY bv) (.cells (a3 ((bs.set i b).map bL)) 53 x true),?_,h.zU (by rw [List.length_set]) (fun y aj=> ?_) R,(cO.refl _ _).set (.inr (.inl rfl)) _⟩
 ·
  have dl:br (b.map aI)=true:=by rw [<- eY]; exact jl b
  have ah:(a3 (bs.map bL)).length=bs.length * 64:=by rw [(fv (kc h.bg)).1,List.length_map]
  rw [g4,R]
  show hi H (aY bv) (i * 64) (b.map aI) (.cells (a3 (bs.map bL)) 53 x true)=_
  have hle:(i + 1) * 64≤bs.length * 64:=Nat.mul_le_mul_right _ ad
  rw [hM,dl,yY (by rw [List.length_map,ah,U]; omega),List.length_map,U,List.map_set,F2 (by rw [List.length_map]; exact ad) (kc h.bg)]
  rfl
 ·
  rcases List.mem_or_eq_of_mem_set aj with aj | rfl
  ·
   exact h.bg y aj
  ·
   exact U
end
theorem JU {H:aa} {p i:Nat} {bs:List (List UInt8)} {zs:List (bq × I)} {next:Int} {bv aA:I} {b:List UInt8} {K:I -> aa -> Prop} (h:cE H p bs zs next bv aA) (ad:i < bs.length) (U:b.length=64)
 (ab:∀H',cE H' p (bs.set i b) (nV zs i) next bv aA -> cO H H' (fE p bv aA zs) (fE p bv aA zs) -> K (.tuple []) H'):Call (.func 46 [] []) [.ptr p 0,.int .i64 i,bL b] H K:=by
 unfold bL
 refine bR (N:=32) rfl abI rfl rfl rfl rfl rfl fun bC=> ?_
 simp (disch:=(refine am ?_; decide)) only [go_sem]
 refine iX (by kernel_rfl) (by kernel_rfl) ?_
 have J:cE (aS H (.cells (b.map aI) 53 true true)).2 p bs zs next bv aA:=h.b3 (Fr.alloc _ _)
 have eu:cO H (aS H (.cells (b.map aI) 53 true true)).2 (fE p bv aA zs) (fE p bv aA zs):=cO.fr (Fr.alloc _ _)
 have kw:bA (aS H (.cells (b.map aI) 53 true true)).2 H.next 0 64=some (b.map aI):=by
  rw [(a2 (H:=(aS H (.cells (b.map aI) 53 true true)).2) eP).2.2.1]
  show cG 64 (co 0 (b.map aI))=_
  rw [dz,fL,List.drop_zero,if_pos (by rw [List.length_map,U]; exact Nat.le_refl _),List.take_of_length_le (by rw [List.length_map,U]; exact Nat.le_refl _)]
 obtain ⟨ay,p3,O,iM⟩:=J.CT ad U
 have cq:dW (aS H (.cells (b.map aI) 53 true true)).2 64 (.ptr (aY bv) (i * 64)) (.agg (b.map aI))=some (.undef,ay):=by
  show ap (Nat.beq (bJ (b.map aI)) 64) ((bT _ (aY bv) (i * 64) (b.map aI)).omap fun H=>(I.undef,H)) none=_
  rw [eQ,List.length_map,U,p3]; rfl
 have u:=eu.trans iM
 have g':=O.s.len (ty:=95)
 simp (disch:=(refine am ?_; decide)) only [go_sem,a2 J.m,kw,J.w_ ad,cq]
 by_cases ai:zs.length=0
 ·
  have qf:zs= []:=List.eq_nil_of_length_eq_zero ai
  have fA:¬(0:Int) < (zs.length:Int):=by omega
  simp (disch:=(refine am ?_; decide)) only [go_sem,a2 O.m,g',fA]
  exact .inl (ab ay (by rw [show nV zs i=zs by rw [qf]; rfl]; exact O) u)
 ·
  have fA:(0:Int) < (zs.length:Int):=by omega
  have ax:zs.length - 1 < zs.length:=by omega
  have jW:=List.getElem_mem ax
  have n0:i < zs[zs.length - 1].1.w.length:=by rw [(h.fo _ jW).1]; exact ad
  have aC:=O.w _ jW
  obtain ⟨x,R,_,ii,o5⟩:=aC.ty (O.jx jW)
  have cB:=O.s.cells ax
  have pd:=O.s.idx ax
  have Ad:=aC.ks.idx (E:=aq) (e:=4) n0
  rw [ii,Nat.zero_add] at Ad
  have sL:cellAt ay (aY aA) ((zs.length - 1) * 3 + 2)=some zs[zs.length - 1].2:=ln (j:=2) cB (by decide)
  have Ac:bT ay (aY zs[zs.length - 1].2) i [.bool true]=some (aN ay (aY zs[zs.length - 1].2) (.cells (a3 ((zs[zs.length - 1].1.w.set i true).map et)) 4 x true)):=by
   have cP:(a3 (zs[zs.length - 1].1.w.map et)).length=zs[zs.length - 1].1.w.length:=by
    rw [(fv (sz:=1) fun x R=>by obtain ⟨y,aj,rfl⟩:=List.mem_map.1 R; rfl).1,List.length_map,Nat.mul_one]
   have abJ:a3 ((zs[zs.length - 1].1.w.set i true).map et)=(a3 (zs[zs.length - 1].1.w.map et)).set i (.bool true):=by
    rw [List.map_set]
    have:=Cf (sz:=1) (l:=zs[zs.length - 1].1.w.map et) (i:=i) (o:=0) (x:= .bool true) (y:= .bool true) (fun z ai=>by obtain ⟨y,aj,rfl⟩:=List.mem_map.1 ai; rfl) (by rw [List.length_map]; exact n0) (by decide) (by rw [List.getElem_map]; rfl)
    rw [Nat.mul_one,Nat.add_zero] at this
    exact this.symm
   rw [g4,R]
   show hi ay _ i [.bool true] (.cells (a3 (zs[zs.length - 1].1.w.map et)) 4 x true)=_
   rw [hM,kP (by rw [cP]; exact n0),abJ]; rfl
  have ag:=O.xa ax (w':=zs[zs.length - 1].1.w.set i true) (by rw [List.length_set]) R
  have kE:=u.set (.inr (.inr (.inr ⟨_,jW,rfl⟩))) (.cells (a3 ((zs[zs.length - 1].1.w.set i true).map et)) 4 x true)
  have dE:bG .i64 ((zs.length:Int) - 1)=((zs.length - 1:Nat):Int):=by rw [wrap_i64 (by have:=h.k; omega) (by have:=h.k; omega)]; omega
  simp (disch:=(refine am ?_; decide)) only [go_sem,a2 O.m,g',fA,dE,pd,sL,Ad,Ac]
  refine .inl (ab _ ?_ kE)
  rw [Io i (by omega)]
  exact ag
theorem SO {H:aa} {p:Nat} {i:Int} {bs:List (List UInt8)} {zs:List (bq × I)} {next:Int} {bv aA:I} {d:List UInt8} {K:I -> aa -> Prop} (h:cE H p bs zs next bv aA)
 (J:¬(d.length=64 /\ 0≤i /\ i < bs.length) -> K (.int .i64 1) H)
 (O:d.length=64 -> ∀j:Nat,i=j -> j < bs.length -> ∀H',cE H' p (bs.set j d) (nV zs j) next bv aA -> cO H H' (fE p bv aA zs) (fE p bv aA zs) -> K (.int .i64 0) H'):Call (.func 24 [] []) [.ptr p 0,.int .i64 i,.aJ 1 (d.map aI)] H K:=by
 refine bR (N:=22) rfl Kw rfl rfl rfl rfl rfl fun bC=> ?_
 by_cases b1:d.length=64
 ·
  have hD:¬(d.length:Int)≠64:=by omega
  simp (disch:=(refine am ?_; decide)) only [go_sem,hD,List.length_map]
  refine Dy h ?_
  by_cases bV:0≤i /\ i < bs.length
  ·
   obtain ⟨j,rfl⟩:=Int.eq_ofNat_of_zero_le bV.1
   rw [decide_eq_true bV]
   have dl:br (d.map aI)=true:=by rw [<- eY]; exact jl d
   have ah:(d.map aI).length=64:=by rw [List.length_map,b1]
   have bh:cG 64 (d.map aI)=some (d.map aI):=by rw [fL,if_pos (by omega),List.take_of_length_le (by omega)]
   have aG:k0 64 (.aJ 1 (d.map aI))=some (.c9 (d.map aI) 0):=by
    show ap (Nat.beq 1 1 && (Nat.blt 0 64 && br (d.map aI))) ((cG 64 (d.map aI)).omap fun l=>I.c9 l 0) none=_
    rw [dl,bh]; rfl
   have aR:cG 64 (co 0 (d.map aI))=some (d.map aI):=by rw [dz,List.drop_zero,bh]
   simp (disch:=(refine am ?_; first | assumption | decide | omega | (simp only [aT,aW] <;> omega) | with_unfolding_all exact a6 rfl | with_unfolding_all exact a7 rfl)) only [go_sem,aG,aR,bh]
   have ax:j < bs.length:=by omega
   refine JU h ax b1 fun H' aQ u=> ?_
   simp (disch:=(refine am ?_; decide)) only [go_sem]
   exact .inl (O b1 j rfl ax H' aQ u)
  ·
   rw [decide_eq_false bV]
   simp (disch:=(refine am ?_; decide)) only [go_sem]
   exact .inl (J fun h=>bV h.2)
 ·
  have hD:(d.length:Int)≠64:=by omega
  simp (disch:=(refine am ?_; decide)) only [go_sem,hD,List.length_map]
  exact .inl (J fun h=>b1 h.1)
end
end Go.az
namespace Go.az
open Go.Proofs
noncomputable section
set_option maxRecDepth 100000
theorem abK:bE.fn 16=some Try.f16:=by kernel_rfl
theorem abL:bE.fn 47=some Try.f47:=by kernel_rfl
theorem abM:bE.fn 25=some Try.f25:=by kernel_rfl
theorem OU (b:List UInt8):iV (bL b)=true:=by
 show (b.map aI).all nJ=true
 rw [List.all_map,List.all_eq_true]; intro x _; rfl
theorem yR (bs:List (List UInt8)):br (a3 (bs.map bL))=true:=by
 rw [Cg (g:=fun b=>b.map aI) fun b=>qY b]
 induction bs with
 | nil=>rfl
 | cons b bs aH=>
  rw [List.flatMap_cons]
  have:∀l r:List I,br l=true -> br r=true -> br (l ++ r)=true:=by
   intro l r ah af
   induction l with
   | nil=>exact af
   | cons x l aH=>
    rw [eb] at ah
    rw [List.cons_append,eb]
    cases R:b2 x with
    | false=>rw [R] at ah; cases ah
    | true=>rw [R] at ah; exact aH ah
  exact this _ _ (by rw [<- eY]; exact jl b) aH
section
variable {H:aa} {p:Nat} {bs:List (List UInt8)} {zs:List (bq × I)} {next:Int} {bv aA:I}
theorem cE.clone (h:cE H p bs zs next bv aA) {K:I -> aa -> Prop} (ab:∀v H',Acc aq H H' 53 64 v (bs.map bL) -> K v H'):Call (.func 39 [] []) [bv] H K:=by
 have ar:=h.n
 obtain ⟨x,R,aF,_⟩:=h.b.ty ar.1
 rcases h.b.2 with ⟨_,aD⟩ | ⟨b,y,_,aF,Ae,U⟩
 ·
  omega
 ·
  subst Ae
  have ah:(a3 (bs.map bL)).length=bs.length * 64:=by rw [(fv (kc h.bg)).1,List.length_map]
  have:=NA (H:=H) (b:=b) (o:=0) (k:=if y then dm.ex bs.length else dm.rest 0 64 bs.length) (l:=bs.map bL) (K:=K) (by rw [List.length_map]; omega) (kc h.bg) (yR bs) (by
   rw [(a2 U).2.2.1,List.length_map,lF (by omega)]
   show cG _ (co 0 _)=_
   rw [dz,fL,List.drop_zero,if_pos (by rw [ah]; exact Nat.le_refl _),List.take_of_length_le (by rw [ah]; exact Nat.le_refl _)]) aF ab
  rw [List.length_map] at this
  exact this
end
theorem Ip {H:aa} {p:Nat} {bs:List (List UInt8)} {zs:List (bq × I)} {next:Int} {bv aA:I} {K:I -> aa -> Prop} (h:cE H p bs zs next bv aA) (ab:K (.aJ 64 (bs.map bL)) H):Call (.func 16 [] []) [.ptr p 0] H K:=by
 refine bR (N:=10) rfl abK rfl rfl rfl rfl rfl fun bC=> ?_
 simp (disch:=(refine am ?_; decide)) only [go_sem,a2 h.m]
 refine h.clone fun v H' ae=> ?_
 simp (disch:=(refine am ?_; decide)) only [go_sem]
 exact ae.q3 bC (kb fun b=>OU b) ab
theorem ny:∀ {l r:List I},br (l ++ r)=true↔br l=true /\ br r=true
 | [],r=>by simp [show br []=true from rfl]
 | x :: l,r=>by
  rw [List.cons_append,eb,eb]
  cases R:b2 x with
  | false=>exact ⟨fun h=>(by cases h),fun h=>(by cases h.1)⟩
  | true=>exact ny
theorem CP (zs eE:List (bq × I)):e5 (zs ++ eE)=e5 zs ++ e5 eE:=List.flatMap_append
theorem gp.push {H:aa} {aA:I} {zs:List (bq × I)} {z:bq × I} (h:gp H aA zs) (ai:b2 z.2=true) (ab:zs.length≤8):
 ∃db H',cJ aq H 95 aA 1 [.int .i64 z.1.id,.aJ 64 (z.1.bs.map bL),z.2]=some (db,H') /\ gp H' db (zs ++ [z]) /\ H.next≤H'.next /\ (∀c,c < H.next -> (aA= .aE∨c≠aY aA) -> H'.m.get c=H.m.get c) /\ ((aA≠ .aE /\ aY db=aY aA)∨H.next≤aY db):=by
 have dl:br [I.int .i64 z.1.id,.aJ 64 (z.1.bs.map bL),z.2]=true:=by rw [eb,eb,eb,ai]; rfl
 have jY:e5 (zs ++ [z])=e5 zs ++ [.int .i64 z.1.id,.aJ 64 (z.1.bs.map bL),z.2]:=by rw [CP]; congr 1
 rcases h with ⟨rfl,rfl⟩ | ⟨b,N,cy,rfl,U,b4,aF,ao⟩
 ·
  refine ⟨_,_,Cq (E:=aq) (e:=95) (sz:=3) (n:=1) JV rx (by decide) (by decide),.inr ⟨H.next,1,[],rfl,?_,rfl,Nat.lt_succ_self _,?_⟩,Nat.le_succ _,fun c V _=>hK (Nat.ne_of_lt V),.inr (Nat.le_refl _)⟩
  ·
   rw [List.append_nil]; exact eP
  ·
   rw [List.append_nil]; exact dl
 ·
  by_cases k3:zs.length + 1≤N
  ·
   have ah:=uu zs
   have ax:3≤cy.length:=by omega
   refine ⟨_,_,CU U rx (by decide) (by decide) rfl dl k3 (by rw [List.length_append,ah]; exact b4),.inr ⟨b,N,cy.drop 3,by rw [List.length_append]; rfl,?_,by rw [List.length_append,List.length_drop,List.length_singleton]; omega,aF,?_⟩,Nat.le_refl _,fun c V ar=>cY (ar.resolve_left (fun h=>(by cases h))),.inl ⟨fun h=>(by cases h),rfl⟩⟩
   ·
    have e:(e5 zs ++ cy).take (zs.length * 3) ++ ([I.int .i64 z.1.id,.aJ 64 (z.1.bs.map bL),z.2] ++ (e5 zs ++ cy).drop (zs.length * 3 + 3))=e5 (zs ++ [z]) ++ cy.drop 3:=by
     rw [jY,List.take_append_of_le_length (by omega),List.take_of_length_le (by omega),List.drop_append,ah,List.drop_of_length_le (by omega),List.nil_append,show zs.length * 3 + 3 - zs.length * 3=3 by omega,List.append_assoc]
    rw [<- e]; exact gj
   ·
    rw [jY]
    obtain ⟨f1,f2⟩:=ny.1 ao
    have f3:br (cy.drop 3)=true:=(ny (l:=cy.take 3).1 (by rw [List.take_append_drop]; exact f2)).2
    exact ny.2 ⟨ny.2 ⟨f1,dl⟩,f3⟩
  ·
   have ah:=uu zs
   have ax:cy= []:=List.eq_nil_of_length_eq_zero (by omega)
   subst ax
   have Eb:N=zs.length:=by simp at b4; omega
   subst Eb
   rw [List.append_nil] at U ao
   have aC:cz H 0 95 3 (.slice b 0 zs.length (.rest 0 3 zs.length)) zs.length (e5 zs):=⟨ah,.inr ⟨b,false,Nat.zero_le _,aF,rfl,U⟩⟩
   obtain ⟨H',J,O,_,aP,bH⟩:=aC.append (m:=1) rx (by decide) (by decide) rfl dl (oy JV (by omega)) (Nat.zero_le _)
   refine ⟨_,H',J,?_,by omega,fun c V ar=>bH c ar V,.inr (Nat.le_refl _)⟩
   rcases O.2 with ⟨h,_⟩ | ⟨cv,x,_,d7,ak,dx⟩
   ·
    cases h
   ·
    cases x
    ·
     cases ak
     exact .inr ⟨H.next,zs.length + 1,[],by rw [List.length_append]; rfl,by rw [List.append_nil,jY]; exact dx,by rw [List.length_append]; rfl,d7,by rw [List.append_nil,jY]; exact ny.2 ⟨ao,dl⟩⟩
    ·
     cases ak
theorem cz.a_ {H H':aa} {base e sz n:Nat} {v:I} {cs:List I} (h:cz H base e sz v n cs) (ar:H.next≤H'.next) (a4:v= .aE∨H'.m.get (aY v)=H.m.get (aY v)):cz H' base e sz v n cs:=by
 refine ⟨h.1,h.2.imp id ?_⟩
 rintro ⟨b,x,J,O,rfl,aP⟩
 refine ⟨b,x,J,Nat.lt_of_lt_of_le O ar,rfl,?_⟩
 rcases a4 with a4 | a4
 ·
  cases a4
 ·
  exact a4.trans aP
theorem G2 (n:Nat):a3 ((List.replicate n false).map et)=List.replicate n (.bool false):=by
 rw [List.map_replicate]
 induction n with
 | zero=>rfl
 | succ n aH=>rw [List.replicate_succ,List.replicate_succ]; show (et false).cells ++ a3 _=_; rw [aH]; rfl
theorem UY {H:aa} {p:Nat} {id:Int} {bs:List (List UInt8)} {zs:List (bq × I)} {next:Int} {bv aA:I} {K:I -> aa -> Prop} (h:cE H p bs zs next bv aA) (ai:zs.length < 8) (ky: -9223372036854775808≤id /\ id < 9223372036854775807)
 (ab:∀H' c2 db,cE H' p bs (zs ++ [(⟨id,bs,List.replicate bs.length false⟩,c2)]) (id + 1) bv db -> cO H H' (fE p bv aA zs) (fE p bv db (zs ++ [(⟨id,bs,List.replicate bs.length false⟩,c2)])) -> K (.tuple []) H'):Call (.func 47 [] []) [.ptr p 0,.int .i64 id] H K:=by
 have ar:=h.n
 refine bR (N:=28) rfl abL rfl rfl rfl rfl rfl fun bC=> ?_
 simp (disch:=assumption) only [go_sem]
 refine oP [0,0,0,0,4,0,0,2,0,0,0,1,0,0,0,0,0,0,0,0] (by kernel_rfl) (by kernel_rfl) rfl (by kernel_rfl) ?_
 have aF:=h.lt
 have c1:=h.m
 simp (disch:=(refine am ?_; first | assumption | decide | omega | (simp only [aT,aW] <;> omega) | with_unfolding_all exact a6 rfl | with_unfolding_all exact a7 rfl)) only [go_sem,a2 c1,c1]
 refine Ip h ?_
 have c5:=h.b.ks.len (E:=aq) (e:=53)
 obtain ⟨x,R,Z',_⟩:=h.b.ty ar.1
 obtain ⟨H1,rU⟩:∃X,X=(aS H (.cells (List.replicate bs.length (.bool false)) 4 true true)).2:=⟨_,rfl⟩
 have f1:Fr H H1:=by rw [rU]; exact Fr.alloc _ _
 have hU:H1.next=H.next + 1:=by rw [rU]; rfl
 have cg:H1.m.get H.next=some (.cells (List.replicate bs.length (.bool false)) 4 true true):=by rw [rU]; exact eP
 obtain ⟨ay,k4⟩:∃X,X=(aS H1 (.cells [.int .i64 id,.aJ 64 (bs.map bL),.slice H.next 0 bs.length (.ex bs.length)] 95 true true)).2:=⟨_,rfl⟩
 have f2:Fr H ay:=by rw [k4]; exact f1.trans (Fr.alloc _ _)
 have f12:Fr H1 ay:=by rw [k4]; exact Fr.alloc _ _
 have oo:ay.next=H.next + 2:=by rw [k4]; show H1.next + 1=_; rw [hU]
 have cn:ay.m.get H.next=_:=(f12.get _ (by omega)).trans cg
 have O:=h.b3 f2
 obtain ⟨db,dT,oQ,AJ,pu,bW,rS⟩:=O.s.push (z:=(⟨id,bs,List.replicate bs.length false⟩,.slice H.next 0 bs.length (.ex bs.length))) rfl h.k
 have p':∀c l fG x' w',ay.m.get c=some (.cells l fG x' w') -> Nat.beq fG 95=false -> aA= .aE∨c≠aY aA:=fun c l fG x' w' V he=>by
  rcases O.s.ty with aQ | ⟨cs,aQ,_⟩
  ·
   exact .inl aQ
  ·
   exact .inr (gv V aQ he)
 have tS:dT.m.get p=some (.cells [bv,aA,.int .i64 next] 72 true true):=(bW p O.lt (p' p _ _ _ _ O.m rfl)).trans O.m
 have oY:cR bs.length (I.bool false).cells=List.replicate bs.length (.bool false):=by
  show cR bs.length [.bool false]=_
  rw [q9,List.flatten_replicate_singleton]
 have sV:Nat.ble bs.length 1048576=true:=de.2 (by omega)
 have af1:br [I.int .i64 id,.aJ 64 (bs.map bL),.slice H.next 0 bs.length (.ex bs.length)]=true:=rfl
 simp (disch:=(refine am ?_; first | assumption | decide | omega | (simp only [aT,aW] <;> omega) | with_unfolding_all exact a6 rfl | with_unfolding_all exact a7 rfl)) only [go_sem,a2 c1,c1,c5,oY,sV,Bool.true_and]
 rw [<- rU]
 rw [<- k4]
 have CV:cJ aq ay 95 aA 1 [.int .i64 id,.aJ 64 (bs.map bL),.slice H.next 0 bs.length (.ex bs.length)]=some (db,dT):=oQ
 have xC:b2 db=true:=by
  rcases AJ with ⟨rfl,_⟩ | ⟨b,N,cy,rfl,_⟩ <;> rfl
 have LF:(aN dT p (.cells [bv,db,.int .i64 next] 72 true true)).m.get p=_:=gj
 simp (disch:=(refine am ?_; first | assumption | decide | omega | (simp only [aT,aW] <;> omega) | with_unfolding_all exact a6 rfl | with_unfolding_all exact a7 rfl)) only [go_sem,CV,a2 tS,tS,xC,l8 (eo xC),a2 LF,LF,wrap_i64]
 have DC:=O.lt
 have nd:db= .aE∨p≠aY db:=by
  rcases rS with ⟨o5,he⟩ | he
  ·
   rw [he]; exact .inr ((p' p _ _ _ _ O.m rfl).resolve_left o5)
  ·
   exact .inr (by omega)
 generalize rT:bf.cells [bv,db,.int .i64 next] 72 true true=lY
 have a_:∀c,c < ay.next -> (aA= .aE∨c≠aY aA) -> c≠p -> (aN (aN dT p lY) p (.cells [bv,db,.int .i64 (id + 1)] 72 true true)).m.get c=ay.m.get c:=fun c J O ag=>by
  rw [cY ag,cY ag]; exact bW c J O
 have fT:ay.next≤(aN (aN dT p lY) p (.cells [bv,db,.int .i64 (id + 1)] 72 true true)).next:=pu
 have dE:cz ay 0 4 1 (.slice H.next 0 bs.length (.ex bs.length)) (List.replicate bs.length false).length (a3 ((List.replicate bs.length false).map et)):=by
  rw [G2,List.length_replicate]
  exact ⟨by rw [List.length_replicate,Nat.mul_one],.inr ⟨H.next,true,Nat.zero_le _,by omega,rfl,cn⟩⟩
 have aea:H.next≠p:=Nat.ne_of_gt h.lt
 have DD:cE (aN (aN dT p lY) p (.cells [bv,db,.int .i64 (id + 1)] 72 true true)) p bs (zs ++ [(⟨id,bs,List.replicate bs.length false⟩,.slice H.next 0 bs.length (.ex bs.length))]) (id + 1) bv db:=by
  refine ⟨gj,Nat.lt_of_lt_of_le DC fT,O.b.a_ fT (.inr ?_),(AJ.ed nd).ed nd,fun z ai=> ?_,fun i j ad ax cL=> ?_,h.bg,fun z ai=> ?_,ar,by rw [List.length_append]; exact ai⟩
  ·
   obtain ⟨y,aj,mr,_⟩:=O.b.ty ar.1
   exact a_ _ mr (p' _ _ _ _ _ aj rfl) (gv aj O.m rfl)
  ·
   rcases List.mem_append.1 ai with ai | ai
   ·
    obtain ⟨y,aj,mr,_⟩:=(O.w z ai).ty (O.jx ai)
    exact (O.w z ai).a_ fT (.inr (a_ _ mr (p' _ _ _ _ _ aj rfl) (gv aj O.m rfl)))
   ·
    rw [List.mem_singleton] at ai
    subst ai
    exact dE.a_ fT (.inr (a_ _ (by show H.next < _; omega) (p' _ _ _ _ _ cn rfl) aea))
  ·
   have old:∀i (ad:i < zs.length),aY zs[i].2 < H.next:=fun i ad=>by
    obtain ⟨y,aj,mr,_⟩:=(h.w _ (List.getElem_mem ad)).ty (h.jx (List.getElem_mem ad))
    exact mr
   rw [List.length_append,List.length_singleton] at ad ax
   by_cases J:i < zs.length
   ·
    rw [List.getElem_append_left J]
    by_cases O:j < zs.length
    ·
     rw [List.getElem_append_left O]; exact h.lj i j J O cL
    ·
     rw [List.getElem_append_right (by omega),List.getElem_singleton]
     exact Nat.ne_of_lt (old i J)
   ·
    rw [List.getElem_append_right (by omega),List.getElem_singleton]
    have O:j < zs.length:=by omega
    rw [List.getElem_append_left O]
    exact Nat.ne_of_gt (old j O)
  ·
   rcases List.mem_append.1 ai with ai | ai
   ·
    exact h.fo z ai
   ·
    rw [List.mem_singleton] at ai
    subst ai
    exact ⟨List.length_replicate,rfl,h.bg⟩
 refine .inl (ab _ _ _ DD ⟨?_,fun c V ao=> ?_,fun c V=> ?_⟩)
 ·
  exact Nat.le_trans f2.nx fT
 ·
  have rV:c≠p:=fun aQ=>ao (.inl aQ)
  have cB:aA= .aE∨c≠aY aA:=by
   by_cases aG:aA= .aE
   ·
    exact .inl aG
   ·
    exact .inr fun aQ=>ao (.inr (.inr (.inl ⟨aG,aQ⟩)))
  rw [a_ c (by omega) cB rV]; exact f2.get c V
 ·
  rcases V with V | V | ⟨o5,V⟩ | ⟨z,ai,V⟩
  ·
   exact .inl (.inl V)
  ·
   exact .inl (.inr (.inl V))
  ·
   rcases rS with ⟨J,O⟩ | J
   ·
    exact .inl (.inr (.inr (.inl ⟨J,V.trans O⟩)))
   ·
    exact .inr (by omega)
  ·
   rcases List.mem_append.1 ai with ai | ai
   ·
    exact .inl (.inr (.inr (.inr ⟨z,ai,V⟩)))
   ·
    rw [List.mem_singleton] at ai
    subst ai
    exact .inr (Nat.le_of_eq V.symm)
theorem WT {H:aa} {p:Nat} {bs:List (List UInt8)} {zs:List (bq × I)} {next:Int} {bv aA:I} {K:I -> aa -> Prop} (h:cE H p bs zs next bv aA) (fT: -1000000000≤next /\ next≤1000000000)
 (J:8≤zs.length∨1000000 < next -> K (.tuple [.int .i64 0,.int .i64 3]) H)
 (O:zs.length < 8 -> next≤1000000 -> ∀H' c2 db,cE H' p bs (zs ++ [(⟨next,bs,List.replicate bs.length false⟩,c2)]) (next + 1) bv db -> cO H H' (fE p bv aA zs) (fE p bv db (zs ++ [(⟨next,bs,List.replicate bs.length false⟩,c2)])) -> K (.tuple [.int .i64 next,.int .i64 0]) H'):Call (.func 25 [] []) [.ptr p 0] H K:=by
 refine bR (N:=28) rfl abM rfl rfl rfl rfl rfl fun bC=> ?_
 have g':=h.s.len (ty:=95)
 by_cases b1:8≤zs.length
 ·
  have hD:(8:Int)≤(zs.length:Int):=by omega
  simp (disch:=(refine am ?_; decide)) only [go_sem,a2 h.m,g',hD]
  exact .inl (J (.inl b1))
 have hD:¬(8:Int)≤(zs.length:Int):=by omega
 by_cases bV:1000000 < next
 ·
  simp (disch:=(refine am ?_; decide)) only [go_sem,a2 h.m,g',hD,bV]
  exact .inl (J (.inr bV))
 simp (disch:=(refine am ?_; decide)) only [go_sem,a2 h.m,g',hD,bV]
 refine UY h (by omega) ⟨by omega,by omega⟩ fun H' c2 db aQ u=> ?_
 have e:bG .i64 (next + 1 - 1)=next:=by rw [wrap_i64 (by omega) (by omega)]; omega
 simp (disch:=(refine am ?_; decide)) only [go_sem,a2 aQ.m,e]
 exact .inl (O (by omega) (by omega) _ _ _ aQ u)
end
end Go.az
namespace Go.az
open Go.Proofs
noncomputable section
set_option maxRecDepth 100000
theorem abN:bE.fn 12=some Try.f12:=by kernel_rfl
theorem UZ {b:List UInt8} (U:b.length=64):dp (.array 64 5) aq (.c9 (b.map aI) 0) none none none=some (.aJ 1 (b.map aI)):=by
 have dl:br (b.map aI)=true:=by rw [<- eY]; exact jl b
 have ah:(b.map aI).length=64:=by rw [List.length_map,U]
 show ap (Nat.beq (au aq 5) 1 && br (b.map aI)) ((cG 64 (co 0 (b.map aI))).ac fun l=>m3 1 l none none none) none=_
 rw [e2,dl,dz,List.drop_zero,fL,if_pos (by omega),List.take_of_length_le (by omega)]
 show m3 1 (b.map aI) none none none=_
 generalize b.map aI=l at ah dl
 unfold m3
 have e:bF (bJ l) (bJ l) none none none=some (0,64,64):=by rw [eQ,ah]; rfl
 rw [e]
 show some (I.aJ 1 (co 0 (g8 64 l)))=_
 rw [dz,List.drop_zero,it,List.take_of_length_le (by omega)]
theorem BI {l:List (List UInt8)} {i:Nat} (ad:i < l.length):e9 (.slice 53) aq (.aJ 64 (l.map bL)) i=some (.c9 (l[i].map aI) 0):=by
 rw [fh ad]
 show ap (Nat.beq 64 (au aq 53)) (some (I.c9 (l[i].map aI) 0)) none=_
 rw [sO]; rfl
end
end Go.az
namespace Go.az
open Go.Proofs
noncomputable section
set_option maxRecDepth 100000
section
variable {H:aa} {p:Nat} {bs:List (List UInt8)} {zs:List (bq × I)} {next:Int} {bv aA:I}
theorem gp.one (h:gp H aA zs):b2 aA=true:=by
 rcases h with ⟨rfl,_⟩ | ⟨b,N,cy,rfl,_⟩ <;> rfl
theorem gp.cut (h:gp H aA zs) {m:Nat} (hm:m≤zs.length) (aD:0 < zs.length):∃db,dp (.slice 95) aq aA none (some (.int .i64 (m:Int))) none=some db /\ gp H db (zs.take m) /\ db≠ .aE /\ aY db=aY aA /\ aA≠ .aE:=by
 rcases h with ⟨_,rfl⟩ | ⟨b,N,cy,rfl,U,b4,aF,ao⟩
 ·
  cases aD
 ·
  have ah:=uu zs
  refine ⟨.slice b 0 m (.rest 0 3 N),?_,.inr ⟨b,N,e5 (zs.drop m) ++ cy,by rw [List.length_take,Nat.min_eq_left hm],?_,?_,aF,?_⟩,fun h=>(by cases h),rfl,fun h=>(by cases h)⟩
  ·
   have aeb:m≤N:=by omega
   have e:bF zs.length N none (some (.int .i64 (m:Int))) none=some (0,m,N):=by
    show (ap (Nat.ble m N) (some m) none).ac (fun h=>(some 0).omap fun l'=>(l',h,N))=_
    rw [de.2 aeb]; rfl
   show ap (Nat.beq 3 (au aq 95)) ((bF zs.length N none (some (.int .i64 (m:Int))) none).ac fun r=>_) none=_
   rw [rx,e]
   show ap (Nat.blt 0 N || Nat.beq 0 0) (some (I.slice b (Nat.add 0 (Nat.mul 0 3)) (Nat.sub m 0) (.rest (Nat.add 0 0) 3 (Nat.sub N 0)))) _=_
   have:(Nat.blt 0 N || Nat.beq 0 0)=true:=by simp
   rw [this]; rfl
  ·
   rw [<- List.append_assoc,<- CP,List.take_append_drop]; exact U
  ·
   rw [List.length_append,uu,List.length_take,List.length_drop]; omega
  ·
   rw [<- List.append_assoc,<- CP,List.take_append_drop]; exact ao
theorem U0 {i:Nat} (ad:i < zs.length) {s':bq} {c2:I} (J:s'.id=zs[i].1.id) (O:s'.bs=zs[i].1.bs):e5 (zs.set i (s',c2))=(e5 zs).set (i * 3 + 2) c2:=by
 induction zs generalizing i with
 | nil=>cases ad
 | cons z zs aH=>
  have e:∀(a:bq × I) (l:List (bq × I)),e5 (a :: l)= [.int .i64 a.1.id,.aJ 64 (a.1.bs.map bL),a.2] ++ e5 l:=fun a l=>by unfold e5; rw [List.flatMap_cons]
  cases i with
  | zero=>
   show e5 ((s',c2) :: zs)=_
   rw [e,e,J,O]; rfl
  | succ i=>
   show e5 (z :: zs.set i (s',c2))=_
   rw [e,e,aH (by simpa using ad) J O,show (i + 1) * 3 + 2=(i * 3 + 2) + 3 by omega]; first | done | rfl
theorem Hv:∀ {l:List I} {i:Nat} {x:I},br l=true -> b2 x=true -> br (l.set i x)=true
 | [],_,_,_,_=>rfl
 | y :: l,0,x,h,R=>by
  rw [eb] at h
  show br (x :: l)=true
  rw [eb,R]
  cases aj:b2 y with
  | false=>rw [aj] at h; cases h
  | true=>rw [aj] at h; exact h
 | y :: l,i + 1,x,h,R=>by
  rw [eb] at h
  show br (y :: l.set i x)=true
  rw [eb]
  cases aj:b2 y with
  | false=>rw [aj] at h; cases h
  | true=>rw [aj] at h; exact Hv h R
theorem gp.xa (h:gp H aA zs) {i:Nat} (ad:i < zs.length) {s':bq} {c2:I} (J:s'.id=zs[i].1.id) (O:s'.bs=zs[i].1.bs) (hw:b2 c2=true):
 ∃z,bT H (aY aA) (i * 3 + 2) [c2]=some (aN H (aY aA) z) /\ gp (aN H (aY aA) z) aA (zs.set i (s',c2)) /\ aA≠ .aE:=by
 rcases h with ⟨_,rfl⟩ | ⟨b,N,cy,rfl,U,b4,aF,ao⟩
 ·
  cases ad
 ·
  have ah:=uu zs
  have e:(e5 zs ++ cy).set (i * 3 + 2) c2=e5 (zs.set i (s',c2)) ++ cy:=by rw [U0 ad J O,List.set_append_left _ _ (by omega)]
  refine ⟨.cells (e5 (zs.set i (s',c2)) ++ cy) 95 false true,?_,.inr ⟨b,N,cy,by rw [List.length_set],gj,by rw [List.length_set]; exact b4,aF,by rw [<- e]; exact Hv ao hw⟩,fun h=>(by cases h)⟩
  rw [g4]
  show (H.m.get b).ac _=_
  rw [U]
  show hi H b (i * 3 + 2) [c2] (.cells (e5 zs ++ cy) 95 false true)=_
  rw [hM,eb,hw,kP (by rw [List.length_append]; omega),e]; rfl
end
end
end Go.az
namespace Go.az
open Go.Proofs
noncomputable section
set_option maxRecDepth 100000
section
variable {H:aa} {p:Nat} {bs:List (List UInt8)} {zs:List (bq × I)} {next:Int} {bv aA:I}
theorem cE.pr (h:cE H p bs zs next bv aA) {bs':List (List UInt8)} {qw:List (bq × I)} {next':Int} {bv' db:I} (aG:gp H db qw) (rS:db= .aE∨p≠aY db) (U:cz H 0 53 64 bv' bs'.length (a3 (bs'.map bL))) (aec:p≠aY bv')
 (hw:∀z∈qw,cz H 0 4 1 z.2 z.1.w.length (a3 (z.1.w.map et)) /\ p≠aY z.2) (lj:∀(i j:Nat) (ad:i < qw.length) (ax:j < qw.length),i≠j -> aY qw[i].2≠aY qw[j].2) (bg:∀x∈bs',x.length=64)
 (fo:∀z∈qw,z.1.w.length=bs'.length /\ z.1.bs.length=bs'.length /\ ∀x∈z.1.bs,x.length=64) (n:0 < bs'.length /\ bs'.length≤64) (k:qw.length≤8):cE (aN H p (.cells [bv',db,.int .i64 next'] 72 true true)) p bs' qw next' bv' db:=
 ⟨gj,h.lt,U.ed (.inr aec),aG.ed rS,fun z ai=>(hw z ai).1.ed (.inr (hw z ai).2),lj,bg,fo,n,k⟩
theorem cE.ps (h:cE H p bs zs next bv aA):aA= .aE∨p≠aY aA:=by
 rcases h.s.ty with aQ | ⟨cs,aQ,_⟩
 ·
  exact .inl aQ
 ·
  exact .inr (gv h.m aQ rfl)
end
end
end Go.az
namespace Go.az
open Go.Proofs
noncomputable section
set_option maxRecDepth 100000
theorem U1 {b len N a c:Nat} (J:a≤c) (O:c≤N) (ag:a < N):dp (.slice 95) aq (.slice b 0 len (.rest 0 3 N)) (some (.int .i64 (a:Int))) (some (.int .i64 (c:Int))) none=some (.slice b (a * 3) (c - a) (.rest a 3 (N - a))):=by
 have e:bF len N (some (.int .i64 (a:Int))) (some (.int .i64 (c:Int))) none=some (a,c,N):=by
  show (ap (Nat.ble c N) (some c) none).ac (fun h=>(ap (Nat.ble a h) (some a) none).omap fun l'=>(l',h,N))=_
  rw [de.2 O]
  show (ap (Nat.ble a c) (some a) none).omap (fun l'=>(l',c,N))=_
  rw [de.2 J]; rfl
 show ap (Nat.beq 3 (au aq 95)) ((bF len N (some (.int .i64 (a:Int))) (some (.int .i64 (c:Int))) none).ac fun r=>_) none=_
 rw [rx,e]
 show ap (Nat.blt a N || Nat.beq a 0) (some (I.slice b (0 + a * 3) (c - a) (.rest (0 + a) 3 (N - a)))) _=_
 rw [(cZ _ _).2 ag,Nat.zero_add,Nat.zero_add]; rfl
end
end Go.az
namespace Go.az
open Go.Proofs
noncomputable section
set_option maxRecDepth 100000
theorem uj (w:List Bool):a3 (w.map et)=w.map et:=by
 rw [Cg (g:=fun b=> [et b]) fun _=>rfl]
 induction w with
 | nil=>rfl
 | cons b w aH=>rw [List.flatMap_cons,aH]; rfl
def oW (a b:List Bool):Nat -> List Bool
 | 0=>a
 | k + 1=>if b.getD k false then (oW a b k).set k true else oW a b k
theorem QP (a b:List Bool) (k:Nat):(oW a b k).length=a.length:=by
 induction k with
 | zero=>rfl
 | succ k aH=>unfold oW; split <;> simp [aH]
section
variable {H:aa} {p:Nat} {bs:List (List UInt8)} {zs:List (bq × I)} {next:Int} {bv aA:I}
theorem cE.wU (h:cE H p bs zs next bv aA) {i k:Nat} (ad:i < zs.length) (ab:k < bs.length):cellAt H (aY zs[i].2) k=some (.bool (zs[i].1.w[k]'(by rw [(h.fo _ (List.getElem_mem ad)).1]; exact ab))):=by
 have hw:=(h.fo _ (List.getElem_mem ad)).1
 have aC:=h.w _ (List.getElem_mem ad)
 obtain ⟨_,_,_,aD,_⟩:=aC.ty (h.jx (List.getElem_mem ad))
 have:=aC.cell (i:=k) (by omega)
 rw [aD,Nat.zero_add,uj,List.getElem?_map,List.getElem?_eq_getElem (by omega)] at this
 exact this
theorem cE.xb (h:cE H p bs zs next bv aA) {i k:Nat} (ad:i < zs.length) (ab:k < bs.length) {ty:TypeId} (xB:au aq ty=1):e9 (.slice ty) aq zs[i].2 k=some (.ptr (aY zs[i].2) k):=by
 have hw:=(h.fo _ (List.getElem_mem ad)).1
 have aC:=h.w _ (List.getElem_mem ad)
 obtain ⟨_,_,_,aD,_⟩:=aC.ty (h.jx (List.getElem_mem ad))
 have:=aC.ks.idx (E:=aq) (e:=ty) (i:=k) (by omega)
 rw [aD,Nat.zero_add,xB,Nat.mul_one] at this
 exact this
theorem cE.wV (h:cE H p bs zs next bv aA) {i:Nat} (ad:i < zs.length):cellAt H (aY aA) (i * 3 + 2)=some zs[i].2:=ln (j:=2) (h.s.cells ad) (by decide)
theorem cE.J2 (h:cE H p bs zs next bv aA) {j k:Nat} (ax:j < zs.length) (ab:k < bs.length):
 ∃z,bT H (aY zs[j].2) k [.bool true]=some (aN H (aY zs[j].2) z) /\ cE (aN H (aY zs[j].2) z) p bs (zs.set j ({ zs[j].1 with w:=zs[j].1.w.set k true},zs[j].2)) next bv aA:=by
 have hw:=(h.fo _ (List.getElem_mem ax)).1
 obtain ⟨x,R,_⟩:=(h.w _ (List.getElem_mem ax)).ty (h.jx (List.getElem_mem ax))
 refine ⟨.cells (a3 ((zs[j].1.w.set k true).map et)) 4 x true,?_,h.xa ax (by rw [List.length_set]) R⟩
 rw [g4,R]
 show hi H _ k [.bool true] (.cells (a3 (zs[j].1.w.map et)) 4 x true)=_
 rw [hM,uj,kP (by rw [List.length_map]; omega),uj,List.map_set]; rfl
end
end
end Go.az
namespace Go.az
open Go.Proofs
noncomputable section
set_option maxRecDepth 100000
section
variable {H:aa} {p:Nat} {bs:List (List UInt8)} {zs:List (bq × I)} {next:Int} {bv aA:I}
end
end
end Go.az
namespace Go.az
open Go.Proofs
noncomputable section
set_option maxRecDepth 100000
structure YU (s:cS):Prop where
 b:1≤s.blocks /\ s.blocks≤64
 i:1≤s.id /\ s.id≤1000000
 n:s.aV.length≤100000
 r:∀r∈s.aV,cV s.blocks s.base r=true /\ (r.zs=true -> r.data= []) /\ r.data.length≤100000
theorem GY {w:List UInt8} (hw:w.length≤140737488351232):∀(k p i:Nat) (s:cS),sT w p s i -> i + k≤65536 -> (∀r∈s.aV,cV s.blocks s.base r=true) -> ∀e eV s',lv w k p s=(e,eV,s') -> e=0 -> s'.blocks=s.blocks /\ s'.base=s.base /\ s'.id=s.id /\ s'.aV.length≤65536 /\ Kv s' /\ (∀r∈s'.aV,cV s'.blocks s'.base r=true /\ r.data.length≤100000)
 | 0,p,i,s,c',ab,af,e,eV,s',h,he=>by
  cases h
  exact ⟨rfl,rfl,rfl,by rw [c'.n]; omega,c'.z,fun r h=>⟨af r h,(c'.d r h).1⟩⟩
 | k + 1,p,i,s,c',ab,af,e,eV,s',h,he=>by
  have h:=show (if fw w p s=0 then lv w k (p + 5 + jp w p + 8) (s.snoc (recAt w p)) else (fw w p s,p,s))=(e,eV,s') from h
  by_cases aD:fw w p s=0
  ·
   rw [if_pos aD] at h
   have a4:fS (s.snoc (recAt w p))=true:=by
    unfold fw at aD
    repeat' split at aD
    all_goals (first | (cases aD; done) | skip)
    rename_i aB
    cases n6:fS (s.snoc (recAt w p)) with
    | true=>rfl
    | false=>exact absurd n6 aB
   have:=(vS a4).2.2.2.2.2.2
   refine GY hw k _ (i + 1) (s.snoc (recAt w p)) (c'.next hw aD) (by omega) (fun r af=> ?_) e eV s' h he
   obtain ⟨j,ax,rfl⟩:=List.getElem_of_mem af
   exact Dd this ax
  ·
   rw [if_neg aD] at h
   cases h
   exact absurd he aD
theorem HE {w:List UInt8} (hw:w.length≤140737488351232) (h:(eq w).1=0):YU (eq w).2:=by
 unfold eq at h ⊢
 by_cases J:iv w≠0
 ·
  rw [if_pos J] at h
  exact absurd h J
 rw [if_neg J] at h ⊢
 have he:iv w=0:=Decidable.not_not.1 J
 have aM:1≤cD w /\ cD w≤64 /\ 24≤w.length /\ 1≤dJ w /\ dJ w≤1000000:=by
  unfold iv at he
  repeat' split at he
  all_goals (first | (cases he; done) | (refine ⟨by omega,by omega,by omega,by omega,by omega⟩))
 have kM:bx w 14 2 < 65536:=Nat.lt_of_lt_of_le (wp _) (by
  have:((w.drop 14).take 2).length≤2:=by rw [List.length_take]; omega
  exact Nat.pow_le_pow_right (by decide) this)
 simp only at h ⊢
 have c':sT w 24 (l_ w) 0:=⟨by omega,⟨by show 0≤cD w; omega,by show cD w≤64; omega⟩,rfl,fun r af=>(by cases af),fun r af=>(by cases af)⟩
 obtain ⟨cf,ck,af⟩:∃cf ck,lv w (bx w 14 2) 24 (l_ w)=(cf,ck):=⟨_,_,rfl⟩
 obtain ⟨eV,s'⟩:=ck
 rw [af] at h ⊢
 simp only at h ⊢
 by_cases O:cf≠0
 ·
  rw [if_pos O] at h; exact absurd h O
 rw [if_neg O] at h ⊢
 by_cases ag:lA w eV≠0
 ·
  rw [if_pos ag] at h; exact absurd h ag
 rw [if_neg ag]
 obtain ⟨a8,bk,c3,eD,fZ,jh⟩:=GY hw _ _ 0 _ c' (by omega) (fun r af=>(by cases af)) _ _ _ af (Decidable.not_not.1 O)
 exact ⟨by rw [a8]; exact ⟨aM.1,aM.2.1⟩,by rw [c3]; exact aM.2.2.2,by show s'.aV.length≤_; omega,fun r af=>⟨(jh r af).1,fZ r af,(jh r af).2⟩⟩
theorem SP {bg eB:Int} {r:Rec} (h:cV bg eB r=true) (ai:r.zs=false):(r.data.length:Int)=r.aX * 64:=by
 unfold cV at h
 simp only [Bool.not_eq_true',Bool.or_eq_false_iff,Bool.not_eq_false'] at h
 have:=h.1.2
 unfold g7 at this
 rw [ai] at this
 simp only [Bool.and_eq_true,decide_eq_true_eq,Bool.false_eq_true,if_false] at this
 exact this.1
def hy (r:Rec) (i:Nat):List UInt8:=if r.zs then List.replicate 64 0 else (r.data.drop (i * 64)).take 64
section
variable {H:aa} {p:Nat} {bs:List (List UInt8)} {zs:List (bq × I)} {next:Int} {bv aA:I}
theorem cE.ri (h:cE H p bs zs next bv aA) {c:Nat} (V:fE p bv aA zs c):c < H.next:=by
 rcases V with rfl | rfl | ⟨ar,rfl⟩ | ⟨z,ai,rfl⟩
 ·
  exact h.lt
 ·
  obtain ⟨_,_,ah,_⟩:=h.b.ty h.n.1; exact ah
 ·
  rcases h.s with ⟨aQ,_⟩ | ⟨b,N,cy,rfl,_,_,ah,_⟩
  ·
   exact absurd aQ ar
  ·
   exact ah
 ·
  obtain ⟨_,_,ah,_⟩:=(h.w z ai).ty (h.jx ai); exact ah
theorem I5 {i:Nat}:fE p bv aA (nV zs i)=fE p bv aA zs:=by
 by_cases h:0 < zs.length
 ·
  rw [Io i h]; exact WS (by omega)
 ·
  have:zs= []:=List.eq_nil_of_length_eq_zero (by omega)
  subst this; rfl
end
end
end Go.az
namespace Go.az
open Go.Proofs
noncomputable section
set_option maxRecDepth 100000
def bO (n:Nat):List (List UInt8):=List.replicate n (List.replicate 64 0)
theorem cE.clear {H:aa} {p:Nat} {bs:List (List UInt8)} {zs:List (bq × I)} {next:Int} {bv aA:I} (h:cE H p bs zs next bv aA):
 ∃z,ut aq H 53 bv=some (.undef,aN H (aY bv) z) /\ cE (aN H (aY bv) z) p (bO bs.length) zs next bv aA:=by
 obtain ⟨x,R,_⟩:=h.b.ty h.n.1
 have ar:=h.n
 have nR:a3 ((bO bs.length).map bL)=(List.replicate bs.length (List.replicate 64 (I.int .u8 0))).flatten:=by
  have e:∀(z:List UInt8) (n:Nat),a3 (List.replicate n (bL z))=(List.replicate n (z.map aI)).flatten:=fun z n=>by
   induction n with
   | zero=>rfl
   | succ n aH=>rw [List.replicate_succ (a:=bL z),List.replicate_succ (a:=z.map aI),List.flatten_cons,<- aH,hL,hL,List.flatMap_cons,qY]
  unfold bO
  rw [List.map_replicate,e]; rfl
 refine ⟨.cells (a3 ((bO bs.length).map bL)) 53 x true,?_,h.zU (by unfold bO; rw [List.length_replicate]) (fun y aj=>by unfold bO at aj; rw [List.eq_of_mem_replicate aj,List.length_replicate]) R⟩
 rcases h.b.2 with ⟨_,aD⟩ | ⟨b,y,_,aF,rfl,U⟩
 ·
  omega
 ·
  have ah:(a3 (bs.map bL)).length=bs.length * 64:=by rw [(fv (kc h.bg)).1,List.length_map]
  change H.m.get b=_ at R
  rw [U] at R
  cases R
  show (cr aq 53).ac _=_
  rw [JW]
  show ap (Nat.beq bs.length 0) (some (I.undef,H)) ((bT H b 0 (cR bs.length (List.replicate 64 (.int .u8 0)))).omap fun H=>(I.undef,H))=_
  rw [lF (by omega)]
  have p3:bT H b 0 (cR bs.length (List.replicate 64 (.int .u8 0)))=some (aN H b (.cells (a3 ((bO bs.length).map bL)) 53 x true)):=by
   rw [g4,U,q9,<- nR]
   show hi H b 0 (a3 ((bO bs.length).map bL)) (.cells (a3 (bs.map bL)) 53 x true)=_
   have dq:(a3 ((bO bs.length).map bL)).length=bs.length * 64:=by
    rw [(fv (kc (bs:=bO bs.length) (fun y aj=>by unfold bO at aj; rw [List.eq_of_mem_replicate aj,List.length_replicate]))).1,List.length_map]
    unfold bO; rw [List.length_replicate]
   rw [hM,yR,B' (by rw [dq,ah])]; rfl
  show ((bT H b 0 (cR bs.length (List.replicate 64 (.int .u8 0)))).omap fun H=>(I.undef,H))=_
  rw [p3]; rfl
theorem S5 {H:aa} {c:Nat} {l:List UInt8} (V:H.m.get c=some (.cells (List.replicate 64 (.int .u8 0)) 53 true true)) (ah:64≤l.length):
 uw aq H 5 (.slice c 0 64 (.ex 64)) (l.length,l.map aI)=some (.int .i64 64,aN H c (.cells ((l.take 64).map aI) 53 true true)):=by
 have hm:gb l.length 64=64:=by
  unfold gb
  by_cases h:l.length≤64
  ·
   rw [de.2 h]; show l.length=64; omega
  ·
   rw [zL h]; rfl
 show ap (Nat.beq 64 0) (some (I.int .i64 0,H)) ((bT H c 0 (g8 (Nat.mul (gb l.length 64) (au aq 5)) (l.map aI))).omap fun H=>(I.int .i64 (.ofNat (gb l.length 64)),H))=_
 rw [hm,e2]
 have p3:bT H c 0 (g8 (Nat.mul 64 1) (l.map aI))=some (aN H c (.cells ((l.take 64).map aI) 53 true true)):=by
  rw [g4,V]
  show hi H c 0 (g8 64 (l.map aI)) (.cells (List.replicate 64 (.int .u8 0)) 53 true true)=_
  have dl:br ((l.take 64).map aI)=true:=by rw [<- eY]; exact jl _
  rw [it,<- List.map_take,hM,dl,B' (by rw [List.length_replicate,List.length_map,List.length_take]; omega)]; rfl
 show ((bT H c 0 (g8 (Nat.mul 64 1) (l.map aI))).omap fun H=>(I.int .i64 64,H))=_
 rw [p3]; rfl
end
end Go.az
namespace Go.az
open Go.Proofs
noncomputable section
set_option maxRecDepth 100000
theorem Cs {c:Nat}:dp (.array 64 5) aq (.ptr c 0) none none none=some (.slice c 0 64 (.ex 64)):=by
 show (bF 64 64 none none none).omap (fun r=>I.slice c (addrAt r.2.2 r.1 0 (au aq 5)) (Nat.sub r.2.1 r.1) (.ex (Nat.sub r.2.2 r.1)))=_
 rw [e2]; rfl
theorem NH {bg eB:Int} {r:Rec} (h:cV bg eB r=true) {j:Nat} (ax:(j:Int) < r.aX):(hy r j).length=64 /\ (r.zs=false -> 64≤(r.data.drop (j * 64)).length /\ j * 64≤r.data.length):=by
 cases ai:r.zs with
 | true=>
  unfold hy
  rw [ai]
  exact ⟨List.length_replicate,fun h=>(by cases h)⟩
 | false=>
  have aw:=SP h ai
  unfold hy
  rw [ai]
  have:64≤(r.data.drop (j * 64)).length:=by rw [List.length_drop]; omega
  exact ⟨by show (List.take 64 _).length=64; rw [List.length_take]; omega,fun _=>⟨this,by omega⟩⟩
end
end Go.az
