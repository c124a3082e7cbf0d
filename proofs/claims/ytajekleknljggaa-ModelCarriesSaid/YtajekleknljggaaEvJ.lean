/-
  What slice arguments hold, whatever their elements are made of; level two at the top of a law. No conditions.
-/
import Derived.Test.YtajekleknljggaaEvI
set_option linter.unusedVariables false
set_option linter.unusedSimpArgs false
namespace Go.az
open Go.RowKit Go.ChangeShapes Go.WideShapes Go.ChangeAt
noncomputable section
section
variable {H:Type} {enc:TypeId × Value -> H} {P:Program} {W:World}
theorem G5 {α:Type} {eA:α -> I} {mk:List I -> I} {Inv:α -> Prop} {Q:DataW H -> Prop} {sz:Nat} {t e:TypeId} (bh:P.underlying t=some (.slice e)) (bm:P.cellsOf e=sz) (bU:0 < sz) (vd:∀cs:List I,cs.length=sz -> br cs=true -> (mk cs).cells=cs)
 (pb:∀fuel (cs:List Value) x,cs.length=sz -> DataW.trod enc P W 0 (fun _=>true) true fuel e cs=some x -> Q x.1 -> ∃a,Inv a /\ al false gn (i9 W) (eA a) (mk (cs.map (ga W.heap.size))) /\ br (cs.map (ga W.heap.size))=true)
 {v:Value} {fuel:Nat} {x:DataW H × List MemPlace} (h:DataW.trod enc P W 0 (fun _=>true) true fuel t [v]=some x) (ae7:∀es rs,x.1= .slice es rs -> ∀d∈es,Q d):
 ∃l:List α,(∀a∈l,Inv a) /\ al false gn (i9 W) (.aJ sz (l.map eA)) (ga W.heap.size v) /\ b2 (ga W.heap.size v)=true /\ a5 (my W.heap.size) (ga W.heap.size v)=some v /\ (l.length:Int) < 9223372036854775808 /\ (l= []∨∃es rs,x.1= .slice es rs /\ es.length=l.length):=by
 have fin:b2 (ga W.heap.size v)=true -> a5 (my W.heap.size) (ga W.heap.size v)=some v:=Hi
 rcases DataW.trod_slice bh h with ⟨V,_⟩ | ⟨a,len,cap,elems,rest,n,_,V,R,_,lP,h6,abb,kt,JS,_⟩
 ·
  cases V
  exact ⟨[],by simp,al.fP (.inl rfl),rfl,rfl,by simp,.inl rfl⟩
 cases V
 rw [bm] at kt JS
 by_cases o1:cap=0
 ·
  subst o1
  obtain rfl:len=0:=by omega
  obtain ⟨b,o,sp⟩:=a
  cases sp with
  | none=>
   have ae:ga W.heap.size (.slice (some ⟨b,o,none⟩) 0 0)=if b < W.heap.size /\ 0≤0 then I.slice b o 0 (.ex 0) else .dY ⟨b,o,none⟩:=rfl
   rw [ae] at fin ⊢
   split
   ·
    rename_i U
    rw [if_pos U] at fin
    exact ⟨[],by simp,al.fP (.inr (.inl ⟨b,o,.ex 0,rfl,trivial,fun _=>rfl⟩)),rfl,fin rfl,by simp,.inl rfl⟩
   ·
    exact ⟨[],by simp,al.fP (.inr (.inr ⟨_,rfl⟩)),rfl,rfl,by simp,.inl rfl⟩
  | some sp=>exact ⟨[],by simp,al.fP (.inr (.inr ⟨⟨b,o,some sp⟩,rfl⟩)),rfl,rfl,by simp,.inl rfl⟩
 ·
  have aD:∃cs,W.cells? 0 a sz=some cs:=by
   by_cases hR:0 < len
   ·
    have J:=kt 0 hR
    rw [List.getElem?_eq_getElem (by omega)] at J
    obtain ⟨cs,cB,_⟩:=Option.bind_eq_some_iff.1 J
    rw [Nat.zero_mul] at cB
    exact ⟨cs,by simpa [Addr.add] using cB⟩
   ·
    obtain rfl:len=0:=by omega
    obtain ⟨j4,eJ⟩:=JS rfl
    have J:=eJ 0 (by omega)
    rw [List.getElem?_eq_getElem (by omega)] at J
    obtain ⟨cs,cB,_⟩:=Option.bind_eq_some_iff.1 J
    simp only [Nat.zero_add,Nat.zero_mul] at cB
    exact ⟨cs,by simpa [Addr.add] using cB⟩
  obtain ⟨afY,abc⟩:=aD
  obtain ⟨AD,ij⟩:=Ia abc
  have WN:∃u,W.cell? a=some u:=by
   have:=ij 0 bU
   rw [List.getElem?_eq_getElem (by omega)] at this
   exact ⟨_,by simpa [Addr.add] using this⟩
  obtain ⟨agt,r9⟩:=WN
  obtain ⟨b,o,sp⟩:=a
  have r7:sp=none:=by
   unfold World.cell? at r9
   split at r9
   ·
    split at r9
    ·
     cases r9
    ·
     rename_i aG; cases sp with
     | none=>rfl
     | some s=>exact absurd rfl aG
   ·
    cases r9
  subst r7
  have U:b < W.heap.size:=by
   obtain ⟨arr,fG,fz,aM,_,_⟩:=yW r9
   exact (Array.getElem?_eq_some_iff.1 aM).1
  have abd:ga W.heap.size (.slice (some ⟨b,o,none⟩) len cap)= .slice b o len (.ex cap):=by
   show (if b < W.heap.size /\ len≤cap then I.slice b o len (.ex cap) else _)=_
   rw [if_pos ⟨U,lP⟩]
  rw [abd] at fin ⊢
  have each:∀i,i < len -> ∃(a:α) (cs:List I),Inv a /\ al false gn (i9 W) (eA a) (mk cs) /\ br cs=true /\ cs.length=sz /\ ∀j,j < sz -> ∃u,W.cell? ⟨b,o + (i * sz + j),none⟩=some u /\ cs[j]? =some (ga W.heap.size u):=by
   intro i ad
   have J:=kt i ad
   rw [List.getElem?_eq_getElem (by omega)] at J
   obtain ⟨cs,cB,ad6⟩:=Option.bind_eq_some_iff.1 J
   obtain ⟨cP,Fb⟩:=Ia cB
   obtain ⟨a,ae,ak,ao⟩:=pb _ _ _ cP ad6 (ae7 _ _ (by rw [R]) _ (List.mem_map.2 ⟨_,List.getElem_mem (by omega),rfl⟩))
   refine ⟨a,_,ae,ak,ao,by simpa using cP,fun j ax=> ?_⟩
   have O:=Fb j ax
   rw [List.getElem?_eq_getElem (by omega)] at O
   refine ⟨_,?_,by rw [List.getElem?_map,List.getElem?_eq_getElem (by omega)]; rfl⟩
   rw [kd,kd] at O
   rw [<- O]; congr 2; omega
  have ad7:∀m,m≤len -> ∃(l:List α) (L:List (List I)),l.length=m /\ L.length=m /\ (∀a∈l,Inv a) /\ av false gn (i9 W) (l.map eA) (L.map mk) /\ (∀c∈L,br c=true /\ c.length=sz) /\
   ∀i j,i < m -> j < sz -> ∃u,W.cell? ⟨b,o + (i * sz + j),none⟩=some u /\ (L.flatten)[i * sz + j]? =some (ga W.heap.size u):=by
   intro m
   induction m with
   | zero=>exact fun _=>⟨[],[],rfl,rfl,by simp,av.nil.2 rfl,by simp,fun i j ad=>by omega⟩
   | succ m aH=>
    intro hm
    obtain ⟨l,L,ah,ht,c',pD,iP,fX⟩:=aH (by omega)
    obtain ⟨a,cs,ae,ak,ao,cP,ax⟩:=each m (by omega)
    have dl:L.flatten.length=m * sz:=by
     rw [<- ht]
     clear fX pD ht aH c'
     induction L with
     | nil=>simp
     | cons c L tp=>
      rw [List.flatten_cons,List.length_append,(iP c (by simp)).2,tp fun c V=>iP c (by simp [V])]
      simp [Nat.add_mul]; omega
    refine ⟨l ++ [a],L ++ [cs],by simp [ah],by simp [ht],fun x R=> ?_,?_,fun c V=> ?_,fun i j ad hQ=> ?_⟩
    ·
     rcases List.mem_append.1 R with h | h
     ·
      exact c' x h
     ·
      simp at h; subst h; exact ae
    ·
     rw [List.map_append,List.map_append]
     exact av.app pD (av.one ak)
    ·
     rcases List.mem_append.1 V with h | h
     ·
      exact iP c h
     ·
      simp at h; subst h; exact ⟨ao,cP⟩
    ·
     rw [List.flatten_append,List.flatten_cons,List.flatten_nil,List.append_nil]
     by_cases h:i < m
     ·
      obtain ⟨u,qt,la⟩:=fX i j h hQ
      have aF:i * sz + j < L.flatten.length:=by
       rw [dl]
       have:(i + 1) * sz≤m * sz:=Nat.mul_le_mul_right _ h
       rw [Nat.add_mul] at this; omega
      exact ⟨u,qt,by rw [List.getElem?_append_left aF]; exact la⟩
     ·
      obtain rfl:i=m:=by omega
      obtain ⟨u,qt,la⟩:=ax j hQ
      exact ⟨u,qt,by rw [List.getElem?_append_right (by omega),dl,show i * sz + j - i * sz=j by omega]; exact la⟩
  obtain ⟨l,L,ah,ht,c',pD,iP,fX⟩:=ad7 len (Nat.le_refl _)
  have dl:L.flatten.length=len * sz:=by
   rw [<- ht]
   clear fX pD ht
   induction L with
   | nil=>simp
   | cons c L tp=>
    rw [List.flatten_cons,List.length_append,(iP c (by simp)).2,tp fun c V=>iP c (by simp [V])]
    simp [Nat.add_mul]; omega
  refine ⟨l,c',?_,rfl,fin rfl,by rw [ah]; unfold maxLen at h6; omega,.inr ⟨_,_,by rw [R],by rw [List.length_map,ah]; exact abb⟩⟩
  by_cases hle:l= []
  ·
   subst hle
   obtain rfl:len=0:=by simpa using ah.symm
   exact al.fP (.inr (.inl ⟨b,o,_,rfl,trivial,fun h=>by omega⟩))
  have nR:a3 (L.map mk)=L.flatten:=by
   clear fX pD ht dl
   induction L with
   | nil=>rfl
   | cons c L tp=>
    rw [List.map_cons,List.flatten_cons]
    show cb (mk c).cells (a3 (L.map mk))=_
    rw [eZ,vd c (iP c (by simp)).2 (iP c (by simp)).1,tp fun c V=>iP c (by simp [V])]
  have x2:(l.map eA).length=len:=by rw [List.length_map,ah]
  have key:=al.nD (w:=false) (σ:=gn) (H:=i9 W) (l:=l.map eA) (l':=L.map mk) (sz:=sz) (c:=b) (o:=o) (k:= .ex cap) (by simpa using hle) bU ?_ trivial (by rw [x2]; exact lP) pD ?_ ?_
  ·
   rw [x2] at key; exact key
  ·
   obtain ⟨arr,fG,fz,aM,_,a4⟩:=yW r9
   exact ⟨fun b h=>(nomatch h),U,by rw [a4]; rfl⟩
  ·
   intro x R
   obtain ⟨c,V,rfl⟩:=List.mem_map.1 R
   rw [vd c (iP c V).2 (iP c V).1]; exact (iP c V).2
  ·
   rw [nR,x2]
   obtain ⟨arr,fG,fz,aM,_,a4⟩:=yW r9
   have Xv:0 < len:=by
    rcases Nat.eq_zero_or_pos len with h | h
    ·
     exfalso; apply hle; apply List.eq_nil_of_length_eq_zero; omega
    ·
     exact h
   have ab:∀k,k < len * sz -> ((arr.toList.map (ga W.heap.size)).drop o)[k]? =L.flatten[k]? :=by
    intro k ab
    have ad:k / sz < len:=Nat.div_lt_of_lt_mul (by rw [Nat.mul_comm]; exact ab)
    have ax:k % sz < sz:=Nat.mod_lt _ bU
    have ef:k / sz * sz + k % sz=k:=by rw [Nat.mul_comm]; exact Nat.div_add_mod k sz
    obtain ⟨u,qt,la⟩:=fX (k / sz) (k % sz) ad ax
    rw [ef] at qt la
    obtain ⟨arr',afZ,mK,EU,YG,_⟩:=yW qt
    rw [aM] at EU; cases EU
    rw [la,List.getElem?_drop,List.getElem?_map]
    simp [YG]
   have xl:((arr.toList.map (ga W.heap.size)).drop o).take (len * sz)=L.flatten:=by
    refine List.ext_getElem? fun k=> ?_
    rw [List.getElem?_take]
    split
    ·
     rename_i aF; exact ab k aF
    ·
     rw [List.getElem?_eq_none (by omega)]
   have bX:len * sz≠0:=by
    intro aD
    rcases Nat.mul_eq_zero.1 aD with h | h <;> omega
   rw [l5 bX]
   unfold q5
   rw [a4]
   show (cG (len * sz) (co o (arr.toList.map (ga W.heap.size)))).ac (mz false)=_
   rw [dz,fL,if_pos (by have:=congrArg List.length xl; rw [dl,List.length_take] at this; omega),xl]
   show ap (br L.flatten) (some L.flatten) none=_
   have YH:br L.flatten=true:=by
    clear fX pD ht dl nR ab xl
    induction L with
    | nil=>rfl
    | cons c L tp=>rw [List.flatten_cons]; exact RY (iP c (by simp)).1 (tp fun c V=>iP c (by simp [V]))
   rw [YH]; rfl
theorem BZ {t e:TypeId} (bh:P.underlying t=some (.slice e)) {es rs:List (DataW H)} (h:((DataW.slice es rs).weights P t).all (· ≤reachBytes)=true):es.length * P.bytesOf e≤reachBytes /\ ∀d∈es,(d.weights P e).all (· ≤reachBytes)=true:=by
 unfold DataW.weights at h
 rw [bh] at h
 simp only [List.all_cons,List.all_append,Bool.and_eq_true,decide_eq_true_eq] at h
 refine ⟨Nat.le_trans (Nat.mul_le_mul_right _ (Nat.le_add_right _ _)) h.1,?_⟩
 have O:=h.2.1
 clear h
 induction es with
 | nil=>intro d aw; cases aw
 | cons a l aH=>
  unfold DataW.weightsAll at O
  rw [List.all_append,Bool.and_eq_true] at O
  intro d aw
  rcases List.mem_cons.1 aw with rfl | aw
  ·
   exact O.1
  ·
   exact aH O.2 d aw
theorem Iy {bp:List TypeId} {d_:List (DataW H)} (h:(DataW.weightsEach P bp d_).all (· ≤reachBytes)=true):∀(j:Nat) t d,bp[j]? =some t -> d_[j]? =some d -> (d.weights P t).all (· ≤reachBytes)=true:=by
 induction bp generalizing d_ with
 | nil=>intro j t d bh; cases j <;> cases bh
 | cons t0 bp aH=>
  cases d_ with
  | nil=>intro j t d _ aw; cases j <;> cases aw
  | cons d0 d_=>
   unfold DataW.weightsEach at h
   rw [List.all_append,Bool.and_eq_true] at h
   intro j t d bh aw
   cases j with
   | zero=>cases bh; cases aw; exact h.1
   | succ j=>exact aH h.2 j t d bh aw
theorem O' {t:TypeId} {da:Array Field} (bh:P.underlying t=some (.struct da)) {ps:List (DataW H)} (h:((DataW.agg ps).weights P t).all (· ≤reachBytes)=true):(DataW.weightsEach P (da.toList.map (·.type)) ps).all (· ≤reachBytes)=true:=by
 unfold DataW.weights at h
 rw [bh] at h
 exact h
end
end
end Go.az
namespace Go.az
open Go.RowKit Go.ChangeShapes Go.WideShapes Go.ChangeAt
noncomputable section
theorem UL (w:World):Lp (i9 w):=by
 intro a ae
 rw [wk]
 have:w.heap[a]? =none:=by
  rw [Array.getElem?_eq_none_iff]; exact ae
 rw [this]; rfl
theorem aap {E:Env} {f:FuncId} {fD LA:List I} {W:World} (ak:av false gn (i9 W) LA fD) (h:fi E (.func f [] []) LA mw fun v _=>v= .bool true):
 ic E (.func f [] []) fD (i9 W) fun v _=>v= .bool true:=(fi.down rfl h (UL W) ak).mono fun _ _ h=>h.1
end
end Go.az
