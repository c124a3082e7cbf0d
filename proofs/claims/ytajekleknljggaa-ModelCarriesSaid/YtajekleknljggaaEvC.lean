/-
  The evaluator is right about memory, appends and the like. No conditions.
-/
import Derived.Test.YtajekleknljggaaEvB
import Derived.Laws.IdiomStrings
set_option linter.unusedVariables false
set_option linter.unusedSimpArgs false
namespace Go.az
variable {P:Program} {E:Env}
def dk (w:World) (c:Nat) (o:Obj):World:= { w with heap:=w.heap.setIfInBounds c o}
theorem iT (w:World) (c:Nat) (o:Obj) (k:Nat):(dk w c o).heap[k]? =if k=c /\ c < w.heap.size then some o else w.heap[k]? :=by
 unfold dk
 simp only [Array.getElem?_setIfInBounds]
 by_cases h:c=k
 ·
  subst h
  by_cases V:c < w.heap.size <;> simp [V]
 ·
  have:¬k=c:=fun e=>h e.symm
  simp [h,this]
theorem oE (w:World) (c:Nat) (o:Obj):(dk w c o).heap.size=w.heap.size:=by simp [dk]
theorem Bv {w:World} {d:Nat} {arr:Array Value} {e:TypeId} {fz:Nat × Nat} (aM:w.heap[d]? =some (.cells arr e fz)) (o:Obj):
 ∀(c:Nat) (r:Loop),w.heap[c]? =some (Obj.loop r) -> ∃bi:Loop,(dk w d o).heap[c]? =some (Obj.loop bi):=by
 intro c r h
 refine ⟨r,?_⟩
 rw [iT,if_neg,h]
 rintro ⟨rfl,_⟩
 rw [aM] at h; cases h
theorem Pk (w:World) (c:Nat) (o:Obj) (h:w.heap[c]? =some o):dk w c o=w:=by
 unfold dk
 have:w.heap.setIfInBounds c o=w.heap:=by
  apply Array.ext_getElem?
  intro i
  rw [Array.getElem?_setIfInBounds]
  split
  ·
   rename_i J; subst J
   split
   ·
    exact h.symm
   ·
    rename_i O; rw [Array.getElem?_eq_none (by omega)] at h; cases h
  ·
   rfl
 rw [this]
theorem Pl (w:World) (c:Nat) (o o':Obj):dk (dk w c o) c o'=dk w c o':=by
 unfold dk; simp
theorem zc {w:World} {c off:Nat} {arr:Array Value} {e:TypeId} {fz:Nat × Nat} (h:w.heap[c]? =some (.cells arr e fz)):w.cell? ⟨c,off,none⟩=arr[off]? :=by
 simp [World.cell?,h]
theorem Pm {w:World} {c off:Nat} {arr:Array Value} {e:TypeId} {fz:Nat × Nat} (h:w.heap[c]? =some (.cells arr e fz)) (ao:m9 fz arr.size) (aC:off < arr.size):w.frozen? ⟨c,off,none⟩=false:=by
 obtain ⟨bd,ad⟩:=fz
 simp only [World.frozen?,h]
 unfold m9 at ao
 simp only at ao
 rcases ao with ao | ao
 ·
  simp; omega
 ·
  simp; omega
theorem M6 {w:World} {c off:Nat} {arr:Array Value} {e:TypeId} {fz:Nat × Nat} (h:w.heap[c]? =some (.cells arr e fz)) (v:Value):
 w.setCell ⟨c,off,none⟩ v=dk w c (.cells (arr.setIfInBounds off v) e fz):=by
 unfold World.setCell dk
 congr 1
 obtain ⟨aF,ab⟩:=Array.getElem?_eq_some_iff.1 h
 apply Array.ext_getElem?
 intro i
 rw [Array.getElem?_modify,Array.getElem?_setIfInBounds]
 by_cases ad:c=i
 ·
  subst ad; simp [aF,ab]
 ·
  simp [ad]
theorem Pn {w:World} {c off:Nat} {arr:Array Value} {e:TypeId} {fz:Nat × Nat} (h:w.heap[c]? =some (.cells arr e fz)) (ao:m9 fz arr.size) (aC:off < arr.size) {v:Value} (ak:v.oneCell'=true):
 (store ⟨c,off,none⟩ v).run P w= .ok () (dk w c (.cells (arr.setIfInBounds off v) e fz)):=by
 rw [run_store P w _ v _ ak,zc h]
 rw [Array.getElem?_eq_getElem aC]
 simp only [Pm h ao aC,Bool.false_eq_true,if_false]
 rw [M6 h]
theorem A8 {c o:Nat} {e:TypeId} {fz:Nat × Nat}:∀(vs:List Value) (i:Nat) (arr:Array Value) (w:World),w.heap[c]? =some (.cells arr e fz) -> m9 fz arr.size -> o + i + vs.length≤arr.size -> (∀v∈vs,v.oneCell'=true) ->
 (storeCells ⟨c,o,none⟩ vs i).run P w= .ok () (dk w c (.cells (arr.toList.take (o + i) ++ (vs ++ arr.toList.drop (o + i + vs.length))).toArray e fz))
 | [],i,arr,w,h,_,_,_=>by
  simp only [storeCells,List.nil_append,List.length_nil,Nat.add_zero,List.take_append_drop,Array.toArray_toList]
  rw [Pk w c _ h]; rfl
 | v :: rest,i,arr,w,h,ao,ah,J=>by
  simp only [List.length_cons] at ah
  have cq:=Pn (P:=P) h ao (show o + i < arr.size by omega) (J v (by simp))
  have aH:=A8 (o:=o) rest (i + 1) (arr.setIfInBounds (o + i) v) (dk w c (.cells (arr.setIfInBounds (o + i) v) e fz))
   (by rw [iT,if_pos ⟨rfl,(Array.getElem?_eq_some_iff.1 h).1⟩]) (by simpa using ao) (by simp; omega) (fun x R=>J x (by simp [R]))
  simp only [storeCells,Sem.run_bind,kd,cq,Result.andThen_ok,aH,Pl]
  congr 3
  have hlen:o + i < arr.toList.length:=by simp; omega
  have a8:(arr.setIfInBounds (o + i) v).toList=arr.toList.set (o + i) v:=by simp
  rw [a8,show o + (i + 1)=o + i + 1 from rfl,List.take_set,List.drop_set,if_pos (by omega),List.take_succ_eq_append_getElem hlen]
  have xi:min (o + i) arr.size=o + i:=by omega
  simp only [List.length_cons,List.cons_append]
  rw [List.set_append_right _ _ (by simp; omega)]
  simp [xi,Nat.add_assoc,Nat.add_comm 1]
theorem Mv {w:World} {c o:Nat} {arr:Array Value} {e:TypeId} {fz:Nat × Nat} (h:w.heap[c]? =some (.cells arr e fz)) (n:Nat) (ar:o + n≤arr.size):
 (loadCells ⟨c,o,none⟩ n).run P w= .ok ((arr.toList.drop o).take n).toArray w:=by
 have ah:=run_loadCells_list (P:=P) w ⟨c,o,none⟩ ((arr.toList.drop o).take n) (fun j v ak=>by
  rw [kd,zc h]
  rw [List.getElem?_take] at ak
  split at ak
  ·
   simpa using ak
  ·
   cases ak)
 have:((arr.toList.drop o).take n).length=n:=by simp; omega
 rwa [this] at ah
theorem yx (a:Addr) (w:World):(loadCells a 0).run P w= .ok #[] w:=rfl
theorem bM.cells {s:bb} {H:aa} {w:World} (r:bM E s H w) {b d:Nat} {q:List I × TypeId × Bool × Bool} {x:bf} (U:H.m.get b=some x) (aB:kf x=some q) (aw:s.cw b=some d):
 ∃arr fz,w.heap[d]? =some (.cells arr q.2.1 fz) /\ sd q.2.2.2 s q.1 (arr.toList.take q.1.length) /\ q.1.length≤arr.size /\ KY q.2.2.2 fz arr.size /\
  (q.2.2.1=true -> arr.size=q.1.length) /\ (q.2.2.1=false -> arr.size=s.ka b * s.sz b /\ s.sz b=au E q.2.1) /\ (q.2.2.2=true -> im s (arr.toList.drop q.1.length) /\ (fz.1=fz.2∨hX (aU E q.2.1)=true)):=by
 obtain rfl:=pE aB
 exact r.dr b _ d U aw
theorem sm {wr:Bool} {l l':List I} (h:mz wr l=some l'):l=l' /\ (wr=false -> br l=true):=by
 cases wr with
 | true=>cases h; exact ⟨rfl,fun k=>by cases k⟩
 | false=>
  obtain ⟨ao,h⟩:=cd (show ap (br l) (some l) none=some l' from h)
  cases h; exact ⟨rfl,fun _=>ao⟩
theorem F3 {s:bb}:∀ {l:List I} {vs:List Value},vs.length=l.length -> (∀(i:Nat) (v:I),l[i]? =some v -> ∃u,vs[i]? =some u /\ a5 s v=some u) -> bZ s l=some vs
 | [],vs,ah,_=>by
  cases vs with
  | nil=>rfl
  | cons=>simp at ah
 | x :: l,vs,ah,h=>by
  cases vs with
  | nil=>simp at ah
  | cons u vs=>
   obtain ⟨fs,hu,V⟩:=h 0 x rfl
   cases (show some u=some fs from hu)
   exact eO.2 ⟨u,vs,V,F3 (by simpa using ah) (fun i v ak=>h (i + 1) v ak),rfl⟩
theorem BM:∀ {l:List I} {i:Nat} {v:I},br l=true -> l[i]? =some v -> b2 v=true
 | x :: l,i,v,ao,h=>by
  obtain ⟨J,O⟩:b2 x=true /\ br l=true:=by
   have ao:=show ap (b2 x) (br l) false=true from ao
   cases R:b2 x with
   | true=>rw [R] at ao; exact ⟨rfl,ao⟩
   | false=>rw [R] at ao; cases ao
  cases i with
  | zero=>cases h; exact J
  | succ i=>exact BM O h
theorem yK:∀ {l:List I},br l=true -> ∀n,br (l.take n)=true
 | [],_,n=>by cases n <;> rfl
 | x :: l,ao,0=>rfl
 | x :: l,ao,n + 1=>by
  have ao:=show ap (b2 x) (br l) false=true from ao
  cases R:b2 x with
  | true=>
   rw [R] at ao
   show ap (b2 x) (br (l.take n)) false=true
   rw [R]; exact yK ao n
  | false=>rw [R] at ao; cases ao
theorem sd.Vw {wr:Bool} {s:bb} {l r:List I} {vs:List Value} (h:sd wr s l vs) (off n:Nat) (ab:mz wr ((l.drop off).take n)=some r):(l.drop off).take n=r /\ bZ s ((l.drop off).take n)=some ((vs.drop off).take n):=by
 obtain ⟨J,O⟩:=sm ab
 refine ⟨J,?_⟩
 cases wr with
 | true=>exact oB (qZ h off) n
 | false=>
  refine F3 (by simp [h.1]) fun i v ak=> ?_
  have aC:=BM (O rfl) ak
  rw [List.getElem?_take] at ak
  split at ak
  ·
   rename_i k3
   rw [List.getElem?_drop] at ak
   obtain ⟨u,hu,V⟩:=h.2 _ v ak aC
   exact ⟨u,by rw [List.getElem?_take,if_pos k3,List.getElem?_drop]; exact hu,V⟩
  ·
   cases ak
theorem l5 {H:aa} {b off n:Nat} (h:n≠0):bA H b off n=q5 H b off n:=by
 unfold bA
 rw [Bool.eq_false_iff.2 fun k=>h (Nat.eq_of_beq_eq_true k)]; rfl
theorem mW {H:aa} {b off:Nat}:bA H b off 0=some []:=rfl
theorem Mw {H:aa} {b off n:Nat} {l old:List I} {e:TypeId} {x wr:Bool} (U:H.m.get b=some (.cells l e x wr)) (h:bA H b off n=some old):n≤(l.drop off).length /\ old=(l.drop off).take n:=by
 by_cases aD:n=0
 ·
  subst aD
  cases h
  exact ⟨Nat.zero_le _,by simp⟩
 ·
  rw [l5 aD] at h
  unfold q5 at h
  rw [U] at h
  obtain ⟨tO,O,ag⟩:=aO (show (cG n (co off l)).ac (mz wr)=some old from h)
  rw [dz] at O
  obtain ⟨hle,rfl⟩:=oC O
  exact ⟨hle,((sm ag).1).symm⟩
theorem qX {s:bb} {H:aa} {w:World} (r:bM E s H w) {b off n d:Nat} {l:List I} (h:bA H b off n=some l) (aw:s.cw b=some d):
 ∃xs,bZ s l=some xs /\ l.length=n /\ (loadCells ⟨d,off,none⟩ n).run P w= .ok xs.toArray w /\ (∀j v,xs[j]? =some v -> w.cell? ⟨d,off + j,none⟩=some v):=by
 by_cases aD:n=0
 ·
  subst aD
  cases h
  exact ⟨[],rfl,rfl,rfl,fun j v ak=>by cases ak⟩
 rw [l5 aD] at h
 obtain ⟨x,R,J⟩:=aO h
 obtain ⟨q,aB,O⟩:=aO J
 obtain ⟨tO,O,ag⟩:=aO O
 rw [dz] at O
 obtain ⟨hle,rfl⟩:=oC O
 obtain ⟨arr,fz,aM,V,hlen,_,_,_⟩:=r.cells R aB aw
 obtain ⟨rfl,hF⟩:=sd.Vw V off n ag
 rw [List.length_drop] at hle
 have Xs:((q.1.drop off).take n).length=n:=by simp; omega
 by_cases ar:n=0
 ·
  subst ar
  refine ⟨[],by simp [bZ],by simp,rfl,fun j v ak=>by cases ak⟩
 have a8:((arr.toList.take q.1.length).drop off).take n=(arr.toList.drop off).take n:=by
  rw [List.drop_take,List.take_take]; congr 1; omega
 rw [a8] at hF
 refine ⟨_,hF,Xs,Mv aM n (by omega),fun j v ak=> ?_⟩
 rw [zc aM]
 rw [List.getElem?_take] at ak
 split at ak
 ·
  simpa using ak
 ·
  cases ak
theorem NS {s:bb} {H:aa} {w:World} (r:bM E s H w) {b off d:Nat} {a:I} (h:cellAt H b off=some a) (aw:s.cw b=some d):
 ∃v,a5 s a=some v /\ w.cell? ⟨d,off,none⟩=some v:=by
 obtain ⟨x,R,J⟩:=aO h
 obtain ⟨q,aB,O⟩:=aO J
 obtain ⟨cF,O,ag⟩:=aO O
 rw [ke] at O
 obtain ⟨arr,fz,aM,V,hlen,_,_,_⟩:=r.cells R aB aw
 obtain ⟨v,ak,hn⟩:∃v,(arr.toList.take q.1.length)[off]? =some v /\ a5 s a=some v:=by
  generalize q.2.2.2=wr at V ag
  cases wr with
  | true=>cases ag; exact vZ V O
  | false=>
   obtain ⟨aC,ag⟩:=cd (show ap (b2 cF) (some cF) none=some a from ag)
   cases ag
   exact V.2 _ _ O aC
 refine ⟨v,hn,?_⟩
 rw [zc aM]
 rw [List.getElem?_take] at ak
 split at ak
 ·
  simpa using ak
 ·
  cases ak
theorem GG (a1:cU E P) {s:bb} {H:aa} {w:World} (r:bM E s H w) {t:TypeId} {b off d:Nat} {a:I} (h:dw E H t b off=some a) (aw:s.cw b=some d):
 ∃v,a5 s a=some v /\ (loadVar t ⟨d,off,none⟩).run P w= .ok v w:=by
 unfold dw rp at h
 cases ad:E.ty t with
 | none=>rw [ad] at h; cases h
 | some i=>
  rw [ad] at h
  obtain ⟨j7,mH,ae⟩:=a1.agg ad
  have aG:=a1.au ad w
  have bm:az.au E t=i.size:=by simp [az.au,ad]
  rw [bm] at aG
  simp only at h
  cases hE:i.agg with
  | true=>
   rw [hE] at h
   obtain ⟨l,ah,rfl⟩:=bB (show (bA H b off i.size).omap I.agg=some a from h)
   obtain ⟨xs,eS,_,b9,_⟩:=qX (P:=P) r ah aw
   refine ⟨.agg xs.toArray,by simp [a5,eS],?_⟩
   simp only [loadVar,Sem.run_bind,v5 mH,Result.andThen_ok]
   rw [<- ae,hE]
   simp [aG,b9]
  | false=>
   rw [hE] at h
   obtain ⟨v,ak,gW⟩:=NS r (show cellAt H b off=some a from h) aw
   refine ⟨v,ak,?_⟩
   simp only [loadVar,Sem.run_bind,v5 mH,Result.andThen_ok]
   rw [<- ae,hE]
   simp [gW]
theorem bM.put {s:bb} {H:aa} {w:World} (r:bM E s H w) {b d:Nat} {l l':List I} {e:TypeId} {x:Bool} {arr arr':Array Value} {fz:Nat × Nat}
 (U:H.m.get b=some (.cells l e x true)) (aw:s.cw b=some d) (aM:w.heap[d]? =some (.cells arr e fz)) (ao:m9 fz arr.size) (bm:arr'.size=arr.size)
 (g0:x=true -> arr.size=l.length) (gN:x=false -> arr.size=s.ka b * s.sz b /\ s.sz b=au E e)
 (ah:l'.length=l.length) (hle:l.length≤arr.size) (ax:im s (arr'.toList.drop l'.length) /\ (fz.1=fz.2∨hX (aU E e)=true)) (V:bZ s l'=some (arr'.toList.take l'.length)):
 bM E s (aN H b (.cells l' e x true)) (dk w d (.cells arr' e fz)) /\ Ext s H w s (aN H b (.cells l' e x true)) (dk w d (.cells arr' e fz)):=by
 have rD:=(Array.getElem?_eq_some_iff.1 aM).1
 have cp:∀a,(aN H b (.cells l' e x true)).m.get a=if a=b then some (.cells l' e x true) else H.m.get a:=fun a=>bz.jo _ _ _ _
 have rQ:b < H.next:=by
  rcases Nat.lt_or_ge b H.next with h | h
  ·
   exact h
  ·
   rw [(r.fr b h).1] at aw; cases aw
 constructor
 ·
  refine ⟨?_,?_,?_,?_⟩
  ·
   intro a y c ae b7
   rw [cp] at ae
   split at ae
   ·
    rename_i he; subst he
    cases ae
    rw [aw] at b7; cases b7
    exact ⟨arr',fz,by rw [iT,if_pos ⟨rfl,rD⟩],V,by omega,by rw [bm]; exact ao,fun h=>by rw [bm,g0 h,ah],fun h=>by rw [bm]; exact gN h,fun _=>ax⟩
   ·
    rename_i bX
    have bw:c≠d∨y= .dead:=by
     by_cases aj:isLive y
     ·
      left
      intro bk; subst bk
      exact bX (r.inj b _ a y _ U rfl ae aj aw b7).symm
     ·
      right
      cases y <;> first | rfl | exact absurd trivial aj
    have aD:=r.dr a y c ae b7
    rcases bw with bw | rfl
    ·
     have ab:(dk w d (.cells arr' e fz)).heap[c]? =w.heap[c]? :=by rw [iT,if_neg (fun h=>bw h.1)]
     cases y with
     | cells=>obtain ⟨fq,eM,J,O⟩:=aD; exact ⟨fq,eM,ab.trans J,O⟩
     | loop=>obtain ⟨fq,eM,J,O⟩:=aD; exact ⟨fq,eM,ab.trans J,O⟩
     | dead=>trivial
    ·
     trivial
  ·
   intro a y cF ch c ae aC cT h5 dS hF
   rw [cp] at ae cT
   have J:∃z,H.m.get a=some z /\ m5 z:=by
    split at ae
    ·
     rename_i he; subst he; exact ⟨_,U,rfl⟩
    ·
     exact ⟨y,ae,aC⟩
   have O:∃z,H.m.get cF=some z /\ isLive z:=by
    split at cT
    ·
     rename_i he; subst he; exact ⟨_,U,trivial⟩
    ·
     exact ⟨ch,cT,h5⟩
   obtain ⟨z,ai,EE⟩:=J
   obtain ⟨kJ,fA,DM⟩:=O
   exact r.inj a z cF kJ c ai EE fA DM dS hF
  ·
   intro a c b7; rw [oE]; exact r.lt a c b7
  ·
   intro a ae
   refine ⟨(r.fr a ae).1,?_⟩
   rw [cp,if_neg (by have:H.next≤a:=ae; omega)]
   exact (r.fr a ae).2
 ·
  refine ⟨Nat.le_refl _,fun _ _=>⟨rfl,rfl,rfl⟩,by rw [oE]; exact Nat.le_refl _,rfl,rfl,rfl,?_,?_,?_,Bv aM _⟩
  ·
   intro c _ ar
   rw [iT,if_neg (fun h=>ar b _ U rfl (by rw [h.1]; exact aw))]
  ·
   intro a y c ae aC b7 _
   rw [cp] at ae
   split at ae
   ·
    rename_i he; subst he; exact ⟨_,_,U,rfl,b7⟩
   ·
    exact ⟨a,y,ae,aC,b7⟩
  ·
   intro a y c ae aC b7 _
   rw [cp] at ae
   split at ae
   ·
    rename_i he; subst he; exact ⟨_,_,U,trivial,b7⟩
   ·
    exact ⟨a,y,ae,aC,b7⟩
end Go.az
namespace Go.az
variable {P:Program} {E:Env}
theorem Po {s:bb} {a:I} {v:Value} (h:b2 a=true) (V:a5 s a=some v):v.oneCell'=true:=by
 cases a with
 | agg l=>cases h
 | tuple l=>cases h
 | ptr b o=>obtain ⟨_,_,rfl⟩:=m0 V; rfl
 | slice b o n c=>obtain ⟨_,_,_,rfl,_⟩:=l7 V; rfl
 | func f a c=>obtain ⟨_,_,_,_,rfl⟩:=q2 V; rfl
 | yield l=>obtain ⟨d,_,rfl⟩:=map_some (show (s.cw l).map _=some v from V); rfl
 | iface t x=>simp only [a5] at V; obtain ⟨y,_,rfl⟩:=map_some V; rfl
 | aJ _ _=>cases V
 | c9 _ _=>cases V
 | _=>cases V; rfl
theorem t6 (x:I) (l:List I):br (x :: l)=ap (b2 x) (br l) false:=rfl
theorem Bw {s:bb}:∀ {l:List I} {vs:List Value},br l=true -> bZ s l=some vs -> ∀v∈vs,v.oneCell'=true
 | [],vs,_,h,v,ak=>by cases h; cases ak
 | x :: l,vs,ao,h,v,ak=>by
  rw [t6] at ao
  obtain ⟨y,r,aj,af,rfl⟩:=eO.1 h
  cases aC:b2 x with
  | false=>rw [aC] at ao; cases ao
  | true=>
   rw [aC] at ao
   rcases List.mem_cons.1 ak with rfl | ak
   ·
    exact Po aC aj
   ·
    exact Bw ao af v ak
theorem Mx {H H':aa} {b off:Nat} {new:List I} (h:bT H b off new=some H'):
 ∃l e x l',H.m.get b=some (.cells l e x true) /\ br new=true /\ dC new off l=some l' /\ H'=aN H b (.cells l' e x true):=by
 obtain ⟨y,aj,J⟩:=aO h
 obtain ⟨q,aB,O⟩:=aO J
 obtain rfl:=pE aB
 unfold Dl at O
 obtain ⟨hw,ag⟩:=cd O
 obtain ⟨ao,aP⟩:=cd ag
 obtain ⟨l',ah,rfl⟩:=bB aP
 obtain ⟨l,e,x,w⟩:=q
 simp only at hw; subst hw
 exact ⟨l,e,x,l',aj,ao,ah,rfl⟩
theorem NT (a b c:List Value) (n:Nat) (h:a.length + b.length≤n):(a ++ (b ++ c)).take n=a ++ (b ++ c.take (n - (a.length + b.length))):=by
 rw [<- List.append_assoc,List.take_append,List.take_of_length_le (l:=a ++ b) (by simp; omega)]
 simp [List.append_assoc]
theorem GH (a v:List Value) (o n:Nat) (h:o + v.length≤n) (aC:o≤a.length):(a.take o ++ (v ++ a.drop (o + v.length))).drop n=a.drop n:=by
 have J:(a.take o ++ (v ++ a.drop (o + v.length)))=((a.take o ++ v) ++ a.drop (o + v.length)):=by simp
 have O:(a.take o ++ v).length=o + v.length:=by simp; omega
 rw [J,List.drop_append,List.drop_eq_nil_of_le (by omega),List.nil_append,List.drop_drop,O]
 congr 1; omega
theorem vO {s:bb} {H H':aa} {w:World} (r:bM E s H w) {b off d:Nat} {new:List I} {vs:List Value} (h:bT H b off new=some H') (aw:s.cw b=some d) (ak:bZ s new=some vs):
 ∃w',(storeCells ⟨d,off,none⟩ vs).run P w= .ok () w' /\ bM E s H' w' /\ Ext s H w s H' w':=by
 obtain ⟨l,e,x,l',U,ao,aG,rfl⟩:=Mx h
 obtain ⟨arr,fz,aM,V,hlen,e3,g0,gN,ax⟩:=r.dr b _ d U aw
 obtain ⟨hle,cP⟩:=GF aG ak V
 have cC:=G9 aG
 have Ao:=hW ak
 have fm:l'.length=l.length:=by rw [cC.2]; simp; omega
 have ew:(arr.toList.take l.length).length=l.length:=by simp; omega
 rw [ew] at hle
 refine ⟨_,A8 (P:=P) vs 0 arr w aM e3 (by omega) (Bw ao ak),?_⟩
 have bm:(arr.toList.take (off + 0) ++ (vs ++ arr.toList.drop (off + 0 + vs.length))).toArray.size=arr.size:=by simp; omega
 refine bM.put r U aw aM e3 bm g0 gN fm hlen (by
  have:=GH arr.toList vs off l.length (by omega) (by simp; omega)
  rw [fm]
  simp only [Nat.add_zero]
  rw [this]
  exact ax rfl) ?_
 rw [cP,fm]
 congr 1
 simp only [Nat.add_zero]
 rw [List.take_take,Nat.min_eq_left (by omega)]
 have t1:(arr.toList.take off).length=off:=by simp; omega
 have a8:=NT (arr.toList.take off) vs (arr.toList.drop (off + vs.length)) l.length (by rw [t1]; exact hle)
 rw [a8,t1,List.drop_take]
def cj (s:bb) (id c ka sz:Nat):bb:= { cw:=fun a=>if a=id then some c else s.cw a,ka:=fun a=>if a=id then ka else s.ka a,sz:=fun a=>if a=id then sz else s.sz a}
theorem hf (s:bb) (id c ka sz:Nat):(cj s id c ka sz).cw id=some c:=by simp [cj]
theorem pQ {s:bb} {id c ka sz:Nat} (h:s.cw id=none):s.gi (cj s id c ka sz):=by
 intro a d aw
 have:a≠id:=fun e=>by rw [e,h] at aw; cases aw
 simp [cj,this,aw]
def eH (w:World) (o:Obj):World:= { w with heap:=w.heap.push o}
theorem sn (w:World) (o:Obj) (k:Nat) (h:k < w.heap.size):(eH w o).heap[k]? =w.heap[k]? :=by
 unfold eH; simp [Array.getElem?_push,Nat.ne_of_lt h]
theorem v8 (w:World) (o:Obj):(eH w o).heap[w.heap.size]? =some o:=by unfold eH; simp
theorem bM.lay {s:bb} {H:aa} {w:World} (r:bM E s H w) {id ka sz:Nat} {x:bf} {o:Obj} (hm:s.cw id=none) (U:∀y,H.m.get id=some y -> y=x) (ar:id < (aN H id x).next)
 (R:kp E (cj s id w.heap.size ka sz) id w.heap.size (eH w o) x):bM E (cj s id w.heap.size ka sz) (aN H id x) (eH w o):=by
 have hle:s.gi (cj s id w.heap.size ka sz):=pQ hm
 have cp:∀a,(aN H id x).m.get a=if a=id then some x else H.m.get a:=fun a=>bz.jo _ _ _ _
 refine ⟨?_,?_,?_,?_⟩
 ·
  intro a y c ae V
  rw [cp] at ae
  split at ae
  ·
   rename_i he; subst he
   cases ae
   simp only [hf,Option.some.injEq] at V
   subst V
   exact R
  ·
   rename_i bX
   have b7:s.cw a=some c:=by simpa [cj,bX] using V
   have aF:=r.lt a c b7
   have aD:=r.dr a y c ae b7
   cases y with
   | cells l e ex wr=>
    obtain ⟨arr,fz,J,O,ag,aP,bH,eC,fd⟩:=aD
    exact ⟨arr,fz,(sn w o c aF).trans J,O.mono hle,ag,aP,bH,by simpa [cj,bX] using eC,fd⟩
   | loop=>
    obtain ⟨ct,D,J,O,ag⟩:=aD
    exact ⟨ct,D,(sn w o c aF).trans J,O.mono hle,ag⟩
   | dead=>trivial
 ·
  intro a y cF ch c ae aC cT h5 V b7
  rw [cp] at ae cT
  by_cases a8:a=id
  ·
   by_cases bk:cF=id
   ·
    rw [a8,bk]
   ·
    subst a8
    simp only [hf,Option.some.injEq] at V
    have O:s.cw cF=some c:=by simpa [cj,bk] using b7
    have:=r.lt cF c O
    omega
  ·
   by_cases bk:cF=id
   ·
    subst bk
    simp only [hf,Option.some.injEq] at b7
    have O:s.cw a=some c:=by simpa [cj,a8] using V
    have:=r.lt a c O
    omega
   ·
    rw [if_neg a8] at ae
    rw [if_neg bk] at cT
    exact r.inj a y cF ch c ae aC cT h5 (by simpa [cj,a8] using V) (by simpa [cj,bk] using b7)
 ·
  intro a c V
  by_cases a8:a=id
  ·
   subst a8
   simp only [hf,Option.some.injEq] at V
   simp [eH]; omega
  ·
   have:=r.lt a c (by simpa [cj,a8] using V)
   simp [eH]; omega
 ·
  intro a ae
  have cT:H.next≤a:=ae
  have bX:a≠id:=by
   have:id < H.next:=ar
   omega
  refine ⟨by simpa [cj,bX] using (r.fr a cT).1,?_⟩
  rw [cp,if_neg bX]; exact (r.fr a cT).2
theorem bM.new {s:bb} {H:aa} {w:World} (r:bM E s H w) {ka sz:Nat} {x:bf} {o:Obj}
 (R:kp E (cj s H.next w.heap.size ka sz) H.next w.heap.size (eH w o) x):
 bM E (cj s H.next w.heap.size ka sz) (aS H x).2 (eH w o) /\ Ext s H w (cj s H.next w.heap.size ka sz) (aS H x).2 (eH w o):=by
 have bi:bM E s { H with next:=H.next + 1} w:=⟨r.dr,r.inj,r.lt,fun a ae=>r.fr a (by have:H.next + 1≤a:=ae; omega)⟩
 have eg:=r.fr H.next (Nat.le_refl _)
 have zY:=bi.lay (id:=H.next) (ka:=ka) (sz:=sz) (x:=x) (o:=o) eg.1 (fun y aj=>by rw [show ({ H with next:=H.next + 1}:aa).m.get H.next=H.m.get H.next from rfl,eg.2] at aj; cases aj) (Nat.lt_succ_self _) R
 refine ⟨zY,?_⟩
 refine ⟨Nat.le_succ _,?_,by simp [eH],rfl,rfl,rfl,fun c V _=>sn w o c V,?_,?_,fun c r h=>⟨r,(sn w o c (Array.getElem?_eq_some_iff.1 h).1).trans h⟩⟩
 ·
  intro a ae
  have bX:a≠H.next:=by omega
  simp [cj,bX]
 ·
  intro a y c ae aC V aF
  have cp:(aS H x).2.m.get a=if a=H.next then some x else H.m.get a:=bz.jo _ _ _ _
  rw [cp] at ae
  by_cases a8:a=H.next
  ·
   subst a8
   simp only [hf,Option.some.injEq] at V
   omega
  ·
   rw [if_neg a8] at ae
   exact ⟨a,y,ae,aC,by simpa [cj,a8] using V⟩
 ·
  intro a y c ae aC V aF
  have cp:(aS H x).2.m.get a=if a=H.next then some x else H.m.get a:=bz.jo _ _ _ _
  rw [cp] at ae
  by_cases a8:a=H.next
  ·
   subst a8
   simp only [hf,Option.some.injEq] at V
   omega
  ·
   rw [if_neg a8] at ae
   exact ⟨a,y,ae,aC,by simpa [cj,a8] using V⟩
end Go.az
namespace Go.az
variable {P:Program} {E:Env}
theorem bM.congr {s:bb} {H:aa} {w w':World} (r:bM E s H w) (h:w'.heap=w.heap):bM E s H w':=by
 refine ⟨fun a x c ae V=> ?_,r.inj,fun a c V=>by rw [h]; exact r.lt a c V,r.fr⟩
 have aD:=r.dr a x c ae V
 cases x with
 | cells=>obtain ⟨fq,eM,J,O⟩:=aD; exact ⟨fq,eM,by rw [h]; exact J,O⟩
 | loop=>obtain ⟨fq,eM,J,O⟩:=aD; exact ⟨fq,eM,by rw [h]; exact J,O⟩
 | dead=>trivial
def jR (w:World):World:= { w with drawn:=w.drawn + 1}
theorem Ext.drew (s:bb) (H:aa) (w:World):Ext s H w s H (jR w):=
 ⟨Nat.le_refl _,fun _ _=>⟨rfl,rfl,rfl⟩,Nat.le_refl _,rfl,rfl,rfl,fun _ _ _=>rfl,fun a x _ h o m _=>⟨a,x,h,o,m⟩,fun a x _ h o m _=>⟨a,x,h,o,m⟩,fun _ r h=>⟨r,h⟩⟩
theorem G' (uy:Nat):∀(r c:Nat),c≤uy + (uy + 768) / 4 -> Builtin.growBy uy r c≤uy + (uy + 768) / 4
 | 0,c,h=>h
 | r + 1,c,h=>by
  unfold Builtin.growBy
  split
  ·
   exact h
  ·
   rename_i aF
   exact G' uy r _ (by omega)
theorem NU {need old:Nat} (h:old < need):Builtin.nextslicecap need old≤2 * need + 200:=by
 unfold Builtin.nextslicecap
 split
 ·
  omega
 ·
  split
  ·
   omega
  ·
   have:=G' need 4 old (by omega)
   omega
open Builtin in
def me (elem:TypeId) (size:Nat) (s:Value) (base:Option Addr) (dg sCap:Nat) (zeros:Bool) (n:Nat) (x:Value) (appended:Sem (Array Value)):Sem Value:=do
 let need:=dg + n
 if need≤sCap then
  let new <- appended
  if let some a:=base then storeCells (a.add (dg * size)) new.toList
  pure (.slice base need sCap)
 else
  if (need:Int) > IntKind.i64.max /\ (zeros∨(<- typeInfo elem).bytes=0) then runtimePanic (.error "growslice: len out of range")
  if nextslicecap need sCap * (<- typeInfo elem).bytes > 2 ^ 48 then (if zeros then runtimePanic (.error "growslice: len out of range") else do
   if !(<- mayShare size dg n base x) then mark .noRoom
   unsupported (.resourceLimit "append: a slice or a string whose bytes no memory bears"))
  let pW <- choose (.appendCap need sCap elem)
  askRoom (pW * (<- typeInfo elem).bytes)
  let old <- firstCells size dg s
  let new <- appended
  let rest:=zeroCells (<- zeroValue elem).cells (pW - need)
  pure (.slice (some (<- newRow elem (old ++ new ++ rest))) need pW)
theorem Ba {elem:TypeId} {size:Nat} {s:Value} {a:Addr} {dg sCap n:Nat} {zeros:Bool} {x:Value} {appended:Sem (Array Value)} {news:List Value} {w w':World} (h:dg + n≤sCap)
 (hT:appended.run P w= .ok news.toArray w) (cq:(storeCells (a.add (dg * size)) news).run P w= .ok () w'):
 (me elem size s (some a) dg sCap zeros n x appended).run P w= .ok (.slice (some a) (dg + n) sCap) w':=by
 simp only [me,Sem.run_ite,if_pos h,Sem.run_bind,hT,Result.andThen_ok,cq,Sem.run_pure]
theorem HR:∀ {l:List I} {vs:List Value} {v:Value},(∀s,bZ s l=some vs) -> v∈vs -> ∃a,∀s,a5 s a=some v
 | [],_,_,h,ak=>by cases h ⟨fun _=>none,fun _=>0,fun _=>0⟩; cases ak
 | x :: l,_,v,h,ak=>by
  obtain ⟨y,r,J,O,rfl⟩:=eO.1 (h ⟨fun _=>none,fun _=>0,fun _=>0⟩)
  have ag:∀s,a5 s x=some y /\ bZ s l=some r:=fun s=>by
   obtain ⟨ch,bi,bc,a9,e⟩:=eO.1 (h s)
   cases e; exact ⟨bc,a9⟩
  rcases List.mem_cons.1 ak with rfl | ak
  ·
   exact ⟨x,fun s=>(ag s).1⟩
  ·
   exact HR (fun s=>(ag s).2) ak
theorem MI {elem:TypeId} {size:Nat} {s:Value} {base:Option Addr} {dg sCap n:Nat} {zeros:Bool} {x:Value} {appended:Sem (Array Value)} {news olds:List Value} {w:World} {i:kI} (a1:cU E P)
 (ad:E.ty elem=some i) (a4:mj E elem (dg + n)=true) (h:sCap < dg + n)
 (hT:∀w':World,w'.heap=w.heap -> appended.run P w'= .ok news.toArray w') (hold:∀w':World,w'.heap=w.heap -> (Builtin.firstCells size dg s).run P w'= .ok olds.toArray w'):
 ∃pW rest,dg + n≤pW /\ rest.size=(pW - (dg + n)) * i.size /\ (∀s,im s rest.toList) /\
  (me elem size s base dg sCap zeros n x appended).run P w= .ok (.slice (some ⟨w.heap.size,0,none⟩) (dg + n) pW) (eH (jR w) (.cells ((olds ++ news).toArray ++ rest) elem)):=by
 obtain ⟨j,ax,bm,k_,ai⟩:=a1.info ad
 unfold mj at a4
 rw [ad] at a4
 simp only at a4
 cases r0:i.zero with
 | none=>rw [r0] at a4; cases a4
 | some z=>
  rw [r0] at a4
  simp only [Bool.and_eq_true,de,cZ] at a4
  obtain ⟨JE,zo,bU⟩:=a4
  obtain ⟨fH,jE,hb,gf⟩:=ai z r0
  have aaw:fH.cells.size=i.size:=by
   have J:=hW (qV (hb ⟨fun _=>none,fun _=>0,fun _=>0⟩))
   rw [<- gf,<- J]; simp
  have b9:(me elem size s base dg sCap zeros n x appended).run P w= .ok (.slice (some ⟨w.heap.size,0,none⟩) (dg + n) (dg + n + w.tape w.drawn (.appendCap (dg + n) sCap elem) % (2 ^ 63 - (dg + n))))
   (eH (jR w) (.cells ((olds ++ news).toArray ++ Builtin.zeroCells fH.cells (dg + n + w.tape w.drawn (.appendCap (dg + n) sCap elem) % (2 ^ 63 - (dg + n)) - (dg + n))) elem)):=by
   have hmul:Builtin.nextslicecap (dg + n) sCap * j.bytes≤2 ^ 48:=by
    have J:=NU h
    have O:Builtin.nextslicecap (dg + n) sCap * j.bytes≤(2 * (dg + n) + 200) * j.bytes:=Nat.mul_le_mul_right _ J
    have zo:(2 * (dg + n) + 200) * i.bytes≤281474976710656:=zo
    rw [<- k_] at zo
    exact Nat.le_trans O (Nat.le_trans zo (by decide))
   have aax:¬((dg + n:Nat):Int) > IntKind.i64.max:=by simp [IntKind.max,IntKind.signed,IntKind.bits]; omega
   simp only [me,Sem.run_ite,if_neg (show ¬dg + n≤sCap by omega),Sem.run_bind,wg ax,Result.andThen_ok]
   rw [if_neg (fun k=>aax k.1)]
   simp only [Sem.run_pure,Result.andThen_ok]
   rw [if_neg (by omega)]
   simp only [Sem.run_pure,Result.andThen_ok,run_choose,Question.forced,Bool.false_eq_true,if_false,Question.cut,run_askRoom]
   have hw:({ w with drawn:=w.drawn + 1}:World)=jR w:=rfl
   rw [hw]
   simp only [wg ax,Result.andThen_ok,run_askRoom,hold (jR w) rfl,hT (jR w) rfl,oG ax jE,newRow,Sem.run_bind,run_newObj,Sem.run_pure,List.append_toArray]
   rfl
  refine ⟨_,_,Nat.le_add_right _ _,by simp [Builtin.zeroCells,aaw],fun s=> ?_,b9⟩
  refine im.of fun v ak=> ?_
  have mJ:=fun s=>qV (hb s)
  simp only [Builtin.zeroCells,Array.toList_map,List.mem_map] at ak
  obtain ⟨k,_,rfl⟩:=ak
  have ab:k % fH.cells.size < fH.cells.size:=Nat.mod_lt _ (by omega)
  rw [getElem!_pos fH.cells _ ab]
  exact HR mJ (by simp)
end Go.az
namespace Go.az
variable {P:Program} {E:Env}
theorem bM.C0 {s:bb} {H:aa} {w:World} (r:bM E s H w) {b d:Nat} (aw:s.cw b=some d):b < H.next:=by
 rcases Nat.lt_or_ge b H.next with h | h
 ·
  exact h
 ·
  rw [(r.fr b h).1] at aw; cases aw
theorem bM.kill {s:bb} {H:aa} {w:World} (r:bM E s H w) {b:Nat} (U:b < H.next):
 bM E s (aN H b .dead) w /\ Ext s H w s (aN H b .dead) w:=by
 have cp:∀a,(aN H b .dead).m.get a=if a=b then some .dead else H.m.get a:=fun a=>bz.jo _ _ _ _
 refine ⟨⟨?_,?_,r.lt,?_⟩,⟨Nat.le_refl _,fun _ _=>⟨rfl,rfl,rfl⟩,Nat.le_refl _,rfl,rfl,rfl,fun _ _ _=>rfl,?_,?_,fun _ r h=>⟨r,h⟩⟩⟩
 ·
  intro a x c ae V
  rw [cp] at ae
  split at ae
  ·
   cases ae; trivial
  ·
   exact r.dr a x c ae V
 ·
  intro a x cF x' c ae aC cT h5 V b7
  rw [cp] at ae cT
  split at ae
  ·
   cases ae; cases aC
  ·
   split at cT
   ·
    cases cT; cases h5
   ·
    exact r.inj a x cF x' c ae aC cT h5 V b7
 ·
  intro a ae
  have cT:H.next≤a:=ae
  refine ⟨(r.fr a cT).1,?_⟩
  rw [cp,if_neg (by omega)]; exact (r.fr a cT).2
 ·
  intro a x c ae aC V _
  rw [cp] at ae
  split at ae
  ·
   cases ae; cases aC
  ·
   exact ⟨a,x,ae,aC,V⟩
 ·
  intro a x c ae aC V _
  rw [cp] at ae
  split at ae
  ·
   cases ae; cases aC
  ·
   exact ⟨a,x,ae,aC,V⟩
theorem Gn {H H':aa} {e:TypeId} {need:Nat} {l:List I} {v:I} (h:dA E H e need l=some (v,H')):
 mj E e need=true /\ v= .slice H.next 0 need (.rest 0 (au E e) need) /\ H'=(aS H (.cells l e false true)).2:=by
 obtain ⟨J,O⟩:=cd h
 cases O; exact ⟨J,rfl,rfl⟩
theorem Pp {e:TypeId} {need:Nat} (h:mj E e need=true):∃i,E.ty e=some i /\ 0 < i.size:=by
 unfold mj at h
 cases ad:E.ty e with
 | none=>rw [ad] at h; cases h
 | some i=>
  rw [ad] at h
  simp only at h
  cases ai:i.zero with
  | none=>rw [ai] at h; cases h
  | some z=>
   rw [ai] at h
   simp only [Bool.and_eq_true,de,cZ] at h
   exact ⟨i,rfl,h.2.2⟩
theorem Vx {s:bb} {H:aa} {w:World} (r:bM E s H w) {e:TypeId} {i:kI} (ad:E.ty e=some i) {l:List I} {xs:List Value} {rest:Array Value} {k n:Nat} (ab:n≤k)
 (ah:bZ s l=some xs) (ar:l.length=n * i.size) (af:rest.size=(k - n) * i.size) (ax:∀s,im s rest.toList) {fz:Nat × Nat} (e3:m9 fz (xs.toArray ++ rest).size) (EF:fz.1=fz.2):
 bM E (cj s H.next w.heap.size k i.size) (aS H (.cells l e false true)).2 (eH w (.cells (xs.toArray ++ rest) e fz)) /\
 Ext s H w (cj s H.next w.heap.size k i.size) (aS H (.cells l e false true)).2 (eH w (.cells (xs.toArray ++ rest) e fz)):=by
 have k8:=hW ah
 refine bM.new r ⟨_,fz,v8 _ _,?_,?_,e3,?_,?_,fun _=> ?_⟩
 ·
  show bZ _ _=_
  rw [nw (pQ (r.fr H.next (Nat.le_refl _)).1) _ _ ah]
  congr 1
  simp [<- k8]
 ·
  simp; omega
 ·
  intro h; cases h
 ·
  intro _
  refine ⟨?_,?_⟩
  ·
   simp only [Array.size_append,List.size_toArray,af,k8,ar,cj,if_pos]
   rw [<- Nat.add_mul]; congr 1; omega
  ·
   simp [cj,au,ad]
 ·
  have:=ax (cj s H.next w.heap.size k i.size)
  exact ⟨by simpa [<- k8] using this,.inl EF⟩
theorem wh (a1:cU E P) {s:bb} {H H':aa} {w:World} (r:bM E s H w) {e:TypeId} {cs:Value} {base:Option Addr} {dg sCap n:Nat} {zeros:Bool} {x:Value} {appended:Sem (Array Value)}
 {new old:List I} {news olds:List Value} {v:I} {need:Nat} (JE:need=dg + n) (h:dA E H e need (old ++ new)=some (v,H')) (o1:sCap < dg + n)
 (ar:bZ s new=some news) (aC:bZ s old=some olds) (lR:new.length=n * au E e) (lS:old.length=dg * au E e)
 (hT:∀w':World,w'.heap=w.heap -> appended.run P w'= .ok news.toArray w') (hold:∀w':World,w'.heap=w.heap -> (Builtin.firstCells (au E e) dg cs).run P w'= .ok olds.toArray w'):
 ∃s' w' c,(me e (au E e) cs base dg sCap zeros n x appended).run P w= .ok c w' /\ a5 s' v=some c /\ bM E s' H' w' /\ Ext s H w s' H' w':=by
 subst JE
 obtain ⟨a4,rfl,rfl⟩:=Gn h
 obtain ⟨i,ad,bU⟩:=Pp a4
 have bm:au E e=i.size:=by simp [au,ad]
 rw [bm] at lR lS hold ⊢
 obtain ⟨pW,rest,hle,r1,u1,b9⟩:=MI (size:=i.size) (zeros:=zeros) (base:=base) (x:=x) a1 ad a4 o1 hT hold
 have bi:bM E s H (jR w):=r.congr rfl
 have lP:bZ s (old ++ new)=some (olds ++ news):=nu.2 ⟨_,_,aC,ar,rfl⟩
 obtain ⟨ck,dL⟩:=Vx bi ad (k:=pW) (n:=dg + n) (rest:=rest) hle lP (by rw [List.length_append,lR,lS,<- Nat.add_mul]) r1 u1 (fz:=(0,0)) (.inl rfl) rfl
 refine ⟨_,_,_,b9,?_,ck,(Ext.drew s H w).trans dL⟩
 simp only [a5,dB]
 rw [if_pos ⟨Nat.le_refl _,by simp [cj]; omega,by simp,by simp [cj]⟩,hf]
 simp [cj]; rfl
theorem NV {a b c:Nat} (h:a * c≤b * c) (V:0 < c):a≤b:=Nat.le_of_mul_le_mul_right h V
theorem M7 {x:bf} {p:List I × TypeId} (h:ownRow x=some p):x= .cells p.1 p.2 false true:=by
 obtain ⟨c,V,J⟩:=aO h
 obtain rfl:=pE V
 obtain ⟨l,e,ex,wr⟩:=c
 simp only at J ⊢
 cases ex with
 | true=>cases J
 | false=>
  obtain ⟨hw,O⟩:=cd (show ap wr (some (l,e)) none=some p from J)
  cases O; subst hw; rfl
theorem IE {s:bb} {w w':World} (w2:∀c,c < w.heap.size -> w'.heap[c]? =w.heap[c]?) {s':bb} (hle:s.gi s') {a c:Nat} (aF:c < w.heap.size) (xL:s'.ka a=s.ka a) (bm:s'.sz a=s.sz a) {x:bf} (h:kp E s a c w x):kp E s' a c w' x:=by
 cases x with
 | cells l e ex wr=>
  obtain ⟨arr,fz,J,O,ag,aP,bH,eC,fd⟩:=h
  exact ⟨arr,fz,(w2 c aF).trans J,O.mono hle,ag,aP,bH,by rw [xL,bm]; exact eC,fd⟩
 | loop=>
  obtain ⟨ct,D,J,O,ag⟩:=h
  exact ⟨ct,D,(w2 c aF).trans J,O.mono hle,ag⟩
 | dead=>trivial
theorem bM.hand {s:bb} {H:aa} {w:World} (r:bM E s H w) {b d:Nat} {l l':List I} {e:TypeId} {arr arr':Array Value} {fz:Nat × Nat}
 (U:H.m.get b=some (.cells l e false true)) (aw:s.cw b=some d) (aM:w.heap[d]? =some (.cells arr e fz)) (ao:m9 fz arr.size) (bm:arr'.size=arr.size)
 (gN:arr.size=s.ka b * s.sz b /\ s.sz b=au E e)
 (hle:l'.length≤arr.size) (ax:im s (arr'.toList.drop l'.length) /\ (fz.1=fz.2∨hX (aU E e)=true)) (V:bZ s l'=some (arr'.toList.take l'.length)):
 bM E (cj s H.next d (s.ka b) (s.sz b)) (aN (aS H (.cells l' e false true)).2 b .dead) (dk w d (.cells arr' e fz)) /\
 Ext s H w (cj s H.next d (s.ka b) (s.sz b)) (aN (aS H (.cells l' e false true)).2 b .dead) (dk w d (.cells arr' e fz)):=by
 have rD:=(Array.getElem?_eq_some_iff.1 aM).1
 have rQ:=r.C0 aw
 have eg:=r.fr H.next (Nat.le_refl _)
 have g':s.gi (cj s H.next d (s.ka b) (s.sz b)):=pQ eg.1
 have cp:∀a,(aN (aS H (.cells l' e false true)).2 b .dead).m.get a=if a=b then some .dead else if a=H.next then some (.cells l' e false true) else H.m.get a:=fun a=>by
  show ((H.m.set _ H.next).set _ b).get a=_
  rw [bz.jo,bz.jo]
 have eh:∀a,a≠H.next -> (cj s H.next d (s.ka b) (s.sz b)).cw a=s.cw a:=fun a h=>by simp [cj,h]
 refine ⟨⟨?_,?_,?_,?_⟩,⟨Nat.le_succ _,?_,by rw [oE]; exact Nat.le_refl _,rfl,rfl,rfl,?_,?_,?_,Bv aM _⟩⟩
 ·
  intro a x c ae b7
  rw [cp] at ae
  split at ae
  ·
   cases ae; trivial
  ·
   rename_i ge
   split at ae
   ·
    rename_i xM
    subst xM
    cases ae
    rw [hf] at b7; cases b7
    refine ⟨arr',fz,by rw [iT,if_pos ⟨rfl,rD⟩],nw g' _ _ V,by omega,by rw [bm]; exact ao,fun h=>(by cases h),fun _=> ?_,fun _=>ax⟩
    rw [bm]
    simpa [cj] using gN
   ·
    rename_i xM
    rw [eh a xM] at b7
    have bw:x= .dead∨c≠d:=by
     cases x with
     | dead=>exact .inl rfl
     | cells tO dn dZ w0=>exact .inr fun bk=>ge (by subst bk; exact (r.inj b _ a _ c U rfl ae trivial aw b7).symm)
     | loop f0 t0 d' c1 Fy a0 sb K6 ac7=>exact .inr fun bk=>ge (by subst bk; exact (r.inj b _ a _ c U rfl ae trivial aw b7).symm)
    rcases bw with rfl | bw
    ·
     trivial
    ·
     have aD:=r.dr a x c ae b7
     have ab:(dk w d (.cells arr' e fz)).heap[c]? =w.heap[c]? :=by rw [iT,if_neg (fun h=>bw h.1)]
     have xL:(cj s H.next d (s.ka b) (s.sz b)).ka a=s.ka a:=by simp [cj,xM]
     have DN:(cj s H.next d (s.ka b) (s.sz b)).sz a=s.sz a:=by simp [cj,xM]
     cases x with
     | cells tO dn dZ w0=>
      obtain ⟨fq,eM,J,O,ag,aP,bH,eC,fd⟩:=aD
      exact ⟨fq,eM,ab.trans J,O.mono g',ag,aP,bH,by rw [xL,DN]; exact eC,fd⟩
     | loop=>obtain ⟨fq,eM,J,O,ag⟩:=aD; exact ⟨fq,eM,ab.trans J,O.mono g',ag⟩
     | dead=>trivial
 ·
  intro a x cF x' c ae aC cT h5 dS hF
  rw [cp] at ae cT
  by_cases J:a=b
  ·
   rw [if_pos J] at ae; cases ae; cases aC
  by_cases O:cF=b
  ·
   rw [if_pos O] at cT; cases cT; cases h5
  rw [if_neg J] at ae
  rw [if_neg O] at cT
  by_cases ag:a=H.next
  ·
   by_cases aP:cF=H.next
   ·
    rw [ag,aP]
   ·
    subst ag
    rw [hf] at dS; cases dS
    rw [eh _ aP] at hF
    rw [if_neg aP] at cT
    exact absurd (r.inj b _ cF x' _ U rfl cT h5 aw hF).symm O
  ·
   by_cases aP:cF=H.next
   ·
    subst aP
    rw [hf] at hF; cases hF
    rw [eh _ ag] at dS
    rw [if_neg ag] at ae
    exact absurd (r.inj b _ a x _ U rfl ae (tZ aC) aw dS).symm J
   ·
    rw [eh _ ag] at dS
    rw [eh _ aP] at hF
    rw [if_neg ag] at ae
    rw [if_neg aP] at cT
    exact r.inj a x cF x' c ae aC cT h5 dS hF
 ·
  intro a c dS
  rw [oE]
  by_cases ag:a=H.next
  ·
   subst ag; rw [hf] at dS; cases dS; exact rD
  ·
   rw [eh _ ag] at dS; exact r.lt a c dS
 ·
  intro a ae
  have cT:H.next + 1≤a:=ae
  refine ⟨?_,?_⟩
  ·
   rw [eh a (by omega)]; exact (r.fr a (by omega)).1
  ·
   rw [cp,if_neg (by omega),if_neg (by omega)]; exact (r.fr a (by omega)).2
 ·
  intro a ae
  simp [cj,show a≠H.next by omega]
 ·
  intro c _ ar
  rw [iT,if_neg (fun h=>ar b _ U rfl (by rw [h.1]; exact aw))]
 ·
  intro a x c ae aC dS _
  rw [cp] at ae
  split at ae
  ·
   cases ae; cases aC
  ·
   split at ae
   ·
    rename_i ag; subst ag
    rw [hf] at dS; cases dS
    exact ⟨b,_,U,rfl,aw⟩
   ·
    rename_i ag
    rw [eh _ ag] at dS
    exact ⟨a,x,ae,aC,dS⟩
 ·
  intro a x c ae aC dS _
  rw [cp] at ae
  split at ae
  ·
   cases ae; cases aC
  ·
   split at ae
   ·
    rename_i ag; subst ag
    rw [hf] at dS; cases dS
    exact ⟨b,_,U,trivial,aw⟩
   ·
    rename_i ag
    rw [eh _ ag] at dS
    exact ⟨a,x,ae,aC,dS⟩
end Go.az
namespace Go.az
variable {P:Program} {E:Env}
theorem FT (size n d o:Nat) (k c:Nat):Builtin.firstCells size n (.slice (some ⟨d,o,none⟩) k c)=loadCells ⟨d,o,none⟩ (n * size):=rfl
theorem MJ {s:bb} {aA:I} {cs:Value} (h:g5 aA=true) (V:a5 s aA=some cs):∃base n c,cs= .slice base n c /\ n≤c:=by
 rcases yG V h with rfl | ⟨b,o,n,c,rfl⟩ | ⟨cm,rfl⟩
 ·
  cases V; exact ⟨_,_,_,rfl,Nat.le_refl _⟩
 rotate_left
 ·
  cases V; exact ⟨_,_,_,rfl,Nat.le_refl _⟩
 ·
  cases c with
  | ex c=>
   simp only [a5,dB] at V
   split at V
   ·
    rename_i hle
    obtain ⟨d,_,rfl⟩:=map_some V
    exact ⟨_,_,_,rfl,hle⟩
   ·
    cases V
  | rest e sz cQ=>
   simp only [a5,dB] at V
   split at V
   ·
    rename_i hle
    obtain ⟨d,_,rfl⟩:=map_some V
    exact ⟨_,_,_,rfl,by omega⟩
   ·
    cases V
  | tail e l sz z=>
   simp only [a5,dB] at V
   split at V
   ·
    rename_i hle
    obtain ⟨d,_,rfl⟩:=map_some V
    exact ⟨_,_,_,rfl,Nat.zero_le _⟩
   ·
    cases V
theorem FY {s:bb} {aA:I} {cs:Value} (h:(g5 aA || du aA)=true) (V:a5 s aA=some cs):∃base n c,cs= .slice base n c /\ n≤c:=by
 rcases (Bool.or_eq_true _ _).mp h with h | h
 ·
  exact MJ h V
 ·
  rcases iS h with rfl | ⟨cm,rfl⟩ <;> cases V <;> exact ⟨_,_,_,rfl,Nat.le_refl _⟩
theorem MK {elem:TypeId} {size:Nat} {s:Value} {base:Option Addr} {dg sCap:Nat} {zeros:Bool} {x:Value} {appended:Sem (Array Value)} {w:World} (h:dg≤sCap)
 (hT:appended.run P w= .ok #[] w):
 (me elem size s base dg sCap zeros 0 x appended).run P w= .ok (.slice base dg sCap) w:=by
 simp only [me,Sem.run_ite,Nat.add_zero,if_pos h,Sem.run_bind,hT,Result.andThen_ok]
 cases base <;> rfl
theorem F4 (a1:cU E P) {s:bb} {H H':aa} {w:World} (r:bM E s H w) {e:TypeId} {aA:I} {base:Option Addr} {dg sCap n:Nat} {zeros:Bool} {x:Value} {appended:Sem (Array Value)}
 {new:List I} {news:List Value} {v:I} (h:cJ E H e aA n new=some (v,H')) (aG:a5 s aA=some (.slice base dg sCap))
 (ar:bZ s new=some news) (lR:new.length=n * au E e)
 (hT:∀w':World,w'.heap=w.heap -> appended.run P w'= .ok news.toArray w'):
 ∃s' w' c,(me e (au E e) (.slice base dg sCap) base dg sCap zeros n x appended).run P w= .ok c w' /\ a5 s' v=some c /\ bM E s' H' w' /\ Ext s H w s' H' w':=by
 unfold cJ at h
 cases r2:Nat.beq n 0 with
 | true=>
  rw [r2] at h
  have aay:n=0:=by simpa using r2
  subst aay
  obtain ⟨J,O⟩:=cd (show ap (g5 aA || du aA) (some (aA,H)) none=some (v,H') by have h:=show ap (g5 aA || du aA) (some (aA,H)) ((fj aA).omap fun _=>(aA,H))=some (v,H') from h; rw [oN aG] at h; exact h)
  cases O
  obtain ⟨_,_,_,he,hle⟩:=FY J aG
  cases he
  have DO:new= []:=List.eq_nil_of_length_eq_zero (by simpa using lR)
  subst DO
  cases ar
  exact ⟨s,w,_,MK hle (by simpa using hT w rfl),aG,r,Ext.refl s H w⟩
 | false=>
  rw [r2] at h
  have bU:0 < n:=by
   rcases Nat.eq_zero_or_pos n with aD | aD
   ·
    subst aD; cases r2
   ·
    exact aD
  have h:=show bQ (asSlice aA) (ap (du aA) (dA E H e n new) ((fj aA).ac fun q=>ap (Nat.beq q.1 0) (dA E H e n new) none)) (fun q=>jr q.2.2.2 E H e q.1 q.2.1 q.2.2.1 n new)=some (v,H') from h
  rw [oN aG] at h
  have h:=show bQ (asSlice aA) (ap (du aA) (dA E H e n new) none) (fun q=>jr q.2.2.2 E H e q.1 q.2.1 q.2.2.1 n new)=some (v,H') from h
  cases aB:asSlice aA with
  | none=>
   rw [aB] at h
   obtain ⟨J,O⟩:=cd (show ap (du aA) (dA E H e n new) none=some (v,H') from h)
   rcases iS J with rfl | ⟨cm,rfl⟩ <;> cases aG
   rotate_left
   ·
    exact wh a1 r (old:= []) (olds:= []) (by omega) O (by omega) ar rfl lR (by simp) hT (fun w' _=>by show (loadCells cm (0 * au E e)).run P w'=_; rw [Nat.zero_mul]; exact yx cm w')
   exact wh a1 r (old:= []) (olds:= []) (by omega) O (by omega) ar rfl lR (by simp) hT (fun w' _=>rfl)
  | some q=>
   rw [aB] at h
   obtain rfl:=hv aB
   obtain ⟨b,off,len,cap⟩:=q
   simp only at aG
   have h:=show jr cap E H e b off len n new=some (v,H') from h
   cases cap with
   | ex c=>
    simp only [a5,dB] at aG
    split at aG
    ·
     rename_i hle
     obtain ⟨d,aw,xN⟩:=map_some aG
     obtain ⟨rfl,rfl,rfl⟩:=Value.slice.inj xN
     have h:=show ap (Nat.ble (len + n) c) ((bT H b (off + len * au E e) new).omap fun H'=>(I.slice b off (len + n) (.ex c),H')) ((bA H b off (len * au E e)).ac fun old=>dA E H e (len + n) (cb old new))=some (v,H') from h
     cases U:Nat.ble (len + n) c with
     | true=>
      rw [U] at h
      have dx:=de.1 U
      obtain ⟨ay,aR,he⟩:=bB h
      cases he
      obtain ⟨w',cq,bi,x'⟩:=vO (P:=P) r aR aw ar
      refine ⟨s,w',_,Ba dx (by simpa using hT w rfl) (by rw [kd]; exact cq),?_,bi,x'⟩
      simp only [a5,dB]; rw [if_pos dx,aw]; rfl
     | false=>
      rw [U] at h
      have dx:¬len + n≤c:=fun k=>by rw [de.2 k] at U; cases U
      obtain ⟨old,aC,a4⟩:=aO h
      rw [eZ] at a4
      obtain ⟨xs,eS,lS,b9,_⟩:=qX (P:=P) r aC aw
      exact wh a1 r (old:=old) (olds:=xs) rfl a4 (by omega) ar eS lR lS hT (fun w' o9=>by
       obtain ⟨EG,p8,_,Do,_⟩:=qX (P:=P) (r.congr o9) aC aw
       rw [eS] at p8; cases p8
       exact Do)
    ·
     cases aG
   | rest dt sz cQ=>
    simp only [a5,dB] at aG
    split at aG
    ·
     rename_i hle
     obtain ⟨d,aw,xN⟩:=map_some aG
     obtain ⟨rfl,rfl,rfl⟩:=Value.slice.inj xN
     obtain ⟨K7,ac8,h⟩:=aO h
     obtain ⟨y,aj,aaz⟩:=aO ac8
     obtain rfl:=M7 aaz
     obtain ⟨dS,fI⟩:=cd h
     obtain ⟨he,dS⟩:=ft dS
     obtain ⟨ac9,DN⟩:=ft dS
     have u_:e=K7.2:=Nat.eq_of_beq_eq_true he
     have aaA:0 < au E e:=(cZ _ _).1 ac9
     have Xt:sz=au E e:=Nat.eq_of_beq_eq_true DN
     obtain ⟨l,bk⟩:=K7
     simp only at u_ aj fI
     subst u_
     subst Xt
     obtain ⟨arr,fz,aM,V,hlen,e3,g0,gN,u1⟩:=r.dr b _ d aj aw
     have xj:=gN rfl
     cases U:Nat.ble (off + (len + n) * au E e) (bJ l) with
     | true=>
      have h:=show ap (Nat.ble (off + (len + n) * au E e) (bJ l)) ((bT H b (off + len * au E e) new).omap fun H'=>(I.slice b off (len + n) (.rest dt (au E e) (ap (Nat.ble cQ (len + n)) (len + n) cQ)),H'))
       (ap (Nat.beq off 0 && br new) ((bA H b off (len * au E e)).ac fun old=>(dA E H e (len + n) (cb old new)).omap fun p=>(p.1,aN p.2 b .dead)) none)=some (v,H') from fI
      rw [U] at h
      have dx:=de.1 U
      rw [eQ] at dx
      obtain ⟨ay,aR,u'⟩:=bB h
      cases u'
      have afj:dt + (len + n)≤s.ka b:=by
       refine NV (c:=au E e) ?_ aaA
       have J:=xj.1
       rw [xj.2] at J
       rw [Nat.add_mul,<- hle.2.2.1]
       omega
      obtain ⟨w',cq,bi,x'⟩:=vO (P:=P) r aR aw ar
      refine ⟨s,w',_,Ba (by omega) (by simpa using hT w rfl) (by rw [kd]; exact cq),?_,bi,x'⟩
      simp only [a5,dB]
      have ac_:(ap (Nat.ble cQ (len + n)) (len + n) cQ)=max cQ (len + n):=by
       cases R:Nat.ble cQ (len + n) with
       | true=>have:=de.1 R; simp; omega
       | false=>
        have:¬cQ≤len + n:=fun k=>by rw [de.2 k] at R; cases R
        simp; omega
      rw [ac_,if_pos ⟨by omega,by omega,hle.2.2.1,hle.2.2.2⟩,aw]; rfl
     | false=>
      have h:=show ap (Nat.ble (off + (len + n) * au E e) (bJ l)) ((bT H b (off + len * au E e) new).omap fun H'=>(I.slice b off (len + n) (.rest dt (au E e) (ap (Nat.ble cQ (len + n)) (len + n) cQ)),H'))
       (ap (Nat.beq off 0 && br new) ((bA H b off (len * au E e)).ac fun old=>(dA E H e (len + n) (cb old new)).omap fun p=>(p.1,aN p.2 b .dead)) none)=some (v,H') from fI
      rw [U] at h
      obtain ⟨EH,h⟩:=cd h
      obtain ⟨EH,dl⟩:=ft EH
      obtain ⟨old,aC,h⟩:=aO h
      obtain ⟨pp,a4,u'⟩:=bB h
      cases u'
      rw [eZ] at a4
      have aaB:off=0:=Nat.eq_of_beq_eq_true EH
      subst aaB
      have ac':dt=0:=by
       rcases Nat.mul_eq_zero.1 hle.2.2.1.symm with aD | aD
       ·
        exact aD
       ·
        omega
      subst ac'
      obtain ⟨v2,ay⟩:=pp
      obtain ⟨afk,rfl,rfl⟩:=Gn a4
      obtain ⟨xs,eS,lS,b9,_⟩:=qX (P:=P) r aC aw
      by_cases uI:len + n≤s.ka b - 0
      ·
       have Ao:=hW ar
       have k8:=hW eS
       obtain ⟨Kf,rfl⟩:=Mw aj aC
       simp only [List.drop_zero] at Kf eS lS
       have JD:arr.size=s.ka b * au E e:=by rw [xj.1,xj.2]
       have hmul:(len + n) * au E e≤s.ka b * au E e:=Nat.mul_le_mul_right _ (by omega)
       rw [Nat.add_mul] at hmul
       have Vy:=A8 (P:=P) (c:=d) (o:=0 + len * au E e) news 0 arr w aM e3 (by rw [Ao,lR]; omega) (Bw dl ar)
       have Xu:=Ba (P:=P) (elem:=e) (size:=au E e) (s:= .slice (some ⟨d,0,none⟩) len (s.ka b - 0)) (a:=⟨d,0,none⟩) (zeros:=zeros) (x:=x) (appended:=appended) (news:=news) uI (by simpa using hT w rfl) (by rw [kd]; exact Vy)
       have p8:xs=arr.toList.take (len * au E e):=by
        have J:=oB V (len * au E e)
        rw [eS] at J
        cases J
        rw [List.take_take,Nat.min_eq_left Kf]
       have JF:=bM.hand r (l':=l.take (len * au E e) ++ new) (arr':=(arr.toList.take (0 + len * au E e + 0) ++ (news ++ arr.toList.drop (0 + len * au E e + 0 + news.length))).toArray) aj aw aM e3
        (by simp; omega) xj (by rw [List.length_append,lS,lR]; omega)
        (by
         refine ⟨?_,(u1 rfl).2⟩
         have J:=GH arr.toList news (len * au E e) (len * au E e + n * au E e) (by rw [Ao,lR]; exact Nat.le_refl _) (by simp; omega)
         rw [List.length_append,lS,lR]
         simp only [Nat.zero_add,Nat.add_zero]
         rw [J]
         have O:=(u1 rfl).1.drop (len * au E e + n * au E e - l.length)
         have jA:¬(0 + (len + n) * au E e)≤bJ l:=fun k=>by rw [de.2 k] at U; cases U
         rw [eQ,Nat.zero_add,Nat.add_mul] at jA
         rw [List.drop_drop] at O
         have a8:l.length + (len * au E e + n * au E e - l.length)=len * au E e + n * au E e:=by omega
         rw [a8] at O
         exact O)
        (by
         rw [nu.2 ⟨_,_,eS,ar,rfl⟩]
         congr 1
         simp only [Nat.zero_add,Nat.add_zero,List.length_append,lS,lR]
         rw [<- List.append_assoc,List.take_append_of_le_length (by simp; omega),List.take_of_length_le (by simp; omega),p8])
       refine ⟨_,_,_,Xu,?_,JF.1,JF.2⟩
       simp only [a5,dB]
       rw [if_pos ⟨Nat.le_refl _,by simp [cj]; omega,by simp,by simp [cj]; exact hle.2.2.2⟩,hf]
       simp [cj]
      ·
       obtain ⟨s',w',c,j4,dS,cf,cN⟩:=wh a1 r (cs:= .slice (some ⟨d,0,none⟩) len (s.ka b - 0)) (base:=some ⟨d,0,none⟩) (sCap:=s.ka b - 0) (zeros:=zeros) (x:=x) (appended:=appended) (old:=old) (olds:=xs) rfl a4 (by omega) ar eS lR lS hT (fun w' o9=>by
        obtain ⟨EG,p8,_,Do,_⟩:=qX (P:=P) (r.congr o9) aC aw
        rw [eS] at p8; cases p8
        exact Do)
       obtain ⟨ck,dL⟩:=cf.kill (b:=b) (Nat.lt_of_lt_of_le (r.C0 aw) cN.nx)
       exact ⟨s',w',c,j4,dS,ck,cN.trans dL⟩
    ·
     cases aG
   | tail dt k sz z=>
    simp only [a5,dB] at aG
    split at aG
    ·
     rename_i hle
     obtain ⟨d,aw,xN⟩:=map_some aG
     obtain ⟨dS,fI⟩:=cd (show ap (z && Nat.beq len 0) (dA E H e n new) none=some (v,H') from h)
     obtain ⟨ai,hR⟩:=ft dS
     subst ai
     obtain ⟨rfl,rfl,rfl⟩:=Value.slice.inj xN
     exact wh a1 r (old:= []) (olds:= []) (need:=n) (by omega) fI (by simp; omega) ar rfl lR (by simp) hT (fun w' _=>by rw [FT]; simp [yx])
    ·
     cases aG
end Go.az
namespace Go.az
variable {P:Program} {E:Env}
theorem q9 (n:Nat) (l:List I):cR n l=(List.replicate n l).flatten:=by
 induction n with
 | zero=>rfl
 | succ n aH=>
  have h:cR (n + 1) l=cb l (cR n l):=rfl
  rw [h,eZ,aH,List.replicate_succ,List.flatten_cons]
theorem yU {s:bb} {l:List I} {xs:List Value} (h:bZ s l=some xs) (n:Nat):bZ s (cR n l)=some (List.replicate n xs).flatten:=by
 rw [q9]
 induction n with
 | zero=>rfl
 | succ n aH=>
  rw [List.replicate_succ,List.flatten_cons,List.replicate_succ,List.flatten_cons]
  exact nu.2 ⟨_,_,h,aH,rfl⟩
theorem yL {α:Type} (l:List α) (n:Nat):(List.replicate n l).flatten.length=n * l.length:=by
 induction n with
 | zero=>simp
 | succ n aH=>rw [List.replicate_succ,List.flatten_cons,List.length_append,aH,Nat.add_mul]; omega
theorem Bd (z:Array Value) (n:Nat):((Array.range (n * z.size)).map fun i=>z[i % z.size]!)=(List.replicate n z.toList).flatten.toArray:=by
 apply Array.toList_inj.1
 simp only [Array.toList_map,Array.toList_range]
 induction n with
 | zero=>simp
 | succ n aH=>
  rw [Nat.add_mul,Nat.one_mul,List.range_add,List.map_append,aH,List.replicate_succ',List.flatten_append,List.map_map]
  simp only [List.flatten_cons,List.flatten_nil,List.append_nil]
  congr 1
  apply List.ext_getElem
  ·
   simp
  ·
   intro i J O
   simp only [List.length_map,List.length_range] at J
   have:(n * z.size + i) % z.size=i:=by
    rw [Nat.add_comm,Nat.add_mul_mod_self_right]; exact Nat.mod_eq_of_lt J
   simp [this,J]
theorem F5 (z:Array Value) (n:Nat):Builtin.zeroCells z n=(List.replicate n z.toList).flatten.toArray:=Bd z n
theorem vW (a1:cU E P) {e:TypeId} {z:I} (h:cr E e=some z):∃i j fH,E.ty e=some i /\ P.info? e=some j /\ j.size=i.size /\ j.bytes=i.bytes /\ j.zero=some fH /\
 (∀s,bZ s z.cells=some fH.cells.toList) /\ z.cells.length=i.size /\ fH.cells.size=i.size:=by
 obtain ⟨i,ad,ai⟩:=aO h
 obtain ⟨j,ax,bm,k_,qm⟩:=a1.info ad
 obtain ⟨fH,jE,hb,gf⟩:=qm z ai
 refine ⟨i,j,fH,ad,ax,bm,k_,jE,fun s=>qV (hb s),gf,?_⟩
 have J:=hW (qV (hb ⟨fun _=>none,fun _=>0,fun _=>0⟩))
 rw [<- gf,<- J]; simp
theorem Bx {s:bb}:∀b:List UInt8,bZ s (b.map fun c=> .int .u8 (.ofNat c.toNat))=some (b.map fun c=> .int .u8 c.toNat)
 | []=>rfl
 | c :: b=>eO.2 ⟨_,_,rfl,Bx b,rfl⟩
theorem F6 {s:bb} {H:aa} {w:World} (r:bM E s H w) {e:TypeId} {x:I} {eU:Value} {n:Nat} {l:List I} (h:fu E H e x=some (n,l)) (R:a5 s x=some eU):
 (Builtin.lenOf eU=pure n) /\ l.length=n * au E e /\ ∃xs,bZ s l=some xs /\ ∀m w',m≤n -> w'.heap=w.heap -> (Builtin.firstCells (au E e) m eU).run P w'= .ok (xs.take (m * au E e)).toArray w':=by
 have h:=show bQ (asSlice x) (bQ (f_ x) (ap (du x) (some (0,[])) ((fj x).ac fun q=>ap (Nat.beq q.1 (au E e)) (some (bJ q.2,a3 q.2)) none)) fun s=>ap (Nat.beq (au E e) 1) (some (s.length,s.map fun c=> .int .u8 (.ofNat c.toNat))) none)
  (fun q=>(bA H q.1 q.2.1 (q.2.2.1 * au E e)).omap fun l=>(q.2.2.1,l))=some (n,l) from h
 rw [oN R] at h
 have h:=show bQ (asSlice x) (bQ (f_ x) (ap (du x) (some (0,[])) none) fun s=>ap (Nat.beq (au E e) 1) (some (s.length,s.map fun c=> .int .u8 (.ofNat c.toNat))) none)
  (fun q=>(bA H q.1 q.2.1 (q.2.2.1 * au E e)).omap fun l=>(q.2.2.1,l))=some (n,l) from h
 cases aB:asSlice x with
 | none=>
  rw [aB,fM] at h
  cases aG:f_ x with
  | none=>
   rw [aG,fM] at h
   obtain ⟨J,O⟩:=cd h
   rcases iS J with rfl | ⟨cm,rfl⟩
   ·
    cases O
    cases R
    exact ⟨rfl,by simp,[],rfl,fun m w' _ _=>by simp [Builtin.firstCells]⟩
   ·
    cases O
    cases R
    exact ⟨rfl,by simp,[],rfl,fun m w' hm _=>by
     obtain rfl:m=0:=by omega
     show (loadCells cm (0 * au E e)).run P w'=_
     rw [Nat.zero_mul]; exact yx cm w'⟩
  | some b=>
   rw [aG,fN] at h
   obtain rfl:=qW aG
   obtain ⟨J,O⟩:=cd h
   cases O
   have jX:au E e=1:=Nat.eq_of_beq_eq_true J
   have o8:=sw R
   subst o8
   refine ⟨rfl,by simp [jX],b.map fun c=> .int .u8 c.toNat,?_,fun m w' hm o9=> ?_⟩
   ·
    exact Bx b
   ·
    simp only [Builtin.firstCells,Sem.run_pure,Gm,jX]
    congr 1
    simp
 | some q=>
  rw [aB,fN] at h
  obtain rfl:=hv aB
  obtain ⟨b,off,len,cap⟩:=q
  obtain ⟨hV,ah,he⟩:=bB h
  cases he
  obtain ⟨d,o',b8,rfl,aw⟩:=l7 R
  obtain ⟨xs,eS,fm,_,_⟩:=qX (P:=P) r ah aw
  refine ⟨rfl,fm,xs,eS,fun m w' hm o9=> ?_⟩
  rw [FT]
  by_cases lT:m * au E e=0
  ·
   rw [lT,List.take_zero]; rfl
  ·
   have Xv:0 < len:=by
    rcases Nat.eq_zero_or_pos len with aD | aD
    ·
     simp only at hm; subst aD; exfalso; apply lT; have:m=0:=by omega
     subst this; simp
    ·
     exact aD
   have aC:o'=off:=by
    simp only [a5] at R
    cases cap with
    | ex c=>
     simp only [dB] at R
     split at R
     ·
      obtain ⟨_,_,ak⟩:=map_some R; cases ak; rfl
     ·
      cases R
    | rest e sz cQ=>
     simp only [dB] at R
     split at R
     ·
      obtain ⟨_,_,ak⟩:=map_some R; cases ak; rfl
     ·
      cases R
    | tail e l sz z=>
     simp only [dB] at R
     split at R
     ·
      rename_i V; omega
     ·
      cases R
   subst aC
   have cP:bA H b o' (m * au E e)=some (l.take (m * au E e)):=by
    have hR:len * au E e≠0:=fun k=>lT (by have:m * au E e≤len * au E e:=Nat.mul_le_mul_right _ hm; omega)
    have ah:bA H b o' (len * au E e)=some l:=ah
    rw [l5 hR] at ah
    rw [l5 lT]
    obtain ⟨y,aj,J⟩:=aO ah
    obtain ⟨q,aB,O⟩:=aO J
    obtain ⟨nr,O,ag⟩:=aO O
    obtain ⟨hle,rfl⟩:=oC O
    obtain ⟨rfl,dl⟩:=sm ag
    have EI:m * au E e≤len * au E e:=Nat.mul_le_mul_right _ hm
    have O:((H.m.get b).ac fun x=>(kf x).ac fun c=>(cG (m * au E e) (co o' c.1)).ac (mz c.2.2.2))=some ((co o' q.1).take (m * au E e)):=by
     rw [aj]
     show (kf y).ac _=_
     rw [aB]
     show (cG _ _).ac _=_
     rw [fL,if_pos (Nat.le_trans EI hle)]
     show mz q.2.2.2 _=_
     cases hw:q.2.2.2 with
     | true=>rfl
     | false=>
      have ao:=dl hw
      have:br ((co o' q.1).take (m * au E e))=true:=by
       have J:(co o' q.1).take (m * au E e)=((co o' q.1).take (len * au E e)).take (m * au E e):=by rw [List.take_take,Nat.min_eq_left EI]
       rw [J]; exact yK ao _
      show ap (br _) _ none=_
      rw [this]; rfl
    rw [show q5 H b o' (m * au E e)=_ from O,List.take_take]
    congr 2
    exact (Nat.min_eq_left EI).symm
   obtain ⟨EG,p8,_,b9,_⟩:=qX (P:=P) (r.congr o9) cP aw
   have:=oB eS (m * au E e)
   rw [p8] at this
   cases this
   exact b9
end Go.az
namespace Go.az
variable {P:Program} {E:Env}
def Leaves (n:Next) (c:Value):Prop:=n= .value c∨(n= .skip /\ c=undef)
theorem By (s:bb):a5 s .undef=some undef:=rfl
theorem Bz {bp:Array TypeId} {t:TypeId} {l:List TypeId} (h:bp.toList=t :: l):bp[0]? =some t:=by
 rw [<- Array.getElem?_toList,h]; rfl
theorem NW {bp:Array TypeId} {t u:TypeId} {l:List TypeId} (h:bp.toList=t :: u :: l):bp[1]? =some u:=by
 rw [<- Array.getElem?_toList,h]; rfl
theorem append_eq {argTypes:Array TypeId} {type t t2 elem:TypeId} {i:kI} {base:Option Addr} {dg sCap n:Nat} {x:Value} {d2:TypeDesc} {w:World} (a1:cU E P) (aD:argTypes[0]? =some t) (J:argTypes[1]? =some t2)
 (hu:P.underlying t=some (.slice elem)) (ad:E.ty elem=some i) (la:P.underlying t2=some d2) (jC:∀k,d2≠ .int k) (ar:Builtin.lenOf x=pure n):
 (Builtin.append_ argTypes type #[.slice base dg sCap,x]).run P w=(me elem (au E elem) (.slice base dg sCap) base dg sCap false n x (Builtin.firstCells (au E elem) n x)).run P w:=by
 have aG:=a1.au ad w
 simp only [Builtin.append_,aD,J,List.getElem?_toArray,List.getElem?_cons_zero,List.getElem?_cons_succ,Sem.run_bind,df hu,Result.andThen_ok,aG,df la]
 have:(match d2 with | .int _=>true | _=>false)=false:=by
  cases d2 <;> first | rfl | exact absurd rfl (jC _)
 simp only [this,Sem.run_pure,Result.andThen_ok,Bool.false_eq_true,if_false,ar,Sem.run_bind,Bool.not_false,if_true,me]
 rfl
theorem Mq {argTypes:Array TypeId} {type t t2 elem:TypeId} {i:kI} {j:TypeInfo} {base:Option Addr} {dg sCap n:Nat} {k k':IntKind} {w:World} (a1:cU E P) (aD:argTypes[0]? =some t) (J:argTypes[1]? =some t2)
 (hu:P.underlying t=some (.slice elem)) (ad:E.ty elem=some i) (ax:P.info? elem=some j) (U:j.bytes≤1048576) (la:P.underlying t2=some (.int k)) (ar:n≤1048576):
 (Builtin.append_ argTypes type #[.slice base dg sCap,.int k' (n:Int)]).run P w=(me elem (au E elem) (.slice base dg sCap) base dg sCap true n (.int k' (n:Int))
  (if n * au E elem=0 then pure #[] else do pure (Builtin.zeroCells (<- zeroValue elem).cells n))).run P w:=by
 have aG:=a1.au ad w
 have hw:IntKind.i64.wrap (n:Int)=(n:Int):=by
  have O:((n:Int) % 18446744073709551616)=n:=by omega
  simp only [IntKind.wrap,IntKind.signed,IntKind.bits]
  simp [O]; omega
 have hm:¬((n:Int) * (j.bytes:Int) > 2 ^ 48):=by
  have J:n * j.bytes≤1048576 * 1048576:=Nat.mul_le_mul ar U
  have ag:((n * j.bytes:Nat):Int)=(n:Int) * (j.bytes:Int):=Int.natCast_mul _ _
  rw [<- ag]; omega
 simp only [Builtin.append_,aD,J,List.getElem?_toArray,List.getElem?_cons_zero,List.getElem?_cons_succ,Sem.run_bind,df hu,Result.andThen_ok,aG,df la,Sem.run_pure,if_true,asInt,asIntOf,hw,wg ax]
 rw [if_neg (by omega)]
 simp only [Sem.run_bind,wg ax,Result.andThen_ok]
 rw [if_neg hm]
 simp only [Sem.run_pure,Result.andThen_ok,Int.toNat_natCast,Bool.not_true,Bool.false_eq_true,if_false,me]
 rfl
end Go.az
namespace Go.az
variable {P:Program} {E:Env}
def va (P:Program) (E:Env) (s:bb) (H:aa) (w:World) (v:I) (H':aa) (m:Sem Next):Prop:=
 ∃s' w' n c,m.run P w= .ok n w' /\ Leaves n c /\ a5 s' v=some c /\ bM E s' H' w' /\ Ext s H w s' H' w'
theorem GI {e:TypeId} {n:Nat} {i:kI} (ad:E.ty e=some i) (h:(Nat.ble n 1048576 && Nat.ble (iU E e) 1048576)=true):n≤1048576 /\ i.bytes≤1048576:=by
 obtain ⟨J,O⟩:=ft h
 have ag:iU E e=i.bytes:=by simp [iU,ad]
 exact ⟨de.1 J,by rw [<- ag]; exact de.1 O⟩
theorem NX (a1:cU E P) {s:bb} {H H':aa} {w:World} (r:bM E s H w) {argTypes:Array TypeId} {type:TypeId} {consts:Array Bool} {t:TypeId} {bp:List TypeId} {aA x v:I} {cs eU:Value}
 (hS:argTypes.toList=t :: bp) (h:kg E H t bp aA x=some (v,H')) (aG:a5 s aA=some cs) (R:a5 s x=some eU):
 va P E s H w v H' (builtin .append argTypes type consts #[cs,eU]):=by
 unfold kg at h
 split at h
 ·
  rename_i e ab
  have hu:=a1.slice ab
  obtain ⟨i,ad⟩:=a1.el t e (.inl ab)
  split at h
  ·
   rename_i t2 afO
   have aD:=Bz hS
   have J:=NW hS
   have g':∀ {n new},cJ E H e aA n new=some (v,H') -> ∃base a b,cs= .slice base a b:=by
    intro n new aM
    unfold cJ at aM
    cases r2:Nat.beq n 0 with
    | true=>
     rw [r2] at aM
     obtain ⟨J,_⟩:=cd (show ap (g5 aA || du aA) (some (aA,H)) none=some (v,H') by have aM:=show ap (g5 aA || du aA) (some (aA,H)) ((fj aA).omap fun _=>(aA,H))=some (v,H') from aM; rw [oN aG] at aM; exact aM)
     obtain ⟨a,b,c,he,_⟩:=FY J aG
     exact ⟨a,b,c,he⟩
    | false=>
     rw [r2] at aM
     have aM:=show bQ (asSlice aA) (ap (du aA) (dA E H e n new) ((fj aA).ac fun q=>ap (Nat.beq q.1 0) (dA E H e n new) none)) (fun q=>jr q.2.2.2 E H e q.1 q.2.1 q.2.2.1 n new)=some (v,H') from aM
     rw [oN aG] at aM
     have aM:=show bQ (asSlice aA) (ap (du aA) (dA E H e n new) none) (fun q=>jr q.2.2.2 E H e q.1 q.2.1 q.2.2.1 n new)=some (v,H') from aM
     cases aB:asSlice aA with
     | none=>
      rw [aB] at aM
      obtain ⟨J,O⟩:=cd (show ap (du aA) (dA E H e n new) none=some (v,H') from aM)
      rcases iS J with rfl | ⟨cm,rfl⟩ <;> cases aG <;> exact ⟨_,_,_,rfl⟩
     | some q=>
      obtain rfl:=hv aB
      obtain ⟨d,o',b8,rfl,aw⟩:=l7 aG
      exact ⟨_,_,_,rfl⟩
   split at h
   ·
    rename_i k ef
    obtain ⟨n,ar,h⟩:=aO h
    obtain ⟨z,ai,h⟩:=aO h
    split at h
    ·
     rename_i uI
     obtain ⟨k',rfl⟩:=vV ar R
     obtain ⟨dd,j,fH,b5,ax,bm,k_,jE,hb,gf,lb⟩:=vW a1 ai
     rw [ad] at b5; cases b5
     have n1:=GI ad uI
     obtain ⟨base,a,b,rfl⟩:=g' h
     have pg:au E e=i.size:=by simp [au,ad]
     obtain ⟨s',w',c,b9,V,bi,x'⟩:=F4 a1 r (zeros:=true) (x:= .int k' (n:Int))
      (appended:=(if n * au E e=0 then pure #[] else do pure (Builtin.zeroCells (<- zeroValue e).cells n))) h aG (yU (hb s) n) (by rw [q9,yL,gf,pg]) (fun w' _=>by
       rw [pg]
       by_cases aD:n * i.size=0
       ·
        rw [if_pos aD]
        have:(List.replicate n fH.cells.toList).flatten= []:=List.eq_nil_of_length_eq_zero (by rw [yL]; simp only [Array.length_toList,lb,aD])
        rw [this]; rfl
       ·
        rw [if_neg aD]
        simp only [Sem.run_bind,oG ax jE,Result.andThen_ok,Sem.run_pure,F5])
     refine ⟨s',w',_,c,?_,.inl rfl,V,bi,x'⟩
     simp only [builtin,Sem.run_bind,Mq a1 aD J hu ad ax (by rw [k_]; exact n1.2) (a1.int ef) n1.1,b9,Result.andThen_ok,Sem.run_pure]
    ·
     cases h
   ·
    cases h
   ·
    rename_i ada fU
    obtain ⟨p,aR,h⟩:=aO h
    obtain ⟨n,l⟩:=p
    obtain ⟨hlen,fm,xs,eS,Ap⟩:=F6 (P:=P) r aR R
    obtain ⟨base,a,b,rfl⟩:=g' h
    obtain ⟨d2,la,jC⟩:=a1.pe rfl fU
    have k8:=hW eS
    obtain ⟨s',w',c,b9,V,bi,x'⟩:=F4 a1 r (zeros:=false) (x:=eU) (appended:=Builtin.firstCells (au E e) n eU) h aG eS fm (fun w' o9=>by
     rw [Ap n w' (Nat.le_refl _) o9,List.take_of_length_le (by rw [k8,fm]; exact Nat.le_refl _)])
    refine ⟨s',w',_,c,?_,.inl rfl,V,bi,x'⟩
    simp only [builtin,Sem.run_bind,append_eq a1 aD J hu ad la (fun k ab=>by subst ab; exact ada k jC.symm) hlen,b9,Result.andThen_ok,Sem.run_pure]
  ·
   cases h
 ·
  cases h
theorem Rm (a1:cU E P) {s:bb} {H H':aa} {w:World} (r:bM E s H w) {argTypes:Array TypeId} {type:TypeId} {consts:Array Bool} {t:TypeId} {bp:List TypeId} {aA x v:I} {cs eU:Value}
 (hS:argTypes.toList=t :: bp) (h:pK E H t aA x=some (v,H')) (aG:a5 s aA=some cs) (R:a5 s x=some eU):
 va P E s H w v H' (builtin .copy argTypes type consts #[cs,eU]):=by
 unfold pK at h
 split at h
 ·
  rename_i e ab
  have hu:=a1.slice ab
  obtain ⟨i,ad⟩:=a1.el t e (.inl ab)
  have aD:=Bz hS
  have pg:=a1.au ad w
  obtain ⟨p,aR,h⟩:=aO h
  obtain ⟨n,l⟩:=p
  obtain ⟨hlen,fm,xs,eS,Ap⟩:=F6 (P:=P) r aR R
  have h:=show bQ (asSlice aA) (ap (du aA) (some (.int .i64 (.ofNat 0),H)) none) (fun q=>ap (Nat.beq q.2.2.1 0) (some (.int .i64 (.ofNat 0),H))
   ((bT H q.1 q.2.1 (g8 (gb n q.2.2.1 * au E e) l)).omap fun H=>(.int .i64 (.ofNat (gb n q.2.2.1)),H)))=some (v,H') from h
  have ai:∀base a b,cs= .slice base a b -> a=0 -> v= .int .i64 (.ofNat 0) -> H'=H -> va P E s H w v H' (builtin .copy argTypes type consts #[cs,eU]):=by
   rintro base a b rfl rfl rfl rfl
   refine ⟨s,w,_,.int .i64 0,?_,.inl rfl,rfl,r,Ext.refl _ _ _⟩
   have hm:Nat.min n 0=0:=Nat.min_zero n
   simp only [builtin,Builtin.copy_,aD,List.getElem?_toArray,List.getElem?_cons_zero,List.getElem?_cons_succ,Sem.run_bind,df hu,Result.andThen_ok,hlen,Sem.run_pure,pg,hm,Ap 0 w (Nat.zero_le _) rfl]
   simp only [Nat.zero_mul,List.take_zero]
   cases base <;> rfl
  cases aB:asSlice aA with
  | none=>
   rw [aB,fM] at h
   obtain ⟨J,O⟩:=cd h
   cases O
   rcases iS J with rfl | ⟨cm,rfl⟩ <;> cases aG
   ·
    exact ai none 0 0 rfl rfl rfl rfl
   ·
    exact ai (some cm) 0 0 rfl rfl rfl rfl
  | some q=>
   rw [aB,fN] at h
   obtain rfl:=hv aB
   obtain ⟨b,off,len,cap⟩:=q
   obtain ⟨d,o',b8,rfl,aw⟩:=l7 aG
   cases hR:Nat.beq len 0 with
   | true=>
    have h:=show ap (Nat.beq len 0) (some (I.int .i64 (.ofNat 0),H)) ((bT H b off (g8 (gb n len * au E e) l)).omap fun H=>(.int .i64 (.ofNat (gb n len)),H))=some (v,H') from h
    rw [hR] at h
    cases h
    have:len=0:=by simpa using hR
    exact ai _ _ _ rfl this rfl rfl
   | false=>
    have h:=show ap (Nat.beq len 0) (some (I.int .i64 (.ofNat 0),H)) ((bT H b off (g8 (gb n len * au E e) l)).omap fun H=>(.int .i64 (.ofNat (gb n len)),H))=some (v,H') from h
    rw [hR] at h
    obtain ⟨ay,iG,he⟩:=bB h
    cases he
    have zB:len≠0:=fun k=>by subst k; cases hR
    have aC:o'=off:=by
     simp only [a5] at aG
     cases cap with
     | ex c=>simp only [dB] at aG; split at aG <;> first | (obtain ⟨_,_,ak⟩:=map_some aG; cases ak; rfl) | cases aG
     | rest e sz cQ=>simp only [dB] at aG; split at aG <;> first | (obtain ⟨_,_,ak⟩:=map_some aG; cases ak; rfl) | cases aG
     | tail e l sz z=>
      simp only [dB] at aG
      split at aG
      ·
       rename_i V; exact absurd V.1 zB
      ·
       cases aG
    subst aC
    rw [it,Cv] at iG
    have xi:min n len≤n:=Nat.min_le_left _ _
    obtain ⟨w',cq,bi,x'⟩:=vO (P:=P) r iG aw (oB eS (min n len * au E e))
    refine ⟨s,w',_,.int .i64 (min n len:Nat),?_,.inl rfl,by rw [Cv]; rfl,bi,x'⟩
    have hm:Nat.min n len=min n len:=rfl
    simp only [builtin,Builtin.copy_,aD,List.getElem?_toArray,List.getElem?_cons_zero,List.getElem?_cons_succ,Sem.run_bind,df hu,Result.andThen_ok,hlen,Sem.run_pure,pg,hm,Ap _ w xi rfl,cq]
    rfl
 ·
  cases h
end Go.az
namespace Go.az
variable {P:Program} {E:Env}
theorem HS {s:bb} {b off len d o' b8:Nat} {cap:dm} (aG:a5 s (.slice b off len cap)=some (.slice (some ⟨d,o',none⟩) len b8)) (ah:len≠0):o'=off:=by
 simp only [a5] at aG
 cases cap with
 | ex c=>simp only [dB] at aG; split at aG <;> first | (obtain ⟨_,_,ak⟩:=map_some aG; cases ak; rfl) | cases aG
 | rest e sz cQ=>simp only [dB] at aG; split at aG <;> first | (obtain ⟨_,_,ak⟩:=map_some aG; cases ak; rfl) | cases aG
 | tail e l sz z=>
  simp only [dB] at aG
  split at aG
  ·
   rename_i V; exact absurd V.1 ah
  ·
   cases aG
theorem Pq (a1:cU E P) {s:bb} {H H':aa} {w:World} (r:bM E s H w) {argTypes:Array TypeId} {type:TypeId} {consts:Array Bool} {t:TypeId} {bp:List TypeId} {aA v:I} {cs:Value}
 (hS:argTypes.toList=t :: bp) (h:pH E H t aA=some (v,H')) (aG:a5 s aA=some cs):
 va P E s H w v H' (builtin .clear argTypes type consts #[cs]):=by
 unfold pH at h
 split at h
 ·
  rename_i e ab
  have hu:=a1.slice ab
  have aD:=Bz hS
  obtain ⟨z,ai,h⟩:=aO h
  obtain ⟨dd,j,fH,b5,ax,bm,k_,jE,hb,gf,lb⟩:=vW a1 ai
  have h:=show bQ (asSlice aA) (ap (du aA) (some (.undef,H)) none) (fun q=>ap (Nat.beq q.2.2.1 0) (some (.undef,H)) ((bT H q.1 q.2.1 (cR q.2.2.1 z.cells)).omap fun H=>(.undef,H)))=some (v,H') from h
  have ai:∀base a b,cs= .slice base a b -> (base=none∨a=0) -> v= .undef -> H'=H -> va P E s H w v H' (builtin .clear argTypes type consts #[cs]):=by
   rintro base a b rfl k5 rfl rfl
   refine ⟨s,w,_,undef,?_,.inl rfl,rfl,r,Ext.refl _ _ _⟩
   simp only [builtin,Builtin.clear_,aD,List.getElem?_toArray,List.getElem?_cons_zero,Sem.run_bind,df hu,Result.andThen_ok]
   rcases k5 with rfl | rfl
   ·
    rfl
   ·
    cases base <;> rfl
  cases aB:asSlice aA with
  | none=>
   rw [aB,fM] at h
   obtain ⟨J,O⟩:=cd h
   cases O
   rcases iS J with rfl | ⟨cm,rfl⟩ <;> cases aG
   ·
    exact ai none 0 0 rfl (.inl rfl) rfl rfl
   ·
    exact ai (some cm) 0 0 rfl (.inr rfl) rfl rfl
  | some q=>
   rw [aB,fN] at h
   obtain rfl:=hv aB
   obtain ⟨b,off,len,cap⟩:=q
   obtain ⟨d,o',b8,rfl,aw⟩:=l7 aG
   have h:=show ap (Nat.beq len 0) (some (I.undef,H)) ((bT H b off (cR len z.cells)).omap fun H=>(.undef,H))=some (v,H') from h
   cases hR:Nat.beq len 0 with
   | true=>
    rw [hR] at h
    cases h
    have:len=0:=by simpa using hR
    exact ai _ _ _ rfl (.inr this) rfl rfl
   | false=>
    rw [hR] at h
    obtain ⟨ay,iG,he⟩:=bB h
    cases he
    have zB:len≠0:=fun k=>by subst k; cases hR
    obtain rfl:=HS aG zB
    obtain ⟨w',cq,bi,x'⟩:=vO (P:=P) r iG aw (yU (hb s) len)
    refine ⟨s,w',_,undef,?_,.inl rfl,rfl,bi,x'⟩
    obtain ⟨m,rfl⟩:=Nat.exists_eq_succ_of_ne_zero zB
    simp only [builtin,Builtin.clear_,aD,List.getElem?_toArray,List.getElem?_cons_zero,Sem.run_bind,df hu,Result.andThen_ok,oG ax jE,F5,cq]
    rfl
 ·
  cases h
theorem F7 (d o:Nat) (w:World):(Instr.sureAddr (.pointer (some ⟨d,o,none⟩))).run P w= .ok ⟨d,o,none⟩ w:=rfl
theorem NY (a1:cU E P) {s:bb} {H H':aa} {w:World} (r:bM E s H w) {t:TypeId} {p x v:I} {hJ eU:Value} (h:gu E H t p x=some (v,H')) (aR:a5 s p=some hJ) (R:a5 s x=some eU):
 ∃w',(Instr.storeAt t hJ eU).run P w= .ok () w' /\ v= .undef /\ bM E s H' w' /\ Ext s H w s H' w':=by
 obtain ⟨i,ad,h⟩:=aO h
 obtain ⟨q,aB,h⟩:=aO h
 obtain rfl:=l6 aB
 obtain ⟨d,aw,rfl⟩:=m0 aR
 obtain ⟨ah,h⟩:=cd h
 obtain ⟨ay,iG,he⟩:=bB h
 cases he
 have K8:=qV R
 obtain ⟨w',cq,bi,x'⟩:=vO (P:=P) r iG aw K8
 have aG:=a1.au ad w
 refine ⟨w',?_,rfl,bi,x'⟩
 have hlen:=hW K8
 have bm:eU.cells.size=au E t:=by
  have:=Nat.eq_of_beq_eq_true ah
  rw [eQ,<- hlen] at this
  simpa [au,ad] using this
 simp only [Instr.storeAt,storeVar,Sem.run_bind,F7,Result.andThen_ok,aG]
 rw [if_neg (by rw [bm]; simp)]
 exact cq
end Go.az
namespace Go.az
variable {P:Program} {E:Env}
theorem GJ {k:d5} (h:hX k=true):k= .int .u8:=by
 cases k with
 | int k=>cases k <;> first | rfl | cases h
 | _=>cases h
theorem A9 (x:I) (l:List I):gG (x :: l)=(ej x).ac fun p=>ap (jO .u8 p.1) ((i_ p.2).ac fun n=>(gG l).omap (UInt8.ofNat n :: ·)) none:=rfl
theorem FZ {s:bb}:∀ {l:List I} {r:List UInt8} {xs:List Value},gG l=some r -> bZ s l=some xs -> ∃j8:List Int,xs=j8.map (Value.int .u8) /\ j8.map (fun n=>UInt8.ofNat n.toNat)=r
 | [],r,xs,h,R=>by cases h; cases R; exact ⟨[],rfl,rfl⟩
 | x :: l,r,xs,h,R=>by
  rw [A9] at h
  obtain ⟨p,aR,h⟩:=aO h
  obtain rfl:=mX aR
  obtain ⟨ab,h⟩:=cd h
  obtain ⟨n,ar,h⟩:=aO h
  obtain ⟨bi,af,rfl⟩:=bB h
  obtain ⟨y,EG,aj,eS,rfl⟩:=eO.1 R
  obtain ⟨j8,rfl,rfl⟩:=FZ af eS
  have:=oH aj
  subst this
  have kA:=v3.1 ab
  have Aq:=G8 ar
  refine ⟨p.2 :: j8,?_,?_⟩
  ·
   rw [List.map_cons,<- kA]
  ·
   rw [List.map_cons,Aq]; rfl
theorem foldl_push (j8:List Int):∀r:ByteArray,j8.foldl (fun r n=>r.push (UInt8.ofNat n.toNat)) r=⟨r.data ++ (j8.map fun n=>UInt8.ofNat n.toNat).toArray⟩:=by
 induction j8 with
 | nil=>intro r; simp
 | cons n j8 aH=>intro r; simp only [List.foldl_cons,List.map_cons]; rw [aH]; simp [ByteArray.push]
def adb (P:Program) (E:Env) (s:bb) (H:aa) (w:World) (v:I) (m:Sem Next):Prop:=
 ∃w' c,m.run P w= .ok (.value c) w' /\ a5 s v=some c /\ bM E s H w' /\ Ext s H w s H w'
theorem NZ {w:World} {c o n:Nat} {arr:Array Value} {e:TypeId} {bd ad:Nat} (h:w.heap[c]? =some (.cells arr e (bd,ad))) (ar:n≠0):
 w.freeze ⟨c,o,none⟩ n=dk w c (.cells arr e (if bd==ad then (o,o + n) else (min bd o,max ad (o + n)))):=by
 unfold World.freeze dk
 rw [if_neg ar]
 congr 1
 obtain ⟨aF,ab⟩:=Array.getElem?_eq_some_iff.1 h
 apply Array.ext_getElem?
 intro i
 rw [Array.getElem?_modify,Array.getElem?_setIfInBounds]
 by_cases ad:c=i
 ·
  subst ad; simp [aF,ab]
 ·
  simp [ad]
theorem bM.aaC {s:bb} {H:aa} {w:World} (r:bM E s H w) {b d:Nat} {l:List I} {e:TypeId} {x:Bool} {arr:Array Value} {fz mK:Nat × Nat}
 (U:H.m.get b=some (.cells l e x true)) (aw:s.cw b=some d) (aM:w.heap[d]? =some (.cells arr e fz)) (ao:m9 mK arr.size) (EF:hX (aU E e)=true):
 bM E s H (dk w d (.cells arr e mK)) /\ Ext s H w s H (dk w d (.cells arr e mK)):=by
 have rD:=(Array.getElem?_eq_some_iff.1 aM).1
 constructor
 ·
  refine ⟨?_,r.inj,fun a c V=>by rw [oE]; exact r.lt a c V,r.fr⟩
  intro a y c ae V
  have aD:=r.dr a y c ae V
  by_cases bw:c=d
  ·
   subst bw
   cases y with
   | cells tO dn dZ w0=>
    obtain ⟨afl,afP,J,O,ag,aP,bH,eC,fd⟩:=aD
    rw [aM] at J
    cases J
    exact ⟨arr,mK,by rw [iT,if_pos ⟨rfl,rD⟩],O,ag,(match w0 with | true=>ao | false=>trivial),bH,eC,fun h=>⟨(fd h).1,.inr EF⟩⟩
   | loop=>
    obtain ⟨ct,D,J,_⟩:=aD
    rw [aM] at J; cases J
   | dead=>trivial
  ·
   have ab:(dk w d (.cells arr e mK)).heap[c]? =w.heap[c]? :=by rw [iT,if_neg (fun h=>bw h.1)]
   cases y with
   | cells=>obtain ⟨fq,eM,J,O⟩:=aD; exact ⟨fq,eM,ab.trans J,O⟩
   | loop=>obtain ⟨fq,eM,J,O⟩:=aD; exact ⟨fq,eM,ab.trans J,O⟩
   | dead=>trivial
 ·
  refine ⟨Nat.le_refl _,fun _ _=>⟨rfl,rfl,rfl⟩,by rw [oE]; exact Nat.le_refl _,rfl,rfl,rfl,?_,fun a x _ h o m _=>⟨a,x,h,o,m⟩,fun a x _ h o m _=>⟨a,x,h,o,m⟩,Bv aM _⟩
  intro c _ ar
  rw [iT,if_neg (fun h=>ar b _ U rfl (by rw [h.1]; exact aw))]
theorem Ha (a1:cU E P) {s:bb} {H:aa} {w:World} (r:bM E s H w) {M:Nat} {T:a'} {ct:Array Value} (ba:dD s M T ct) {o:Oper} {v:I} (h:eG M o.op E T H=some v):
 adb P E s H w v (execOp (dR ct) o):=by
 cases aC:o.op with
 | load t a=>
  rw [aC] at h
  obtain ⟨p,aR,h⟩:=aO (show ((aK M a T).ac fun v=>bQ (ec v) ((ju v).ac fun q=>ek E t q.1 q.2) fun q=>dw E H t q.1 q.2)=some v from h)
  rw [zn (eF ba aR)] at h
  replace h:=show bQ (ec p) none (fun q=>dw E H t q.1 q.2)=some v from h
  rw [y2] at h
  obtain ⟨q,aB,h⟩:=aO h
  obtain rfl:=l6 aB
  obtain ⟨d,aw,ak⟩:=m0 (eF ba aR)
  obtain ⟨c,V,b9⟩:=GG (P:=P) a1 r h aw
  refine ⟨w,c,?_,V,r,Ext.refl _ _ _⟩
  simp only [execOp,aC,Sem.run_bind,ak,Instr.loadAt,F7,Result.andThen_ok,b9,Sem.run_pure]
 | convert src dst x=>
  rw [aC] at h
  replace h:=show (match aU E src with
   | .slice e=>match hX (aU E e) with
    | true=>match aU E dst with
     | .string=>(aK M x T).ac (strOf H)
     | .slice _=>match Nat.beq src dst with | true=>(aK M x T).ac (jN e H) | false=>none
     | _=>none
    | false=>none
   | _=>none)=some v from h
  split at h
  ·
   rename_i e ab
   have ng:=a1.slice ab
   split at h
   ·
    rename_i k_
    have vb:=a1.int (GJ k_)
    split at h
    ·
     rename_i kB
     have xO:=a1.string kB
     obtain ⟨y,aj,h⟩:=aO h
     have n7:=eF ba aj
     have h:=show bQ (asSlice y) (ap (du y) (some (.str [])) ((fj y).ac fun q=>ap (Nat.beq q.1 1) ((gG (a3 q.2)).omap .str) none)) (fun q=>((bA H q.1 q.2.1 q.2.2.1).ac gG).omap .str)=some v from h
     rw [oN n7] at h
     have h:=show bQ (asSlice y) (ap (du y) (some (.str [])) none) (fun q=>((bA H q.1 q.2.1 q.2.2.1).ac gG).omap .str)=some v from h
     cases aB:asSlice y with
     | none=>
      rw [aB,fM] at h
      obtain ⟨J,O⟩:=cd h
      cases O
      refine ⟨w,.string ⟨#[]⟩,?_,rfl,r,Ext.refl _ _ _⟩
      rcases iS J with rfl | ⟨cm,rfl⟩
      ·
       have ak:dR ct x= .slice none 0 0:=(Option.some.inj n7).symm
       simp only [execOp,aC,Sem.run_bind,ak,run_convert_bytes_string w src dst e _ _ _ ng vb xO,Conv.bytesToString,Sem.run_pure,Result.andThen_ok]
       rfl
      ·
       have ak:dR ct x= .slice (some cm) 0 0:=(Option.some.inj n7).symm
       simp only [execOp,aC,Sem.run_bind,ak,run_convert_bytes_string w src dst e _ _ _ ng vb xO,Conv.bytesToString,Sem.run_pure,Result.andThen_ok,yx]
       rfl
     | some q=>
      rw [aB,fN] at h
      obtain rfl:=hv aB
      obtain ⟨b,off,len,cap⟩:=q
      obtain ⟨bs,gz,rfl⟩:=bB h
      obtain ⟨l,ah,gz⟩:=aO gz
      obtain ⟨d,o',b8,ak,aw⟩:=l7 n7
      rw [ak] at n7
      obtain ⟨xs,eS,fm,b9,_⟩:=qX (P:=P) r ah aw
      obtain ⟨j8,K9,DP⟩:=FZ gz eS
      have Dp:(loadCells ⟨d,o',none⟩ len).run P w= .ok (j8.map (Value.int .u8)).toArray w:=by
       by_cases aD:len=0
       ·
        subst aD
        have:l= []:=List.eq_nil_of_length_eq_zero fm
        subst this
        cases eS
        rw [<- K9]; rfl
       ·
        obtain rfl:=HS n7 aD
        rw [<- K9]; exact b9
      refine ⟨w,.string ⟨bs.toArray⟩,?_,rfl,r,Ext.refl _ _ _⟩
      simp only [execOp,aC,Sem.run_bind,ak,run_convert_bytes_string w src dst e _ _ _ ng vb xO,run_bytesToString w _ len b8 j8 Dp,Result.andThen_ok,Sem.run_pure,foldl_push,DP]
      simp
    ·
     rename_i fG kB
     split at h
     ·
      rename_i qh
      have aaD:src=dst:=Nat.eq_of_beq_eq_true qh
      obtain ⟨y,aj,h⟩:=aO h
      subst aaD
      have n7:=eF ba aj
      obtain ⟨q,aB,h⟩:=aO h
      obtain ⟨z,ai,h⟩:=aO h
      obtain ⟨k,ef,h⟩:=aO h
      obtain ⟨m_,h⟩:=cd h
      cases h
      obtain rfl:=hv aB
      obtain rfl:=pE ef
      obtain ⟨d,o',b8,ak,aw⟩:=l7 n7
      obtain ⟨l,bk,dL,e8⟩:=k
      simp only at m_
      obtain ⟨m_,u'⟩:=ft m_
      subst m_
      obtain rfl:=Nat.eq_of_beq_eq_true u'
      obtain ⟨arr,fz,aM,_,_,e3,_,_,_⟩:=r.dr _ _ d ai aw
      obtain ⟨bd,ad⟩:=fz
      have e3:m9 (bd,ad) arr.size:=e3
      have o4:w.shape? d=some (bk,arr.size):=by simp only [World.shape?,aM]
      have tg:m9 (if bd==ad then (arr.size,arr.size + 1) else (min bd arr.size,max ad (arr.size + 1))) arr.size:=by
       unfold m9 at e3 ⊢
       simp only at e3
       by_cases he:bd=ad
       ·
        right; simp [he]
       ·
        right
        rcases e3 with e3 | e3
        ·
         exact absurd e3 he
        ·
         simp [he]; omega
      obtain ⟨bi,x'⟩:=r.aaC ai aw aM tg (by assumption)
      refine ⟨_,_,?_,n7,bi,x'⟩
      simp only [execOp,aC,Sem.run_bind,ak,convert,df ng,df vb,Result.andThen_ok,beq_self_eq_true,markStringish,run_shape,o4,run_freeze,NZ aM Nat.one_ne_zero,Sem.run_pure]
     ·
      cases h
    ·
     cases h
   ·
    cases h
  ·
   cases h
 | _=>rw [aC] at h; cases h
end Go.az
namespace Go.az
variable {P:Program} {E:Env}
def Made (P:Program) (E:Env) (s:bb) (w:World) (x:bf) (f:Nat -> I) (m:Sem Next):Prop:=
 ∃ka sz obj cl c,(cl=w∨cl=jR w) /\ m.run P w= .ok (.value c) (eH cl obj) /\
  (∀s':bb,s.gi s' -> ∀id w',w'.heap[w.heap.size]? =some obj -> s'.cw id=none -> a5 (cj s' id w.heap.size ka sz) (f id)=some c /\ kp E (cj s' id w.heap.size ka sz) id w.heap.size w' x)
theorem yM {s:bb} {w':World} {l:List I} {xs:List Value} {e:TypeId} (ah:bZ s l=some xs) {s':bb} (hle:s.gi s') {id d:Nat} (hm:s'.cw id=none) {ka sz:Nat} (aM:w'.heap[d]? =some (.cells xs.toArray e)):
 kp E (cj s' id d ka sz) id d w' (.cells l e true true):=by
 have k8:=hW ah
 refine ⟨_,_,aM,?_,by simp [k8],.inl rfl,fun _=>by simp [k8],(fun h=>by cases h),fun _=> ?_⟩
 case refine_2=>rw [List.drop_eq_nil_of_le (by simp [k8])]; exact ⟨im.nil _,.inl rfl⟩
 show bZ _ _=_
 rw [nw (pQ hm) _ _ (nw hle _ _ ah)]
 congr 1
 simp [<- k8]
theorem HT {s':bb} {id d ka sz:Nat}:a5 (cj s' id d ka sz) (.ptr id 0)=some (.pointer (some ⟨d,0,none⟩)):=by
 simp [a5,cj]
theorem GK {s':bb} {id d ka sz l c:Nat} (h:l≤c):a5 (cj s' id d ka sz) (.slice id 0 l (.ex c))=some (.slice (some ⟨d,0,none⟩) l c):=by
 simp [a5,dB,cj,h]
theorem HU {n:Nat} (h:n≤16777216):IntKind.i64.wrap (n:Int)=(n:Int):=by
 have O:((n:Int) % 18446744073709551616)=n:=by omega
 simp only [IntKind.wrap,IntKind.signed,IntKind.bits]
 simp [O]; omega
theorem My {t e:TypeId} {bc a9:IntKind} {l c:Nat} {j:TypeInfo} {fH:Value} (hu:P.underlying t=some (.slice e)) (ax:P.info? e=some j) (ai:j.zero=some fH) (bm:fH.cells.size=j.size)
 (lP:l≤c) (V:c≤1048576) (U:j.bytes≤1048576) (w:World):
 (Instr.makeSlice t (.int bc (l:Int)) (.int a9 (c:Int))).run P w= .ok (.slice (some ⟨w.heap.size,0,none⟩) l c) (eH w (.cells (List.replicate c fH.cells.toList).flatten.toArray e)):=by
 have hm:(j.bytes:Int) * (c:Int)≤2 ^ 48:=by
  have J:j.bytes * c≤1048576 * 1048576:=Nat.mul_le_mul U V
  have ag:((j.bytes * c:Nat):Int)=(j.bytes:Int) * (c:Int):=Int.natCast_mul _ _
  rw [<- ag]; omega
 have dE:=HU (n:=l) (by omega)
 have k7:=HU (n:=c) (by omega)
 simp only [Instr.makeSlice,Sem.run_bind,df hu,Result.andThen_ok,asInt,asIntOf,Sem.run_pure,wg ax,dE,k7]
 rw [if_neg (by simp; omega)]
 simp only [Sem.run_bind,run_askRoom,Result.andThen_ok,y1 ax,Int.toNat_natCast]
 by_cases aD:c * j.size=0
 ·
  have a8:(List.replicate c fH.cells.toList).flatten= []:=List.eq_nil_of_length_eq_zero (by rw [yL]; simp only [Array.length_toList,bm,aD])
  simp only [aD,if_true,Sem.run_pure,Result.andThen_ok,newRow,Sem.run_bind,run_newObj,a8]
  have qn:Array.range 0= #[]:=rfl
  rw [qn,Array.map_empty]
  rfl
 ·
  rw [if_neg aD]
  simp only [Sem.run_bind,oG ax ai,Result.andThen_ok,Sem.run_pure,newRow,run_newObj]
  have:=Bd fH.cells c
  rw [bm] at this
  simp only [bm]
  rw [this]
  rfl
theorem GL (a1:cU E P) {s:bb} {w:World} {M:Nat} {T:a'} {ct:Array Value} (ba:dD s M T ct) {o:Oper} {x:bf} {f:Nat -> I} (h:jn M o.op E T=some (x,f)):
 Made P E s w x f (execOp (dR ct) o):=by
 cases aC:o.op with
 | alloc t=>
  rw [aC] at h
  obtain ⟨z,ai,he⟩:=bB (show (cr E t).omap (fun z=>(bf.cells z.cells t true true,fun b=>I.ptr b 0))=some (x,f) from h)
  cases he
  obtain ⟨dd,j,fH,b5,ax,bm,k_,jE,hb,gf,lb⟩:=vW a1 ai
  refine ⟨0,0,.cells fH.cells.toList.toArray t,w,.pointer (some ⟨w.heap.size,0,none⟩),.inl rfl,?_,fun s' hle id w' aM hm=>⟨HT,yM (hb s) hle hm aM⟩⟩
  simp only [execOp,aC,Instr.alloc,Sem.run_bind,oG ax jE,Result.andThen_ok,newVar,newRow,run_newObj,Sem.run_pure,Array.toArray_toList]
  rfl
 | box t a=>
  rw [aC] at h
  obtain ⟨z,ai,he⟩:=bB (show (aK M a T).omap (fun v=>(bf.cells v.cells t true true,fun b=>I.ptr b 0))=some (x,f) from h)
  cases he
  have V:=qV (eF ba ai)
  refine ⟨0,0,.cells (dR ct a).cells.toList.toArray t,w,.pointer (some ⟨w.heap.size,0,none⟩),.inl rfl,?_,fun s' hle id w' aM hm=>⟨HT,yM V hle hm aM⟩⟩
  simp only [execOp,aC,Instr.box,Sem.run_bind,newVar,newRow,run_newObj,Result.andThen_ok,Sem.run_pure,Array.toArray_toList]
  rfl
 | buildSlice t n ps=>
  rw [aC] at h
  replace h:=show (match aU E t with
   | .slice e=>match Nat.ble (Nat.mul n (au E e)) 16777216 with
    | true=>(cr E e).ac fun z=>(dV M (fun i=>some (Nat.mul i (au E e),au E e)) T ps.toList (cR n z.cells)).omap fun l=>(bf.cells l e true true,fun b=>I.slice b 0 n (.ex n))
    | false=>none
   | _=>none)=some (x,f) from h
  split at h
  ·
   rename_i e ab
   have hu:=a1.slice ab
   split at h
   ·
    rename_i U
    obtain ⟨z,ai,h⟩:=aO h
    obtain ⟨l,ah,he⟩:=bB h
    cases he
    obtain ⟨i,j,fH,ad,ax,bm,k_,jE,hb,gf,lb⟩:=vW a1 ai
    have pg:au E e=i.size:=by simp [au,ad]
    obtain ⟨eE,n5,ao⟩:=yy (cplace:=fun i=>some (i * au E e,au E e)) (fun i q aB=>aB) ba ps.toList _ l _ ah (yU (hb s) n)
    refine ⟨0,0,.cells eE.toArray e,w,.slice (some ⟨w.heap.size,0,none⟩) n n,.inl rfl,?_,fun s' hle id w' aM hm=>⟨GK (Nat.le_refl _),yM n5 hle hm aM⟩⟩
    have dx:n * au E e≤16777216:=de.1 U
    have b9:=y1 (P:=P) ax w
    rw [bm,<- pg] at b9
    have fA:((if n * au E e=0 then pure #[] else do pure (<- zeroValue e).cells:Sem (Array Value)).run P w).andThen (fun z w=> .ok ((Array.range (n * au E e)).map fun i=>z[i % z.size]!) w)= .ok (List.replicate n fH.cells.toList).flatten.toArray w:=by
     by_cases aD:n * au E e=0
     ·
      have a8:(List.replicate n fH.cells.toList).flatten= []:=List.eq_nil_of_length_eq_zero (by rw [yL]; simp only [Array.length_toList,lb,<- pg,aD])
      rw [if_pos aD,a8]
      simp only [Sem.run_pure,Result.andThen_ok,aD]
      have qn:Array.range 0= #[]:=rfl
      rw [qn,Array.map_empty]
     ·
      rw [if_neg aD]
      simp only [Sem.run_bind,oG ax jE,Result.andThen_ok,Sem.run_pure]
      have:=Bd fH.cells n
      rw [lb,<- pg] at this
      simp only [lb,<- pg]
      rw [this]
    have nd:(Array.map (fun x=>(x.1,dR ct x.2)) ps).toList=ps.toList.map fun p=>(p.1,dR ct p.2):=by simp
    by_cases aD:n * au E e=0
    ·
     rw [if_pos aD] at fA
     simp only [Sem.run_pure,Result.andThen_ok] at fA
     have xP:=(Result.ok.inj fA).1
     simp only [execOp,aC,Instr.buildSlice,Sem.run_bind,df hu,Result.andThen_ok,b9]
     rw [if_neg (by omega),if_pos aD]
     simp only [Sem.run_bind,Sem.run_pure,Result.andThen_ok]
     rw [xP,nd,ao]
     rfl
    ·
     rw [if_neg aD] at fA
     simp only [Sem.run_bind,oG ax jE,Result.andThen_ok,Sem.run_pure] at fA
     have xP:=(Result.ok.inj fA).1
     simp only [execOp,aC,Instr.buildSlice,Sem.run_bind,df hu,Result.andThen_ok,b9]
     rw [if_neg (by omega),if_neg aD]
     simp only [Sem.run_bind,oG ax jE,Sem.run_pure,Result.andThen_ok]
     rw [xP,nd,ao]
     rfl
   ·
    cases h
  ·
   cases h
 | makeSlice t a b=>
  rw [aC] at h
  replace h:=show (match aU E t with
   | .slice e=>(cr E e).ac fun z=>(aK M a T).ac fun l=>(aK M b T).ac fun c=>(dH l).ac fun l=>(dH c).ac fun c=>
    match Nat.ble l c && (Nat.ble c 1048576 && Nat.ble (iU E e) 1048576) with
    | true=>some (bf.cells (cR c z.cells) e true true,fun b=>I.slice b 0 l (.ex c))
    | false=>none
   | _=>none)=some (x,f) from h
  split at h
  ·
   rename_i e ab
   have hu:=a1.slice ab
   obtain ⟨z,ai,h⟩:=aO h
   obtain ⟨AR,adc,h⟩:=aO h
   obtain ⟨yj,qo,h⟩:=aO h
   obtain ⟨l,ah,h⟩:=aO h
   obtain ⟨c,V,h⟩:=aO h
   split at h
   ·
    rename_i U
    cases h
    obtain ⟨J,O⟩:=ft U
    obtain ⟨i,j,fH,ad,ax,bm,k_,jE,hb,gf,lb⟩:=vW a1 ai
    have n1:=GI ad O
    obtain ⟨bc,a8⟩:=vV ah (eF ba adc)
    obtain ⟨a9,bk⟩:=vV V (eF ba qo)
    refine ⟨0,0,.cells (List.replicate c fH.cells.toList).flatten.toArray e,w,.slice (some ⟨w.heap.size,0,none⟩) l c,.inl rfl,?_,fun s' hle id w' aM hm=>⟨GK (de.1 J),yM (yU (hb s) c) hle hm aM⟩⟩
    simp only [execOp,aC,Sem.run_bind,a8,bk,My hu ax jE (by rw [lb,bm]) (de.1 J) n1.1 (by rw [k_]; exact n1.2) w,Result.andThen_ok,Sem.run_pure]
   ·
    cases h
  ·
   cases h
 | convert src dst a=>
  rw [aC] at h
  replace h:=show (match aU E src with
   | .string=>match aU E dst with
    | .slice e=>match hX (aU E e) && Nat.beq (au E e) 1 with
     | true=>(aK M a T).ac fun v=>(match v with
      | .str l=>some (bf.cells (l.map fun c=>I.int .u8 (.ofNat c.toNat)) e false true,fun b=>I.slice b 0 l.length (.rest 0 (au E e) l.length))
      | _=>none)
     | false=>none
    | _=>none
   | _=>none)=some (x,f) from h
  split at h
  ·
   rename_i ab
   have ng:=a1.string ab
   split at h
   ·
    rename_i e kB
    have xO:=a1.slice kB
    split at h
    ·
     rename_i U
     obtain ⟨k_,bm⟩:=ft U
     have vb:=a1.int (GJ k_)
     have uR:au E e=1:=Nat.eq_of_beq_eq_true bm
     obtain ⟨v,ak,h⟩:=aO h
     split at h
     ·
      rename_i l
      cases h
      have ade:=sw (eF ba ak)
      have b9:=run_bytes_of_string (P:=P) w src dst e ⟨l.toArray⟩ ng xO vb
      have o1:l.length≤grownCap w (ByteArray.mk l.toArray).size 0 e:=by
       unfold grownCap Question.cut
       exact Nat.le_add_right _ _
      have gc:(bytesRow ⟨l.toArray⟩ (grownCap w (ByteArray.mk l.toArray).size 0 e))=(l.map fun c=>Value.int .u8 c.toNat).toArray ++ Array.replicate (grownCap w (ByteArray.mk l.toArray).size 0 e - l.length) (.int .u8 0):=by
       unfold bytesRow
       congr 1
       simp
      refine ⟨grownCap w (ByteArray.mk l.toArray).size 0 e,1,.cells (bytesRow ⟨l.toArray⟩ (grownCap w (ByteArray.mk l.toArray).size 0 e)) e ((bytesRow ⟨l.toArray⟩ (grownCap w (ByteArray.mk l.toArray).size 0 e)).size,(bytesRow ⟨l.toArray⟩ (grownCap w (ByteArray.mk l.toArray).size 0 e)).size + 1),jR w,
       .slice (some ⟨w.heap.size,0,none⟩) (ByteArray.mk l.toArray).size (grownCap w (ByteArray.mk l.toArray).size 0 e),.inr rfl,?_,?_⟩
      ·
       simp only [execOp,aC,Sem.run_bind,ade,b9,Result.andThen_ok,Sem.run_pure]
       rfl
      ·
       intro s' hle id w' aM hm
       have V:a5 (cj s' id w.heap.size (grownCap w (ByteArray.mk l.toArray).size 0 e) 1) (.slice id 0 l.length (.rest 0 (au E e) l.length))=some (.slice (some ⟨w.heap.size,0,none⟩) l.length (grownCap w (ByteArray.mk l.toArray).size 0 e)):=by
        simp only [a5,dB]
        rw [if_pos ⟨Nat.le_refl _,by simp [cj]; exact o1,by simp,by simp [cj,uR]⟩,hf]
        simp [cj]
       refine ⟨V,_,_,aM,?_,?_,.inr ?_,(fun h=>by cases h),fun _=> ?_,fun _=> ?_⟩
       ·
        show bZ _ _=_; rw [Bx,gc]
        simp
       ·
        rw [gc]; simp
       ·
        exact Nat.le_refl _
       ·
        rw [gc]
        simp [cj,uR]
        omega
       ·
        refine ⟨?_,.inr k_⟩
        rw [gc]
        refine im.of fun v ak=> ?_
        have ak:=List.mem_of_mem_drop ak
        simp only [Array.toList_append,Array.toList_replicate,List.mem_append,List.mem_map,List.mem_replicate] at ak
        rcases ak with ⟨c,_,rfl⟩ | ⟨_,rfl⟩
        ·
         exact ⟨.int .u8 c.toNat,fun _=>rfl⟩
        ·
         exact ⟨.int .u8 0,fun _=>rfl⟩
     ·
      cases h
    ·
     cases h
   ·
    cases h
  ·
   cases h
 | _=>rw [aC] at h; cases h
end Go.az
