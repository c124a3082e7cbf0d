/-
  The evaluator: values, memory and code of a program, worked out by plain functions; how they stand to the model. No conditions.
-/
import Derived.Calls
import Derived.RowKit
import Derived.WalkKit
set_option linter.unusedVariables false
set_option linter.unusedSimpArgs false
namespace Go.az
noncomputable section
inductive bz (α:Type) where
 | nil:bz α
 | node (l:bz α) (v:Option α) (r:bz α):bz α
 deriving Inhabited
def bz.get {α:Type} (t:bz α):Nat -> Option α:=
 bz.rec (fun _=>none) (fun _ v _ AT aeV n=>Nat.rec v (fun n _=>Nat.rec (AT (Nat.div n 2)) (fun _ _=>aeV (Nat.div n 2)) (Nat.mod n 2)) n) t
def bz.oZ {α:Type} (v:α) (k:Nat):Nat -> bz α:=
 Nat.rec (fun n=>Nat.rec (.node .nil (some v) .nil) (fun _ _=> .nil) n)
  (fun _ aH n=>Nat.rec (.node .nil (some v) .nil) (fun n _=>Nat.rec (.node (aH (Nat.div n 2)) none .nil) (fun _ _=> .node .nil none (aH (Nat.div n 2))) (Nat.mod n 2)) n) k
def bz.set {α:Type} (v:α) (t:bz α):Nat -> bz α:=
 bz.rec (fun n=>oZ v n n)
  (fun l x r aeW gD n=>Nat.rec (.node l (some v) r) (fun n _=>Nat.rec (.node (aeW (Nat.div n 2)) x r) (fun _ _=> .node l x (gD (Nat.div n 2))) (Nat.mod n 2)) n) t
section
variable {α:Type}
theorem bz.B0 (l:bz α) (v:Option α) (r:bz α):(bz.node l v r).get 0=v:=rfl
theorem bz.pJ (l:bz α) (v:Option α) (r:bz α) (n:Nat):(bz.node l v r).get (n + 1)=match n % 2 with | 0=>l.get (n / 2) | _ + 1=>r.get (n / 2):=by
 have h:(bz.node l v r).get (n + 1)= @Nat.rec (fun _=>Option α) (l.get (n / 2)) (fun _ _=>r.get (n / 2)) (n % 2):=rfl
 rw [h]
 cases n % 2 <;> rfl
theorem bz.G6 (v:α) (k:Nat):bz.oZ v k 0= .node .nil (some v) .nil:=by cases k <;> rfl
theorem bz.Pa (v:α) (k n:Nat):bz.oZ v (k + 1) (n + 1)=match n % 2 with | 0=> .node (oZ v k (n / 2)) none .nil | _ + 1=> .node .nil none (oZ v k (n / 2)):=by
 have h:bz.oZ v (k + 1) (n + 1)= @Nat.rec (fun _=>bz α) (.node (oZ v k (n / 2)) none .nil) (fun _ _=> .node .nil none (oZ v k (n / 2))) (n % 2):=rfl
 rw [h]
 cases n % 2 <;> rfl
theorem bz.set_nil (v:α) (n:Nat):(bz.nil:bz α).set v n=oZ v n n:=rfl
theorem bz.Q3 (v:α) (l:bz α) (x:Option α) (r:bz α):(bz.node l x r).set v 0= .node l (some v) r:=rfl
theorem bz.Q4 (v:α) (l:bz α) (x:Option α) (r:bz α) (n:Nat):(bz.node l x r).set v (n + 1)=match n % 2 with | 0=> .node (l.set v (n / 2)) x r | _ + 1=> .node l x (r.set v (n / 2)):=by
 have h:(bz.node l x r).set v (n + 1)= @Nat.rec (fun _=>bz α) (.node (l.set v (n / 2)) x r) (fun _ _=> .node l x (r.set v (n / 2))) (n % 2):=rfl
 rw [h]
 cases n % 2 <;> rfl
end
def bz.iE {α:Type} (l:List α):Nat -> bz α -> bz α:=
 List.rec (fun _ t=>t) (fun x _ aH i t=>aH (Nat.succ i) (t.set x i)) l
theorem bz.S_ {α:Type} (i:Nat) (t:bz α):bz.iE [] i t=t:=rfl
theorem bz.Q5 {α:Type} (x:α) (l:List α) (i:Nat) (t:bz α):bz.iE (x :: l) i t=bz.iE l (i + 1) (t.set x i):=rfl
def _root_.Option.ac {α β:Type} (o:Option α) (f:α -> Option β):Option β:=Option.rec none f o
def _root_.Option.omap {α β:Type} (f:α -> β) (o:Option α):Option β:=Option.rec none (fun a=>some (f a)) o
def bQ {α β:Type} (o:Option α) (n:β) (f:α -> β):β:=Option.rec n f o
@[simp] theorem fM {α β:Type} (n:β) (f:α -> β):bQ none n f=n:=rfl
@[simp] theorem fN {α β:Type} (a:α) (n:β) (f:α -> β):bQ (some a) n f=f a:=rfl
def ap {α:Type} (b:Bool) (x y:α):α:=Bool.rec y x b
@[simp] theorem mZ {α β:Type} (o:Option α) (f:α -> Option β):o.ac f=o.bind f:=by cases o <;> rfl
@[simp] theorem nB {α β:Type} (f:α -> β) (o:Option α):o.omap f=o.map f:=by cases o <;> rfl
@[simp] theorem uk {α:Type} (x y:α):ap true x y=x:=rfl
@[simp] theorem wb {α:Type} (x y:α):ap false x y=y:=rfl
structure fl (α:Type) where
 f:α
inductive dm where
 | ex (c:Nat)
 | rest (aar sz cQ:Nat)
 | tail (aar l sz:Nat) (z:Bool)
 deriving Inhabited
inductive I where
 | bool (b:Bool)
 | int (k:IntKind) (n:Int)
 | str (s:List UInt8)
 | cA
 | ptr (b off:Nat)
 | aE
 | slice (b off len:Nat) (cap:dm)
 | func (f:FuncId) (first captured:List I)
 | yield (l:Nat)
 | dj
 | iface (t:TypeId) (v:I)
 | dK
 | agg (l:List I)
 | tuple (l:List I)
 | aJ (sz:Nat) (l:List I)
 | c9 (l:List I) (off:Nat)
 | dY (a:Addr)
 deriving Inhabited
def I.undef:I:= .tuple []
def ec (v:I):Option (Nat × Nat):=
 I.rec (motive_1:=fun _=>Option (Nat × Nat)) (motive_2:=fun _=>Unit)
  (fun _=>none)
  (fun _ _=>none)
  (fun _=>none)
  (none)
  (fun b o=>some (b,o))
  (none)
  (fun _ _ _ _=>none)
  (fun _ _ _ _ _=>none)
  (fun _=>none)
  (none)
  (fun _ _ _=>none)
  (none)
  (fun _ _=>none)
  (fun _ _=>none)
  (fun _ _ _=>none)
  (fun _ _ _=>none)
  (fun _=>none)
  () (fun _ _ _ _=>()) v
def ej (v:I):Option (IntKind × Int):=
 I.rec (motive_1:=fun _=>Option (IntKind × Int)) (motive_2:=fun _=>Unit)
  (fun _=>none)
  (fun k n=>some (k,n))
  (fun _=>none)
  (none)
  (fun _ _=>none)
  (none)
  (fun _ _ _ _=>none)
  (fun _ _ _ _ _=>none)
  (fun _=>none)
  (none)
  (fun _ _ _=>none)
  (none)
  (fun _ _=>none)
  (fun _ _=>none)
  (fun _ _ _=>none)
  (fun _ _ _=>none)
  (fun _=>none)
  () (fun _ _ _ _=>()) v
def e_ (v:I):Option Bool:=
 I.rec (motive_1:=fun _=>Option Bool) (motive_2:=fun _=>Unit)
  (fun b=>some b)
  (fun _ _=>none)
  (fun _=>none)
  (none)
  (fun _ _=>none)
  (none)
  (fun _ _ _ _=>none)
  (fun _ _ _ _ _=>none)
  (fun _=>none)
  (none)
  (fun _ _ _=>none)
  (none)
  (fun _ _=>none)
  (fun _ _=>none)
  (fun _ _ _=>none)
  (fun _ _ _=>none)
  (fun _=>none)
  () (fun _ _ _ _=>()) v
def f_ (v:I):Option (List UInt8):=
 I.rec (motive_1:=fun _=>Option (List UInt8)) (motive_2:=fun _=>Unit)
  (fun _=>none)
  (fun _ _=>none)
  (fun l=>some l)
  (none)
  (fun _ _=>none)
  (none)
  (fun _ _ _ _=>none)
  (fun _ _ _ _ _=>none)
  (fun _=>none)
  (none)
  (fun _ _ _=>none)
  (none)
  (fun _ _=>none)
  (fun _ _=>none)
  (fun _ _ _=>none)
  (fun _ _ _=>none)
  (fun _=>none)
  () (fun _ _ _ _=>()) v
def asSlice (v:I):Option (Nat × Nat × Nat × dm):=
 I.rec (motive_1:=fun _=>Option (Nat × Nat × Nat × dm)) (motive_2:=fun _=>Unit)
  (fun _=>none)
  (fun _ _=>none)
  (fun _=>none)
  (none)
  (fun _ _=>none)
  (none)
  (fun b o n c=>some (b,o,n,c))
  (fun _ _ _ _ _=>none)
  (fun _=>none)
  (none)
  (fun _ _ _=>none)
  (none)
  (fun _ _=>none)
  (fun _ _=>none)
  (fun _ _ _=>none)
  (fun _ _ _=>none)
  (fun _=>none)
  () (fun _ _ _ _=>()) v
def du (v:I):Bool:=
 I.rec (motive_1:=fun _=>Bool) (motive_2:=fun _=>Unit)
  (fun _=>false)
  (fun _ _=>false)
  (fun _=>false)
  (false)
  (fun _ _=>false)
  (true)
  (fun _ _ _ _=>false)
  (fun _ _ _ _ _=>false)
  (fun _=>false)
  (false)
  (fun _ _ _=>false)
  (false)
  (fun _ _=>false)
  (fun _ _=>false)
  (fun _ _ _=>false)
  (fun _ _ _=>false)
  (fun _=>true)
  () (fun _ _ _ _=>()) v
def gI (v:I):Option (List I):=
 I.rec (motive_1:=fun _=>Option (List I)) (motive_2:=fun _=>Unit)
  (fun _=>none)
  (fun _ _=>none)
  (fun _=>none)
  (none)
  (fun _ _=>none)
  (none)
  (fun _ _ _ _=>none)
  (fun _ _ _ _ _=>none)
  (fun _=>none)
  (none)
  (fun _ _ _=>none)
  (none)
  (fun l _=>some l)
  (fun _ _=>none)
  (fun _ _ _=>none)
  (fun _ _ _=>none)
  (fun _=>none)
  () (fun _ _ _ _=>()) v
def sr (v:I):Option (List I):=
 I.rec (motive_1:=fun _=>Option (List I)) (motive_2:=fun _=>Unit)
  (fun _=>none)
  (fun _ _=>none)
  (fun _=>none)
  (none)
  (fun _ _=>none)
  (none)
  (fun _ _ _ _=>none)
  (fun _ _ _ _ _=>none)
  (fun _=>none)
  (none)
  (fun _ _ _=>none)
  (none)
  (fun _ _=>none)
  (fun l _=>some l)
  (fun _ _ _=>none)
  (fun _ _ _=>none)
  (fun _=>none)
  () (fun _ _ _ _=>()) v
def fj (v:I):Option (Nat × List I):=
 I.rec (motive_1:=fun _=>Option (Nat × List I)) (motive_2:=fun _=>Unit)
  (fun _=>none)
  (fun _ _=>none)
  (fun _=>none)
  (none)
  (fun _ _=>none)
  (none)
  (fun _ _ _ _=>none)
  (fun _ _ _ _ _=>none)
  (fun _=>none)
  (none)
  (fun _ _ _=>none)
  (none)
  (fun _ _=>none)
  (fun _ _=>none)
  (fun n l _=>some (n,l))
  (fun _ _ _=>none)
  (fun _=>none)
  () (fun _ _ _ _=>()) v
def ju (v:I):Option (List I × Nat):=
 I.rec (motive_1:=fun _=>Option (List I × Nat)) (motive_2:=fun _=>Unit)
  (fun _=>none)
  (fun _ _=>none)
  (fun _=>none)
  (none)
  (fun _ _=>none)
  (none)
  (fun _ _ _ _=>none)
  (fun _ _ _ _ _=>none)
  (fun _=>none)
  (none)
  (fun _ _ _=>none)
  (none)
  (fun _ _=>none)
  (fun _ _=>none)
  (fun _ _ _=>none)
  (fun l o _=>some (l,o))
  (fun _=>none)
  () (fun _ _ _ _=>()) v
def b2 (v:I):Bool:=
 I.rec (motive_1:=fun _=>Bool) (motive_2:=fun _=>Unit)
  (fun _=>true)
  (fun _ _=>true)
  (fun _=>true)
  (true)
  (fun _ _=>true)
  (true)
  (fun _ _ _ _=>true)
  (fun _ _ _ _ _=>true)
  (fun _=>true)
  (true)
  (fun _ _ _=>true)
  (true)
  (fun _ _=>false)
  (fun _ _=>false)
  (fun _ _ _=>true)
  (fun _ _ _=>true)
  (fun _=>true)
  () (fun _ _ _ _=>()) v
def mg (v:I):Bool:=
 I.rec (motive_1:=fun _=>Bool) (motive_2:=fun _=>Unit)
  (fun _=>false)
  (fun _ _=>false)
  (fun _=>false)
  (true)
  (fun _ _=>true)
  (false)
  (fun _ _ _ _=>false)
  (fun _ _ _ _ _=>false)
  (fun _=>false)
  (false)
  (fun _ _ _=>false)
  (false)
  (fun _ _=>false)
  (fun _ _=>false)
  (fun _ _ _=>false)
  (fun _ _ _=>true)
  (fun _=>false)
  () (fun _ _ _ _=>()) v
def g5 (v:I):Bool:=
 I.rec (motive_1:=fun _=>Bool) (motive_2:=fun _=>Unit)
  (fun _=>false)
  (fun _ _=>false)
  (fun _=>false)
  (false)
  (fun _ _=>false)
  (true)
  (fun _ _ _ _=>true)
  (fun _ _ _ _ _=>false)
  (fun _=>false)
  (false)
  (fun _ _ _=>false)
  (false)
  (fun _ _=>false)
  (fun _ _=>false)
  (fun _ l _=>List.rec false (fun _ _ _=>true) l)
  (fun _ _ _=>false)
  (fun _=>true)
  () (fun _ _ _ _=>()) v
def mb (v:I):Bool:=
 I.rec (motive_1:=fun _=>Bool) (motive_2:=fun _=>Unit)
  (fun _=>false)
  (fun _ _=>false)
  (fun _=>false)
  (false)
  (fun _ _=>false)
  (false)
  (fun _ _ _ _=>false)
  (fun _ _ _ _ _=>true)
  (fun _=>false)
  (true)
  (fun _ _ _=>false)
  (false)
  (fun _ _=>false)
  (fun _ _=>false)
  (fun _ _ _=>false)
  (fun _ _ _=>false)
  (fun _=>false)
  () (fun _ _ _ _=>()) v
def mh (v:I):Bool:=
 I.rec (motive_1:=fun _=>Bool) (motive_2:=fun _=>Unit)
  (fun _=>false)
  (fun _ _=>false)
  (fun _=>false)
  (true)
  (fun _ _=>false)
  (true)
  (fun _ _ _ _=>false)
  (fun _ _ _ _ _=>false)
  (fun _=>false)
  (true)
  (fun _ _ _=>false)
  (false)
  (fun _ _=>false)
  (fun _ _=>false)
  (fun _ _ _=>false)
  (fun _ _ _=>false)
  (fun _=>false)
  () (fun _ _ _ _=>()) v
def uv (v:I):Option (FuncId × List I × List I):=
 I.rec (motive_1:=fun _=>Option (FuncId × List I × List I)) (motive_2:=fun _=>Unit)
  (fun _=>none)
  (fun _ _=>none)
  (fun _=>none)
  (none)
  (fun _ _=>none)
  (none)
  (fun _ _ _ _=>none)
  (fun f a c _ _=>some (f,a,c))
  (fun _=>none)
  (none)
  (fun _ _ _=>none)
  (none)
  (fun _ _=>none)
  (fun _ _=>none)
  (fun _ _ _=>none)
  (fun _ _ _=>none)
  (fun _=>none)
  () (fun _ _ _ _=>()) v
def y7 (v:I):Option Nat:=
 I.rec (motive_1:=fun _=>Option Nat) (motive_2:=fun _=>Unit)
  (fun _=>none)
  (fun _ _=>none)
  (fun _=>none)
  (none)
  (fun _ _=>none)
  (none)
  (fun _ _ _ _=>none)
  (fun _ _ _ _ _=>none)
  (fun l=>some l)
  (none)
  (fun _ _ _=>none)
  (none)
  (fun _ _=>none)
  (fun _ _=>none)
  (fun _ _ _=>none)
  (fun _ _ _=>none)
  (fun _=>none)
  () (fun _ _ _ _=>()) v
inductive ca where
 | nil
 | cons (k:Nat) (v:I) (r:ca)
def ca.get (t:ca):Nat -> Option I:=
 ca.rec (motive:=fun _=>Nat -> Option I) (fun _=>none) (fun k v _ aH i=>ap (Nat.beq k i) (some v) (aH i)) t
def ca.p5 (v:I) (t:ca):Nat -> Option ca:=
 ca.rec (motive:=fun _=>Nat -> Option ca) (fun _=>none) (fun k x r aH i=>ap (Nat.beq k i) (some (.cons k v r)) ((aH i).omap (.cons k x))) t
def ca.put (v:I) (t:ca) (i:Nat):ca:=bQ (t.p5 v i) (.cons i v t) fun r=>r
structure a' where
 L:ca
 G:ca
def a'.get (M:Nat) (T:a') (i:Nat):Option I:=ap (Nat.testBit M i) (T.G.get i) (T.L.get i)
def a'.put (M:Nat) (T:a') (v:I) (i:Nat):a':=ap (Nat.testBit M i) ⟨T.L,T.G.put v i⟩ ⟨.cons i v T.L,T.G⟩
inductive bf where
 | cells (l:List I) (e:TypeId) (exact:Bool) (w:Bool)
 | loop (fn:FuncId) (aga:a') (n m:Nat) (params:List Tmp) (assign body:Code) (st:LoopState) (jy:Option Code)
 | dead
def kf (x:bf):Option (List I × TypeId × Bool × Bool):=
 bf.rec (motive:=fun _=>Option (List I × TypeId × Bool × Bool)) (fun l e x w=>some (l,e,x,w)) (fun _ _ _ _ _ _ _ _ _=>none) none x
structure aa where
 m:bz bf
 next:Nat
 log:List Nat
inductive d5 where
 | bool | int (k:IntKind) | string | ptr (e:TypeId) | slice (e:TypeId) | array (n:Nat) (e:TypeId)
 | struct (da:List (Nat × TypeId)) | func | iface | other
 deriving Inhabited
structure kI where
 size:Nat
 bytes:Nat
 agg:Bool
 zero:Option I
 kind:d5
 deriving Inhabited
structure Env where
 fn:FuncId -> Option Func
 ty:TypeId -> Option kI
 flat:TypeId -> Option (Bool × Nat)
 sum:FuncId -> Option (List I -> aa -> Option (I × aa))
 mask:Func -> Nat
 kO:Option (I -> List I -> aa -> (I -> aa -> Prop) -> Prop):=none
def iE (f:Value -> Option I):List Value -> Option (List I)
 | []=>some []
 | x :: l=>(f x).bind fun y=>(iE f l).map (y :: ·)
def h2:Nat -> Value -> Option I
 | _,.bool b=>some (.bool b)
 | _,.int k n=>some (.int k n)
 | _,.string s=>some (.str s.data.toList)
 | _,.pointer none=>some .cA
 | _,.slice none 0 0=>some .aE
 | _,.nilFunc=>some .dj
 | _,.nilIface=>some .dK
 | d + 1,.func (.func f) a b=>(iE (h2 d) a.toList).bind fun x=>(iE (h2 d) b.toList).map fun y=> .func f x y
 | d + 1,.agg cs=>(iE (h2 d) cs.toList).map .agg
 | d + 1,.tuple cs=>(iE (h2 d) cs.toList).map .tuple
 | _,_=>none
def Kb (M:Nat) (o:Operand):fl (a' -> Option I):=match o with
 | .tmp t=>match Nat.testBit M t with
  | true=> .mk fun T=>T.G.get t
  | false=> .mk fun T=>T.L.get t
 | .const v=> .mk fun _=>h2 3 v
 | .global _=> .mk fun _=>none
 | .func f=> .mk fun _=>some (.func f [] [])
def aK (M:Nat) (o:Operand) (T:a'):Option I:=(Kb M o).f T
def c0 (M:Nat) (l:List Operand) (T:a'):Option (List I):=
 List.rec (some []) (fun x _ aH=>(aK M x T).ac fun y=>aH.omap (y :: ·)) l
def uE (m:Nat) (n:Int):Int:=
 Int.rec (fun a=> .ofNat (Nat.mod a m)) (fun a=> .ofNat (Nat.sub (Nat.sub m 1) (Nat.mod a m))) n
def rl (m h:Nat) (n:Int):Int:=
 Int.rec (fun a=>ap (Nat.blt (Nat.mod a m) h) (.ofNat (Nat.mod a m)) (.negSucc (Nat.sub (Nat.sub m 1) (Nat.mod a m))))
  (fun a=>ap (Nat.blt (Nat.mod a m) h) (.negSucc (Nat.mod a m)) (.ofNat (Nat.sub (Nat.sub m 1) (Nat.mod a m)))) n
def Jf (k:IntKind):fl (Int -> Int):=match k with
 | .i8=> .mk <| rl 256 128
 | .i16=> .mk <| rl 65536 32768
 | .i32=> .mk <| rl 4294967296 2147483648
 | .i64=> .mk <| rl 18446744073709551616 9223372036854775808
 | .u8=> .mk <| uE 256
 | .u16=> .mk <| uE 65536
 | .u32=> .mk <| uE 4294967296
 | .u64=> .mk <| uE 18446744073709551616
def bG (k:IntKind):Int -> Int:=(Jf k).f
def DI (k:IntKind):Nat:=match k with
 | .i8 | .u8=>256 | .i16 | .u16=>65536 | .i32 | .u32=>4294967296 | .i64 | .u64=>18446744073709551616
def modn (k:IntKind) (n:Int):Nat:=(uE (DI k) n).toNat
def Kc (k:IntKind):Nat:=Nat.sub (DI k) 1
def Kd (k:IntKind):Nat:=match k with
 | .i8=>0 | .i16=>1 | .i32=>2 | .i64=>3 | .u8=>4 | .u16=>5 | .u32=>6 | .u64=>7
def jO (k k':IntKind):Bool:=Nat.beq (Kd k) (Kd k')
def lN (a b:Int):Bool:=
 Int.rec (fun a=>Int.rec (fun b=>Nat.beq a b) (fun _=>false) b) (fun a=>Int.rec (fun _=>false) (fun b=>Nat.beq a b) b) a
def n3 (a b:Int):Bool:=
 Int.rec (fun a=>Int.rec (fun b=>Nat.blt a b) (fun _=>false) b) (fun a=>Int.rec (fun _=>true) (fun b=>Nat.blt b a) b) a
def ul (op:BinOp):fl (IntKind -> Int -> Int -> Option I):=match op with
 | .add=> .mk <| fun k a b=>some (.int k (bG k (Int.add a b)))
 | .sub=> .mk <| fun k a b=>some (.int k (bG k (Int.sub a b)))
 | .mul=> .mk <| fun k a b=>some (.int k (bG k (Int.mul a b)))
 | .quo=> .mk <| fun k a b=>match lN b 0 with | true=>none | false=>some (.int k (bG k (a.tdiv b)))
 | .rem=> .mk <| fun k a b=>match lN b 0 with | true=>none | false=>some (.int k (a.tmod b))
 | .and=> .mk <| fun k a b=>some (.int k (bG k (.ofNat (Nat.land (modn k a) (modn k b)))))
 | .or=> .mk <| fun k a b=>some (.int k (bG k (.ofNat (Nat.lor (modn k a) (modn k b)))))
 | .xor=> .mk <| fun k a b=>some (.int k (bG k (.ofNat (Nat.xor (modn k a) (modn k b)))))
 | .andNot=> .mk <| fun k a b=>some (.int k (bG k (.ofNat (Nat.land (modn k a) (Nat.sub (Kc k) (modn k b))))))
 | .eql=> .mk <| fun _ a b=>some (.bool (lN a b))
 | .neq=> .mk <| fun _ a b=>some (.bool (!lN a b))
 | .lss=> .mk <| fun _ a b=>some (.bool (n3 a b))
 | .leq=> .mk <| fun _ a b=>some (.bool (!n3 b a))
 | .gtr=> .mk <| fun _ a b=>some (.bool (n3 b a))
 | .geq=> .mk <| fun _ a b=>some (.bool (!n3 a b))
 | _=> .mk <| fun _ _ _=>none
def pU (op:BinOp):IntKind -> Int -> Int -> Option I:=(ul op).f
def iY (k:IntKind):Nat:=match k with
 | .i8 | .u8=>8 | .i16 | .u16=>16 | .i32 | .u32=>32 | .i64 | .u64=>64
def Q6 (op:BinOp):fl (IntKind -> Int -> Nat -> Option I):=match op with
 | .shl=> .mk <| fun k x n=>some (.int k (bG k (Int.mul x (.ofNat (Nat.pow 2 n)))))
 | .shr=> .mk <| fun k x n=>some (.int k (x.fdiv (.ofNat (Nat.pow 2 n))))
 | _=> .mk <| fun _ _ _=>none
def um (op:BinOp):IntKind -> Int -> Nat -> Option I:=(Q6 op).f
def gb (a b:Nat):Nat:=ap (Nat.ble a b) a b
def i_ (n:Int):Option Nat:=Int.rec (fun n=>some n) (fun _=>none) n
def CW (op:BinOp) (k:IntKind) (x y:Int):Option I:=
 (i_ y).ac fun y=>um op k x (gb y (iY k))
def Pb (bg:Bool):fl (I -> I -> Option Bool):=match bg with
 | true=> .mk fun x y=>(e_ x).ac fun a=>(e_ y).omap fun b=>ap a b (!b)
 | false=> .mk fun x y=>(ej x).ac fun p=>(ej y).ac fun q=>ap (jO p.1 q.1) (some (lN p.2 q.2)) none
def oF (bg:Bool) (x y:I):Option Bool:=(Pb bg).f x y
def hd (bg:Bool) (l:List I):List I -> Option Bool:=
 List.rec (fun r=>List.rec (some true) (fun _ _ _=>none) r)
  (fun x _ aH r=>List.rec none (fun y r _=>(oF bg x y).ac fun a=>(aH r).omap fun b=>a && b) r) l
def rm (l:List UInt8):List UInt8 -> Bool:=
 List.rec (fun r=>List.rec true (fun _ _ _=>false) r)
  (fun a _ aH r=>List.rec false (fun b r _=>ap (Nat.beq a.toNat b.toNat) (aH r) false) r) l
def kT (a b:Bool):Bool:=ap a b (!b)
def kn (x y:I):Option Bool:=ap (mh x) (some (mh y)) (ap (mh y) (some false) none)
def g8 (n:Nat):List I -> List I:=
 Nat.rec (fun _=> []) (fun _ aH l=>List.rec [] (fun x l _=>x :: aH l) l) n
def co (n:Nat):List I -> List I:=
 Nat.rec (fun l=>l) (fun _ aH l=>List.rec [] (fun _ l _=>aH l) l) n
def bJ (l:List I):Nat:=List.rec 0 (fun _ _ n=>Nat.succ n) l
def cb (l r:List I):List I:=List.rec r (fun x _ aH=>x :: aH) l
def Xl (l:List I):Option I:=List.rec none (fun x _ _=>some x) l
def fy (l:List I) (n:Nat):Option I:=Xl (co n l)
theorem it:∀(n:Nat) (l:List I),g8 n l=l.take n
 | 0,_=>rfl
 | _ + 1,[]=>rfl
 | n + 1,x :: l=>congrArg (x :: ·) (it n l)
theorem dz:∀(n:Nat) (l:List I),co n l=l.drop n
 | 0,_=>rfl
 | _ + 1,[]=>rfl
 | n + 1,_ :: l=>dz n l
theorem eQ:∀(l:List I),bJ l=l.length
 | []=>rfl
 | _ :: l=>congrArg Nat.succ (eQ l)
theorem eZ:∀(l r:List I),cb l r=l ++ r
 | [],_=>rfl
 | x :: l,r=>congrArg (x :: ·) (eZ l r)
theorem ke (l:List I) (n:Nat):fy l n=l[n]? :=by
 unfold fy; rw [dz]
 cases h:l.drop n with
 | nil=>show none=_; rw [List.getElem?_eq_none (by simpa using h)]
 | cons x r=>
  have:l[n]? =(l.drop n)[0]? :=by simp
  rw [this,h]; rfl
def Vr (bS:Option (Bool × Nat)):fl (I -> I -> Option Bool):=match bS with
 | none=> .mk fun _ _=>none
 | some p=> .mk fun x y=>(gI x).ac fun l=>(gI y).ac fun r=>ap (Nat.beq (bJ l) p.2) (hd p.1 l r) none
def oR (bS:Option (Bool × Nat)) (x y:I):Option Bool:=(Vr bS).f x y
def Xm (k:d5):fl (Option (Bool × Nat) -> I -> I -> Option Bool):=match k with
 | .ptr _=> .mk <| fun _ x y=>ap (mg x && mg y) (kn x y) none
 | .slice _=> .mk <| fun _ x y=>ap (g5 x && g5 y) (kn x y) none
 | .func=> .mk <| fun _ x y=>ap (mb x && mb y) (kn x y) none
 | .bool=> .mk <| fun _ x y=>(e_ x).ac fun a=>(e_ y).omap fun b=>kT a b
 | .struct _=> .mk <| fun bS x y=>oR bS x y
 | .array _ _=> .mk <| fun bS x y=>oR bS x y
 | _=> .mk <| fun _ _ _=>none
def gx (k:d5):Option (Bool × Nat) -> I -> I -> Option Bool:=(Xm k).f
def Xn (op:BinOp):fl (Option Bool -> Option I):=match op with
 | .eql=> .mk <| fun r=>r.omap .bool
 | .neq=> .mk <| fun r=>r.omap fun b=> .bool (!b)
 | _=> .mk <| fun _=>none
def m8 (op:BinOp):Option Bool -> Option I:=(Xn op).f
def y8 (op:BinOp):Bool:=match op with | .shl | .shr=>true | _=>false
def y9 (op:BinOp):fl (IntKind -> Int -> I -> Option I):=match y8 op with
 | true=> .mk <| fun k a y=>(ej y).ac fun q=>CW op k a q.2
 | false=> .mk <| fun k a y=>(ej y).ac fun q=>ap (jO k q.1) (pU op k a q.2) none
def hg (op:BinOp):IntKind -> Int -> I -> Option I:=(y9 op).f
def Jg (op:BinOp):fl (List UInt8 -> List UInt8 -> Option I):=match op with
 | .add=> .mk <| fun a b=>match Nat.ble (Nat.add a.length b.length) 1048576 with | true=>some (.str (a ++ b)) | false=>none
 | .eql=> .mk <| fun a b=>some (.bool (rm a b))
 | .neq=> .mk <| fun a b=>some (.bool (!rm a b))
 | _=> .mk <| fun _ _=>none
def wY (op:BinOp):List UInt8 -> List UInt8 -> Option I:=(Jg op).f
def hN (k:d5) (bS:Option (Bool × Nat)) (op:BinOp) (x y:I):Option I:=
 bQ (ej x) (bQ (f_ x) (m8 op (gx k bS x y)) fun a=>(f_ y).ac fun b=>wY op a b) fun p=>hg op p.1 p.2 y
def Xo (op:UnOp):fl (I -> Option I):=match op with
 | .neg=> .mk <| fun x=>(ej x).omap fun p=> .int p.1 (bG p.1 (Int.sub 0 p.2))
 | .not=> .mk <| fun x=>(e_ x).omap fun b=> .bool !b
 | _=> .mk <| fun _=>none
def p6 (op:UnOp):I -> Option I:=(Xo op).f
def dH (x:I):Option Nat:=(ej x).ac fun p=>i_ p.2
def cG (n:Nat):List I -> Option (List I):=
 Nat.rec (fun _=>some []) (fun _ aH l=>List.rec none (fun x l _=>(aH l).omap (x :: ·)) l) n
def nH (new:List I):List I -> Option (List I):=
 List.rec (fun l=>some l) (fun y _ aH l=>List.rec none (fun _ l _=>(aH l).omap (y :: ·)) l) new
def dC (new:List I) (off:Nat):List I -> Option (List I):=
 Nat.rec (fun l=>nH new l) (fun _ aH l=>List.rec none (fun x l _=>(aH l).omap (x :: ·)) l) off
theorem fL:∀(n:Nat) (l:List I),cG n l=if n≤l.length then some (l.take n) else none
 | 0,l=>by have h:cG 0 l=some []:=rfl; rw [h]; simp
 | n + 1,[]=>by have h:cG (n + 1) []=none:=rfl; rw [h]; simp
 | n + 1,x :: l=>by
  have h:cG (n + 1) (x :: l)=(cG n l).map (x :: ·):=nB _ _
  rw [h,fL n l]
  by_cases h:n≤l.length <;> simp [h]
theorem HH:∀(new l:List I),nH new l=if new.length≤l.length then some (new ++ l.drop new.length) else none
 | [],l=>by have h:nH [] l=some l:=rfl; rw [h]; simp
 | y :: new,[]=>by have h:nH (y :: new) []=none:=rfl; rw [h]; simp
 | y :: new,x :: l=>by
  have h:nH (y :: new) (x :: l)=(nH new l).map (y :: ·):=nB _ _
  rw [h,HH new l]
  by_cases h:new.length≤l.length <;> simp [h]
theorem uo (new:List I):∀(off:Nat) (l:List I),dC new off l=if off≤l.length /\ new.length≤l.length - off then some (l.take off ++ (new ++ l.drop (off + new.length))) else none
 | 0,l=>by
  have h:dC new 0 l=nH new l:=rfl
  rw [h,HH]; simp
 | off + 1,[]=>by have h:dC new (off + 1) []=none:=rfl; rw [h]; simp
 | off + 1,x :: l=>by
  have h:dC new (off + 1) (x :: l)=(dC new off l).map (x :: ·):=nB _ _
  rw [h,uo new off l]
  by_cases h:off≤l.length /\ new.length≤l.length - off
  ·
   have:off + 1≤(x :: l).length /\ new.length≤(x :: l).length - (off + 1):=by simp; omega
   rw [if_pos h,if_pos this]
   simp [Nat.add_right_comm]
  ·
   have:¬(off + 1≤(x :: l).length /\ new.length≤(x :: l).length - (off + 1)):=by simp; omega
   rw [if_neg h,if_neg this]; rfl
def I.cells (x:I):List I:=bQ (gI x) [x] fun l=>l
def dV (M:Nat) (place:Nat -> Option (Nat × Nat)) (T:a') (ps:List (Nat × Operand)):List I -> Option (List I):=
 List.rec (fun cs=>some cs) (fun p _ aH cs=>(place p.1).ac fun q=>(aK M p.2 T).ac fun v=>
  match Nat.beq (bJ v.cells) q.2 with | true=>(dC v.cells q.1 cs).ac aH | false=>none) ps
def cR (n:Nat) (l:List I):List I:=Nat.rec [] (fun _ aH=>cb l aH) n
def aU (E:Env) (t:TypeId):d5:=match E.ty t with | some i=>i.kind | none=> .other
def au (E:Env) (t:TypeId):Nat:=match E.ty t with | some i=>i.size | none=>0
def iU (E:Env) (t:TypeId):Nat:=match E.ty t with | some i=>i.bytes | none=>0
def cr (E:Env) (t:TypeId):Option I:=(E.ty t).ac (·.zero)
def di (x:Option I) (d y:Nat):Option Nat:=
 match x with
 | none=>some d
 | some a=>(dH a).ac fun i=>ap (Nat.ble i y) (some i) none
def bF (len cap:Nat) (bd ad mx:Option I):Option (Nat × Nat × Nat):=
 match mx with
 | none=>(di ad len cap).ac fun h=>(di bd 0 h).omap fun l=>(l,h,cap)
 | some _=>match ad with
  | none=>none
  | some _=>(di mx cap cap).ac fun m=>(di ad len m).ac fun h=>(di bd 0 h).omap fun l=>(l,h,m)
def fk (M:Nat) (o:Option Operand) (T:a'):Option (Option I):=match o with
 | none=>some none
 | some o=>(aK M o T).omap some
def addrAt (m l off size:Nat):Nat:=ap (Nat.beq m l) off (Nat.add off (Nat.mul l size))
def oS (cap:dm):Nat -> Nat -> Nat -> Nat -> Option I -> Option I -> Option I -> Option I:=match cap with
 | .ex c=>fun es b off len bd ad mx=>(bF len c bd ad mx).omap fun r=> .slice b (addrAt r.2.2 r.1 off es) (Nat.sub r.2.1 r.1) (.ex (Nat.sub r.2.2 r.1))
 | .rest dt sz cQ=>fun es b off len bd ad mx=>ap (Nat.beq sz es)
  ((bF len cQ bd ad mx).ac fun r=>bQ mx
   (ap (Nat.blt r.1 cQ || Nat.beq r.1 0) (some (.slice b (Nat.add off (Nat.mul r.1 sz)) (Nat.sub r.2.1 r.1) (.rest (Nat.add dt r.1) sz (Nat.sub cQ r.1))))
    (some (.slice b off 0 (.tail dt r.1 sz false))))
   (fun _=>some (.slice b (addrAt r.2.2 r.1 off sz) (Nat.sub r.2.1 r.1) (.ex (Nat.sub r.2.2 r.1)))))
  none
 | .tail dt k sz z=>fun _ b off len bd ad mx=>ap (Nat.beq len 0)
  ((bF 0 0 bd ad mx).omap fun _=> .slice b off 0 (.tail dt k sz (bQ mx z fun _=>true))) none
def br (l:List I):Bool:=List.rec true (fun x _ aH=>ap (b2 x) aH false) l
def nC (sz:Nat) (l:List I) (bd ad:Option I) (m:I):Option I:=(bF (bJ l) (bJ l) bd ad (some m)).omap fun r=> .aJ sz (co r.1 (g8 r.2.1 l))
def m3 (sz:Nat) (l:List I) (bd ad mx:Option I):Option I:=match mx with
 | none=>(bF (bJ l) (bJ l) bd ad none).omap fun r=> .aJ sz (co r.1 (g8 r.2.1 l))
 | some m=>bQ (bF 0 0 bd ad (some m)) (nC sz l bd ad m) fun _=>some (.aJ 0 [])
def uc (sz:Nat) (x:I) (bd ad mx:Option I):Option I:=(fj x).ac fun q=>ap (Nat.beq q.1 sz) (m3 q.1 q.2 bd ad mx) none
def ud (x:I) (n sz:Nat) (bd ad mx:Option I):Option I:=(ju x).ac fun q=>ap (Nat.beq sz 1 && br q.1) ((cG n (co q.2 q.1)).ac fun l=>m3 1 l bd ad mx) none
def Q7 (k:d5):fl (Env -> I -> Option I -> Option I -> Option I -> Option I):=match k with
 | .string=> .mk <| fun _ x bd ad mx=>(f_ x).ac fun s=>match mx with
  | none=>(bF s.length s.length bd ad none).omap fun r=> .str ((s.take r.2.1).drop r.1)
  | some _=>none
 | .slice e=> .mk <| fun E x bd ad mx=>bQ (asSlice x) (ap (du x) ((bF 0 0 bd ad mx).omap fun _=>x) (uc (au E e) x bd ad mx))
  (fun q=>oS q.2.2.2 (au E e) q.1 q.2.1 q.2.2.1 bd ad mx)
 | .array n e=> .mk <| fun E x bd ad mx=>bQ (ec x) (ud x n (au E e) bd ad mx) fun q=>(bF n n bd ad mx).omap fun r=> .slice q.1 (addrAt r.2.2 r.1 q.2 (au E e)) (Nat.sub r.2.1 r.1) (.ex (Nat.sub r.2.2 r.1))
 | _=> .mk <| fun _ _ _ _ _=>none
def dp (k:d5):Env -> I -> Option I -> Option I -> Option I -> Option I:=(Q7 k).f
def kk (v:I) (n:Nat):Option I:=bQ (ec v) ((ju v).omap fun q=> .c9 q.1 (Nat.add q.2 n)) fun q=>some (.ptr q.1 (Nat.add q.2 n))
def uF (sz:Nat) (x:I) (i:Nat):Option I:=(fj x).ac fun q=>ap (Nat.beq q.1 sz) ((fy q.2 i).omap fun v=> .c9 v.cells 0) none
def Q8 (k:d5):fl (Env -> I -> Nat -> Option I):=match k with
 | .array n e=> .mk <| fun E x i=>ap (Nat.blt i n) (kk x (Nat.mul i (au E e))) none
 | .slice e=> .mk <| fun E x i=>bQ (asSlice x) (uF (au E e) x i) fun q=>ap (Nat.blt i q.2.2.1) (some (.ptr q.1 (Nat.add q.2.1 (Nat.mul i (au E e))))) none
 | _=> .mk <| fun _ _ _=>none
def e9 (k:d5):Env -> I -> Nat -> Option I:=(Q8 k).f
def ek (E:Env) (t:TypeId) (cs:List I) (off:Nat):Option I:=
 match E.ty t with
 | some i=>match i.agg with
  | true=>(cG i.size (co off cs)).omap .agg
  | false=>fy cs off
 | none=>none
def Vs (k:d5):fl (Env -> I -> Option I):=match k with
 | .string=> .mk <| fun _ x=>(f_ x).omap fun s=> .int .i64 (.ofNat s.length)
 | .array n _=> .mk <| fun _ _=>some (.int .i64 (.ofNat n))
 | .ptr a=> .mk <| fun E _=>match aU E a with | .array n _=>some (.int .i64 (.ofNat n)) | _=>none
 | .slice _=> .mk <| fun _ x=>bQ (asSlice x) (ap (du x) (some (.int .i64 (.ofNat 0))) ((fj x).omap fun q=> .int .i64 (.ofNat (bJ q.2)))) fun q=>some (.int .i64 (.ofNat q.2.2.1))
 | _=> .mk <| fun _ _=>none
def hh (k:d5):Env -> I -> Option I:=(Vs k).f
def zX (c:dm):Option I:=match c with | .ex n=>some (.int .i64 (.ofNat n)) | _=>none
def Vt (k:d5):fl (I -> Option I):=match k with
 | .slice _=> .mk fun x=>bQ (asSlice x) (ap (du x) (some (.int .i64 (.ofNat 0))) none) fun q=>zX q.2.2.2
 | _=> .mk fun _=>none
def rn (k:d5):I -> Option I:=(Vt k).f
def ry (a b:Int):Int:=ap (n3 b a) b a
def rz (a b:Int):Int:=ap (n3 a b) b a
def j1 (f:Int -> Int -> Int) (k:IntKind) (l:List I):Int -> Option I:=
 List.rec (fun a=>some (.int k a)) (fun x _ aH a=>(ej x).ac fun p=>ap (jO k p.1) (aH (f a p.2)) none) l
def rA (f:Int -> Int -> Int) (l:List I):Option I:=List.rec none (fun x l _=>(ej x).ac fun p=>j1 f p.1 l p.2) l
def Jh (jK tN:d5):fl (I -> Option I):=match jK with
 | .int _=>match tN with
  | .int k=> .mk fun x=>(ej x).omap fun p=> .int k (bG k p.2)
  | _=> .mk fun _=>none
 | .string=>match tN with
  | .string=> .mk fun x=>(f_ x).omap .str
  | _=> .mk fun _=>none
 | _=> .mk fun _=>none
def kV (jK tN:d5):I -> Option I:=(Jh jK tN).f
def kS (k:d5) (f:Nat):Option (Nat × TypeId):=match k with
 | .struct da=>da[f]?
 | _=>none
def S' (k:d5):fl (Env -> Nat -> Option (Nat × Nat)):=match k with
 | .struct da=> .mk <| fun E i=>(da[i]?).omap fun p=>(p.1,au E p.2)
 | .array _ e=> .mk <| fun E i=>some (Nat.mul i (au E e),au E e)
 | _=> .mk <| fun _ _=>none
def kU (k:d5):Env -> Nat -> Option (Nat × Nat):=(S' k).f
def Ta (k:d5):fl (Env -> I -> Nat -> Option I):=match k with
 | .string=> .mk <| fun _ x i=>(f_ x).ac fun s=>(s[i]?).omap fun c=> .int .u8 (.ofNat c.toNat)
 | .array n e=> .mk <| fun E x i=>(gI x).ac fun cs=>ap (Nat.blt i n) (ek E e cs (Nat.mul i (au E e))) none
 | _=> .mk <| fun _ _ _=>none
def mi (k:d5):Env -> I -> Nat -> Option I:=(Ta k).f
def nE (x:I):Option I:=bQ (ec x) (bQ (uv x) ((ju x).omap fun _=>x) fun _=>some x) fun _=>some x
def ws (k:d5):Bool:=match k with | .iface | .other=>false | _=>true
def re (k:d5):Bool:=match k with | .struct _ | .array _ _=>true | _=>false
def Q9 (b:Builtin):fl (Env -> List I -> List TypeId -> Option I):=match b with
 | .len=> .mk <| fun E as bp=>match as with
  | x :: r=>match r with | []=>(match bp with | t :: _=>hh (aU E t) E x | []=>none) | _ :: _=>none
  | []=>none
 | .cap=> .mk <| fun E as bp=>match as with
  | x :: r=>match r with | []=>(match bp with | t :: _=>rn (aU E t) x | []=>none) | _ :: _=>none
  | []=>none
 | .min=> .mk <| fun _ as _=>rA ry as
 | .max=> .mk <| fun _ as _=>rA rz as
 | _=> .mk <| fun _ _ _=>none
def jm (b:Builtin):Env -> List I -> List TypeId -> Option I:=(Q9 b).f
def xe (c:dm):Bool:=match c with | .tail .. =>true | _=>false
def DJ (n:Nat) (v:I):Option I:=(fj v).ac fun q=>ap (Nat.beq q.1 1 && (Nat.blt 0 n && br q.2)) ((cG n q.2).omap fun l=> .c9 l 0) none
def k0 (n:Nat) (v:I):Option I:=bQ (asSlice v) (DJ n v) fun q=>ap (xe q.2.2.2) none (ap (Nat.blt q.2.2.1 n) none (some (.ptr q.1 q.2.1)))
def y_ (M:Nat) (o:Op):fl (Env -> a' -> Option I):=match o with
 | .move x=> .mk <| fun _ T=>aK M x T
 | .assign x=> .mk <| fun _ T=>aK M x T
 | .pick c a b=> .mk <| fun _ T=>(aK M c T).ac fun v=>(e_ v).ac fun t=>ap t (aK M a T) (aK M b T)
 | .nilCheck x=> .mk <| fun _ T=>(aK M x T).ac nE
 | .binOp op t x y _=> .mk <| fun E T=>(aK M x T).ac fun x=>(aK M y T).ac fun y=>hN (aU E t) (E.flat t) op x y
 | .unOp op _ x=> .mk <| fun _ T=>(aK M x T).ac (p6 op)
 | .convert s d x=> .mk <| fun E T=>(aK M x T).ac (kV (aU E s) (aU E d))
 | .makeFunc fn a c=> .mk <| fun _ T=>match fn with
  | .func f=>(c0 M a.toList T).ac fun a=>(c0 M c.toList T).omap fun c=> .func f a c
  | _=>none
 | .makeInterface t x=> .mk <| fun E T=>ap (ws (aU E t)) ((aK M x T).omap (.iface t ·)) none
 | .fieldAddr s x f=> .mk <| fun E T=>(kS (aU E s) f).ac fun p=>ap (Nat.blt 0 (au E p.2)) ((aK M x T).ac fun v=>kk v p.1) none
 | .field s x f=> .mk <| fun E T=>(kS (aU E s) f).ac fun p=>(aK M x T).ac fun v=>(gI v).ac fun cs=>ek E p.2 cs p.1
 | .indexAddr t x i=> .mk <| fun E T=>(aK M x T).ac fun x=>(aK M i T).ac fun i=>(dH i).ac fun i=>e9 (aU E t) E x i
 | .index t x i=> .mk <| fun E T=>(aK M x T).ac fun x=>(aK M i T).ac fun i=>(dH i).ac fun i=>mi (aU E t) E x i
 | .slice t x bd ad mx=> .mk <| fun E T=>(aK M x T).ac fun x=>(fk M bd T).ac fun bd=>(fk M ad T).ac fun ad=>(fk M mx T).ac fun mx=>dp (aU E t) E x bd ad mx
 | .sliceToArrayPointer t x=> .mk <| fun E T=>match aU E t with
  | .array n _=>(aK M x T).ac (k0 n)
  | _=>none
 | .extract x i=> .mk <| fun _ T=>(aK M x T).ac fun v=>(sr v).ac fun l=>fy l i
 | .build t ps=> .mk <| fun E T=>ap (re (aU E t)) ((cr E t).ac fun z=>(dV M (kU (aU E t) E) T ps.toList z.cells).omap .agg) none
 | .call c=> .mk <| fun E T=>match c.callee with
  | .builtin b=>(c0 M c.args.toList T).ac fun as=>jm b E as c.argTypes.toList
  | _=>none
 | _=> .mk <| fun _ _=>none
def lx (M:Nat) (o:Op):Env -> a' -> Option I:=(y_ M o).f
def mz (wr:Bool) (l:List I):Option (List I):=ap wr (some l) (ap (br l) (some l) none)
def sX (wr:Bool) (v:I):Option I:=ap wr (some v) (ap (b2 v) (some v) none)
def q5 (H:aa) (b off n:Nat):Option (List I):=
 (H.m.get b).ac fun x=>(kf x).ac fun c=>(cG n (co off c.1)).ac (mz c.2.2.2)
def bA (H:aa) (b off n:Nat):Option (List I):=ap (Nat.beq n 0) (some []) (q5 H b off n)
def cellAt (H:aa) (b off:Nat):Option I:=
 (H.m.get b).ac fun x=>(kf x).ac fun c=>(fy c.1 off).ac (sX c.2.2.2)
def rp (E:Env) (t:TypeId):fl (aa -> Nat -> Nat -> Option I):=match E.ty t with
 | some i=>match i.agg with
  | true=> .mk fun H b off=>(bA H b off i.size).omap .agg
  | false=> .mk fun H b off=>cellAt H b off
 | none=> .mk fun _ _ _=>none
def dw (E:Env) (H:aa) (t:TypeId) (b off:Nat):Option I:=(rp E t).f H b off
def gG (l:List I):Option (List UInt8):=
 List.rec (some []) (fun x _ aH=>(ej x).ac fun p=>ap (jO .u8 p.1) ((i_ p.2).ac fun n=>aH.omap (UInt8.ofNat n :: ·)) none) l
def hX (k:d5):Bool:=match k with | .int k=>(match k with | .u8=>true | _=>false) | _=>false
def a3 (l:List I):List I:=List.rec [] (fun x _ aH=>cb x.cells aH) l
def strOf (H:aa) (x:I):Option I:=
 bQ (asSlice x) (ap (du x) (some (.str [])) ((fj x).ac fun q=>ap (Nat.beq q.1 1) ((gG (a3 q.2)).omap .str) none)) fun q=>((bA H q.1 q.2.1 q.2.2.1).ac gG).omap .str
def jN (e:TypeId) (H:aa) (x:I):Option I:=
 (asSlice x).ac fun q=>(H.m.get q.1).ac fun y=>(kf y).ac fun c=>ap (c.2.2.2 && Nat.beq c.2.1 e) (some x) none
def y' (M:Nat) (o:Op):fl (Env -> a' -> aa -> Option I):=match o with
 | .load t a=> .mk <| fun E T H=>(aK M a T).ac fun v=>bQ (ec v) ((ju v).ac fun q=>ek E t q.1 q.2) fun q=>dw E H t q.1 q.2
 | .convert s d x=> .mk <| fun E T H=>match aU E s with
  | .slice e=>match hX (aU E e) with
   | true=>match aU E d with
    | .string=>(aK M x T).ac (strOf H)
    | .slice _=>match Nat.beq s d with | true=>(aK M x T).ac (jN e H) | false=>none
    | _=>none
   | false=>none
  | _=>none
 | _=> .mk <| fun _ _ _=>none
def eG (M:Nat) (o:Op):Env -> a' -> aa -> Option I:=(y' M o).f
def aN (H:aa) (b:Nat) (x:bf):aa:= { m:=H.m.set x b,next:=H.next,log:=b :: H.log}
def aS (H:aa) (x:bf):Nat × aa:=(H.next,{ m:=H.m.set x H.next,next:=Nat.succ H.next,log:=H.next :: H.log})
def y0 (M:Nat) (o:Op):fl (Env -> a' -> Option (bf × (Nat -> I))):=match o with
 | .alloc t=> .mk <| fun E _=>(cr E t).omap fun z=>(.cells z.cells t true true,fun b=> .ptr b 0)
 | .box t x=> .mk <| fun _ T=>(aK M x T).omap fun v=>(.cells v.cells t true true,fun b=> .ptr b 0)
 | .buildSlice t n ps=> .mk <| fun E T=>match aU E t with
  | .slice e=>match Nat.ble (Nat.mul n (au E e)) 16777216 with
   | true=>(cr E e).ac fun z=>(dV M (fun i=>some (Nat.mul i (au E e),au E e)) T ps.toList (cR n z.cells)).omap fun l=>
    (.cells l e true true,fun b=> .slice b 0 n (.ex n))
   | false=>none
  | _=>none
 | .makeSlice t l c=> .mk <| fun E T=>match aU E t with
  | .slice e=>(cr E e).ac fun z=>(aK M l T).ac fun l=>(aK M c T).ac fun c=>(dH l).ac fun l=>(dH c).ac fun c=>
   match Nat.ble l c && (Nat.ble c 1048576 && Nat.ble (iU E e) 1048576) with
   | true=>some (.cells (cR c z.cells) e true true,fun b=> .slice b 0 l (.ex c))
   | false=>none
  | _=>none
 | .convert s d x=> .mk <| fun E T=>match aU E s with
  | .string=>match aU E d with
   | .slice e=>match hX (aU E e) && Nat.beq (au E e) 1 with
    | true=>(aK M x T).ac fun v=>match v with
     | .str l=>some (.cells (l.map fun c=> .int .u8 (.ofNat c.toNat)) e false true,fun b=> .slice b 0 l.length (.rest 0 (au E e) l.length))
     | _=>none
    | false=>none
   | _=>none
  | _=>none
 | _=> .mk <| fun _ _=>none
def jn (M:Nat) (o:Op):Env -> a' -> Option (bf × (Nat -> I)):=(y0 M o).f
def Dl (H:aa) (b off:Nat) (new:List I) (c:List I × TypeId × Bool × Bool):Option aa:=
 ap c.2.2.2 (ap (br new) ((dC new off c.1).omap fun l'=>aN H b (.cells l' c.2.1 c.2.2.1 true)) none) none
def bT (H:aa) (b off:Nat) (new:List I):Option aa:=(H.m.get b).ac fun x=>(kf x).ac fun c=>Dl H b off new c
def fu (E:Env) (H:aa) (e:TypeId) (x:I):Option (Nat × List I):=
 bQ (asSlice x) (bQ (f_ x) (ap (du x) (some (0,[])) ((fj x).ac fun q=>ap (Nat.beq q.1 (au E e)) (some (bJ q.2,a3 q.2)) none)) fun s=>ap (Nat.beq (au E e) 1) (some (s.length,s.map fun c=> .int .u8 (.ofNat c.toNat))) none)
  fun q=>(bA H q.1 q.2.1 (Nat.mul q.2.2.1 (au E e))).omap fun l=>(q.2.2.1,l)
def mj (E:Env) (e:TypeId) (need:Nat):Bool:=
 match E.ty e with
 | some i=>match i.zero with
  | some _=>Nat.ble need 4611686018427387904 && (Nat.ble (Nat.mul (Nat.add (Nat.mul 2 need) 200) i.bytes) 281474976710656 && Nat.blt 0 i.size)
  | none=>false
 | none=>false
def dA (E:Env) (H:aa) (e:TypeId) (need:Nat) (l:List I):Option (I × aa):=
 ap (mj E e need) (some (.slice H.next 0 need (.rest 0 (au E e) need),(aS H (.cells l e false true)).2)) none
def ownRow (x:bf):Option (List I × TypeId):=(kf x).ac fun c=>ap c.2.2.1 none (ap c.2.2.2 (some (c.1,c.2.1)) none)
def jr (cap:dm):Env -> aa -> TypeId -> Nat -> Nat -> Nat -> Nat -> List I -> Option (I × aa):=match cap with
 | .ex c=>fun E H e b off len n new=>ap (Nat.ble (Nat.add len n) c)
  ((bT H b (Nat.add off (Nat.mul len (au E e))) new).omap fun H'=>(.slice b off (Nat.add len n) (.ex c),H'))
  ((bA H b off (Nat.mul len (au E e))).ac fun old=>dA E H e (Nat.add len n) (cb old new))
 | .rest dt sz cQ=>fun E H e b off len n new=>((H.m.get b).ac ownRow).ac fun r=>
  ap (Nat.beq e r.2 && (Nat.blt 0 (au E e) && Nat.beq sz (au E e)))
   (ap (Nat.ble (Nat.add off (Nat.mul (Nat.add len n) (au E e))) (bJ r.1))
    ((bT H b (Nat.add off (Nat.mul len (au E e))) new).omap fun H'=>(.slice b off (Nat.add len n) (.rest dt sz (ap (Nat.ble cQ (Nat.add len n)) (Nat.add len n) cQ)),H'))
    (ap (Nat.beq off 0 && br new)
     ((bA H b off (Nat.mul len (au E e))).ac fun old=>(dA E H e (Nat.add len n) (cb old new)).omap fun p=>(p.1,aN p.2 b .dead))
     none))
   none
 | .tail _ _ _ z=>fun E H e _ _ len n new=>ap (z && Nat.beq len 0) (dA E H e n new) none
def cJ (E:Env) (H:aa) (e:TypeId) (s:I) (n:Nat) (new:List I):Option (I × aa):=
 ap (Nat.beq n 0) (ap (g5 s || du s) (some (s,H)) ((fj s).omap fun _=>(s,H)))
  (bQ (asSlice s) (ap (du s) (dA E H e n new) ((fj s).ac fun q=>ap (Nat.beq q.1 0) (dA E H e n new) none)) fun q=>jr q.2.2.2 E H e q.1 q.2.1 q.2.2.1 n new)
inductive bu where
 | normal
 | exit (id:Nat)
 | ret
 deriving Inhabited
structure an where
 T:a'
 H:aa
abbrev dQ:=I -> List I -> aa -> Option (I × aa)
def kg (E:Env) (H:aa) (t:TypeId) (bp:List TypeId) (s x:I):Option (I × aa):=
 match aU E t with
 | .slice e=>match bp with
  | t2 :: _=>match aU E t2 with
   | .int _=>(dH x).ac fun n=>(cr E e).ac fun z=>match Nat.ble n 1048576 && Nat.ble (iU E e) 1048576 with
    | true=>cJ E H e s n (cR n z.cells)
    | false=>none
   | .other=>none
   | _=>(fu E H e x).ac fun p=>cJ E H e s p.1 p.2
  | []=>none
 | _=>none
def uw (E:Env) (H:aa) (e:TypeId) (d:I) (p:Nat × List I):Option (I × aa):=
 bQ (asSlice d) (ap (du d) (some (.int .i64 (.ofNat 0),H)) none)
  fun q=>ap (Nat.beq q.2.2.1 0) (some (.int .i64 (.ofNat 0),H))
   ((bT H q.1 q.2.1 (g8 (Nat.mul (gb p.1 q.2.2.1) (au E e)) p.2)).omap fun H=>(.int .i64 (.ofNat (gb p.1 q.2.2.1)),H))
def pK (E:Env) (H:aa) (t:TypeId) (d x:I):Option (I × aa):=
 match aU E t with
 | .slice e=>(fu E H e x).ac fun p=>uw E H e d p
 | _=>none
def pH (E:Env) (H:aa) (t:TypeId) (d:I):Option (I × aa):=
 match aU E t with
 | .slice e=>(cr E e).ac fun z=>bQ (asSlice d) (ap (du d) (some (.undef,H)) none)
  fun q=>ap (Nat.beq q.2.2.1 0) (some (.undef,H)) ((bT H q.1 q.2.1 (cR q.2.2.1 z.cells)).omap fun H=>(.undef,H))
 | _=>none
def Tb (b:Builtin):fl (Env -> aa -> List I -> List TypeId -> Option (I × aa)):=match b with
 | .append=> .mk <| fun E H as bp=>match as with
  | s :: r=>match r with
   | x :: r=>match r with | []=>(match bp with | t :: bp=>kg E H t bp s x | []=>none) | _ :: _=>none
   | []=>none
  | []=>none
 | .copy=> .mk <| fun E H as bp=>match as with
  | s :: r=>match r with
   | x :: r=>match r with | []=>(match bp with | t :: _=>pK E H t s x | []=>none) | _ :: _=>none
   | []=>none
  | []=>none
 | .clear=> .mk <| fun E H as bp=>match as with
  | s :: r=>match r with | []=>(match bp with | t :: _=>pH E H t s | []=>none) | _ :: _=>none
  | []=>none
 | _=> .mk <| fun _ _ _ _=>none
def fQ (b:Builtin):Env -> aa -> List I -> List TypeId -> Option (I × aa):=(Tb b).f
def gu (E:Env) (H:aa) (t:TypeId) (p x:I):Option (I × aa):=
 (E.ty t).ac fun i=>(ec p).ac fun q=>ap (Nat.beq (bJ x.cells) i.size) ((bT H q.1 q.2 x.cells).omap fun H=>(.undef,H)) none
def wE (M:Nat) (o:Op):fl (Env -> dQ -> a' -> aa -> Option (I × aa)):=match o with
 | .store t a x=> .mk <| fun E _ T H=>(aK M a T).ac fun p=>(aK M x T).ac fun x=>gu E H t p x
 | .call c=> .mk <| fun E call T H=>match c.callee with
  | .value f=>(aK M f T).ac fun f=>(c0 M c.args.toList T).ac fun as=>call f as H
  | .builtin b=>(c0 M c.args.toList T).ac fun as=>fQ b E H as c.argTypes.toList
  | _=>none
 | _=> .mk <| fun _ _ _ _=>none
def oT (M:Nat) (o:Op):Env -> dQ -> a' -> aa -> Option (I × aa):=(wE M o).f
inductive ac2 where | pure | read | alloc | ha
def cls (o:Op):Env -> ac2:=match o with
 | .load .. =>fun _=> .read
 | .convert s d _=>fun E=>match aU E s with
  | .slice _=> .read
  | .string=>match aU E d with | .slice _=> .alloc | _=> .pure
  | _=> .pure
 | .alloc _ | .box .. | .buildSlice .. | .makeSlice .. =>fun _=> .alloc
 | .store .. =>fun _=> .ha
 | .call c=>fun _=>match c.callee with
  | .value _=> .ha
  | .builtin b=>match b with | .append | .copy | .clear=> .ha | _=> .pure
  | _=> .pure
 | _=>fun _=> .pure
def sQ (N M:Nat) (d:Option Tmp):fl (a' -> I -> Option a'):=match d with
 | none=> .mk fun T _=>some T
 | some t=>match Nat.blt t N with
  | true=>match Nat.testBit M t with
   | true=> .mk fun T v=>some ⟨T.L,T.G.put v t⟩
   | false=> .mk fun T v=>some ⟨.cons t v T.L,T.G⟩
  | false=> .mk fun _ _=>none
def ev (N M:Nat) (T:a') (d:Option Tmp) (v:I):Option a':=(sQ N M d).f T v
def wc (M:Nat) (ops:List Oper) (g:Nat × Bool):fl (a' -> Option Bool):=match (ops[g.1]?).bind (·.dst) with
 | some d=> .mk fun T=>(a'.get M T d).omap fun v=>bQ (e_ v) false fun b=>kT b g.2
 | none=> .mk fun _=>some false
def mc (M:Nat) (ops:List Oper) (T:a') (g:Nat × Bool):Option Bool:=(wc M ops g).f T
def cx (M:Nat) (ops:List Oper) (T:a') (o:Oper):Option Bool:=
 match o.guard with
 | none=>some true
 | some g=>mc M ops T g
def uG (E:Env) (N M:Nat) (o:Oper):fl (dQ -> an -> Option an):=match cls o.op E with
 | .pure=> .mk <| fun _ s=>(lx M o.op E s.T).ac fun v=>(ev N M s.T o.dst v).omap fun T=>⟨T,s.H⟩
 | .read=> .mk <| fun _ s=>(eG M o.op E s.T s.H).ac fun v=>(ev N M s.T o.dst v).omap fun T=>⟨T,s.H⟩
 | .alloc=> .mk <| fun _ s=>(jn M o.op E s.T).ac fun p=>(ev N M s.T o.dst (p.2 s.H.next)).omap fun T=>⟨T,(aS s.H p.1).2⟩
 | .ha=> .mk <| fun call s=>(oT M o.op E call s.T s.H).ac fun p=>(ev N M s.T o.dst p.1).omap fun T=>⟨T,p.2⟩
def jU (E:Env) (call:dQ) (N M:Nat) (o:Oper) (s:an):Option an:=(uG E N M o).f call s
def Cu (E:Env) (N M:Nat) (all:List Oper) (o:Oper):fl (dQ -> (an -> Option an) -> an -> Option an):=match o.guard with
 | none=> .mk <| fun call aH s=>(jU E call N M o s).ac aH
 | some g=> .mk <| fun call aH s=>(mc M all s.T g).ac fun b=>ap b ((jU E call N M o s).ac aH) ((ev N M s.T o.dst .undef).ac fun T=>aH ⟨T,s.H⟩)
def wF (E:Env) (call:dQ) (N M:Nat) (all:List Oper) (o:Oper) (aH:an -> Option an) (s:an):Option an:=(Cu E N M all o).f call aH s
def pZ (E:Env) (call:dQ) (N M:Nat) (all:List Oper) (l:List Oper):an -> Option an:=
 List.rec (fun s=>some s) (fun o _ aH s=>wF E call N M all o aH s) l
def wZ (c b8:dm):Bool:=match c with
 | .ex a=>match b8 with | .ex cF=>Nat.beq a cF | _=>false
 | .rest a b d=>match b8 with | .rest cF cv hI=>Nat.beq a cF && (Nat.beq b cv && Nat.beq d hI) | _=>false
 | .tail a b d z=>match b8 with | .tail cF cv hI kJ=>Nat.beq a cF && (Nat.beq b cv && (Nat.beq d hI && kT z kJ)) | _=>false
mutual
def dX:I -> I -> Bool
 | .bool a,.bool b=>kT a b
 | .int k a,.int k' b=>jO k k' && lN a b
 | .str a,.str b=>rm a b
 | .cA,.cA | .aE,.aE | .dj,.dj | .dK,.dK=>true
 | .ptr b o,.ptr cv o'=>Nat.beq b cv && Nat.beq o o'
 | .slice b o n c,.slice cv o' hc b8=>Nat.beq b cv && (Nat.beq o o' && (Nat.beq n hc && wZ c b8))
 | .func f a c,.func gE cF b8=>Nat.beq f gE && (kW a cF && kW c b8)
 | .yield l,.yield l'=>Nat.beq l l'
 | .iface t v,.iface oq cc=>Nat.beq t oq && dX v cc
 | .agg l,.agg l'=>kW l l'
 | .tuple l,.tuple l'=>kW l l'
 | .aJ n l,.aJ hc l'=>Nat.beq n hc && kW l l'
 | .c9 l o,.c9 l' o'=>kW l l' && Nat.beq o o'
 | .dY a,.dY b=>decide (a=b)
 | _,_=>false
def kW:List I -> List I -> Bool
 | [],[]=>true
 | x :: l,y :: r=>dX x y && kW l r
 | _,_=>false
end
def tight (e:Edge):Bool:=match e.ground with
 | .data | .chain | .guard | .phase=>true
 | _=>false
def lr (acc:List Nat):List Edge -> Nat
 | []=>0
 | e :: l=>match tight e with
  | true=>Nat.lor (Nat.lor (2 ^ e.on) ((acc[e.on]?).getD 0)) (lr acc l)
  | false=>lr acc l
def hk:List Oper -> List Nat -> List Nat
 | [],acc=>acc
 | o :: l,acc=>hk l (acc ++ [lr acc o.after.toList])
def G7 (i:Nat) (e:Edge):Bool:=match tight e with
 | true=>Nat.blt e.on i
 | false=>true
def fR (E:Env) (o:Oper):Bool:=match cls o.op E with | .ha=>true | _=>false
def tmpsOf:List Operand -> List Tmp
 | []=> []
 | .tmp t :: l=>t :: tmpsOf l
 | _ :: l=>tmpsOf l
def m1 (ops:List Oper) (o:Oper):List Tmp:=
 match o.guard with
 | some (g,_)=>match (ops[g]?).ac (·.dst) with
  | some d=>d :: tmpsOf o.op.operands.toList
  | none=>tmpsOf o.op.operands.toList
 | none=>tmpsOf o.op.operands.toList
def gL (t:Nat):List Nat -> Bool
 | []=>false
 | x :: l=>match Nat.beq t x with | true=>true | false=>gL t l
def p0 (ops:List Oper) (x y:Oper):Bool:=
 (match x.dst with
  | some d=>gL d (m1 ops y) || (match y.dst with | some hI=>Nat.beq d hI | none=>false)
  | none=>false) ||
 (match y.dst with
  | some d=>gL d (m1 ops x)
  | none=>false)
def jv (a:List Nat) (j i:Nat):Bool:=Nat.testBit ((a[j]?).getD 0) i
def allI (p:Nat -> Oper -> Bool):Nat -> List Oper -> Bool
 | _,[]=>true
 | i,o :: l=>match p i o with | true=>allI p (i + 1) l | false=>false
def j2 (E:Env) (ops:List Oper):Bool:=
 let a:=hk ops []
 allI (fun j y=>
  (y.after.toList.all (G7 j) && (match y.guard with | some (g,_)=>y.after.toList.any (fun e=>tight e && Nat.beq e.on g) | none=>true)) &&
  allI (fun i x=>match Nat.blt i j with
   | true=>match p0 ops x y || (fR E x && fR E y) with
    | true=>jv a j i
    | false=>true
   | false=>true) 0 ops) 0 ops
def w1 (E:Env) (call:dQ) (N M:Nat) (id:Nat) (o:Oper) (s:an):Option an:=
 match cls o.op E with
 | .alloc=>match s.H.m.get id with
  | none=>(jn M o.op E s.T).ac fun p=>(ev N M s.T o.dst (p.2 id)).omap fun T=>⟨T,aN s.H id p.1⟩
  | some _=>none
 | _=>jU E call N M o s
def wG (E:Env) (call:dQ) (N M:Nat) (all:List Oper) (o:Oper) (aH:Nat -> an -> Option (List an)) (id:Nat) (s:an):Option (List an):=
 match cx M all s.T o with
 | none=>none
 | some true=>(w1 E call N M id o s).ac fun s'=>(aH (Nat.succ id) s').omap (s :: ·)
 | some false=>(ev N M s.T o.dst .undef).ac fun T=>(aH (Nat.succ id) ⟨T,s.H⟩).omap (s :: ·)
def trace (E:Env) (call:dQ) (N M:Nat) (all:List Oper) (l:List Oper):Nat -> an -> Option (List an):=
 List.rec (fun _ s=>some [s]) (fun o _ aH id s=>wG E call N M all o aH id s) l
def uH (x y:Option I):Bool:=match x with
 | some x=>match y with | some y=>dX x y | none=>false
 | none=>false
def za (x y:Option bf):Bool:=match x,y with
 | some (.cells l e x w),some (.cells l' fG x' w')=>Nat.beq e fG && (kT x x' && (kT w w' && kW l l'))
 | _,_=>false
def zm (E:Env) (M:Nat) (ops:List Oper) (base:Nat) (a_:List an) (e j:Nat) (y:Oper):Bool:=
 match cls y.op E with
 | .read=>match a_[j]?,a_[e]?,a_[e + 1]? with
  | some s,some u,some v=>match cx M ops s.T y with
   | some false=>true
   | _=>match Nat.blt e j with
    | true=>uH (eG M y.op E s.T u.H) (eG M y.op E s.T s.H)
    | false=>uH (eG M y.op E s.T v.H) (eG M y.op E s.T s.H)
  | _,_,_=>false
 | .alloc=>match a_[j]?,a_[e]?,a_[e + 1]? with
  | some s,some u,some v=>match cx M ops s.T y with
   | some false=>true
   | _=>match Nat.blt j e with
    | true=>za (u.H.m.get (base + j)) (v.H.m.get (base + j))
    | false=>match u.H.m.get (base + j) with
     | none=>true
     | some _=>false
  | _,_,_=>false
 | _=>true
def qj (E:Env) (M:Nat) (ops:List Oper) (base:Nat) (a_:List an):Bool:=
 let a:=hk ops []
 allI (fun e x=>match fR E x with
  | true=>allI (fun j y=>match Nat.beq e j || (jv a j e || jv a e j) with
   | true=>true
   | false=>zm E M ops base a_ e j y) 0 ops
  | false=>true) 0 ops
def g9 (l:List an):an -> an:=List.rec (fun d=>d) (fun x _ aH _=>aH x) l
def ls (E:Env) (o:Oper):Bool:=match cls o.op E with | .alloc=>true | _=>false
def iw (E:Env) (l:List Oper):Nat:=match l.any (ls E) with | true=>l.length | false=>0
def sF (E:Env) (call:dQ) (N M:Nat) (ops:List Oper) (s:an):Option an:=
 match j2 E ops with
 | true=>(trace E call N M ops ops s.H.next ⟨s.T,⟨s.H.m,Nat.add s.H.next (iw E ops),s.H.log⟩⟩).ac fun a_=>match qj E M ops s.H.next a_ with
  | true=>some (g9 a_ s)
  | false=>none
 | false=>none
def HI (e:bu):Bool:=bu.rec true (fun _=>false) false e
def ss (aH:an -> Option (bu × an)) (r:Option (bu × an)):Option (bu × an):=
 r.ac fun p=>ap (HI p.1) (aH p.2) (some p)
def iter (f:an -> Option (bu × an)) (k:Nat):an -> Option (bu × an):=
 Nat.rec (fun _=>none) (fun _ aH s=>ss aH (f s)) k
def jj (N M:Nat) (ps:List Tmp):a' -> List I -> Option a':=
 List.rec (fun T vs=>List.rec (some T) (fun _ _ _=>none) vs)
  (fun p _ aH T vs=>List.rec none (fun v vs _=>ap (Nat.blt p N) (aH (a'.put M T v p) vs) none) vs) ps
def qU (H:aa) (l:Nat):Option aa:=
 (H.m.get l).ac fun x=>match x with
 | .loop f T N M ps a b st p=>match st with | .ready=>some (aN H l (.loop f T N M ps a b .busy p)) | _=>none
 | _=>none
def lG (j:Option Code):LoopState:=match j with | none=> .ready | some _=> .done
def hx (H:aa) (l:Nat) (j:Option Code):Option aa:=
 (H.m.get l).ac fun x=>match x with
 | .loop f T N M ps a b _ _=>some (aN H l (.loop f T N M ps a b (lG j) j))
 | _=>none
def o0 (c:Code):Option bu:=match c with | .ret=>some .ret | .exit i=>some (.exit i) | _=>none
def pL (T:a') (H:aa) (l:Nat):Option (bu × an):=
 (H.m.get l).ac fun x=>match x with
 | .loop _ _ _ _ _ _ _ st jy=>match st with
  | .busy=>none
  | _=>match jy with
   | none=>some (.normal,⟨T,aN H l .dead⟩)
   | some c=>(o0 c).omap fun e=>(e,⟨T,aN H l .dead⟩)
 | _=>none
def CX (E:Env) (call:dQ) (fid:FuncId) (N M:Nat) (f:Operand) (ps:Array Tmp) (a b:Code) (s:an):Option (bu × an):=
 (aK M f s.T).ac fun gq=>(call gq [.yield s.H.next] (aS s.H (.loop fid s.T N M ps.toList a b .ready none)).2).ac fun p=>pL s.T p.2 s.H.next
def IA (aH:an -> Option (bu × an)) (r:Option (bu × an)):Option (bu × an):=ss aH r
def HJ (v:Option I) (gr cH:an -> Option (bu × an)) (s:an):Option (bu × an):=
 v.ac fun v=>(e_ v).ac fun t=>ap t (gr s) (cH s)
def l9 (id:Nat) (e:bu) (s:an):bu × an:=
 bu.rec (.normal,s) (fun i=>ap (Nat.beq i id) (.normal,s) (.exit i,s)) (.ret,s) e
def Q_ (draw:Bool) (E:Env) (N M:Nat) (ops:Array Oper):fl (dQ -> an -> Option (bu × an)):=match draw with
 | false=> .mk fun call s=>(pZ E call N M ops.toList ops.toList ⟨⟨.nil,s.T.G⟩,s.H⟩).omap fun s=>(.normal,s)
 | true=> .mk fun call s=>(sF E call N M ops.toList ⟨⟨.nil,s.T.G⟩,s.H⟩).omap fun s=>(.normal,s)
def IB (E:Env) (call:dQ) (N M:Nat) (ops:Array Oper) (draw:Bool) (s:an):Option (bu × an):=(Q_ draw E N M ops).f call s
abbrev JB:=dQ -> Nat -> an -> Option (bu × an)
def lC (E:Env) (fid:FuncId) (N M:Nat) (c:Code):fl JB:=
 Code.rec (motive:=fun _=>fl JB)
  (.mk fun _ _ s=>some (.normal,s))
  (fun _ ops draw=> .mk fun call _ s=>IB E call N M ops draw s)
  (fun _ _ gr cH=> .mk fun call k s=>IA (cH.f call k) (gr.f call k s))
  (fun c _ _ gr cH=> .mk fun call k s=>HJ (aK M c s.T) (gr.f call k) (cH.f call k) s)
  (fun id _ cH=> .mk fun call k s=>(cH.f call k s).omap fun p=>l9 id p.1 p.2)
  (fun _ cH=> .mk fun call k s=>iter (cH.f call k) k s)
  (fun f ps a b _ _=> .mk fun call _ s=>CX E call fid N M f ps a b s)
  (fun i=> .mk fun _ _ s=>some (.exit i,s))
  (fun _ cH=> .mk fun call k s=>cH.f call k s)
  (fun _=> .mk fun _ _ s=>some (.normal,s))
  (fun _=> .mk fun _ _ _=>none)
  (.mk fun _ _ s=>some (.ret,s))
  (fun _=> .mk fun _ _ _=>none) c
def sG (E:Env) (call:dQ) (k:Nat) (fid:FuncId) (N M:Nat) (c:Code) (s:an):Option (bu × an):=(lC E fid N M c).f call k s
def h0 (E:Env) (M:Nat) (T:a') (H:aa) (l:List ResultVar):Option (List I):=
 List.rec (some []) (fun r _ aH=>match r with
  | .tmp t=>(a'.get M T t).ac fun v=>aH.omap (v :: ·)
  | .cell a t=>(a'.get M T a).ac fun p=>(ec p).ac fun q=>(dw E H t q.1 q.2).ac fun v=>aH.omap (v :: ·)) l
def nF (M:Nat) (l:List I):Nat -> a' -> a':=
 List.rec (fun _ T=>T) (fun x _ aH i T=>aH (Nat.succ i) (a'.put M T x i)) l
def bitsOf (l:List Tmp):Nat:=List.rec 0 (fun t _ n=>Nat.lor (Nat.pow 2 t) n) l
def Xp (all:List Oper) (l:List Oper):Nat -> Nat -> Nat:=
 List.rec (fun _ up=>up) (fun o _ aH d up=>aH (match o.dst with | some t=>Nat.lor d (Nat.pow 2 t) | none=>d)
  (Nat.lor up (Nat.sub (Nat.lor (bitsOf (m1 all o)) d) d))) l
def Xq (c:Code):Nat:=
 Code.rec (motive:=fun _=>Nat) 0 (fun _ ops _=>Xp ops.toList ops.toList 0 0) (fun _ _ a b=>Nat.lor a b) (fun _ _ _ a b=>Nat.lor a b) (fun _ _ a=>a) (fun _ a=>a)
  (fun f ps _ _ a b=>Nat.lor (Nat.lor (bitsOf (tmpsOf [f])) (bitsOf ps.toList)) (Nat.lor a b)) (fun _=>0) (fun _ a=>a) (fun _=>0) (fun _=>0) 0 (fun _=>0) c
def Xr (l:List ResultVar):Nat:=List.rec 0 (fun r _ n=>Nat.lor (Nat.pow 2 (match r with | .tmp t=>t | .cell a _=>a)) n) l
def Vu (fn:Func):Nat:=Nat.lor (match fn.body with | some c=>Xq c | none=>0) (Xr fn.results.toList)
def single (l:List I):I:=match l with
 | []=> .tuple []
 | x :: r=>match r with | []=>x | _ :: _=> .tuple l
def pV (e:bu):Bool:=match e with | .exit _=>true | _=>false
def Dm (E:Env) (fn:Func) (r:Option (bu × an)):Option (I × aa):=
 r.ac fun p=>ap (pV p.1) none ((h0 E (E.mask fn) p.2.T p.2.H fn.results.toList).omap fun l=>(single l,p.2.H))
def zA (E:Env) (fid:FuncId) (fn:Func):fl (Nat -> dQ -> List I -> aa -> Option (I × aa)):=
 match fn.body with
 | some c=> .mk fun k call as H=>ap (Nat.ble (bJ as) fn.ntmps) (Dm E fn (sG E call k fid fn.ntmps (E.mask fn) c ⟨nF (E.mask fn) as 0 ⟨.nil,.nil⟩,H⟩)) none
 | none=> .mk fun _ _ _ _=>none
def sR (E:Env) (fid:FuncId):fl (Nat -> dQ -> List I -> aa -> Option (I × aa)):=match E.sum fid with
 | some g=> .mk fun _ _ as H=>g as H
 | none=>match E.fn fid with
  | some fn=> .mk fun k call as H=>(zA E fid fn).f k call as H
  | none=> .mk fun _ _ _ _=>none
def rf (E:Env) (k:Nat) (call:dQ) (fid:FuncId) (as:List I) (H:aa):Option (I × aa):=(sR E fid).f k call as H
def wd (l:Nat) (r:Option (bu × an)):Option (I × aa):=match r with
 | none=>none
 | some p=>match p.1 with
  | .normal=>(hx p.2.H l none).omap fun H=>(.bool true,H)
  | .exit i=>(hx p.2.H l (some (.exit i))).omap fun H=>(.bool false,H)
  | .ret=>(hx p.2.H l (some .ret)).omap fun H=>(.bool false,H)
def HK (E:Env) (k:Nat) (call:dQ) (fid:FuncId) (N M:Nat) (b:Code) (l:Nat) (r:Option (bu × an)):Option (I × aa):=match r with
 | none=>none
 | some p=>match p.1 with
  | .normal=>(qU p.2.H l).ac fun H1=>wd l (sG E call k fid N M b ⟨p.2.T,H1⟩)
  | _=>none
def wt (E:Env) (k:Nat) (call:dQ) (l:Nat) (args:List I) (H:aa):Option (I × aa):=
 (H.m.get l).ac fun x=>match x with
 | .loop fid T N M ps a b _ _=>(jj N M ps T args).ac fun T'=>HK E k call fid N M b l (sG E call k fid N M a ⟨T',H⟩)
 | _=>none
def IC (f:I) (E:Env) (k:Nat) (call:dQ) (args:List I) (H:aa):Option (I × aa):=
 bQ (uv f) (bQ (y7 f) none fun l=>wt E k call l args H) fun p=>rf E k call p.1 (cb p.2.1 (cb args p.2.2)) H
def app (E:Env) (k:Nat):dQ:=
 Nat.rec (fun _ _ _=>none) (fun k call f args H=>IC f E k call args H) k
def i' (d:TypeDesc):d5:=match d with
 | .bool=> .bool
 | .int k=> .int k
 | .string=> .string
 | .pointer e=> .ptr e
 | .slice e=> .slice e
 | .array n e=> .array n e
 | .struct da=> .struct (da.toList.map fun f=>(f.offset,f.type))
 | .func .. => .func
 | .interface _=> .iface
 | _=> .other
def ko (d:TypeDesc):Bool:=match d with | .struct _ | .array .. =>true | _=>false
def xf (n:Nat) (v:I):Option I:=match Nat.beq v.cells.length n with | true=>some v | false=>none
def xg (types:List TypeInfo) (i:TypeInfo):Option kI:=
 (match i.desc with
  | .named _ u=>(types[u]?).map TypeInfo.desc
  | d=>some d).map fun d=> { size:=i.size,bytes:=i.bytes,agg:=ko d,zero:=(i.zero.bind (h2 3)).bind (xf i.size),kind:=i' d}
def hz (P:Program) (bg:Bool):Nat -> TypeId -> Bool
 | 0,_=>false
 | d + 1,t=>match P.underlying t with
  | some .bool=>bg && Nat.beq (P.cellsOf t) 1
  | some (.int _)=> !bg && Nat.beq (P.cellsOf t) 1
  | some (.struct da)=> !P.stoodInHeld t && oM P (hz P bg d) 0 (P.cellsOf t) da.toList
  | some (.array n e)=>Nat.beq (P.cellsOf t) (n * P.cellsOf e) && hz P bg d e
  | _=>false
where
 oM (P:Program) (f:TypeId -> Bool):Nat -> Nat -> List Field -> Bool
  | off,n,[]=>Nat.beq off n
  | off,n,x :: l=>Nat.beq x.offset off && (x.name != "_" && (f x.type && oM P f (off + P.cellsOf x.type) n l))
def ib (P:Program):Env where
 fn:=(bz.iE P.funcs.toList 0 .nil).get
 ty:=fun t=>((bz.iE (P.types.toList.map (xg P.types.toList)) 0 .nil).get t).bind id
 flat:=fun t=>match hz P false 8 t with | true=>some (false,P.cellsOf t) | false=>match hz P true 8 t with | true=>some (true,P.cellsOf t) | false=>none
 sum:=fun _=>none
 mask:=Vu
def H0:aa:=⟨.nil,0,[]⟩
end
end Go.az
namespace Go.az
section
variable {α:Type}
theorem bz.get_nil (n:Nat):(bz.nil:bz α).get n=none:=rfl
theorem bz.Q' (v:α):∀(k n m:Nat),n≤k -> (bz.oZ v k n).get m=if m=n then some v else none:=by
 intro k
 induction k with
 | zero=>
  intro n m h
  obtain rfl:n=0:=by omega
  rw [bz.G6]
  cases m with
  | zero=>rfl
  | succ m=>rw [bz.pJ]; split <;> simp [bz.get_nil]
 | succ k aH=>
  intro n m h
  cases n with
  | zero=>
   rw [bz.G6]
   cases m with
   | zero=>rfl
   | succ m=>rw [bz.pJ]; split <;> simp [bz.get_nil]
  | succ n=>
   have aw:=Nat.div_add_mod n 2
   have ah:=Nat.mod_lt n (y:=2) (by omega)
   rw [bz.Pa]
   cases m with
   | zero=>split <;> simp [bz.B0]
   | succ m=>
    have fB:=Nat.div_add_mod m 2
    have cC:=Nat.mod_lt m (y:=2) (by omega)
    split
    ·
     rename_i aD
     rw [bz.pJ]
     split
     ·
      rename_i J
      rw [aH _ _ (by omega)]
      by_cases e:m=n
      ·
       subst e; simp
      ·
       have:¬m / 2=n / 2:=by omega
       simp [this,e]
     ·
      rename_i x J
      have:¬m=n:=by omega
      simp [bz.get_nil,this]
    ·
     rename_i x aD
     rw [bz.pJ]
     split
     ·
      rename_i J
      have:¬m=n:=by omega
      simp [bz.get_nil,this]
     ·
      rename_i y J
      rw [aH _ _ (by omega)]
      by_cases e:m=n
      ·
       subst e; simp
      ·
       have:¬m / 2=n / 2:=by omega
       simp [this,e]
theorem bz.jo (v:α):∀(t:bz α) (n m:Nat),(t.set v n).get m=if m=n then some v else t.get m:=by
 intro t
 induction t with
 | nil=>
  intro n m
  rw [bz.get_nil,bz.set_nil]
  exact bz.Q' v n n m (Nat.le_refl _)
 | node l x r ac3 ac4=>
  intro n m
  cases n with
  | zero=>rw [bz.Q3]; cases m <;> simp [bz.B0,bz.pJ]
  | succ n=>
   have aw:=Nat.div_add_mod n 2
   have ah:=Nat.mod_lt n (y:=2) (by omega)
   rw [bz.Q4]
   cases m with
   | zero=>split <;> simp [bz.B0]
   | succ m=>
    have fB:=Nat.div_add_mod m 2
    have cC:=Nat.mod_lt m (y:=2) (by omega)
    split
    ·
     rename_i aD
     rw [bz.pJ,bz.pJ]
     split
     ·
      rename_i J
      rw [ac3]
      by_cases e:m=n
      ·
       subst e; simp
      ·
       have:¬m / 2=n / 2:=by omega
       simp [this,e]
     ·
      rename_i y J
      have:¬m=n:=by omega
      simp [this]
    ·
     rename_i y aD
     rw [bz.pJ,bz.pJ]
     split
     ·
      rename_i J
      have:¬m=n:=by omega
      simp [this]
     ·
      rename_i z J
      rw [ac4]
      by_cases e:m=n
      ·
       subst e; simp
      ·
       have:¬m / 2=n / 2:=by omega
       simp [this,e]
theorem bz.Tc:∀(l:List α) (i:Nat) (t:bz α) (m:Nat),(bz.iE l i t).get m=if i≤m /\ m < i + l.length then l[m - i]? else t.get m:=by
 intro l
 induction l with
 | nil=>intro i t m; rw [bz.S_,List.length_nil,if_neg (by omega)]
 | cons x l aH=>
  intro i t m
  simp only [List.length_cons]
  rw [bz.Q5,aH,bz.jo]
  by_cases J:i + 1≤m /\ m < i + 1 + l.length
  ·
   rw [if_pos J,if_pos (by omega),show m - i=(m - (i + 1)) + 1 from by omega]; simp
  ·
   rw [if_neg J]
   by_cases e:m=i
   ·
    subst e; simp
   ·
    rw [if_neg e,if_neg (by omega)]
theorem bz.yD (l:List α) (m:Nat):(bz.iE l 0 .nil).get m=l[m]? :=by
 rw [bz.Tc]
 by_cases h:m < l.length
 ·
  simp [h]
 ·
  rw [if_neg (by omega),bz.get_nil,List.getElem?_eq_none (by omega)]
end
theorem ca.su (k:Nat) (v:I) (r:ca) (i:Nat):(ca.cons k v r).get i=if i=k then some v else r.get i:=by
 have h:(ca.cons k v r).get i=ap (Nat.beq k i) (some v) (r.get i):=rfl
 rw [h]
 by_cases e:i=k
 ·
  subst e; simp
 ·
  have:Nat.beq k i=false:=by rw [<- Bool.not_eq_true,Nat.beq_eq]; exact fun h=>e h.symm
  rw [this,if_neg e]; rfl
theorem ca.Pc (v:I) (k:Nat) (x:I) (r:ca) (i:Nat):(ca.cons k x r).p5 v i=ap (Nat.beq k i) (some (.cons k v r)) ((r.p5 v i).map (.cons k x)):=by
 have h:(ca.cons k x r).p5 v i=ap (Nat.beq k i) (some (.cons k v r)) ((r.p5 v i).omap (.cons k x)):=rfl
 rw [h,nB]
theorem ca.Ra (v:I) (i j:Nat):∀(t oq:ca),t.p5 v i=some oq -> oq.get j=if j=i then some v else t.get j:=by
 intro t
 induction t with
 | nil=>intro oq h; cases h
 | cons k x r aH=>
  intro oq h
  rw [ca.Pc] at h
  cases U:Nat.beq k i with
  | true=>
   rw [U] at h
   simp only [uk,Option.some.injEq] at h
   subst h
   obtain rfl:k=i:=Nat.eq_of_beq_eq_true U
   rw [ca.su,ca.su]; split <;> rfl
  | false=>
   rw [U] at h
   simp only [wb,Option.map_eq_some_iff] at h
   obtain ⟨bi,af,rfl⟩:=h
   have bX:k≠i:=fun e=>by subst e; simp at U
   rw [ca.su,ca.su,aH bi af]
   by_cases e:j=k
   ·
    subst e; rw [if_pos rfl,if_neg bX,if_pos rfl]
   ·
    simp [e]
theorem ca.md (v:I) (t:ca) (i j:Nat):(t.put v i).get j=if j=i then some v else t.get j:=by
 have h:t.put v i=(match t.p5 v i with | none=> .cons i v t | some r=>r):=by unfold ca.put; cases t.p5 v i <;> rfl
 rw [h]
 cases bh:t.p5 v i with
 | none=>exact ca.su i v t j
 | some r=>exact ca.Ra v i j t r bh
theorem a'.md (M:Nat) (T:a') (v:I) (i j:Nat):(T.put M v i).get M j=if j=i then some v else T.get M j:=by
 unfold a'.put a'.get
 by_cases e:j=i
 ·
  subst e
  rw [if_pos rfl]
  cases Nat.testBit M j <;> simp [ca.md,ca.su]
 ·
  rw [if_neg e]
  cases Nat.testBit M i <;> cases Nat.testBit M j <;> simp [ca.md,ca.su,e]
structure Ke (P:Program) (t:TypeId) (i:kI):Prop where
 ex:∃(d:TypeDesc) (j:TypeInfo),P.underlying t=some d /\ P.info? t=some j /\ i.size=j.size /\ i.bytes=j.bytes /\ i.agg=ko d /\ i.kind=i' d /\
  i.zero=(j.zero.bind (h2 3)).bind (xf j.size)
theorem Rb {P:Program} {t:TypeId} {i:kI} (h:(ib P).ty t=some i):Ke P t i:=by
 simp only [ib,bz.yD] at h
 obtain ⟨o,aC,ad⟩:=Option.bind_eq_some_iff.1 h
 simp only [id] at ad; subst ad
 rw [List.getElem?_map] at aC
 obtain ⟨j,ax,qk⟩:=Option.map_eq_some_iff.1 aC
 have hQ:P.types[t]? =some j:=by simpa using ax
 have aF:t < P.types.size:=(Array.getElem?_eq_some_iff.1 hQ).1
 have JC:∀u (k:TypeInfo),P.types.toList[u]? =some k -> P.info? u=some k:=by
  intro u k ab
  have kA:P.types[u]? =some k:=by simpa using ab
  have hu:u < P.types.size:=(Array.getElem?_eq_some_iff.1 kA).1
  unfold Tables.info?
  rw [if_pos hu]; exact kA
 have c':=JC t j ax
 unfold xg at qk
 obtain ⟨d,aw,rfl⟩:=Option.map_eq_some_iff.1 qk
 refine ⟨d,j,?_,c',rfl,rfl,rfl,rfl,rfl⟩
 unfold Program.underlying
 cases j with
 | mk desc str size bytes aR vF l1 zero cmp ms=>
  rw [c']
  cases desc with
  | named n u=>
   simp only at aw
   obtain ⟨k,ab,rfl⟩:=Option.map_eq_some_iff.1 aw
   simp [JC u k ab]
  | _=>simp only at aw ⊢; exact aw
theorem HL {P:Program} {f:FuncId} {fn:Func} (h:(ib P).fn f=some fn):P.funcs[f]? =some fn:=by
 simp only [ib,bz.yD] at h
 simpa using h
end Go.az
namespace Go.az
structure bb where
 cw:Nat -> Option Nat
 ka:Nat -> Nat
 sz:Nat -> Nat
def bb.gi (s s':bb):Prop:=∀a c,s.cw a=some c -> s'.cw a=some c /\ s'.ka a=s.ka a /\ s'.sz a=s.sz a
theorem bb.gi.refl (s:bb):s.gi s:=fun _ _ h=>⟨h,rfl,rfl⟩
theorem bb.gi.trans {a b c:bb} (h:a.gi b) (k:b.gi c):a.gi c:=fun x y R=>
 have J:=h x y R
 have O:=k x y J.1
 ⟨O.1,O.2.1.trans J.2.1,O.2.2.trans J.2.2⟩
def dB (s:bb) (b o n:Nat):dm -> Option Value
 | .ex c=>if n≤c then (s.cw b).map fun d=> .slice (some ⟨d,o,none⟩) n c else none
 | .rest e sz cQ=>if n≤cQ /\ cQ + e≤s.ka b /\ o=e * sz /\ s.sz b=sz then (s.cw b).map fun d=> .slice (some ⟨d,o,none⟩) n (s.ka b - e) else none
 | .tail e l sz z=>if n=0 /\ l + e≤s.ka b /\ o=e * sz /\ s.sz b=sz then
  (s.cw b).map fun d=> .slice (some ⟨d,if s.ka b - e=l then o else o + l * sz,none⟩) 0 (if z then 0 else s.ka b - e - l) else none
mutual
def a5 (s:bb):I -> Option Value
 | .bool b=>some (.bool b)
 | .int k n=>some (.int k n)
 | .str l=>some (.string ⟨l.toArray⟩)
 | .cA=>some (.pointer none)
 | .ptr b o=>(s.cw b).map fun d=> .pointer (some ⟨d,o,none⟩)
 | .aE=>some (.slice none 0 0)
 | .slice b o n c=>dB s b o n c
 | .func f a c=>(bZ s a).bind fun a=>(bZ s c).map fun c=> .func (.func f) a.toArray c.toArray
 | .yield l=>(s.cw l).map fun d=> .func (.yield d) #[] #[]
 | .dj=>some .nilFunc
 | .iface t v=>(a5 s v).map (.iface t)
 | .dK=>some .nilIface
 | .agg l=>(bZ s l).map fun l=> .agg l.toArray
 | .tuple l=>(bZ s l).map fun l=> .tuple l.toArray
 | .aJ _ _=>none
 | .c9 _ _=>none
 | .dY a=>some (.slice (some a) 0 0)
def bZ (s:bb):List I -> Option (List Value)
 | []=>some []
 | x :: l=>(a5 s x).bind fun y=>(bZ s l).map fun r=>y :: r
end
theorem M0 {s s':bb} (h:s.gi s') {b o n:Nat} {c:dm} {v:Value} (ak:dB s b o n c=some v):dB s' b o n c=some v:=by
 cases c with
 | ex c=>
  simp only [dB] at ak ⊢
  split at ak
  ·
   rename_i ar
   obtain ⟨d,aw,rfl⟩:=Option.map_eq_some_iff.1 ak
   simp [ar,(h b d aw).1]
  ·
   cases ak
 | rest e sz cQ=>
  simp only [dB] at ak ⊢
  split at ak
  ·
   rename_i ar
   obtain ⟨d,aw,rfl⟩:=Option.map_eq_some_iff.1 ak
   obtain ⟨J,O,ag⟩:=h b d aw
   rw [J,O,ag]; simp [ar]
  ·
   cases ak
 | tail e l sz z=>
  simp only [dB] at ak ⊢
  split at ak
  ·
   rename_i ar
   obtain ⟨d,aw,rfl⟩:=Option.map_eq_some_iff.1 ak
   obtain ⟨J,O,ag⟩:=h b d aw
   rw [J,O,ag]; simp [ar]
  ·
   cases ak
mutual
theorem q1 {s s':bb} (h:s.gi s'):∀(a:I) (v:Value),a5 s a=some v -> a5 s' a=some v
 | .bool _,_,ak=>ak
 | .int _ _,_,ak=>ak
 | .str _,_,ak=>ak
 | .cA,_,ak=>ak
 | .ptr b o,v,ak=>by
  simp only [a5] at ak ⊢
  obtain ⟨d,aw,rfl⟩:=Option.map_eq_some_iff.1 ak
  simp [(h b d aw).1]
 | .aE,_,ak=>ak
 | .slice b o n c,v,ak=>by
  simp only [a5] at ak ⊢
  exact M0 h ak
 | .func f a c,v,ak=>by
  simp only [a5] at ak ⊢
  obtain ⟨x,R,ak⟩:=Option.bind_eq_some_iff.1 ak
  obtain ⟨y,aj,rfl⟩:=Option.map_eq_some_iff.1 ak
  simp [nw h a x R,nw h c y aj]
 | .yield l,v,ak=>by
  simp only [a5] at ak ⊢
  obtain ⟨d,aw,rfl⟩:=Option.map_eq_some_iff.1 ak
  simp [(h l d aw).1]
 | .dj,_,ak=>ak
 | .iface t x,v,ak=>by
  simp only [a5] at ak ⊢
  obtain ⟨y,aj,rfl⟩:=Option.map_eq_some_iff.1 ak
  simp [q1 h x y aj]
 | .dK,_,ak=>ak
 | .agg l,v,ak=>by
  simp only [a5] at ak ⊢
  obtain ⟨y,aj,rfl⟩:=Option.map_eq_some_iff.1 ak
  simp [nw h l y aj]
 | .tuple l,v,ak=>by
  simp only [a5] at ak ⊢
  obtain ⟨y,aj,rfl⟩:=Option.map_eq_some_iff.1 ak
  simp [nw h l y aj]
 | .aJ _ _,v,ak=>by simp only [a5] at ak; cases ak
 | .c9 _ _,v,ak=>by simp only [a5] at ak; cases ak
 | .dY _,v,ak=>ak
theorem nw {s s':bb} (h:s.gi s'):∀(l:List I) (v:List Value),bZ s l=some v -> bZ s' l=some v
 | [],_,ak=>ak
 | x :: l,v,ak=>by
  simp only [bZ] at ak ⊢
  obtain ⟨y,aj,ak⟩:=Option.bind_eq_some_iff.1 ak
  obtain ⟨r,af,rfl⟩:=Option.map_eq_some_iff.1 ak
  simp [q1 h x y aj,nw h l r af]
end
section lists
variable {s:bb}
theorem eO {x:I} {l:List I} {r:List Value}:bZ s (x :: l)=some r↔∃y bi,a5 s x=some y /\ bZ s l=some bi /\ r=y :: bi:=by
 simp only [bZ,Option.bind_eq_some_iff,Option.map_eq_some_iff]
 constructor
 ·
  rintro ⟨y,aj,bi,af,rfl⟩; exact ⟨y,bi,aj,af,rfl⟩
 ·
  rintro ⟨y,bi,aj,af,rfl⟩; exact ⟨y,aj,bi,af,rfl⟩
theorem hW:∀ {l:List I} {r:List Value},bZ s l=some r -> r.length=l.length
 | [],r,h=>by simp [bZ] at h; subst h; rfl
 | x :: l,r,h=>by
  obtain ⟨y,bi,_,af,rfl⟩:=eO.1 h
  simp [hW af]
theorem vZ:∀ {l:List I} {r:List Value} {i:Nat} {a:I},bZ s l=some r -> l[i]? =some a -> ∃v,r[i]? =some v /\ a5 s a=some v
 | [],_,_,_,_,h=>by simp at h
 | x :: l,r,i,a,h,ae=>by
  obtain ⟨y,bi,aj,af,rfl⟩:=eO.1 h
  cases i with
  | zero=>simp at ae; subst ae; exact ⟨y,by simp,aj⟩
  | succ i=>simp at ae; obtain ⟨v,ak,V⟩:=vZ af ae; exact ⟨v,by simpa using ak,V⟩
theorem nu:∀ {l m:List I} {r:List Value},bZ s (l ++ m)=some r↔∃x y,bZ s l=some x /\ bZ s m=some y /\ r=x ++ y
 | [],m,r=>by simp [bZ]
 | a :: l,m,r=>by
  rw [List.cons_append,eO]
  constructor
  ·
   rintro ⟨y,bi,aj,af,rfl⟩
   obtain ⟨x,z,R,ai,rfl⟩:=nu.1 af
   exact ⟨y :: x,z,eO.2 ⟨y,x,aj,R,rfl⟩,ai,rfl⟩
  ·
   rintro ⟨x,z,R,ai,rfl⟩
   obtain ⟨y,x',aj,jD,rfl⟩:=eO.1 R
   exact ⟨y,x' ++ z,aj,nu.2 ⟨x',z,jD,ai,rfl⟩,rfl⟩
theorem oB {l:List I} {r:List Value} (h:bZ s l=some r) (n:Nat):bZ s (l.take n)=some (r.take n):=by
 have aQ:=h
 rw [<- List.take_append_drop n l] at aQ
 obtain ⟨x,y,R,aj,rfl⟩:=nu.1 aQ
 rw [R]
 have ah:=hW R
 have j3:=hW aj
 congr 1
 by_cases ar:n≤l.length
 ·
  rw [List.length_take,Nat.min_eq_left ar] at ah
  rw [List.take_append_of_le_length (by omega),List.take_of_length_le (by omega)]
 ·
  rw [List.length_drop] at j3
  have:y= []:=List.eq_nil_of_length_eq_zero (by omega)
  subst this
  rw [List.length_take] at ah
  rw [List.append_nil,List.take_of_length_le (by omega)]
theorem qZ {l:List I} {r:List Value} (h:bZ s l=some r) (n:Nat):bZ s (l.drop n)=some (r.drop n):=by
 have aQ:=h
 rw [<- List.take_append_drop n l] at aQ
 obtain ⟨x,y,R,aj,rfl⟩:=nu.1 aQ
 rw [aj]
 have ah:=hW R
 have j3:=hW aj
 congr 1
 by_cases ar:n≤l.length
 ·
  rw [List.length_take,Nat.min_eq_left ar] at ah
  rw [<- ah,List.drop_left]
 ·
  rw [List.length_drop] at j3
  have:y= []:=List.eq_nil_of_length_eq_zero (by omega)
  subst this
  rw [List.length_take] at ah
  rw [List.append_nil,List.drop_eq_nil_of_le (by omega)]
theorem yz {a:I} {v:Value} (h:a5 s a=some v) (J:gI a=none) (O:v.cells= #[v]):bZ s a.cells=some v.cells.toList:=by
 have:a.cells= [a]:=by unfold I.cells; rw [J]; rfl
 rw [this,O]
 simp [bZ,h]
theorem qV {a:I} {v:Value} (h:a5 s a=some v):bZ s a.cells=some v.cells.toList:=by
 cases a with
 | agg l=>
  have aD:(I.agg l).cells=l:=rfl
  simp only [a5] at h
  obtain ⟨y,aj,rfl⟩:=Option.map_eq_some_iff.1 h
  rw [aD,aj]; simp [Value.cells]
 | tuple l=>
  refine yz h rfl ?_
  simp only [a5] at h
  obtain ⟨y,aj,rfl⟩:=Option.map_eq_some_iff.1 h
  rfl
 | slice b o n c=>
  refine yz h rfl ?_
  simp only [a5] at h
  cases c <;> simp only [dB] at h <;> split at h <;> first | (cases h; done) | (obtain ⟨y,aj,rfl⟩:=Option.map_eq_some_iff.1 h; rfl)
 | func f x c=>
  refine yz h rfl ?_
  simp only [a5] at h
  obtain ⟨x',R,h⟩:=Option.bind_eq_some_iff.1 h
  obtain ⟨y,aj,rfl⟩:=Option.map_eq_some_iff.1 h
  rfl
 | _=>
  refine yz h rfl ?_
  simp only [a5,Option.map_eq_some_iff,Option.some.injEq] at h
  first
   | (subst h; rfl)
   | (cases h; done)
   | (obtain ⟨y,aj,rfl⟩:=h; rfl)
end lists
theorem we {s:bb} {f:Value -> Option I} (ao:∀v a,f v=some a -> a5 s a=some v):∀(l:List Value) (r:List I),az.iE f l=some r -> bZ s r=some l
 | [],r,h=>by simp [az.iE] at h; subst h; rfl
 | x :: l,r,h=>by
  simp only [az.iE,Option.bind_eq_some_iff,Option.map_eq_some_iff] at h
  obtain ⟨y,aj,bi,af,rfl⟩:=h
  exact eO.2 ⟨x,l,ao _ _ aj,we ao l bi af,rfl⟩
theorem HM {s:bb}:∀(d:Nat) (v:Value) (a:I),h2 d v=some a -> a5 s a=some v:=by
 intro d
 induction d with
 | zero=>
  intro v a h
  unfold h2 at h
  split at h <;> first | (cases h <;> first | rfl | (simp [a5]; done)) | (simp at *; done)
 | succ d aH=>
  intro v a h
  unfold h2 at h
  split at h
  case h_8=>
   rename_i he
   obtain rfl:=Nat.succ.inj he
   simp only [Option.bind_eq_some_iff,Option.map_eq_some_iff] at h
   obtain ⟨x',R,ch,aj,rfl⟩:=h
   simp [a5,we aH _ _ R,we aH _ _ aj]
  case h_9=>
   rename_i he
   obtain rfl:=Nat.succ.inj he
   simp only [Option.map_eq_some_iff] at h
   obtain ⟨x',R,rfl⟩:=h
   simp [a5,we aH _ _ R]
  case h_10=>
   rename_i he
   obtain rfl:=Nat.succ.inj he
   simp only [Option.map_eq_some_iff] at h
   obtain ⟨x',R,rfl⟩:=h
   simp [a5,we aH _ _ R]
  all_goals (cases h <;> first | rfl | (simp [a5]; done))
def dD (s:bb) (M:Nat) (T:a') (ct:Array Value):Prop:=∀i v,T.get M i=some v -> a5 s v=some (ct.getD i undef)
theorem dD.mono {s s':bb} (h:s.gi s') {M:Nat} {T:a'} {ct:Array Value} (k:dD s M T ct):dD s' M T ct:=fun i v ak=>q1 h _ _ (k i v ak)
theorem dD.put {s:bb} {M:Nat} {T:a'} {ct:Array Value} (k:dD s M T ct) {d:Nat} {v:I} {c:Value} (aw:d < ct.size) (ak:a5 s v=some c):
 dD s M (T.put M v d) (ct.setIfInBounds d c):=by
 intro i u hu
 rw [a'.md] at hu
 split at hu
 ·
  rename_i h; subst h; cases hu; simp [ak,aw]
 ·
  rename_i h
  rw [k i u hu]
  simp [Array.getElem?_setIfInBounds_ne (Ne.symm h)]
theorem dD.empty (s:bb) (M:Nat) (ct:Array Value):dD s M ⟨.nil,.nil⟩ ct:=by
 intro i v h
 unfold a'.get at h
 cases U:Nat.testBit M i <;> rw [U] at h <;> cases h
theorem dD.global {s:bb} {M:Nat} {T:a'} {ct:Array Value} (k:dD s M T ct):dD s M ⟨.nil,T.G⟩ ct:=by
 intro i v h
 refine k i v ?_
 unfold a'.get at h ⊢
 cases U:Nat.testBit M i
 ·
  rw [U] at h; cases h
 ·
  rw [U] at h; exact h
def dR (ct:Array Value):Operand -> Value
 | .tmp t=>ct.getD t undef
 | .const v=>v
 | .global g=> .pointer (some ⟨g,0,none⟩)
 | .func f=> .func (.func f) #[] #[]
theorem sD (M t:Nat) (T:a'):aK M (.tmp t) T=T.get M t:=by
 unfold aK Kb a'.get
 simp only
 cases Nat.testBit M t <;> rfl
theorem eF {s:bb} {M:Nat} {T:a'} {ct:Array Value} (k:dD s M T ct) {o:Operand} {a:I} (h:aK M o T=some a):a5 s a=some (dR ct o):=by
 cases o with
 | tmp t=>rw [sD] at h; exact k t a h
 | const v=>exact HM 3 v a h
 | global g=>cases h
 | func f=>cases h; simp [a5,bZ,dR]
theorem yT (M:Nat) (x:Operand) (l:List Operand) (T:a'):c0 M (x :: l) T=(aK M x T).bind fun y=>(c0 M l T).map (y :: ·):=by
 have h:c0 M (x :: l) T=(aK M x T).ac fun y=>(c0 M l T).omap (y :: ·):=rfl
 rw [h]; simp
theorem t8 {s:bb} {M:Nat} {T:a'} {ct:Array Value} (k:dD s M T ct):∀ {l:List Operand} {r:List I},c0 M l T=some r -> bZ s r=some (l.map (dR ct))
 | [],r,h=>by cases h; rfl
 | o :: l,r,h=>by
  rw [yT] at h
  simp only [Option.bind_eq_some_iff,Option.map_eq_some_iff] at h
  obtain ⟨y,aj,bi,af,rfl⟩:=h
  exact eO.2 ⟨_,_,eF k aj,t8 k af,rfl⟩
def m5:bf -> Prop
 | .cells _ _ _ w=>w=true
 | .loop .. =>True
 | .dead=>False
def isLive:bf -> Prop
 | .dead=>False
 | _=>True
theorem tZ {b:bf} (h:m5 b):isLive b:=by cases b <;> first | trivial | exact h
def m9 (fz:Nat × Nat) (n:Nat):Prop:=fz.1=fz.2∨n≤fz.1
def sd (wr:Bool) (s:bb) (l:List I) (vs:List Value):Prop:=match wr with
 | true=>bZ s l=some vs
 | false=>vs.length=l.length /\ ∀(i:Nat) (v:I),l[i]? =some v -> b2 v=true -> ∃u,vs[i]? =some u /\ a5 s v=some u
def KY (wr:Bool) (fz:Nat × Nat) (n:Nat):Prop:=match wr with | true=>m9 fz n | false=>True
theorem sd.mono {wr:Bool} {s s':bb} (h:s.gi s') {l:List I} {vs:List Value} (k:sd wr s l vs):sd wr s' l vs:=by
 cases wr with
 | true=>exact nw h _ _ (show bZ s l=some vs from k)
 | false=>exact ⟨k.1,fun i v J O=>(k.2 i v J O).imp fun u hu=>⟨hu.1,q1 h _ _ hu.2⟩⟩
def im (_:bb) (vs:List Value):Prop:=∃cy,∀s,bZ s cy=some vs
theorem im.mono {s s':bb} (_:s.gi s') {vs:List Value} (k:im s vs):im s' vs:=k
theorem im.drop {s:bb} {vs:List Value} (k:im s vs) (n:Nat):im s (vs.drop n):=k.elim fun j h=>⟨j.drop n,fun s=>qZ (h s) n⟩
theorem im.nil (s:bb):im s []:=⟨[],fun _=>rfl⟩
theorem im.of {s:bb}:∀ {vs:List Value},(∀v∈vs,∃a,∀s,a5 s a=some v) -> im s vs
 | [],_=>im.nil s
 | v :: vs,h=>by
  obtain ⟨a,ae⟩:=h v (by simp)
  obtain ⟨j,ax⟩:=im.of (s:=s) (vs:=vs) fun u hu=>h u (by simp [hu])
  exact ⟨a :: j,fun s=>eO.2 ⟨_,_,ae s,ax s,rfl⟩⟩
def kp (E:Env) (s:bb) (a c:Nat) (w:World):bf -> Prop
 | .cells l e x wr=>∃arr fz,w.heap[c]? =some (.cells arr e fz) /\ sd wr s l (arr.toList.take l.length) /\ l.length≤arr.size /\ KY wr fz arr.size /\
  (x=true -> arr.size=l.length) /\ (x=false -> arr.size=s.ka a * s.sz a /\ s.sz a=au E e) /\ (wr=true -> im s (arr.toList.drop l.length) /\ (fz.1=fz.2∨hX (aU E e)=true))
 | .loop f T N M ps KZ body st se=>∃ct D,w.heap[c]? =some (.loop { state:=st,pending:=se,fn:=f,tmps:=ct,params:=ps.toArray,assign:=KZ,body:=body,defers:=D}) /\ dD s M T ct /\ ct.size=N
 | .dead=>True
structure bM (E:Env) (s:bb) (H:aa) (w:World):Prop where
 dr:∀a x c,H.m.get a=some x -> s.cw a=some c -> kp E s a c w x
 inj:∀a x cF x' c,H.m.get a=some x -> m5 x -> H.m.get cF=some x' -> isLive x' -> s.cw a=some c -> s.cw cF=some c -> a=cF
 lt:∀a c,s.cw a=some c -> c < w.heap.size
 fr:∀a,H.next≤a -> s.cw a=none /\ H.m.get a=none
structure Ext (s:bb) (H:aa) (w:World) (s':bb) (H':aa) (w':World):Prop where
 nx:H.next≤H'.next
 le:∀a,a < H.next -> s'.cw a=s.cw a /\ s'.ka a=s.ka a /\ s'.sz a=s.sz a
 size:w.heap.size≤w'.heap.size
 os:w'.os=w.os
 tape:w'.tape=w.tape
 output:w'.output=w.output
 b3:∀c,c < w.heap.size -> (∀a x,H.m.get a=some x -> m5 x -> s.cw a≠some c) -> w'.heap[c]? =w.heap[c]?
 mG:∀a x c,H'.m.get a=some x -> m5 x -> s'.cw a=some c -> c < w.heap.size -> ∃a0 dZ,H.m.get a0=some dZ /\ m5 dZ /\ s.cw a0=some c
 nN:∀a x c,H'.m.get a=some x -> isLive x -> s'.cw a=some c -> c < w.heap.size -> ∃a0 dZ,H.m.get a0=some dZ /\ isLive dZ /\ s.cw a0=some c
 loops:∀(c:Nat) (r:Loop),w.heap[c]? =some (Obj.loop r) -> ∃bi:Loop,w'.heap[c]? =some (Obj.loop bi)
theorem Ext.refl (s:bb) (H:aa) (w:World):Ext s H w s H w:=
 ⟨Nat.le_refl _,fun _ _=>⟨rfl,rfl,rfl⟩,Nat.le_refl _,rfl,rfl,rfl,fun _ _ _=>rfl,fun a x _ h o m _=>⟨a,x,h,o,m⟩,fun a x _ h o m _=>⟨a,x,h,o,m⟩,fun _ r h=>⟨r,h⟩⟩
theorem Ext.trans {s:bb} {H:aa} {w:World} {s':bb} {H':aa} {w':World} {K0:bb} {dF:aa} {K3:World}
 (h:Ext s H w s' H' w') (k:Ext s' H' w' K0 dF K3):Ext s H w K0 dF K3 where
 nx:=Nat.le_trans h.nx k.nx
 le a ae:=by
  have J:=h.le a ae
  have O:=k.le a (Nat.lt_of_lt_of_le ae h.nx)
  exact ⟨O.1.trans J.1,O.2.1.trans J.2.1,O.2.2.trans J.2.2⟩
 size:=Nat.le_trans h.size k.size
 os:=k.os.trans h.os
 tape:=k.tape.trans h.tape
 output:=k.output.trans h.output
 b3 c V ar:=by
  refine (k.b3 c (Nat.lt_of_lt_of_le V h.size) ?_).trans (h.b3 c V ar)
  intro a x ae aC hm
  obtain ⟨a0,dZ,aD,yi,c1⟩:=h.mG a x c ae aC hm V
  exact ar a0 dZ aD yi c1
 mG a x c ae aC hm V:=by
  obtain ⟨a0,dZ,aD,yi,c1⟩:=k.mG a x c ae aC hm (Nat.lt_of_lt_of_le V h.size)
  exact h.mG a0 dZ c aD yi c1 V
 nN a x c ae aC hm V:=by
  obtain ⟨a0,dZ,aD,yi,c1⟩:=k.nN a x c ae aC hm (Nat.lt_of_lt_of_le V h.size)
  exact h.nN a0 dZ c aD yi c1 V
 loops c r V:=by
  obtain ⟨cf,J⟩:=h.loops c r V
  exact k.loops c cf J
theorem Ext.vG {E:Env} {s:bb} {H:aa} {w:World} {s':bb} {H':aa} {w':World} (h:Ext s H w s' H' w') (r:bM E s H w):s.gi s':=by
 intro a c V
 have ae:a < H.next:=by
  rcases Nat.lt_or_ge a H.next with J | J
  ·
   exact J
  ·
   rw [(r.fr a J).1] at V; cases V
 obtain ⟨J,O,ag⟩:=h.le a ae
 exact ⟨J.trans V,O,ag⟩
end Go.az
namespace Go.az
theorem emod_negSucc (a m:Nat) (hm:0 < m):(Int.negSucc a) % (m:Int)=((m - 1 - a % m:Nat):Int):=by
 have J:=Nat.mod_lt a hm
 have O:=Nat.div_add_mod a m
 have e:(Int.negSucc a)=((m - 1 - a % m:Nat):Int) + (m:Int) * (-((a / m:Nat):Int) - 1):=by
  rw [Int.negSucc_eq]
  have:((m - 1 - a % m:Nat):Int)=(m:Int) - 1 - ((a % m:Nat):Int):=by omega
  rw [this]
  have ag:((m:Int) * ((a / m:Nat):Int)) + ((a % m:Nat):Int)=(a:Int):=by exact_mod_cast O
  rw [Int.mul_sub,Int.mul_neg]
  omega
 rw [e,Int.add_mul_emod_self_left]
 exact Int.emod_eq_of_lt (by omega) (by omega)
theorem HN (m:Nat) (n:Int) (hm:0 < m):uE m n=n % (m:Int):=by
 cases n with
 | ofNat a=>show ((a % m:Nat):Int)=_; simp
 | negSucc a=>rw [emod_negSucc a m hm]; rfl
theorem Rc (m h:Nat) (n:Int) (hm:0 < m) (aM:m=2 * h):rl m h n=if n % (m:Int)≥(h:Int) then n % (m:Int) - m else n % (m:Int):=by
 cases n with
 | ofNat a=>
  have J:=Nat.mod_lt a hm
  have e:((Int.ofNat a) % (m:Int))=((a % m:Nat):Int):=by simp
  have aw:rl m h (Int.ofNat a)=ap (Nat.blt (a % m) h) (.ofNat (a % m)) (.negSucc (m - 1 - a % m)):=rfl
  rw [e,aw]
  cases U:Nat.blt (a % m) h with
  | true=>
   rw [Nat.blt_eq] at U
   rw [uk,if_neg (by omega)]; rfl
  | false=>
   have dx:¬(a % m < h):=fun k=>by rw [<- Nat.blt_eq,U] at k; cases k
   rw [wb,if_pos (by omega),Int.negSucc_eq]; omega
 | negSucc a=>
  have J:=Nat.mod_lt a hm
  have aw:rl m h (Int.negSucc a)=ap (Nat.blt (a % m) h) (.negSucc (a % m)) (.ofNat (m - 1 - a % m)):=rfl
  rw [emod_negSucc a m hm,aw]
  cases U:Nat.blt (a % m) h with
  | true=>
   rw [Nat.blt_eq] at U
   rw [uk,if_pos (by omega),Int.negSucc_eq]; omega
  | false=>
   have dx:¬(a % m < h):=fun k=>by rw [<- Nat.blt_eq,U] at k; cases k
   rw [wb,if_neg (by omega)]; rfl
theorem pM (k:IntKind) (n:Int):bG k n=k.wrap n:=by
 cases k <;> simp only [bG,Jf] <;>
  first
  | (rw [HN _ _ (by omega)]; simp [IntKind.wrap,IntKind.signed,IntKind.bits]; done)
  | (rw [Rc _ _ _ (by omega) (by omega)]; simp [IntKind.wrap,IntKind.signed,IntKind.bits])
theorem sH (a b:Int):lN a b=(a==b):=by
 cases a <;> cases b <;> rw [Bool.eq_iff_iff] <;> simp only [lN] <;> simp [Nat.beq_eq] <;> omega
theorem cZ (a b:Nat):Nat.blt a b=true↔a < b:=by rw [Nat.blt_eq]
theorem ux (a b:Int):n3 a b=decide (a < b):=by
 cases a <;> cases b <;> rw [Bool.eq_iff_iff] <;> simp only [n3] <;> simp <;> omega
theorem Mu (a b:Int):(!decide (a < b))=decide (b≤a):=by
 rw [Bool.eq_iff_iff]; simp
theorem v3 {k k':IntKind}:jO k k'=true↔k=k':=by cases k <;> cases k' <;> decide
theorem oD (a b:Bool):kT a b=(a==b):=by cases a <;> cases b <;> rfl
theorem q_ (k:IntKind) (n:Int):modn k n=(BitVec.ofInt k.bits n).toNat:=by
 rw [BitVec.toNat_ofInt]
 cases k <;> simp only [modn,DI,IntKind.bits] <;> rw [HN _ _ (by omega)] <;> rfl
theorem Td (k:IntKind):Kc k=2 ^ k.bits - 1:=by cases k <;> rfl
theorem Rd (k:IntKind):iY k=k.bits:=by cases k <;> rfl
variable {P:Program}
theorem yE (op:BinOp) (k:IntKind) (a b:Int) (w:World) (v:I) (h:pU op k a b=some v) (aC:op= .and∨op= .or∨op= .xor∨op= .andNot) (s:bb):
 ∃c,a5 s v=some c /\ (Op.intBits op k a b).run P w= .ok c w:=by
 rcases aC with rfl | rfl | rfl | rfl <;> simp only [pU,ul,Option.some.injEq] at h <;> subst h <;> refine ⟨_,rfl,?_⟩ <;> simp only [Op.intBits,Sem.run_pure]
 ·
  rw [pM,BitVec.toNat_and,q_,q_]; rfl
 ·
  rw [pM,BitVec.toNat_or,q_,q_]; rfl
 ·
  rw [pM,BitVec.toNat_xor,q_,q_]; rfl
 ·
  rw [pM,BitVec.toNat_and,q_,q_,BitVec.toNat_not,Td]; rfl
theorem NK {op:BinOp} {k:IntKind} {a b:Int} {v:I} (h:pU op k a b=some v) (t:TypeId) (w:World) (s:bb):
 ∃c,a5 s v=some c /\ (binOp op t (.int k a) (.int k b)).run P w= .ok c w:=by
 cases op
 case and=>simpa [binOp] using yE (P:=P) .and k a b w v h (by simp) s
 case or=>simpa [binOp] using yE (P:=P) .or k a b w v h (by simp) s
 case xor=>simpa [binOp] using yE (P:=P) .xor k a b w v h (by simp) s
 case andNot=>simpa [binOp] using yE (P:=P) .andNot k a b w v h (by simp) s
 case quo=>
  simp only [pU,ul,sH] at h
  split at h
  ·
   cases h
  ·
   rename_i U
   have U:b≠0:=by simpa using U
   cases h
   exact ⟨_,rfl,by simp [binOp,Op.intDiv,U,pM]⟩
 case rem=>
  simp only [pU,ul,sH] at h
  split at h
  ·
   cases h
  ·
   rename_i U
   have U:b≠0:=by simpa using U
   cases h
   exact ⟨_,rfl,by simp [binOp,Op.intDiv,U]⟩
 case shl=>cases h
 case shr=>cases h
 all_goals
  simp only [pU,ul,Option.some.injEq] at h
  subst h
  refine ⟨_,rfl,?_⟩
  simp [binOp,Op.intArith,Op.intCmp,pM,sH,ux,bne,Mu,-Bool.not_eq_eq_eq_not]
  try rfl
theorem Cv (a b:Nat):gb a b=min a b:=by
 unfold gb
 cases h:Nat.ble a b with
 | true=>rw [Nat.ble_eq] at h; rw [uk,Nat.min_eq_left h]
 | false=>
  rw [wb,Nat.min_eq_right]
  have:¬a≤b:=fun k=>by rw [<- Nat.ble_eq,h] at k; cases k
  omega
theorem NL {op:BinOp} {k yk:IntKind} {a b:Int} {v:I} (h:CW op k a b=some v) (t:TypeId) (w:World) (s:bb):
 ∃c,a5 s v=some c /\ (binOp op t (.int k a) (.int yk b)).run P w= .ok c w:=by
 cases b with
 | negSucc b=>cases h
 | ofNat y=>
  have aQ:um op k a (gb y (iY k))=some v:=h
  cases op <;> first | (cases aQ; done) | skip
  all_goals
   cases aQ
   refine ⟨_,rfl,?_⟩
   simp only [binOp,Op.shift]
   rw [if_neg (by simp),Rd,Cv]
   simp only [Sem.run_pure,Int.ofNat_eq_natCast,Int.toNat_natCast]
   simp [pM]
   try rfl
end Go.az
