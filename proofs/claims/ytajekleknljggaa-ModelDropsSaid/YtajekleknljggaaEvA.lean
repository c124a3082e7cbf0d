/-
  The evaluator: values, memory and code of a program, worked out by plain functions; how they stand to the model. No conditions.
-/
import Derived.Calls
import Derived.RowKit
import Derived.WalkKit
set_option linter.unusedVariables false
set_option linter.unusedSimpArgs false
namespace Go.Ev
noncomputable section
/-! A binary trie over the numbers. -/
inductive Tr (α : Type) where
 | nil : Tr α
 | node (l : Tr α) (v : Option α) (r : Tr α) : Tr α
 deriving Inhabited
def Tr.get {α : Type} (t : Tr α) : Nat -> Option α :=
 Tr.rec (fun _ => none) (fun _ v _ gl gr n => Nat.rec v (fun n _ => Nat.rec (gl (Nat.div n 2)) (fun _ _ => gr (Nat.div n 2)) (Nat.mod n 2)) n) t
def Tr.sing {α : Type} (v : α) (k : Nat) : Nat -> Tr α :=
 Nat.rec (fun n => Nat.rec (.node .nil (some v) .nil) (fun _ _ => .nil) n)
  (fun _ ih n => Nat.rec (.node .nil (some v) .nil) (fun n _ => Nat.rec (.node (ih (Nat.div n 2)) none .nil) (fun _ _ => .node .nil none (ih (Nat.div n 2))) (Nat.mod n 2)) n) k
def Tr.set {α : Type} (v : α) (t : Tr α) : Nat -> Tr α :=
 Tr.rec (fun n => sing v n n)
  (fun l x r sl sr n => Nat.rec (.node l (some v) r) (fun n _ => Nat.rec (.node (sl (Nat.div n 2)) x r) (fun _ _ => .node l x (sr (Nat.div n 2))) (Nat.mod n 2)) n) t
section
variable {α : Type}
theorem Tr.get_zero (l : Tr α) (v : Option α) (r : Tr α) : (Tr.node l v r).get 0 = v := rfl
theorem Tr.get_succ (l : Tr α) (v : Option α) (r : Tr α) (n : Nat) : (Tr.node l v r).get (n + 1) = match n % 2 with | 0 => l.get (n / 2) | _ + 1 => r.get (n / 2) := by
 have h : (Tr.node l v r).get (n + 1) = @Nat.rec (fun _ => Option α) (l.get (n / 2)) (fun _ _ => r.get (n / 2)) (n % 2) := rfl
 rw [h]
 cases n % 2 <;> rfl
theorem Tr.sing_zero (v : α) (k : Nat) : Tr.sing v k 0 = .node .nil (some v) .nil := by cases k <;> rfl
theorem Tr.sing_succ (v : α) (k n : Nat) : Tr.sing v (k + 1) (n + 1) = match n % 2 with | 0 => .node (sing v k (n / 2)) none .nil | _ + 1 => .node .nil none (sing v k (n / 2)) := by
 have h : Tr.sing v (k + 1) (n + 1) = @Nat.rec (fun _ => Tr α) (.node (sing v k (n / 2)) none .nil) (fun _ _ => .node .nil none (sing v k (n / 2))) (n % 2) := rfl
 rw [h]
 cases n % 2 <;> rfl
theorem Tr.set_nil (v : α) (n : Nat) : (Tr.nil : Tr α).set v n = sing v n n := rfl
theorem Tr.set_zero (v : α) (l : Tr α) (x : Option α) (r : Tr α) : (Tr.node l x r).set v 0 = .node l (some v) r := rfl
theorem Tr.set_succ (v : α) (l : Tr α) (x : Option α) (r : Tr α) (n : Nat) : (Tr.node l x r).set v (n + 1) = match n % 2 with | 0 => .node (l.set v (n / 2)) x r | _ + 1 => .node l x (r.set v (n / 2)) := by
 have h : (Tr.node l x r).set v (n + 1) = @Nat.rec (fun _ => Tr α) (.node (l.set v (n / 2)) x r) (fun _ _ => .node l x (r.set v (n / 2))) (n % 2) := rfl
 rw [h]
 cases n % 2 <;> rfl
end
def Tr.ofL {α : Type} (l : List α) : Nat -> Tr α -> Tr α :=
 List.rec (fun _ t => t) (fun x _ ih i t => ih (Nat.succ i) (t.set x i)) l
theorem Tr.ofL_nil {α : Type} (i : Nat) (t : Tr α) : Tr.ofL [] i t = t := rfl
theorem Tr.ofL_cons {α : Type} (x : α) (l : List α) (i : Nat) (t : Tr α) : Tr.ofL (x :: l) i t = Tr.ofL l (i + 1) (t.set x i) := rfl
def _root_.Option.obind {α β : Type} (o : Option α) (f : α -> Option β) : Option β := Option.rec none f o
def _root_.Option.omap {α β : Type} (f : α -> β) (o : Option α) : Option β := Option.rec none (fun a => some (f a)) o
def oe {α β : Type} (o : Option α) (n : β) (f : α -> β) : β := Option.rec n f o
@[simp] theorem oe_none {α β : Type} (n : β) (f : α -> β) : oe none n f = n := rfl
@[simp] theorem oe_some {α β : Type} (a : α) (n : β) (f : α -> β) : oe (some a) n f = f a := rfl
def bc {α : Type} (b : Bool) (x y : α) : α := Bool.rec y x b
@[simp] theorem obind_eq {α β : Type} (o : Option α) (f : α -> Option β) : o.obind f = o.bind f := by cases o <;> rfl
@[simp] theorem omap_eq {α β : Type} (f : α -> β) (o : Option α) : o.omap f = o.map f := by cases o <;> rfl
@[simp] theorem bc_true {α : Type} (x y : α) : bc true x y = x := rfl
@[simp] theorem bc_false {α : Type} (x y : α) : bc false x y = y := rfl
structure Clo (α : Type) where
 f : α
inductive Cap where
 | ex (c : Nat)
 | rest (eoff sz lb : Nat)
 | tail (eoff l sz : Nat) (z : Bool)
 deriving Inhabited
inductive AV where
 | bool (b : Bool)
 | int (k : IntKind) (n : Int)
 | str (s : List UInt8)
 | nilp
 | ptr (b off : Nat)
 | nils
 | slice (b off len : Nat) (cap : Cap)
 | func (f : FuncId) (first captured : List AV)
 | yield (l : Nat)
 | nilf
 | iface (t : TypeId) (v : AV)
 | nili
 | agg (l : List AV)
 | tuple (l : List AV)
 | lst (sz : Nat) (l : List AV)
 | ept (l : List AV) (off : Nat)
 | esl (a : Addr)
 deriving Inhabited
def AV.undef : AV := .tuple []
/-! Looks at a value. -/
def asPtr (v : AV) : Option (Nat × Nat) :=
 AV.rec (motive_1 := fun _ => Option (Nat × Nat)) (motive_2 := fun _ => Unit)
  (fun _ => none)
  (fun _ _ => none)
  (fun _ => none)
  (none)
  (fun b o => some (b, o))
  (none)
  (fun _ _ _ _ => none)
  (fun _ _ _ _ _ => none)
  (fun _ => none)
  (none)
  (fun _ _ _ => none)
  (none)
  (fun _ _ => none)
  (fun _ _ => none)
  (fun _ _ _ => none)
  (fun _ _ _ => none)
  (fun _ => none)
  () (fun _ _ _ _ => ()) v
def asIntV (v : AV) : Option (IntKind × Int) :=
 AV.rec (motive_1 := fun _ => Option (IntKind × Int)) (motive_2 := fun _ => Unit)
  (fun _ => none)
  (fun k n => some (k, n))
  (fun _ => none)
  (none)
  (fun _ _ => none)
  (none)
  (fun _ _ _ _ => none)
  (fun _ _ _ _ _ => none)
  (fun _ => none)
  (none)
  (fun _ _ _ => none)
  (none)
  (fun _ _ => none)
  (fun _ _ => none)
  (fun _ _ _ => none)
  (fun _ _ _ => none)
  (fun _ => none)
  () (fun _ _ _ _ => ()) v
def asBoolV (v : AV) : Option Bool :=
 AV.rec (motive_1 := fun _ => Option Bool) (motive_2 := fun _ => Unit)
  (fun b => some b)
  (fun _ _ => none)
  (fun _ => none)
  (none)
  (fun _ _ => none)
  (none)
  (fun _ _ _ _ => none)
  (fun _ _ _ _ _ => none)
  (fun _ => none)
  (none)
  (fun _ _ _ => none)
  (none)
  (fun _ _ => none)
  (fun _ _ => none)
  (fun _ _ _ => none)
  (fun _ _ _ => none)
  (fun _ => none)
  () (fun _ _ _ _ => ()) v
def asStrV (v : AV) : Option (List UInt8) :=
 AV.rec (motive_1 := fun _ => Option (List UInt8)) (motive_2 := fun _ => Unit)
  (fun _ => none)
  (fun _ _ => none)
  (fun l => some l)
  (none)
  (fun _ _ => none)
  (none)
  (fun _ _ _ _ => none)
  (fun _ _ _ _ _ => none)
  (fun _ => none)
  (none)
  (fun _ _ _ => none)
  (none)
  (fun _ _ => none)
  (fun _ _ => none)
  (fun _ _ _ => none)
  (fun _ _ _ => none)
  (fun _ => none)
  () (fun _ _ _ _ => ()) v
def asSlice (v : AV) : Option (Nat × Nat × Nat × Cap) :=
 AV.rec (motive_1 := fun _ => Option (Nat × Nat × Nat × Cap)) (motive_2 := fun _ => Unit)
  (fun _ => none)
  (fun _ _ => none)
  (fun _ => none)
  (none)
  (fun _ _ => none)
  (none)
  (fun b o n c => some (b, o, n, c))
  (fun _ _ _ _ _ => none)
  (fun _ => none)
  (none)
  (fun _ _ _ => none)
  (none)
  (fun _ _ => none)
  (fun _ _ => none)
  (fun _ _ _ => none)
  (fun _ _ _ => none)
  (fun _ => none)
  () (fun _ _ _ _ => ()) v
def isNils (v : AV) : Bool :=
 AV.rec (motive_1 := fun _ => Bool) (motive_2 := fun _ => Unit)
  (fun _ => false)
  (fun _ _ => false)
  (fun _ => false)
  (false)
  (fun _ _ => false)
  (true)
  (fun _ _ _ _ => false)
  (fun _ _ _ _ _ => false)
  (fun _ => false)
  (false)
  (fun _ _ _ => false)
  (false)
  (fun _ _ => false)
  (fun _ _ => false)
  (fun _ _ _ => false)
  (fun _ _ _ => false)
  (fun _ => true)
  () (fun _ _ _ _ => ()) v
def asAggV (v : AV) : Option (List AV) :=
 AV.rec (motive_1 := fun _ => Option (List AV)) (motive_2 := fun _ => Unit)
  (fun _ => none)
  (fun _ _ => none)
  (fun _ => none)
  (none)
  (fun _ _ => none)
  (none)
  (fun _ _ _ _ => none)
  (fun _ _ _ _ _ => none)
  (fun _ => none)
  (none)
  (fun _ _ _ => none)
  (none)
  (fun l _ => some l)
  (fun _ _ => none)
  (fun _ _ _ => none)
  (fun _ _ _ => none)
  (fun _ => none)
  () (fun _ _ _ _ => ()) v
def asTupleV (v : AV) : Option (List AV) :=
 AV.rec (motive_1 := fun _ => Option (List AV)) (motive_2 := fun _ => Unit)
  (fun _ => none)
  (fun _ _ => none)
  (fun _ => none)
  (none)
  (fun _ _ => none)
  (none)
  (fun _ _ _ _ => none)
  (fun _ _ _ _ _ => none)
  (fun _ => none)
  (none)
  (fun _ _ _ => none)
  (none)
  (fun _ _ => none)
  (fun l _ => some l)
  (fun _ _ _ => none)
  (fun _ _ _ => none)
  (fun _ => none)
  () (fun _ _ _ _ => ()) v
def asLst (v : AV) : Option (Nat × List AV) :=
 AV.rec (motive_1 := fun _ => Option (Nat × List AV)) (motive_2 := fun _ => Unit)
  (fun _ => none)
  (fun _ _ => none)
  (fun _ => none)
  (none)
  (fun _ _ => none)
  (none)
  (fun _ _ _ _ => none)
  (fun _ _ _ _ _ => none)
  (fun _ => none)
  (none)
  (fun _ _ _ => none)
  (none)
  (fun _ _ => none)
  (fun _ _ => none)
  (fun n l _ => some (n, l))
  (fun _ _ _ => none)
  (fun _ => none)
  () (fun _ _ _ _ => ()) v
def asEpt (v : AV) : Option (List AV × Nat) :=
 AV.rec (motive_1 := fun _ => Option (List AV × Nat)) (motive_2 := fun _ => Unit)
  (fun _ => none)
  (fun _ _ => none)
  (fun _ => none)
  (none)
  (fun _ _ => none)
  (none)
  (fun _ _ _ _ => none)
  (fun _ _ _ _ _ => none)
  (fun _ => none)
  (none)
  (fun _ _ _ => none)
  (none)
  (fun _ _ => none)
  (fun _ _ => none)
  (fun _ _ _ => none)
  (fun l o _ => some (l, o))
  (fun _ => none)
  () (fun _ _ _ _ => ()) v
def oneC (v : AV) : Bool :=
 AV.rec (motive_1 := fun _ => Bool) (motive_2 := fun _ => Unit)
  (fun _ => true)
  (fun _ _ => true)
  (fun _ => true)
  (true)
  (fun _ _ => true)
  (true)
  (fun _ _ _ _ => true)
  (fun _ _ _ _ _ => true)
  (fun _ => true)
  (true)
  (fun _ _ _ => true)
  (true)
  (fun _ _ => false)
  (fun _ _ => false)
  (fun _ _ _ => true)
  (fun _ _ _ => true)
  (fun _ => true)
  () (fun _ _ _ _ => ()) v
def isPtrV (v : AV) : Bool :=
 AV.rec (motive_1 := fun _ => Bool) (motive_2 := fun _ => Unit)
  (fun _ => false)
  (fun _ _ => false)
  (fun _ => false)
  (true)
  (fun _ _ => true)
  (false)
  (fun _ _ _ _ => false)
  (fun _ _ _ _ _ => false)
  (fun _ => false)
  (false)
  (fun _ _ _ => false)
  (false)
  (fun _ _ => false)
  (fun _ _ => false)
  (fun _ _ _ => false)
  (fun _ _ _ => true)
  (fun _ => false)
  () (fun _ _ _ _ => ()) v
def isSliceV (v : AV) : Bool :=
 AV.rec (motive_1 := fun _ => Bool) (motive_2 := fun _ => Unit)
  (fun _ => false)
  (fun _ _ => false)
  (fun _ => false)
  (false)
  (fun _ _ => false)
  (true)
  (fun _ _ _ _ => true)
  (fun _ _ _ _ _ => false)
  (fun _ => false)
  (false)
  (fun _ _ _ => false)
  (false)
  (fun _ _ => false)
  (fun _ _ => false)
  (fun _ l _ => List.rec false (fun _ _ _ => true) l)
  (fun _ _ _ => false)
  (fun _ => true)
  () (fun _ _ _ _ => ()) v
def isFuncV (v : AV) : Bool :=
 AV.rec (motive_1 := fun _ => Bool) (motive_2 := fun _ => Unit)
  (fun _ => false)
  (fun _ _ => false)
  (fun _ => false)
  (false)
  (fun _ _ => false)
  (false)
  (fun _ _ _ _ => false)
  (fun _ _ _ _ _ => true)
  (fun _ => false)
  (true)
  (fun _ _ _ => false)
  (false)
  (fun _ _ => false)
  (fun _ _ => false)
  (fun _ _ _ => false)
  (fun _ _ _ => false)
  (fun _ => false)
  () (fun _ _ _ _ => ()) v
def isNilV (v : AV) : Bool :=
 AV.rec (motive_1 := fun _ => Bool) (motive_2 := fun _ => Unit)
  (fun _ => false)
  (fun _ _ => false)
  (fun _ => false)
  (true)
  (fun _ _ => false)
  (true)
  (fun _ _ _ _ => false)
  (fun _ _ _ _ _ => false)
  (fun _ => false)
  (true)
  (fun _ _ _ => false)
  (false)
  (fun _ _ => false)
  (fun _ _ => false)
  (fun _ _ _ => false)
  (fun _ _ _ => false)
  (fun _ => false)
  () (fun _ _ _ _ => ()) v
def asCall (v : AV) : Option (FuncId × List AV × List AV) :=
 AV.rec (motive_1 := fun _ => Option (FuncId × List AV × List AV)) (motive_2 := fun _ => Unit)
  (fun _ => none)
  (fun _ _ => none)
  (fun _ => none)
  (none)
  (fun _ _ => none)
  (none)
  (fun _ _ _ _ => none)
  (fun f a c _ _ => some (f, a, c))
  (fun _ => none)
  (none)
  (fun _ _ _ => none)
  (none)
  (fun _ _ => none)
  (fun _ _ => none)
  (fun _ _ _ => none)
  (fun _ _ _ => none)
  (fun _ => none)
  () (fun _ _ _ _ => ()) v
def asYield (v : AV) : Option Nat :=
 AV.rec (motive_1 := fun _ => Option Nat) (motive_2 := fun _ => Unit)
  (fun _ => none)
  (fun _ _ => none)
  (fun _ => none)
  (none)
  (fun _ _ => none)
  (none)
  (fun _ _ _ _ => none)
  (fun _ _ _ _ _ => none)
  (fun l => some l)
  (none)
  (fun _ _ _ => none)
  (none)
  (fun _ _ => none)
  (fun _ _ => none)
  (fun _ _ _ => none)
  (fun _ _ _ => none)
  (fun _ => none)
  () (fun _ _ _ _ => ()) v
inductive TL where
 | nil
 | cons (k : Nat) (v : AV) (r : TL)
def TL.get (t : TL) : Nat -> Option AV :=
 TL.rec (motive := fun _ => Nat -> Option AV) (fun _ => none) (fun k v _ ih i => bc (Nat.beq k i) (some v) (ih i)) t
def TL.turn (v : AV) (t : TL) : Nat -> Option TL :=
 TL.rec (motive := fun _ => Nat -> Option TL) (fun _ => none) (fun k x r ih i => bc (Nat.beq k i) (some (.cons k v r)) ((ih i).omap (.cons k x))) t
def TL.put (v : AV) (t : TL) (i : Nat) : TL := oe (t.turn v i) (.cons i v t) fun r => r
structure Tm where
 L : TL
 G : TL
def Tm.get (M : Nat) (T : Tm) (i : Nat) : Option AV := bc (Nat.testBit M i) (T.G.get i) (T.L.get i)
def Tm.put (M : Nat) (T : Tm) (v : AV) (i : Nat) : Tm := bc (Nat.testBit M i) ⟨T.L, T.G.put v i⟩ ⟨.cons i v T.L, T.G⟩
inductive Blk where
 | cells (l : List AV) (e : TypeId) (exact : Bool) (w : Bool)
 | loop (fn : FuncId) (tm : Tm) (n m : Nat) (params : List Tmp) (assign body : Code) (st : LoopState) (pend : Option Code)
 | dead
def asCells (x : Blk) : Option (List AV × TypeId × Bool × Bool) :=
 Blk.rec (motive := fun _ => Option (List AV × TypeId × Bool × Bool)) (fun l e x w => some (l, e, x, w)) (fun _ _ _ _ _ _ _ _ _ => none) none x
structure Hp where
 m : Tr Blk
 next : Nat
 log : List Nat
inductive TK where
 | bool | int (k : IntKind) | string | ptr (e : TypeId) | slice (e : TypeId) | array (n : Nat) (e : TypeId)
 | struct (fs : List (Nat × TypeId)) | func | iface | other
 deriving Inhabited
structure TI where
 size : Nat
 bytes : Nat
 agg : Bool
 zero : Option AV
 kind : TK
 deriving Inhabited
structure Env where
 fn : FuncId -> Option Func
 ty : TypeId -> Option TI
 flat : TypeId -> Option (Bool × Nat)
 sum : FuncId -> Option (List AV -> Hp -> Option (AV × Hp))
 mask : Func -> Nat
 J : Option (AV -> List AV -> Hp -> (AV -> Hp -> Prop) -> Prop) := none
def ofL (f : Value -> Option AV) : List Value -> Option (List AV)
 | [] => some []
 | x :: l => (f x).bind fun y => (ofL f l).map (y :: ·)
def ofV : Nat -> Value -> Option AV
 | _, .bool b => some (.bool b)
 | _, .int k n => some (.int k n)
 | _, .string s => some (.str s.data.toList)
 | _, .pointer none => some .nilp
 | _, .slice none 0 0 => some .nils
 | _, .nilFunc => some .nilf
 | _, .nilIface => some .nili
 | d + 1, .func (.func f) a b => (ofL (ofV d) a.toList).bind fun x => (ofL (ofV d) b.toList).map fun y => .func f x y
 | d + 1, .agg cs => (ofL (ofV d) cs.toList).map .agg
 | d + 1, .tuple cs => (ofL (ofV d) cs.toList).map .tuple
 | _, _ => none
def evOC (M : Nat) (o : Operand) : Clo (Tm -> Option AV) := match o with
 | .tmp t => match Nat.testBit M t with
  | true => .mk fun T => T.G.get t
  | false => .mk fun T => T.L.get t
 | .const v => .mk fun _ => ofV 3 v
 | .global _ => .mk fun _ => none
 | .func f => .mk fun _ => some (.func f [] [])
def evO (M : Nat) (o : Operand) (T : Tm) : Option AV := (evOC M o).f T
def evOs (M : Nat) (l : List Operand) (T : Tm) : Option (List AV) :=
 List.rec (some []) (fun x _ ih => (evO M x T).obind fun y => ih.omap (y :: ·)) l
def wrapU (m : Nat) (n : Int) : Int :=
 Int.rec (fun a => .ofNat (Nat.mod a m)) (fun a => .ofNat (Nat.sub (Nat.sub m 1) (Nat.mod a m))) n
def wrapS (m h : Nat) (n : Int) : Int :=
 Int.rec (fun a => bc (Nat.blt (Nat.mod a m) h) (.ofNat (Nat.mod a m)) (.negSucc (Nat.sub (Nat.sub m 1) (Nat.mod a m))))
  (fun a => bc (Nat.blt (Nat.mod a m) h) (.negSucc (Nat.mod a m)) (.ofNat (Nat.sub (Nat.sub m 1) (Nat.mod a m)))) n
def wrapIC (k : IntKind) : Clo (Int -> Int) := match k with
 | .i8 => .mk <| wrapS 256 128
 | .i16 => .mk <| wrapS 65536 32768
 | .i32 => .mk <| wrapS 4294967296 2147483648
 | .i64 => .mk <| wrapS 18446744073709551616 9223372036854775808
 | .u8 => .mk <| wrapU 256
 | .u16 => .mk <| wrapU 65536
 | .u32 => .mk <| wrapU 4294967296
 | .u64 => .mk <| wrapU 18446744073709551616
def wrapI (k : IntKind) : Int -> Int := (wrapIC k).f
def modk (k : IntKind) : Nat := match k with
 | .i8 | .u8 => 256 | .i16 | .u16 => 65536 | .i32 | .u32 => 4294967296 | .i64 | .u64 => 18446744073709551616
def modn (k : IntKind) (n : Int) : Nat := (wrapU (modk k) n).toNat
def maxn (k : IntKind) : Nat := Nat.sub (modk k) 1
def ktag (k : IntKind) : Nat := match k with
 | .i8 => 0 | .i16 => 1 | .i32 => 2 | .i64 => 3 | .u8 => 4 | .u16 => 5 | .u32 => 6 | .u64 => 7
def kindEq (k k' : IntKind) : Bool := Nat.beq (ktag k) (ktag k')
def ieq (a b : Int) : Bool :=
 Int.rec (fun a => Int.rec (fun b => Nat.beq a b) (fun _ => false) b) (fun a => Int.rec (fun _ => false) (fun b => Nat.beq a b) b) a
def ilt (a b : Int) : Bool :=
 Int.rec (fun a => Int.rec (fun b => Nat.blt a b) (fun _ => false) b) (fun a => Int.rec (fun _ => true) (fun b => Nat.blt b a) b) a
def intBinC (op : BinOp) : Clo (IntKind -> Int -> Int -> Option AV) := match op with
 | .add => .mk <| fun k a b => some (.int k (wrapI k (Int.add a b)))
 | .sub => .mk <| fun k a b => some (.int k (wrapI k (Int.sub a b)))
 | .mul => .mk <| fun k a b => some (.int k (wrapI k (Int.mul a b)))
 | .quo => .mk <| fun k a b => match ieq b 0 with | true => none | false => some (.int k (wrapI k (a.tdiv b)))
 | .rem => .mk <| fun k a b => match ieq b 0 with | true => none | false => some (.int k (a.tmod b))
 | .and => .mk <| fun k a b => some (.int k (wrapI k (.ofNat (Nat.land (modn k a) (modn k b)))))
 | .or => .mk <| fun k a b => some (.int k (wrapI k (.ofNat (Nat.lor (modn k a) (modn k b)))))
 | .xor => .mk <| fun k a b => some (.int k (wrapI k (.ofNat (Nat.xor (modn k a) (modn k b)))))
 | .andNot => .mk <| fun k a b => some (.int k (wrapI k (.ofNat (Nat.land (modn k a) (Nat.sub (maxn k) (modn k b))))))
 | .eql => .mk <| fun _ a b => some (.bool (ieq a b))
 | .neq => .mk <| fun _ a b => some (.bool (!ieq a b))
 | .lss => .mk <| fun _ a b => some (.bool (ilt a b))
 | .leq => .mk <| fun _ a b => some (.bool (!ilt b a))
 | .gtr => .mk <| fun _ a b => some (.bool (ilt b a))
 | .geq => .mk <| fun _ a b => some (.bool (!ilt a b))
 | _ => .mk <| fun _ _ _ => none
def intBin (op : BinOp) : IntKind -> Int -> Int -> Option AV := (intBinC op).f
def bitsn (k : IntKind) : Nat := match k with
 | .i8 | .u8 => 8 | .i16 | .u16 => 16 | .i32 | .u32 => 32 | .i64 | .u64 => 64
def shiftByC (op : BinOp) : Clo (IntKind -> Int -> Nat -> Option AV) := match op with
 | .shl => .mk <| fun k x n => some (.int k (wrapI k (Int.mul x (.ofNat (Nat.pow 2 n)))))
 | .shr => .mk <| fun k x n => some (.int k (x.fdiv (.ofNat (Nat.pow 2 n))))
 | _ => .mk <| fun _ _ _ => none
def shiftBy (op : BinOp) : IntKind -> Int -> Nat -> Option AV := (shiftByC op).f
def minN (a b : Nat) : Nat := bc (Nat.ble a b) a b
def natI (n : Int) : Option Nat := Int.rec (fun n => some n) (fun _ => none) n
def shiftI (op : BinOp) (k : IntKind) (x y : Int) : Option AV :=
 (natI y).obind fun y => shiftBy op k x (minN y (bitsn k))
def scalarEqC (bl : Bool) : Clo (AV -> AV -> Option Bool) := match bl with
 | true => .mk fun x y => (asBoolV x).obind fun a => (asBoolV y).omap fun b => bc a b (!b)
 | false => .mk fun x y => (asIntV x).obind fun p => (asIntV y).obind fun q => bc (kindEq p.1 q.1) (some (ieq p.2 q.2)) none
def scalarEq (bl : Bool) (x y : AV) : Option Bool := (scalarEqC bl).f x y
def cellsEq (bl : Bool) (l : List AV) : List AV -> Option Bool :=
 List.rec (fun r => List.rec (some true) (fun _ _ _ => none) r)
  (fun x _ ih r => List.rec none (fun y r _ => (scalarEq bl x y).obind fun a => (ih r).omap fun b => a && b) r) l
def strEq (l : List UInt8) : List UInt8 -> Bool :=
 List.rec (fun r => List.rec true (fun _ _ _ => false) r)
  (fun a _ ih r => List.rec false (fun b r _ => bc (Nat.beq a.toNat b.toNat) (ih r) false) r) l
def boolEq (a b : Bool) : Bool := bc a b (!b)
def eqNil (x y : AV) : Option Bool := bc (isNilV x) (some (isNilV y)) (bc (isNilV y) (some false) none)
def takeL (n : Nat) : List AV -> List AV :=
 Nat.rec (fun _ => []) (fun _ ih l => List.rec [] (fun x l _ => x :: ih l) l) n
def dropL (n : Nat) : List AV -> List AV :=
 Nat.rec (fun l => l) (fun _ ih l => List.rec [] (fun _ l _ => ih l) l) n
def lenL (l : List AV) : Nat := List.rec 0 (fun _ _ n => Nat.succ n) l
def appL (l r : List AV) : List AV := List.rec r (fun x _ ih => x :: ih) l
def headO (l : List AV) : Option AV := List.rec none (fun x _ _ => some x) l
def getL (l : List AV) (n : Nat) : Option AV := headO (dropL n l)
theorem takeL_eq : ∀ (n : Nat) (l : List AV), takeL n l = l.take n
 | 0, _ => rfl
 | _ + 1, [] => rfl
 | n + 1, x :: l => congrArg (x :: ·) (takeL_eq n l)
theorem dropL_eq : ∀ (n : Nat) (l : List AV), dropL n l = l.drop n
 | 0, _ => rfl
 | _ + 1, [] => rfl
 | n + 1, _ :: l => dropL_eq n l
theorem lenL_eq : ∀ (l : List AV), lenL l = l.length
 | [] => rfl
 | _ :: l => congrArg Nat.succ (lenL_eq l)
theorem appL_eq : ∀ (l r : List AV), appL l r = l ++ r
 | [], _ => rfl
 | x :: l, r => congrArg (x :: ·) (appL_eq l r)
theorem getL_eq (l : List AV) (n : Nat) : getL l n = l[n]? := by
 unfold getL; rw [dropL_eq]
 cases h : l.drop n with
 | nil => show none = _; rw [List.getElem?_eq_none (by simpa using h)]
 | cons x r =>
  have : l[n]? = (l.drop n)[0]? := by simp
  rw [this, h]; rfl
def eqAggC (fl : Option (Bool × Nat)) : Clo (AV -> AV -> Option Bool) := match fl with
 | none => .mk fun _ _ => none
 | some p => .mk fun x y => (asAggV x).obind fun l => (asAggV y).obind fun r => bc (Nat.beq (lenL l) p.2) (cellsEq p.1 l r) none
def eqAgg (fl : Option (Bool × Nat)) (x y : AV) : Option Bool := (eqAggC fl).f x y
def eqAVC (k : TK) : Clo (Option (Bool × Nat) -> AV -> AV -> Option Bool) := match k with
 | .ptr _ => .mk <| fun _ x y => bc (isPtrV x && isPtrV y) (eqNil x y) none
 | .slice _ => .mk <| fun _ x y => bc (isSliceV x && isSliceV y) (eqNil x y) none
 | .func => .mk <| fun _ x y => bc (isFuncV x && isFuncV y) (eqNil x y) none
 | .bool => .mk <| fun _ x y => (asBoolV x).obind fun a => (asBoolV y).omap fun b => boolEq a b
 | .struct _ => .mk <| fun fl x y => eqAgg fl x y
 | .array _ _ => .mk <| fun fl x y => eqAgg fl x y
 | _ => .mk <| fun _ _ _ => none
def eqAV (k : TK) : Option (Bool × Nat) -> AV -> AV -> Option Bool := (eqAVC k).f
def eqOpC (op : BinOp) : Clo (Option Bool -> Option AV) := match op with
 | .eql => .mk <| fun r => r.omap .bool
 | .neq => .mk <| fun r => r.omap fun b => .bool (!b)
 | _ => .mk <| fun _ => none
def eqOp (op : BinOp) : Option Bool -> Option AV := (eqOpC op).f
def isShift (op : BinOp) : Bool := match op with | .shl | .shr => true | _ => false
def binIntC (op : BinOp) : Clo (IntKind -> Int -> AV -> Option AV) := match isShift op with
 | true => .mk <| fun k a y => (asIntV y).obind fun q => shiftI op k a q.2
 | false => .mk <| fun k a y => (asIntV y).obind fun q => bc (kindEq k q.1) (intBin op k a q.2) none
def binInt (op : BinOp) : IntKind -> Int -> AV -> Option AV := (binIntC op).f
def strOpC (op : BinOp) : Clo (List UInt8 -> List UInt8 -> Option AV) := match op with
 | .add => .mk <| fun a b => match Nat.ble (Nat.add a.length b.length) 1048576 with | true => some (.str (a ++ b)) | false => none
 | .eql => .mk <| fun a b => some (.bool (strEq a b))
 | .neq => .mk <| fun a b => some (.bool (!strEq a b))
 | _ => .mk <| fun _ _ => none
def strOp (op : BinOp) : List UInt8 -> List UInt8 -> Option AV := (strOpC op).f
def binAV (k : TK) (fl : Option (Bool × Nat)) (op : BinOp) (x y : AV) : Option AV :=
 oe (asIntV x) (oe (asStrV x) (eqOp op (eqAV k fl x y)) fun a => (asStrV y).obind fun b => strOp op a b) fun p => binInt op p.1 p.2 y
def unAVC (op : UnOp) : Clo (AV -> Option AV) := match op with
 | .neg => .mk <| fun x => (asIntV x).omap fun p => .int p.1 (wrapI p.1 (Int.sub 0 p.2))
 | .not => .mk <| fun x => (asBoolV x).omap fun b => .bool !b
 | _ => .mk <| fun _ => none
def unAV (op : UnOp) : AV -> Option AV := (unAVC op).f
def natOf (x : AV) : Option Nat := (asIntV x).obind fun p => natI p.2
def takeE (n : Nat) : List AV -> Option (List AV) :=
 Nat.rec (fun _ => some []) (fun _ ih l => List.rec none (fun x l _ => (ih l).omap (x :: ·)) l) n
def overE (new : List AV) : List AV -> Option (List AV) :=
 List.rec (fun l => some l) (fun y _ ih l => List.rec none (fun _ l _ => (ih l).omap (y :: ·)) l) new
def setE (new : List AV) (off : Nat) : List AV -> Option (List AV) :=
 Nat.rec (fun l => overE new l) (fun _ ih l => List.rec none (fun x l _ => (ih l).omap (x :: ·)) l) off
theorem takeE_eq : ∀ (n : Nat) (l : List AV), takeE n l = if n ≤ l.length then some (l.take n) else none
 | 0, l => by have h : takeE 0 l = some [] := rfl; rw [h]; simp
 | n + 1, [] => by have h : takeE (n + 1) [] = none := rfl; rw [h]; simp
 | n + 1, x :: l => by
  have h : takeE (n + 1) (x :: l) = (takeE n l).map (x :: ·) := omap_eq _ _
  rw [h, takeE_eq n l]
  by_cases h : n ≤ l.length <;> simp [h]
theorem overE_eq : ∀ (new l : List AV), overE new l = if new.length ≤ l.length then some (new ++ l.drop new.length) else none
 | [], l => by have h : overE [] l = some l := rfl; rw [h]; simp
 | y :: new, [] => by have h : overE (y :: new) [] = none := rfl; rw [h]; simp
 | y :: new, x :: l => by
  have h : overE (y :: new) (x :: l) = (overE new l).map (y :: ·) := omap_eq _ _
  rw [h, overE_eq new l]
  by_cases h : new.length ≤ l.length <;> simp [h]
theorem setE_eq (new : List AV) : ∀ (off : Nat) (l : List AV), setE new off l = if off ≤ l.length /\ new.length ≤ l.length - off then some (l.take off ++ (new ++ l.drop (off + new.length))) else none
 | 0, l => by
  have h : setE new 0 l = overE new l := rfl
  rw [h, overE_eq]; simp
 | off + 1, [] => by have h : setE new (off + 1) [] = none := rfl; rw [h]; simp
 | off + 1, x :: l => by
  have h : setE new (off + 1) (x :: l) = (setE new off l).map (x :: ·) := omap_eq _ _
  rw [h, setE_eq new off l]
  by_cases h : off ≤ l.length /\ new.length ≤ l.length - off
  ·
   have : off + 1 ≤ (x :: l).length /\ new.length ≤ (x :: l).length - (off + 1) := by simp; omega
   rw [if_pos h, if_pos this]
   simp [Nat.add_right_comm]
  ·
   have : ¬ (off + 1 ≤ (x :: l).length /\ new.length ≤ (x :: l).length - (off + 1)) := by simp; omega
   rw [if_neg h, if_neg this]; rfl
def AV.cells (x : AV) : List AV := oe (asAggV x) [x] fun l => l
def fillParts (M : Nat) (place : Nat -> Option (Nat × Nat)) (T : Tm) (ps : List (Nat × Operand)) : List AV -> Option (List AV) :=
 List.rec (fun cs => some cs) (fun p _ ih cs => (place p.1).obind fun q => (evO M p.2 T).obind fun v =>
  match Nat.beq (lenL v.cells) q.2 with | true => (setE v.cells q.1 cs).obind ih | false => none) ps
def repL (n : Nat) (l : List AV) : List AV := Nat.rec [] (fun _ ih => appL l ih) n
def kindOf (E : Env) (t : TypeId) : TK := match E.ty t with | some i => i.kind | none => .other
def sizeT (E : Env) (t : TypeId) : Nat := match E.ty t with | some i => i.size | none => 0
def bytesT (E : Env) (t : TypeId) : Nat := match E.ty t with | some i => i.bytes | none => 0
def zeroT (E : Env) (t : TypeId) : Option AV := (E.ty t).obind (·.zero)
def boundN (x : Option AV) (d y : Nat) : Option Nat :=
 match x with
 | none => some d
 | some a => (natOf a).obind fun i => bc (Nat.ble i y) (some i) none
def boundsN (len cap : Nat) (lo hi mx : Option AV) : Option (Nat × Nat × Nat) :=
 match mx with
 | none => (boundN hi len cap).obind fun h => (boundN lo 0 h).omap fun l => (l, h, cap)
 | some _ => match hi with
  | none => none
  | some _ => (boundN mx cap cap).obind fun m => (boundN hi len m).obind fun h => (boundN lo 0 h).omap fun l => (l, h, m)
def evOpt (M : Nat) (o : Option Operand) (T : Tm) : Option (Option AV) := match o with
 | none => some none
 | some o => (evO M o T).omap some
def addrAt (m l off size : Nat) : Nat := bc (Nat.beq m l) off (Nat.add off (Nat.mul l size))
def slCap (cap : Cap) : Nat -> Nat -> Nat -> Nat -> Option AV -> Option AV -> Option AV -> Option AV := match cap with
 | .ex c => fun es b off len lo hi mx => (boundsN len c lo hi mx).omap fun r => .slice b (addrAt r.2.2 r.1 off es) (Nat.sub r.2.1 r.1) (.ex (Nat.sub r.2.2 r.1))
 | .rest eo sz lb => fun es b off len lo hi mx => bc (Nat.beq sz es)
  ((boundsN len lb lo hi mx).obind fun r => oe mx
   (bc (Nat.blt r.1 lb || Nat.beq r.1 0) (some (.slice b (Nat.add off (Nat.mul r.1 sz)) (Nat.sub r.2.1 r.1) (.rest (Nat.add eo r.1) sz (Nat.sub lb r.1))))
    (some (.slice b off 0 (.tail eo r.1 sz false))))
   (fun _ => some (.slice b (addrAt r.2.2 r.1 off sz) (Nat.sub r.2.1 r.1) (.ex (Nat.sub r.2.2 r.1)))))
  none
 | .tail eo k sz z => fun _ b off len lo hi mx => bc (Nat.beq len 0)
  ((boundsN 0 0 lo hi mx).omap fun _ => .slice b off 0 (.tail eo k sz (oe mx z fun _ => true))) none
def flatL (l : List AV) : Bool := List.rec true (fun x _ ih => bc (oneC x) ih false) l
def lstCut3 (sz : Nat) (l : List AV) (lo hi : Option AV) (m : AV) : Option AV := (boundsN (lenL l) (lenL l) lo hi (some m)).omap fun r => .lst sz (dropL r.1 (takeL r.2.1 l))
def lstCut (sz : Nat) (l : List AV) (lo hi mx : Option AV) : Option AV := match mx with
 | none => (boundsN (lenL l) (lenL l) lo hi none).omap fun r => .lst sz (dropL r.1 (takeL r.2.1 l))
 | some m => oe (boundsN 0 0 lo hi (some m)) (lstCut3 sz l lo hi m) fun _ => some (.lst 0 [])
def lstSlice (sz : Nat) (x : AV) (lo hi mx : Option AV) : Option AV := (asLst x).obind fun q => bc (Nat.beq q.1 sz) (lstCut q.1 q.2 lo hi mx) none
def eptSlice (x : AV) (n sz : Nat) (lo hi mx : Option AV) : Option AV := (asEpt x).obind fun q => bc (Nat.beq sz 1 && flatL q.1) ((takeE n (dropL q.2 q.1)).obind fun l => lstCut 1 l lo hi mx) none
def evSliceC (k : TK) : Clo (Env -> AV -> Option AV -> Option AV -> Option AV -> Option AV) := match k with
 | .string => .mk <| fun _ x lo hi mx => (asStrV x).obind fun s => match mx with
  | none => (boundsN s.length s.length lo hi none).omap fun r => .str ((s.take r.2.1).drop r.1)
  | some _ => none
 | .slice e => .mk <| fun E x lo hi mx => oe (asSlice x) (bc (isNils x) ((boundsN 0 0 lo hi mx).omap fun _ => x) (lstSlice (sizeT E e) x lo hi mx))
  (fun q => slCap q.2.2.2 (sizeT E e) q.1 q.2.1 q.2.2.1 lo hi mx)
 | .array n e => .mk <| fun E x lo hi mx => oe (asPtr x) (eptSlice x n (sizeT E e) lo hi mx) fun q => (boundsN n n lo hi mx).omap fun r => .slice q.1 (addrAt r.2.2 r.1 q.2 (sizeT E e)) (Nat.sub r.2.1 r.1) (.ex (Nat.sub r.2.2 r.1))
 | _ => .mk <| fun _ _ _ _ _ => none
def evSlice (k : TK) : Env -> AV -> Option AV -> Option AV -> Option AV -> Option AV := (evSliceC k).f
def ptrAdd (v : AV) (n : Nat) : Option AV := oe (asPtr v) ((asEpt v).omap fun q => .ept q.1 (Nat.add q.2 n)) fun q => some (.ptr q.1 (Nat.add q.2 n))
def lstAt (sz : Nat) (x : AV) (i : Nat) : Option AV := (asLst x).obind fun q => bc (Nat.beq q.1 sz) ((getL q.2 i).omap fun v => .ept v.cells 0) none
def idxAddrC (k : TK) : Clo (Env -> AV -> Nat -> Option AV) := match k with
 | .array n e => .mk <| fun E x i => bc (Nat.blt i n) (ptrAdd x (Nat.mul i (sizeT E e))) none
 | .slice e => .mk <| fun E x i => oe (asSlice x) (lstAt (sizeT E e) x i) fun q => bc (Nat.blt i q.2.2.1) (some (.ptr q.1 (Nat.add q.2.1 (Nat.mul i (sizeT E e))))) none
 | _ => .mk <| fun _ _ _ => none
def idxAddr (k : TK) : Env -> AV -> Nat -> Option AV := (idxAddrC k).f
def partAV (E : Env) (t : TypeId) (cs : List AV) (off : Nat) : Option AV :=
 match E.ty t with
 | some i => match i.agg with
  | true => (takeE i.size (dropL off cs)).omap .agg
  | false => getL cs off
 | none => none
def lenAVC (k : TK) : Clo (Env -> AV -> Option AV) := match k with
 | .string => .mk <| fun _ x => (asStrV x).omap fun s => .int .i64 (.ofNat s.length)
 | .array n _ => .mk <| fun _ _ => some (.int .i64 (.ofNat n))
 | .ptr a => .mk <| fun E _ => match kindOf E a with | .array n _ => some (.int .i64 (.ofNat n)) | _ => none
 | .slice _ => .mk <| fun _ x => oe (asSlice x) (bc (isNils x) (some (.int .i64 (.ofNat 0))) ((asLst x).omap fun q => .int .i64 (.ofNat (lenL q.2)))) fun q => some (.int .i64 (.ofNat q.2.2.1))
 | _ => .mk <| fun _ _ => none
def lenAV (k : TK) : Env -> AV -> Option AV := (lenAVC k).f
def capX (c : Cap) : Option AV := match c with | .ex n => some (.int .i64 (.ofNat n)) | _ => none
def capAVC (k : TK) : Clo (AV -> Option AV) := match k with
 | .slice _ => .mk fun x => oe (asSlice x) (bc (isNils x) (some (.int .i64 (.ofNat 0))) none) fun q => capX q.2.2.2
 | _ => .mk fun _ => none
def capAV (k : TK) : AV -> Option AV := (capAVC k).f
def minI (a b : Int) : Int := bc (ilt b a) b a
def maxI (a b : Int) : Int := bc (ilt a b) b a
def mmL (f : Int -> Int -> Int) (k : IntKind) (l : List AV) : Int -> Option AV :=
 List.rec (fun a => some (.int k a)) (fun x _ ih a => (asIntV x).obind fun p => bc (kindEq k p.1) (ih (f a p.2)) none) l
def mmAV (f : Int -> Int -> Int) (l : List AV) : Option AV := List.rec none (fun x l _ => (asIntV x).obind fun p => mmL f p.1 l p.2) l
def convIC (ks kd : TK) : Clo (AV -> Option AV) := match ks with
 | .int _ => match kd with
  | .int k => .mk fun x => (asIntV x).omap fun p => .int k (wrapI k p.2)
  | _ => .mk fun _ => none
 | .string => match kd with
  | .string => .mk fun x => (asStrV x).omap .str
  | _ => .mk fun _ => none
 | _ => .mk fun _ => none
def convI (ks kd : TK) : AV -> Option AV := (convIC ks kd).f
def fieldOf (k : TK) (f : Nat) : Option (Nat × TypeId) := match k with
 | .struct fs => fs[f]?
 | _ => none
def buildKC (k : TK) : Clo (Env -> Nat -> Option (Nat × Nat)) := match k with
 | .struct fs => .mk <| fun E i => (fs[i]?).omap fun p => (p.1, sizeT E p.2)
 | .array _ e => .mk <| fun E i => some (Nat.mul i (sizeT E e), sizeT E e)
 | _ => .mk <| fun _ _ => none
def buildK (k : TK) : Env -> Nat -> Option (Nat × Nat) := (buildKC k).f
def idxValC (k : TK) : Clo (Env -> AV -> Nat -> Option AV) := match k with
 | .string => .mk <| fun _ x i => (asStrV x).obind fun s => (s[i]?).omap fun c => .int .u8 (.ofNat c.toNat)
 | .array n e => .mk <| fun E x i => (asAggV x).obind fun cs => bc (Nat.blt i n) (partAV E e cs (Nat.mul i (sizeT E e))) none
 | _ => .mk <| fun _ _ _ => none
def idxVal (k : TK) : Env -> AV -> Nat -> Option AV := (idxValC k).f
def nilChk (x : AV) : Option AV := oe (asPtr x) (oe (asCall x) ((asEpt x).omap fun _ => x) fun _ => some x) fun _ => some x
def ifaceOk (k : TK) : Bool := match k with | .iface | .other => false | _ => true
def isAggK (k : TK) : Bool := match k with | .struct _ | .array _ _ => true | _ => false
def bltArgsC (b : Builtin) : Clo (Env -> List AV -> List TypeId -> Option AV) := match b with
 | .len => .mk <| fun E as ts => match as with
  | x :: r => match r with | [] => (match ts with | t :: _ => lenAV (kindOf E t) E x | [] => none) | _ :: _ => none
  | [] => none
 | .cap => .mk <| fun E as ts => match as with
  | x :: r => match r with | [] => (match ts with | t :: _ => capAV (kindOf E t) x | [] => none) | _ :: _ => none
  | [] => none
 | .min => .mk <| fun _ as _ => mmAV minI as
 | .max => .mk <| fun _ as _ => mmAV maxI as
 | _ => .mk <| fun _ _ _ => none
def bltArgs (b : Builtin) : Env -> List AV -> List TypeId -> Option AV := (bltArgsC b).f
def capT (c : Cap) : Bool := match c with | .tail .. => true | _ => false
def s2aL (n : Nat) (v : AV) : Option AV := (asLst v).obind fun q => bc (Nat.beq q.1 1 && (Nat.blt 0 n && flatL q.2)) ((takeE n q.2).omap fun l => .ept l 0) none
def s2aV (n : Nat) (v : AV) : Option AV := oe (asSlice v) (s2aL n v) fun q => bc (capT q.2.2.2) none (bc (Nat.blt q.2.2.1 n) none (some (.ptr q.1 q.2.1)))
def evPureC (M : Nat) (o : Op) : Clo (Env -> Tm -> Option AV) := match o with
 | .move x => .mk <| fun _ T => evO M x T
 | .assign x => .mk <| fun _ T => evO M x T
 | .pick c a b => .mk <| fun _ T => (evO M c T).obind fun v => (asBoolV v).obind fun t => bc t (evO M a T) (evO M b T)
 | .nilCheck x => .mk <| fun _ T => (evO M x T).obind nilChk
 | .binOp op t x y _ => .mk <| fun E T => (evO M x T).obind fun x => (evO M y T).obind fun y => binAV (kindOf E t) (E.flat t) op x y
 | .unOp op _ x => .mk <| fun _ T => (evO M x T).obind (unAV op)
 | .convert s d x => .mk <| fun E T => (evO M x T).obind (convI (kindOf E s) (kindOf E d))
 | .makeFunc fn a c => .mk <| fun _ T => match fn with
  | .func f => (evOs M a.toList T).obind fun a => (evOs M c.toList T).omap fun c => .func f a c
  | _ => none
 | .makeInterface t x => .mk <| fun E T => bc (ifaceOk (kindOf E t)) ((evO M x T).omap (.iface t ·)) none
 | .fieldAddr s x f => .mk <| fun E T => (fieldOf (kindOf E s) f).obind fun p => bc (Nat.blt 0 (sizeT E p.2)) ((evO M x T).obind fun v => ptrAdd v p.1) none
 | .field s x f => .mk <| fun E T => (fieldOf (kindOf E s) f).obind fun p => (evO M x T).obind fun v => (asAggV v).obind fun cs => partAV E p.2 cs p.1
 | .indexAddr t x i => .mk <| fun E T => (evO M x T).obind fun x => (evO M i T).obind fun i => (natOf i).obind fun i => idxAddr (kindOf E t) E x i
 | .index t x i => .mk <| fun E T => (evO M x T).obind fun x => (evO M i T).obind fun i => (natOf i).obind fun i => idxVal (kindOf E t) E x i
 | .slice t x lo hi mx => .mk <| fun E T => (evO M x T).obind fun x => (evOpt M lo T).obind fun lo => (evOpt M hi T).obind fun hi => (evOpt M mx T).obind fun mx => evSlice (kindOf E t) E x lo hi mx
 | .sliceToArrayPointer t x => .mk <| fun E T => match kindOf E t with
  | .array n _ => (evO M x T).obind (s2aV n)
  | _ => none
 | .extract x i => .mk <| fun _ T => (evO M x T).obind fun v => (asTupleV v).obind fun l => getL l i
 | .build t ps => .mk <| fun E T => bc (isAggK (kindOf E t)) ((zeroT E t).obind fun z => (fillParts M (buildK (kindOf E t) E) T ps.toList z.cells).omap .agg) none
 | .call c => .mk <| fun E T => match c.callee with
  | .builtin b => (evOs M c.args.toList T).obind fun as => bltArgs b E as c.argTypes.toList
  | _ => none
 | _ => .mk <| fun _ _ => none
def evPure (M : Nat) (o : Op) : Env -> Tm -> Option AV := (evPureC M o).f
def chkL (wr : Bool) (l : List AV) : Option (List AV) := bc wr (some l) (bc (flatL l) (some l) none)
def chk1 (wr : Bool) (v : AV) : Option AV := bc wr (some v) (bc (oneC v) (some v) none)
def cellsAt' (H : Hp) (b off n : Nat) : Option (List AV) :=
 (H.m.get b).obind fun x => (asCells x).obind fun c => (takeE n (dropL off c.1)).obind (chkL c.2.2.2)
def cellsAt (H : Hp) (b off n : Nat) : Option (List AV) := bc (Nat.beq n 0) (some []) (cellsAt' H b off n)
def cellAt (H : Hp) (b off : Nat) : Option AV :=
 (H.m.get b).obind fun x => (asCells x).obind fun c => (getL c.1 off).obind (chk1 c.2.2.2)
def loadC (E : Env) (t : TypeId) : Clo (Hp -> Nat -> Nat -> Option AV) := match E.ty t with
 | some i => match i.agg with
  | true => .mk fun H b off => (cellsAt H b off i.size).omap .agg
  | false => .mk fun H b off => cellAt H b off
 | none => .mk fun _ _ _ => none
def loadAV (E : Env) (H : Hp) (t : TypeId) (b off : Nat) : Option AV := (loadC E t).f H b off
def bytesOfL (l : List AV) : Option (List UInt8) :=
 List.rec (some []) (fun x _ ih => (asIntV x).obind fun p => bc (kindEq .u8 p.1) ((natI p.2).obind fun n => ih.omap (UInt8.ofNat n :: ·)) none) l
def isByteK (k : TK) : Bool := match k with | .int k => (match k with | .u8 => true | _ => false) | _ => false
def catL (l : List AV) : List AV := List.rec [] (fun x _ ih => appL x.cells ih) l
def strOf (H : Hp) (x : AV) : Option AV :=
 oe (asSlice x) (bc (isNils x) (some (.str [])) ((asLst x).obind fun q => bc (Nat.beq q.1 1) ((bytesOfL (catL q.2)).omap .str) none)) fun q => ((cellsAt H q.1 q.2.1 q.2.2.1).obind bytesOfL).omap .str
def ownSlice (e : TypeId) (H : Hp) (x : AV) : Option AV :=
 (asSlice x).obind fun q => (H.m.get q.1).obind fun y => (asCells y).obind fun c => bc (c.2.2.2 && Nat.beq c.2.1 e) (some x) none
def evReadC (M : Nat) (o : Op) : Clo (Env -> Tm -> Hp -> Option AV) := match o with
 | .load t a => .mk <| fun E T H => (evO M a T).obind fun v => oe (asPtr v) ((asEpt v).obind fun q => partAV E t q.1 q.2) fun q => loadAV E H t q.1 q.2
 | .convert s d x => .mk <| fun E T H => match kindOf E s with
  | .slice e => match isByteK (kindOf E e) with
   | true => match kindOf E d with
    | .string => (evO M x T).obind (strOf H)
    | .slice _ => match Nat.beq s d with | true => (evO M x T).obind (ownSlice e H) | false => none
    | _ => none
   | false => none
  | _ => none
 | _ => .mk <| fun _ _ _ => none
def evRead (M : Nat) (o : Op) : Env -> Tm -> Hp -> Option AV := (evReadC M o).f
def setBlk (H : Hp) (b : Nat) (x : Blk) : Hp := { m := H.m.set x b, next := H.next, log := b :: H.log }
def newBlk (H : Hp) (x : Blk) : Nat × Hp := (H.next, { m := H.m.set x H.next, next := Nat.succ H.next, log := H.next :: H.log })
def evAllocC (M : Nat) (o : Op) : Clo (Env -> Tm -> Option (Blk × (Nat -> AV))) := match o with
 | .alloc t => .mk <| fun E _ => (zeroT E t).omap fun z => (.cells z.cells t true true, fun b => .ptr b 0)
 | .box t x => .mk <| fun _ T => (evO M x T).omap fun v => (.cells v.cells t true true, fun b => .ptr b 0)
 | .buildSlice t n ps => .mk <| fun E T => match kindOf E t with
  | .slice e => match Nat.ble (Nat.mul n (sizeT E e)) 16777216 with
   | true => (zeroT E e).obind fun z => (fillParts M (fun i => some (Nat.mul i (sizeT E e), sizeT E e)) T ps.toList (repL n z.cells)).omap fun l =>
    (.cells l e true true, fun b => .slice b 0 n (.ex n))
   | false => none
  | _ => none
 | .makeSlice t l c => .mk <| fun E T => match kindOf E t with
  | .slice e => (zeroT E e).obind fun z => (evO M l T).obind fun l => (evO M c T).obind fun c => (natOf l).obind fun l => (natOf c).obind fun c =>
   match Nat.ble l c && (Nat.ble c 1048576 && Nat.ble (bytesT E e) 1048576) with
   | true => some (.cells (repL c z.cells) e true true, fun b => .slice b 0 l (.ex c))
   | false => none
  | _ => none
 | .convert s d x => .mk <| fun E T => match kindOf E s with
  | .string => match kindOf E d with
   | .slice e => match isByteK (kindOf E e) && Nat.beq (sizeT E e) 1 with
    | true => (evO M x T).obind fun v => match v with
     | .str l => some (.cells (l.map fun c => .int .u8 (.ofNat c.toNat)) e false true, fun b => .slice b 0 l.length (.rest 0 (sizeT E e) l.length))
     | _ => none
    | false => none
   | _ => none
  | _ => none
 | _ => .mk <| fun _ _ => none
def evAlloc (M : Nat) (o : Op) : Env -> Tm -> Option (Blk × (Nat -> AV)) := (evAllocC M o).f
def putIn (H : Hp) (b off : Nat) (new : List AV) (c : List AV × TypeId × Bool × Bool) : Option Hp :=
 bc c.2.2.2 (bc (flatL new) ((setE new off c.1).omap fun l' => setBlk H b (.cells l' c.2.1 c.2.2.1 true)) none) none
def putCells (H : Hp) (b off : Nat) (new : List AV) : Option Hp := (H.m.get b).obind fun x => (asCells x).obind fun c => putIn H b off new c
def srcCells (E : Env) (H : Hp) (e : TypeId) (x : AV) : Option (Nat × List AV) :=
 oe (asSlice x) (oe (asStrV x) (bc (isNils x) (some (0, [])) ((asLst x).obind fun q => bc (Nat.beq q.1 (sizeT E e)) (some (lenL q.2, catL q.2)) none)) fun s => bc (Nat.beq (sizeT E e) 1) (some (s.length, s.map fun c => .int .u8 (.ofNat c.toNat))) none)
  fun q => (cellsAt H q.1 q.2.1 (Nat.mul q.2.2.1 (sizeT E e))).omap fun l => (q.2.2.1, l)
def growOk (E : Env) (e : TypeId) (need : Nat) : Bool :=
 match E.ty e with
 | some i => match i.zero with
  | some _ => Nat.ble need 4611686018427387904 && (Nat.ble (Nat.mul (Nat.add (Nat.mul 2 need) 200) i.bytes) 281474976710656 && Nat.blt 0 i.size)
  | none => false
 | none => false
def growTo (E : Env) (H : Hp) (e : TypeId) (need : Nat) (l : List AV) : Option (AV × Hp) :=
 bc (growOk E e need) (some (.slice H.next 0 need (.rest 0 (sizeT E e) need), (newBlk H (.cells l e false true)).2)) none
def ownRow (x : Blk) : Option (List AV × TypeId) := (asCells x).obind fun c => bc c.2.2.1 none (bc c.2.2.2 (some (c.1, c.2.1)) none)
def appCap (cap : Cap) : Env -> Hp -> TypeId -> Nat -> Nat -> Nat -> Nat -> List AV -> Option (AV × Hp) := match cap with
 | .ex c => fun E H e b off len n new => bc (Nat.ble (Nat.add len n) c)
  ((putCells H b (Nat.add off (Nat.mul len (sizeT E e))) new).omap fun H' => (.slice b off (Nat.add len n) (.ex c), H'))
  ((cellsAt H b off (Nat.mul len (sizeT E e))).obind fun old => growTo E H e (Nat.add len n) (appL old new))
 | .rest eo sz lb => fun E H e b off len n new => ((H.m.get b).obind ownRow).obind fun r =>
  bc (Nat.beq e r.2 && (Nat.blt 0 (sizeT E e) && Nat.beq sz (sizeT E e)))
   (bc (Nat.ble (Nat.add off (Nat.mul (Nat.add len n) (sizeT E e))) (lenL r.1))
    ((putCells H b (Nat.add off (Nat.mul len (sizeT E e))) new).omap fun H' => (.slice b off (Nat.add len n) (.rest eo sz (bc (Nat.ble lb (Nat.add len n)) (Nat.add len n) lb)), H'))
    (bc (Nat.beq off 0 && flatL new)
     ((cellsAt H b off (Nat.mul len (sizeT E e))).obind fun old => (growTo E H e (Nat.add len n) (appL old new)).omap fun p => (p.1, setBlk p.2 b .dead))
     none))
   none
 | .tail _ _ _ z => fun E H e _ _ len n new => bc (z && Nat.beq len 0) (growTo E H e n new) none
def evAppend (E : Env) (H : Hp) (e : TypeId) (s : AV) (n : Nat) (new : List AV) : Option (AV × Hp) :=
 bc (Nat.beq n 0) (bc (isSliceV s || isNils s) (some (s, H)) ((asLst s).omap fun _ => (s, H)))
  (oe (asSlice s) (bc (isNils s) (growTo E H e n new) ((asLst s).obind fun q => bc (Nat.beq q.1 0) (growTo E H e n new) none)) fun q => appCap q.2.2.2 E H e q.1 q.2.1 q.2.2.1 n new)
inductive Ex where
 | normal
 | exit (id : Nat)
 | ret
 deriving Inhabited
structure St where
 T : Tm
 H : Hp
abbrev CallF := AV -> List AV -> Hp -> Option (AV × Hp)
def appArgs (E : Env) (H : Hp) (t : TypeId) (ts : List TypeId) (s x : AV) : Option (AV × Hp) :=
 match kindOf E t with
 | .slice e => match ts with
  | t2 :: _ => match kindOf E t2 with
   | .int _ => (natOf x).obind fun n => (zeroT E e).obind fun z => match Nat.ble n 1048576 && Nat.ble (bytesT E e) 1048576 with
    | true => evAppend E H e s n (repL n z.cells)
    | false => none
   | .other => none
   | _ => (srcCells E H e x).obind fun p => evAppend E H e s p.1 p.2
  | [] => none
 | _ => none
def copyTo (E : Env) (H : Hp) (e : TypeId) (d : AV) (p : Nat × List AV) : Option (AV × Hp) :=
 oe (asSlice d) (bc (isNils d) (some (.int .i64 (.ofNat 0), H)) none)
  fun q => bc (Nat.beq q.2.2.1 0) (some (.int .i64 (.ofNat 0), H))
   ((putCells H q.1 q.2.1 (takeL (Nat.mul (minN p.1 q.2.2.1) (sizeT E e)) p.2)).omap fun H => (.int .i64 (.ofNat (minN p.1 q.2.2.1)), H))
def copyArgs (E : Env) (H : Hp) (t : TypeId) (d x : AV) : Option (AV × Hp) :=
 match kindOf E t with
 | .slice e => (srcCells E H e x).obind fun p => copyTo E H e d p
 | _ => none
def clearArgs (E : Env) (H : Hp) (t : TypeId) (d : AV) : Option (AV × Hp) :=
 match kindOf E t with
 | .slice e => (zeroT E e).obind fun z => oe (asSlice d) (bc (isNils d) (some (.undef, H)) none)
  fun q => bc (Nat.beq q.2.2.1 0) (some (.undef, H)) ((putCells H q.1 q.2.1 (repL q.2.2.1 z.cells)).omap fun H => (.undef, H))
 | _ => none
def bltEffC (b : Builtin) : Clo (Env -> Hp -> List AV -> List TypeId -> Option (AV × Hp)) := match b with
 | .append => .mk <| fun E H as ts => match as with
  | s :: r => match r with
   | x :: r => match r with | [] => (match ts with | t :: ts => appArgs E H t ts s x | [] => none) | _ :: _ => none
   | [] => none
  | [] => none
 | .copy => .mk <| fun E H as ts => match as with
  | s :: r => match r with
   | x :: r => match r with | [] => (match ts with | t :: _ => copyArgs E H t s x | [] => none) | _ :: _ => none
   | [] => none
  | [] => none
 | .clear => .mk <| fun E H as ts => match as with
  | s :: r => match r with | [] => (match ts with | t :: _ => clearArgs E H t s | [] => none) | _ :: _ => none
  | [] => none
 | _ => .mk <| fun _ _ _ _ => none
def bltEff (b : Builtin) : Env -> Hp -> List AV -> List TypeId -> Option (AV × Hp) := (bltEffC b).f
def storeV (E : Env) (H : Hp) (t : TypeId) (p x : AV) : Option (AV × Hp) :=
 (E.ty t).obind fun i => (asPtr p).obind fun q => bc (Nat.beq (lenL x.cells) i.size) ((putCells H q.1 q.2 x.cells).omap fun H => (.undef, H)) none
def evEffC (M : Nat) (o : Op) : Clo (Env -> CallF -> Tm -> Hp -> Option (AV × Hp)) := match o with
 | .store t a x => .mk <| fun E _ T H => (evO M a T).obind fun p => (evO M x T).obind fun x => storeV E H t p x
 | .call c => .mk <| fun E call T H => match c.callee with
  | .value f => (evO M f T).obind fun f => (evOs M c.args.toList T).obind fun as => call f as H
  | .builtin b => (evOs M c.args.toList T).obind fun as => bltEff b E H as c.argTypes.toList
  | _ => none
 | _ => .mk <| fun _ _ _ _ => none
def evEff (M : Nat) (o : Op) : Env -> CallF -> Tm -> Hp -> Option (AV × Hp) := (evEffC M o).f
inductive Cls where | pure | read | alloc | eff
def cls (o : Op) : Env -> Cls := match o with
 | .load .. => fun _ => .read
 | .convert s d _ => fun E => match kindOf E s with
  | .slice _ => .read
  | .string => match kindOf E d with | .slice _ => .alloc | _ => .pure
  | _ => .pure
 | .alloc _ | .box .. | .buildSlice .. | .makeSlice .. => fun _ => .alloc
 | .store .. => fun _ => .eff
 | .call c => fun _ => match c.callee with
  | .value _ => .eff
  | .builtin b => match b with | .append | .copy | .clear => .eff | _ => .pure
  | _ => .pure
 | _ => fun _ => .pure
def putTC (N M : Nat) (d : Option Tmp) : Clo (Tm -> AV -> Option Tm) := match d with
 | none => .mk fun T _ => some T
 | some t => match Nat.blt t N with
  | true => match Nat.testBit M t with
   | true => .mk fun T v => some ⟨T.L, T.G.put v t⟩
   | false => .mk fun T v => some ⟨.cons t v T.L, T.G⟩
  | false => .mk fun _ _ => none
def putT (N M : Nat) (T : Tm) (d : Option Tmp) (v : AV) : Option Tm := (putTC N M d).f T v
def wantedGC (M : Nat) (ops : List Oper) (g : Nat × Bool) : Clo (Tm -> Option Bool) := match (ops[g.1]?).bind (·.dst) with
 | some d => .mk fun T => (Tm.get M T d).omap fun v => oe (asBoolV v) false fun b => boolEq b g.2
 | none => .mk fun _ => some false
def wantedG (M : Nat) (ops : List Oper) (T : Tm) (g : Nat × Bool) : Option Bool := (wantedGC M ops g).f T
def wantedA (M : Nat) (ops : List Oper) (T : Tm) (o : Oper) : Option Bool :=
 match o.guard with
 | none => some true
 | some g => wantedG M ops T g
def evOpC (E : Env) (N M : Nat) (o : Oper) : Clo (CallF -> St -> Option St) := match cls o.op E with
 | .pure => .mk <| fun _ s => (evPure M o.op E s.T).obind fun v => (putT N M s.T o.dst v).omap fun T => ⟨T, s.H⟩
 | .read => .mk <| fun _ s => (evRead M o.op E s.T s.H).obind fun v => (putT N M s.T o.dst v).omap fun T => ⟨T, s.H⟩
 | .alloc => .mk <| fun _ s => (evAlloc M o.op E s.T).obind fun p => (putT N M s.T o.dst (p.2 s.H.next)).omap fun T => ⟨T, (newBlk s.H p.1).2⟩
 | .eff => .mk <| fun call s => (evEff M o.op E call s.T s.H).obind fun p => (putT N M s.T o.dst p.1).omap fun T => ⟨T, p.2⟩
def evOp (E : Env) (call : CallF) (N M : Nat) (o : Oper) (s : St) : Option St := (evOpC E N M o).f call s
def opStepC (E : Env) (N M : Nat) (all : List Oper) (o : Oper) : Clo (CallF -> (St -> Option St) -> St -> Option St) := match o.guard with
 | none => .mk <| fun call ih s => (evOp E call N M o s).obind ih
 | some g => .mk <| fun call ih s => (wantedG M all s.T g).obind fun b => bc b ((evOp E call N M o s).obind ih) ((putT N M s.T o.dst .undef).obind fun T => ih ⟨T, s.H⟩)
def opStep (E : Env) (call : CallF) (N M : Nat) (all : List Oper) (o : Oper) (ih : St -> Option St) (s : St) : Option St := (opStepC E N M all o).f call ih s
def evOps (E : Env) (call : CallF) (N M : Nat) (all : List Oper) (l : List Oper) : St -> Option St :=
 List.rec (fun s => some s) (fun o _ ih s => opStep E call N M all o ih s) l
/-! A region whose order is open. -/
def capEq (c c' : Cap) : Bool := match c with
 | .ex a => match c' with | .ex a' => Nat.beq a a' | _ => false
 | .rest a b d => match c' with | .rest a' b' d' => Nat.beq a a' && (Nat.beq b b' && Nat.beq d d') | _ => false
 | .tail a b d z => match c' with | .tail a' b' d' z' => Nat.beq a a' && (Nat.beq b b' && (Nat.beq d d' && boolEq z z')) | _ => false
mutual
def avEq : AV -> AV -> Bool
 | .bool a, .bool b => boolEq a b
 | .int k a, .int k' b => kindEq k k' && ieq a b
 | .str a, .str b => strEq a b
 | .nilp, .nilp | .nils, .nils | .nilf, .nilf | .nili, .nili => true
 | .ptr b o, .ptr b' o' => Nat.beq b b' && Nat.beq o o'
 | .slice b o n c, .slice b' o' n' c' => Nat.beq b b' && (Nat.beq o o' && (Nat.beq n n' && capEq c c'))
 | .func f a c, .func f' a' c' => Nat.beq f f' && (avEqL a a' && avEqL c c')
 | .yield l, .yield l' => Nat.beq l l'
 | .iface t v, .iface t' v' => Nat.beq t t' && avEq v v'
 | .agg l, .agg l' => avEqL l l'
 | .tuple l, .tuple l' => avEqL l l'
 | .lst n l, .lst n' l' => Nat.beq n n' && avEqL l l'
 | .ept l o, .ept l' o' => avEqL l l' && Nat.beq o o'
 | .esl a, .esl b => decide (a = b)
 | _, _ => false
def avEqL : List AV -> List AV -> Bool
 | [], [] => true
 | x :: l, y :: r => avEq x y && avEqL l r
 | _, _ => false
end
def tight (e : Edge) : Bool := match e.ground with
 | .data | .chain | .guard | .phase => true
 | _ => false
def ancStep (acc : List Nat) : List Edge -> Nat
 | [] => 0
 | e :: l => match tight e with
  | true => Nat.lor (Nat.lor (2 ^ e.on) ((acc[e.on]?).getD 0)) (ancStep acc l)
  | false => ancStep acc l
def ancL : List Oper -> List Nat -> List Nat
 | [], acc => acc
 | o :: l, acc => ancL l (acc ++ [ancStep acc o.after.toList])
def plainEdge (i : Nat) (e : Edge) : Bool := match tight e with
 | true => Nat.blt e.on i
 | false => true
def isEff (E : Env) (o : Oper) : Bool := match cls o.op E with | .eff => true | _ => false
def tmpsOf : List Operand -> List Tmp
 | [] => []
 | .tmp t :: l => t :: tmpsOf l
 | _ :: l => tmpsOf l
def looksOf (ops : List Oper) (o : Oper) : List Tmp :=
 match o.guard with
 | some (g, _) => match (ops[g]?).obind (·.dst) with
  | some d => d :: tmpsOf o.op.operands.toList
  | none => tmpsOf o.op.operands.toList
 | none => tmpsOf o.op.operands.toList
def hasN (t : Nat) : List Nat -> Bool
 | [] => false
 | x :: l => match Nat.beq t x with | true => true | false => hasN t l
def clash (ops : List Oper) (x y : Oper) : Bool :=
 (match x.dst with
  | some d => hasN d (looksOf ops y) || (match y.dst with | some d' => Nat.beq d d' | none => false)
  | none => false) ||
 (match y.dst with
  | some d => hasN d (looksOf ops x)
  | none => false)
def bitAt (a : List Nat) (j i : Nat) : Bool := Nat.testBit ((a[j]?).getD 0) i
def allI (p : Nat -> Oper -> Bool) : Nat -> List Oper -> Bool
 | _, [] => true
 | i, o :: l => match p i o with | true => allI p (i + 1) l | false => false
def okS (E : Env) (ops : List Oper) : Bool :=
 let a := ancL ops []
 allI (fun j y =>
  (y.after.toList.all (plainEdge j) && (match y.guard with | some (g, _) => y.after.toList.any (fun e => tight e && Nat.beq e.on g) | none => true)) &&
  allI (fun i x => match Nat.blt i j with
   | true => match clash ops x y || (isEff E x && isEff E y) with
    | true => bitAt a j i
    | false => true
   | false => true) 0 ops) 0 ops
def evOpD (E : Env) (call : CallF) (N M : Nat) (id : Nat) (o : Oper) (s : St) : Option St :=
 match cls o.op E with
 | .alloc => match s.H.m.get id with
  | none => (evAlloc M o.op E s.T).obind fun p => (putT N M s.T o.dst (p.2 id)).omap fun T => ⟨T, setBlk s.H id p.1⟩
  | some _ => none
 | _ => evOp E call N M o s
def trStep (E : Env) (call : CallF) (N M : Nat) (all : List Oper) (o : Oper) (ih : Nat -> St -> Option (List St)) (id : Nat) (s : St) : Option (List St) :=
 match wantedA M all s.T o with
 | none => none
 | some true => (evOpD E call N M id o s).obind fun s' => (ih (Nat.succ id) s').omap (s :: ·)
 | some false => (putT N M s.T o.dst .undef).obind fun T => (ih (Nat.succ id) ⟨T, s.H⟩).omap (s :: ·)
def trace (E : Env) (call : CallF) (N M : Nat) (all : List Oper) (l : List Oper) : Nat -> St -> Option (List St) :=
 List.rec (fun _ s => some [s]) (fun o _ ih id s => trStep E call N M all o ih id s) l
def optEq (x y : Option AV) : Bool := match x with
 | some x => match y with | some y => avEq x y | none => false
 | none => false
def blkSame (x y : Option Blk) : Bool := match x, y with
 | some (.cells l e x w), some (.cells l' e' x' w') => Nat.beq e e' && (boolEq x x' && (boolEq w w' && avEqL l l'))
 | _, _ => false
def okPair (E : Env) (M : Nat) (ops : List Oper) (base : Nat) (tr : List St) (e j : Nat) (y : Oper) : Bool :=
 match cls y.op E with
 | .read => match tr[j]?, tr[e]?, tr[e + 1]? with
  | some s, some u, some v => match wantedA M ops s.T y with
   | some false => true
   | _ => match Nat.blt e j with
    | true => optEq (evRead M y.op E s.T u.H) (evRead M y.op E s.T s.H)
    | false => optEq (evRead M y.op E s.T v.H) (evRead M y.op E s.T s.H)
  | _, _, _ => false
 | .alloc => match tr[j]?, tr[e]?, tr[e + 1]? with
  | some s, some u, some v => match wantedA M ops s.T y with
   | some false => true
   | _ => match Nat.blt j e with
    | true => blkSame (u.H.m.get (base + j)) (v.H.m.get (base + j))
    | false => match u.H.m.get (base + j) with
     | none => true
     | some _ => false
  | _, _, _ => false
 | _ => true
def okD (E : Env) (M : Nat) (ops : List Oper) (base : Nat) (tr : List St) : Bool :=
 let a := ancL ops []
 allI (fun e x => match isEff E x with
  | true => allI (fun j y => match Nat.beq e j || (bitAt a j e || bitAt a e j) with
   | true => true
   | false => okPair E M ops base tr e j y) 0 ops
  | false => true) 0 ops
def lastS (l : List St) : St -> St := List.rec (fun d => d) (fun x _ ih _ => ih x) l
def isAlloc (E : Env) (o : Oper) : Bool := match cls o.op E with | .alloc => true | _ => false
def roomOf (E : Env) (l : List Oper) : Nat := match l.any (isAlloc E) with | true => l.length | false => 0
def evDraw (E : Env) (call : CallF) (N M : Nat) (ops : List Oper) (s : St) : Option St :=
 match okS E ops with
 | true => (trace E call N M ops ops s.H.next ⟨s.T, ⟨s.H.m, Nat.add s.H.next (roomOf E ops), s.H.log⟩⟩).obind fun tr => match okD E M ops s.H.next tr with
  | true => some (lastS tr s)
  | false => none
 | false => none
def isNormal (e : Ex) : Bool := Ex.rec true (fun _ => false) false e
def iterStep (ih : St -> Option (Ex × St)) (r : Option (Ex × St)) : Option (Ex × St) :=
 r.obind fun p => bc (isNormal p.1) (ih p.2) (some p)
def iter (f : St -> Option (Ex × St)) (k : Nat) : St -> Option (Ex × St) :=
 Nat.rec (fun _ => none) (fun _ ih s => iterStep ih (f s)) k
def setParams (N M : Nat) (ps : List Tmp) : Tm -> List AV -> Option Tm :=
 List.rec (fun T vs => List.rec (some T) (fun _ _ _ => none) vs)
  (fun p _ ih T vs => List.rec none (fun v vs _ => bc (Nat.blt p N) (ih (Tm.put M T v p) vs) none) vs) ps
def beginRoundA (H : Hp) (l : Nat) : Option Hp :=
 (H.m.get l).obind fun x => match x with
 | .loop f T N M ps a b st p => match st with | .ready => some (setBlk H l (.loop f T N M ps a b .busy p)) | _ => none
 | _ => none
def stOf (j : Option Code) : LoopState := match j with | none => .ready | some _ => .done
def endRoundA (H : Hp) (l : Nat) (j : Option Code) : Option Hp :=
 (H.m.get l).obind fun x => match x with
 | .loop f T N M ps a b _ _ => some (setBlk H l (.loop f T N M ps a b (stOf j) j))
 | _ => none
def exOf (c : Code) : Option Ex := match c with | .ret => some .ret | .exit i => some (.exit i) | _ => none
def endLoopA (T : Tm) (H : Hp) (l : Nat) : Option (Ex × St) :=
 (H.m.get l).obind fun x => match x with
 | .loop _ _ _ _ _ _ _ st pend => match st with
  | .busy => none
  | _ => match pend with
   | none => some (.normal, ⟨T, setBlk H l .dead⟩)
   | some c => (exOf c).omap fun e => (e, ⟨T, setBlk H l .dead⟩)
 | _ => none
def rfStep (E : Env) (call : CallF) (fid : FuncId) (N M : Nat) (f : Operand) (ps : Array Tmp) (a b : Code) (s : St) : Option (Ex × St) :=
 (evO M f s.T).obind fun fv => (call fv [.yield s.H.next] (newBlk s.H (.loop fid s.T N M ps.toList a b .ready none)).2).obind fun p => endLoopA s.T p.2 s.H.next
def seqStep (ih : St -> Option (Ex × St)) (r : Option (Ex × St)) : Option (Ex × St) := iterStep ih r
def condStep (v : Option AV) (ia ib : St -> Option (Ex × St)) (s : St) : Option (Ex × St) :=
 v.obind fun v => (asBoolV v).obind fun t => bc t (ia s) (ib s)
def leaveBlk (id : Nat) (e : Ex) (s : St) : Ex × St :=
 Ex.rec (.normal, s) (fun i => bc (Nat.beq i id) (.normal, s) (.exit i, s)) (.ret, s) e
def regStepC (draw : Bool) (E : Env) (N M : Nat) (ops : Array Oper) : Clo (CallF -> St -> Option (Ex × St)) := match draw with
 | false => .mk fun call s => (evOps E call N M ops.toList ops.toList ⟨⟨.nil, s.T.G⟩, s.H⟩).omap fun s => (.normal, s)
 | true => .mk fun call s => (evDraw E call N M ops.toList ⟨⟨.nil, s.T.G⟩, s.H⟩).omap fun s => (.normal, s)
def regStep (E : Env) (call : CallF) (N M : Nat) (ops : Array Oper) (draw : Bool) (s : St) : Option (Ex × St) := (regStepC draw E N M ops).f call s
abbrev CodeF := CallF -> Nat -> St -> Option (Ex × St)
def codeC (E : Env) (fid : FuncId) (N M : Nat) (c : Code) : Clo CodeF :=
 Code.rec (motive := fun _ => Clo CodeF)
  (.mk fun _ _ s => some (.normal, s))
  (fun _ ops draw => .mk fun call _ s => regStep E call N M ops draw s)
  (fun _ _ ia ib => .mk fun call k s => seqStep (ib.f call k) (ia.f call k s))
  (fun c _ _ ia ib => .mk fun call k s => condStep (evO M c s.T) (ia.f call k) (ib.f call k) s)
  (fun id _ ib => .mk fun call k s => (ib.f call k s).omap fun p => leaveBlk id p.1 p.2)
  (fun _ ib => .mk fun call k s => iter (ib.f call k) k s)
  (fun f ps a b _ _ => .mk fun call _ s => rfStep E call fid N M f ps a b s)
  (fun i => .mk fun _ _ s => some (.exit i, s))
  (fun _ ib => .mk fun call k s => ib.f call k s)
  (fun _ => .mk fun _ _ s => some (.normal, s))
  (fun _ => .mk fun _ _ _ => none)
  (.mk fun _ _ s => some (.ret, s))
  (fun _ => .mk fun _ _ _ => none) c
def evCode (E : Env) (call : CallF) (k : Nat) (fid : FuncId) (N M : Nat) (c : Code) (s : St) : Option (Ex × St) := (codeC E fid N M c).f call k s
def resL (E : Env) (M : Nat) (T : Tm) (H : Hp) (l : List ResultVar) : Option (List AV) :=
 List.rec (some []) (fun r _ ih => match r with
  | .tmp t => (Tm.get M T t).obind fun v => ih.omap (v :: ·)
  | .cell a t => (Tm.get M T a).obind fun p => (asPtr p).obind fun q => (loadAV E H t q.1 q.2).obind fun v => ih.omap (v :: ·)) l
def ofArgs (M : Nat) (l : List AV) : Nat -> Tm -> Tm :=
 List.rec (fun _ T => T) (fun x _ ih i T => ih (Nat.succ i) (Tm.put M T x i)) l
/-! Which temporaries are named in several regions: a matter of speed alone. -/
def bitsOf (l : List Tmp) : Nat := List.rec 0 (fun t _ n => Nat.lor (Nat.pow 2 t) n) l
def upOps (all : List Oper) (l : List Oper) : Nat -> Nat -> Nat :=
 List.rec (fun _ up => up) (fun o _ ih d up => ih (match o.dst with | some t => Nat.lor d (Nat.pow 2 t) | none => d)
  (Nat.lor up (Nat.sub (Nat.lor (bitsOf (looksOf all o)) d) d))) l
def masks (c : Code) : Nat :=
 Code.rec (motive := fun _ => Nat) 0 (fun _ ops _ => upOps ops.toList ops.toList 0 0) (fun _ _ a b => Nat.lor a b) (fun _ _ _ a b => Nat.lor a b) (fun _ _ a => a) (fun _ a => a)
  (fun f ps _ _ a b => Nat.lor (Nat.lor (bitsOf (tmpsOf [f])) (bitsOf ps.toList)) (Nat.lor a b)) (fun _ => 0) (fun _ a => a) (fun _ => 0) (fun _ => 0) 0 (fun _ => 0) c
def maskR (l : List ResultVar) : Nat := List.rec 0 (fun r _ n => Nat.lor (Nat.pow 2 (match r with | .tmp t => t | .cell a _ => a)) n) l
def maskOf (fn : Func) : Nat := Nat.lor (match fn.body with | some c => masks c | none => 0) (maskR fn.results.toList)
def single (l : List AV) : AV := match l with
 | [] => .tuple []
 | x :: r => match r with | [] => x | _ :: _ => .tuple l
def isExit (e : Ex) : Bool := match e with | .exit _ => true | _ => false
def retOf (E : Env) (fn : Func) (r : Option (Ex × St)) : Option (AV × Hp) :=
 r.obind fun p => bc (isExit p.1) none ((resL E (E.mask fn) p.2.T p.2.H fn.results.toList).omap fun l => (single l, p.2.H))
def bodyC (E : Env) (fid : FuncId) (fn : Func) : Clo (Nat -> CallF -> List AV -> Hp -> Option (AV × Hp)) :=
 match fn.body with
 | some c => .mk fun k call as H => bc (Nat.ble (lenL as) fn.ntmps) (retOf E fn (evCode E call k fid fn.ntmps (E.mask fn) c ⟨ofArgs (E.mask fn) as 0 ⟨.nil, .nil⟩, H⟩)) none
 | none => .mk fun _ _ _ _ => none
def callC (E : Env) (fid : FuncId) : Clo (Nat -> CallF -> List AV -> Hp -> Option (AV × Hp)) := match E.sum fid with
 | some g => .mk fun _ _ as H => g as H
 | none => match E.fn fid with
  | some fn => .mk fun k call as H => (bodyC E fid fn).f k call as H
  | none => .mk fun _ _ _ _ => none
def callFn (E : Env) (k : Nat) (call : CallF) (fid : FuncId) (as : List AV) (H : Hp) : Option (AV × Hp) := (callC E fid).f k call as H
def roundEnd (l : Nat) (r : Option (Ex × St)) : Option (AV × Hp) := match r with
 | none => none
 | some p => match p.1 with
  | .normal => (endRoundA p.2.H l none).omap fun H => (.bool true, H)
  | .exit i => (endRoundA p.2.H l (some (.exit i))).omap fun H => (.bool false, H)
  | .ret => (endRoundA p.2.H l (some .ret)).omap fun H => (.bool false, H)
def roundMid (E : Env) (k : Nat) (call : CallF) (fid : FuncId) (N M : Nat) (b : Code) (l : Nat) (r : Option (Ex × St)) : Option (AV × Hp) := match r with
 | none => none
 | some p => match p.1 with
  | .normal => (beginRoundA p.2.H l).obind fun H1 => roundEnd l (evCode E call k fid N M b ⟨p.2.T, H1⟩)
  | _ => none
def yieldTo (E : Env) (k : Nat) (call : CallF) (l : Nat) (args : List AV) (H : Hp) : Option (AV × Hp) :=
 (H.m.get l).obind fun x => match x with
 | .loop fid T N M ps a b _ _ => (setParams N M ps T args).obind fun T' => roundMid E k call fid N M b l (evCode E call k fid N M a ⟨T', H⟩)
 | _ => none
def appStep (f : AV) (E : Env) (k : Nat) (call : CallF) (args : List AV) (H : Hp) : Option (AV × Hp) :=
 oe (asCall f) (oe (asYield f) none fun l => yieldTo E k call l args H) fun p => callFn E k call p.1 (appL p.2.1 (appL args p.2.2)) H
def app (E : Env) (k : Nat) : CallF :=
 Nat.rec (fun _ _ _ => none) (fun k call f args H => appStep f E k call args H) k
def tkOf (d : TypeDesc) : TK := match d with
 | .bool => .bool
 | .int k => .int k
 | .string => .string
 | .pointer e => .ptr e
 | .slice e => .slice e
 | .array n e => .array n e
 | .struct fs => .struct (fs.toList.map fun f => (f.offset, f.type))
 | .func .. => .func
 | .interface _ => .iface
 | _ => .other
def aggOf (d : TypeDesc) : Bool := match d with | .struct _ | .array .. => true | _ => false
def fitZ (n : Nat) (v : AV) : Option AV := match Nat.beq v.cells.length n with | true => some v | false => none
def tiOf (types : List TypeInfo) (i : TypeInfo) : Option TI :=
 (match i.desc with
  | .named _ u => (types[u]?).map TypeInfo.desc
  | d => some d).map fun d => { size := i.size, bytes := i.bytes, agg := aggOf d, zero := (i.zero.bind (ofV 3)).bind (fitZ i.size), kind := tkOf d }
def flatB (P : Program) (bl : Bool) : Nat -> TypeId -> Bool
 | 0, _ => false
 | d + 1, t => match P.underlying t with
  | some .bool => bl && Nat.beq (P.cellsOf t) 1
  | some (.int _) => !bl && Nat.beq (P.cellsOf t) 1
  | some (.struct fs) => !P.stoodInHeld t && flatFs P (flatB P bl d) 0 (P.cellsOf t) fs.toList
  | some (.array n e) => Nat.beq (P.cellsOf t) (n * P.cellsOf e) && flatB P bl d e
  | _ => false
where
 flatFs (P : Program) (f : TypeId -> Bool) : Nat -> Nat -> List Field -> Bool
  | off, n, [] => Nat.beq off n
  | off, n, x :: l => Nat.beq x.offset off && (x.name != "_" && (f x.type && flatFs P f (off + P.cellsOf x.type) n l))
def envOf (P : Program) : Env where
 fn := (Tr.ofL P.funcs.toList 0 .nil).get
 ty := fun t => ((Tr.ofL (P.types.toList.map (tiOf P.types.toList)) 0 .nil).get t).bind id
 flat := fun t => match flatB P false 8 t with | true => some (false, P.cellsOf t) | false => match flatB P true 8 t with | true => some (true, P.cellsOf t) | false => none
 sum := fun _ => none
 mask := maskOf
def H0 : Hp := ⟨.nil, 0, []⟩
end
end Go.Ev
namespace Go.Ev
section
variable {α : Type}
theorem Tr.get_nil (n : Nat) : (Tr.nil : Tr α).get n = none := rfl
theorem Tr.get_sing (v : α) : ∀ (k n m : Nat), n ≤ k -> (Tr.sing v k n).get m = if m = n then some v else none := by
 intro k
 induction k with
 | zero =>
  intro n m h
  obtain rfl : n = 0 := by omega
  rw [Tr.sing_zero]
  cases m with
  | zero => rfl
  | succ m => rw [Tr.get_succ]; split <;> simp [Tr.get_nil]
 | succ k ih =>
  intro n m h
  cases n with
  | zero =>
   rw [Tr.sing_zero]
   cases m with
   | zero => rfl
   | succ m => rw [Tr.get_succ]; split <;> simp [Tr.get_nil]
  | succ n =>
   have hd := Nat.div_add_mod n 2
   have hl := Nat.mod_lt n (y := 2) (by omega)
   rw [Tr.sing_succ]
   cases m with
   | zero => split <;> simp [Tr.get_zero]
   | succ m =>
    have hd' := Nat.div_add_mod m 2
    have hl' := Nat.mod_lt m (y := 2) (by omega)
    split
    ·
     rename_i h0
     rw [Tr.get_succ]
     split
     ·
      rename_i h1
      rw [ih _ _ (by omega)]
      by_cases e : m = n
      ·
       subst e; simp
      ·
       have : ¬ m / 2 = n / 2 := by omega
       simp [this, e]
     ·
      rename_i x h1
      have : ¬ m = n := by omega
      simp [Tr.get_nil, this]
    ·
     rename_i x h0
     rw [Tr.get_succ]
     split
     ·
      rename_i h1
      have : ¬ m = n := by omega
      simp [Tr.get_nil, this]
     ·
      rename_i y h1
      rw [ih _ _ (by omega)]
      by_cases e : m = n
      ·
       subst e; simp
      ·
       have : ¬ m / 2 = n / 2 := by omega
       simp [this, e]
theorem Tr.get_set (v : α) : ∀ (t : Tr α) (n m : Nat), (t.set v n).get m = if m = n then some v else t.get m := by
 intro t
 induction t with
 | nil =>
  intro n m
  rw [Tr.get_nil, Tr.set_nil]
  exact Tr.get_sing v n n m (Nat.le_refl _)
 | node l x r ihl ihr =>
  intro n m
  cases n with
  | zero => rw [Tr.set_zero]; cases m <;> simp [Tr.get_zero, Tr.get_succ]
  | succ n =>
   have hd := Nat.div_add_mod n 2
   have hl := Nat.mod_lt n (y := 2) (by omega)
   rw [Tr.set_succ]
   cases m with
   | zero => split <;> simp [Tr.get_zero]
   | succ m =>
    have hd' := Nat.div_add_mod m 2
    have hl' := Nat.mod_lt m (y := 2) (by omega)
    split
    ·
     rename_i h0
     rw [Tr.get_succ, Tr.get_succ]
     split
     ·
      rename_i h1
      rw [ihl]
      by_cases e : m = n
      ·
       subst e; simp
      ·
       have : ¬ m / 2 = n / 2 := by omega
       simp [this, e]
     ·
      rename_i y h1
      have : ¬ m = n := by omega
      simp [this]
    ·
     rename_i y h0
     rw [Tr.get_succ, Tr.get_succ]
     split
     ·
      rename_i h1
      have : ¬ m = n := by omega
      simp [this]
     ·
      rename_i z h1
      rw [ihr]
      by_cases e : m = n
      ·
       subst e; simp
      ·
       have : ¬ m / 2 = n / 2 := by omega
       simp [this, e]
theorem Tr.get_ofL : ∀ (l : List α) (i : Nat) (t : Tr α) (m : Nat), (Tr.ofL l i t).get m = if i ≤ m /\ m < i + l.length then l[m - i]? else t.get m := by
 intro l
 induction l with
 | nil => intro i t m; rw [Tr.ofL_nil, List.length_nil, if_neg (by omega)]
 | cons x l ih =>
  intro i t m
  simp only [List.length_cons]
  rw [Tr.ofL_cons, ih, Tr.get_set]
  by_cases h1 : i + 1 ≤ m /\ m < i + 1 + l.length
  ·
   rw [if_pos h1, if_pos (by omega), show m - i = (m - (i + 1)) + 1 from by omega]; simp
  ·
   rw [if_neg h1]
   by_cases e : m = i
   ·
    subst e; simp
   ·
    rw [if_neg e, if_neg (by omega)]
theorem Tr.get_ofL_nil (l : List α) (m : Nat) : (Tr.ofL l 0 .nil).get m = l[m]? := by
 rw [Tr.get_ofL]
 by_cases h : m < l.length
 ·
  simp [h]
 ·
  rw [if_neg (by omega), Tr.get_nil, List.getElem?_eq_none (by omega)]
end
theorem TL.get_cons (k : Nat) (v : AV) (r : TL) (i : Nat) : (TL.cons k v r).get i = if i = k then some v else r.get i := by
 have h : (TL.cons k v r).get i = bc (Nat.beq k i) (some v) (r.get i) := rfl
 rw [h]
 by_cases e : i = k
 ·
  subst e; simp
 ·
  have : Nat.beq k i = false := by rw [<- Bool.not_eq_true, Nat.beq_eq]; exact fun h => e h.symm
  rw [this, if_neg e]; rfl
theorem TL.turn_cons (v : AV) (k : Nat) (x : AV) (r : TL) (i : Nat) : (TL.cons k x r).turn v i = bc (Nat.beq k i) (some (.cons k v r)) ((r.turn v i).map (.cons k x)) := by
 have h : (TL.cons k x r).turn v i = bc (Nat.beq k i) (some (.cons k v r)) ((r.turn v i).omap (.cons k x)) := rfl
 rw [h, omap_eq]
theorem TL.get_turn (v : AV) (i j : Nat) : ∀ (t t' : TL), t.turn v i = some t' -> t'.get j = if j = i then some v else t.get j := by
 intro t
 induction t with
 | nil => intro t' h; cases h
 | cons k x r ih =>
  intro t' h
  rw [TL.turn_cons] at h
  cases hb : Nat.beq k i with
  | true =>
   rw [hb] at h
   simp only [bc_true, Option.some.injEq] at h
   subst h
   obtain rfl : k = i := Nat.eq_of_beq_eq_true hb
   rw [TL.get_cons, TL.get_cons]; split <;> rfl
  | false =>
   rw [hb] at h
   simp only [bc_false, Option.map_eq_some_iff] at h
   obtain ⟨r', hr, rfl⟩ := h
   have hne : k ≠ i := fun e => by subst e; simp at hb
   rw [TL.get_cons, TL.get_cons, ih r' hr]
   by_cases e : j = k
   ·
    subst e; rw [if_pos rfl, if_neg hne, if_pos rfl]
   ·
    simp [e]
theorem TL.get_put (v : AV) (t : TL) (i j : Nat) : (t.put v i).get j = if j = i then some v else t.get j := by
 have h : t.put v i = (match t.turn v i with | none => .cons i v t | some r => r) := by unfold TL.put; cases t.turn v i <;> rfl
 rw [h]
 cases ht : t.turn v i with
 | none => exact TL.get_cons i v t j
 | some r => exact TL.get_turn v i j t r ht
theorem Tm.get_put (M : Nat) (T : Tm) (v : AV) (i j : Nat) : (T.put M v i).get M j = if j = i then some v else T.get M j := by
 unfold Tm.put Tm.get
 by_cases e : j = i
 ·
  subst e
  rw [if_pos rfl]
  cases Nat.testBit M j <;> simp [TL.get_put, TL.get_cons]
 ·
  rw [if_neg e]
  cases Nat.testBit M i <;> cases Nat.testBit M j <;> simp [TL.get_put, TL.get_cons, e]
structure TyOk (P : Program) (t : TypeId) (i : TI) : Prop where
 ex : ∃ (d : TypeDesc) (j : TypeInfo), P.underlying t = some d /\ P.info? t = some j /\ i.size = j.size /\ i.bytes = j.bytes /\ i.agg = aggOf d /\ i.kind = tkOf d /\
  i.zero = (j.zero.bind (ofV 3)).bind (fitZ j.size)
theorem envOf_ty {P : Program} {t : TypeId} {i : TI} (h : (envOf P).ty t = some i) : TyOk P t i := by
 simp only [envOf, Tr.get_ofL_nil] at h
 obtain ⟨o, ho, hi⟩ := Option.bind_eq_some_iff.1 h
 simp only [id] at hi; subst hi
 rw [List.getElem?_map] at ho
 obtain ⟨j, hj, hti⟩ := Option.map_eq_some_iff.1 ho
 have hj' : P.types[t]? = some j := by simpa using hj
 have hlt : t < P.types.size := (Array.getElem?_eq_some_iff.1 hj').1
 have hinfo : ∀ u (k : TypeInfo), P.types.toList[u]? = some k -> P.info? u = some k := by
  intro u k hk
  have hk' : P.types[u]? = some k := by simpa using hk
  have hu : u < P.types.size := (Array.getElem?_eq_some_iff.1 hk').1
  unfold Tables.info?
  rw [if_pos hu]; exact hk'
 have hI := hinfo t j hj
 unfold tiOf at hti
 obtain ⟨d, hd, rfl⟩ := Option.map_eq_some_iff.1 hti
 refine ⟨d, j, ?_, hI, rfl, rfl, rfl, rfl, rfl⟩
 unfold Program.underlying
 cases j with
 | mk desc str size bytes hp al fa zero cmp ms =>
  rw [hI]
  cases desc with
  | named n u =>
   simp only at hd
   obtain ⟨k, hk, rfl⟩ := Option.map_eq_some_iff.1 hd
   simp [hinfo u k hk]
  | _ => simp only at hd ⊢; exact hd
theorem envOf_fn {P : Program} {f : FuncId} {fn : Func} (h : (envOf P).fn f = some fn) : P.funcs[f]? = some fn := by
 simp only [envOf, Tr.get_ofL_nil] at h
 simpa using h
end Go.Ev
namespace Go.Ev
structure Sg where
 mu : Nat -> Option Nat
 ka : Nat -> Nat
 sz : Nat -> Nat
def Sg.Le (s s' : Sg) : Prop := ∀ a c, s.mu a = some c -> s'.mu a = some c /\ s'.ka a = s.ka a /\ s'.sz a = s.sz a
theorem Sg.Le.refl (s : Sg) : s.Le s := fun _ _ h => ⟨h, rfl, rfl⟩
theorem Sg.Le.trans {a b c : Sg} (h : a.Le b) (k : b.Le c) : a.Le c := fun x y hx =>
 have h1 := h x y hx
 have h2 := k x y h1.1
 ⟨h2.1, h2.2.1.trans h1.2.1, h2.2.2.trans h1.2.2⟩
def sliceC (s : Sg) (b o n : Nat) : Cap -> Option Value
 | .ex c => if n ≤ c then (s.mu b).map fun d => .slice (some ⟨d, o, none⟩) n c else none
 | .rest e sz lb => if n ≤ lb /\ lb + e ≤ s.ka b /\ o = e * sz /\ s.sz b = sz then (s.mu b).map fun d => .slice (some ⟨d, o, none⟩) n (s.ka b - e) else none
 | .tail e l sz z => if n = 0 /\ l + e ≤ s.ka b /\ o = e * sz /\ s.sz b = sz then
  (s.mu b).map fun d => .slice (some ⟨d, if s.ka b - e = l then o else o + l * sz, none⟩) 0 (if z then 0 else s.ka b - e - l) else none
mutual
def conc (s : Sg) : AV -> Option Value
 | .bool b => some (.bool b)
 | .int k n => some (.int k n)
 | .str l => some (.string ⟨l.toArray⟩)
 | .nilp => some (.pointer none)
 | .ptr b o => (s.mu b).map fun d => .pointer (some ⟨d, o, none⟩)
 | .nils => some (.slice none 0 0)
 | .slice b o n c => sliceC s b o n c
 | .func f a c => (concL s a).bind fun a => (concL s c).map fun c => .func (.func f) a.toArray c.toArray
 | .yield l => (s.mu l).map fun d => .func (.yield d) #[] #[]
 | .nilf => some .nilFunc
 | .iface t v => (conc s v).map (.iface t)
 | .nili => some .nilIface
 | .agg l => (concL s l).map fun l => .agg l.toArray
 | .tuple l => (concL s l).map fun l => .tuple l.toArray
 | .lst _ _ => none
 | .ept _ _ => none
 | .esl a => some (.slice (some a) 0 0)
def concL (s : Sg) : List AV -> Option (List Value)
 | [] => some []
 | x :: l => (conc s x).bind fun y => (concL s l).map fun r => y :: r
end
theorem sliceC_mono {s s' : Sg} (h : s.Le s') {b o n : Nat} {c : Cap} {v : Value} (hv : sliceC s b o n c = some v) : sliceC s' b o n c = some v := by
 cases c with
 | ex c =>
  simp only [sliceC] at hv ⊢
  split at hv
  ·
   rename_i hn
   obtain ⟨d, hd, rfl⟩ := Option.map_eq_some_iff.1 hv
   simp [hn, (h b d hd).1]
  ·
   cases hv
 | rest e sz lb =>
  simp only [sliceC] at hv ⊢
  split at hv
  ·
   rename_i hn
   obtain ⟨d, hd, rfl⟩ := Option.map_eq_some_iff.1 hv
   obtain ⟨h1, h2, h3⟩ := h b d hd
   rw [h1, h2, h3]; simp [hn]
  ·
   cases hv
 | tail e l sz z =>
  simp only [sliceC] at hv ⊢
  split at hv
  ·
   rename_i hn
   obtain ⟨d, hd, rfl⟩ := Option.map_eq_some_iff.1 hv
   obtain ⟨h1, h2, h3⟩ := h b d hd
   rw [h1, h2, h3]; simp [hn]
  ·
   cases hv
mutual
theorem conc_mono {s s' : Sg} (h : s.Le s') : ∀ (a : AV) (v : Value), conc s a = some v -> conc s' a = some v
 | .bool _, _, hv => hv
 | .int _ _, _, hv => hv
 | .str _, _, hv => hv
 | .nilp, _, hv => hv
 | .ptr b o, v, hv => by
  simp only [conc] at hv ⊢
  obtain ⟨d, hd, rfl⟩ := Option.map_eq_some_iff.1 hv
  simp [(h b d hd).1]
 | .nils, _, hv => hv
 | .slice b o n c, v, hv => by
  simp only [conc] at hv ⊢
  exact sliceC_mono h hv
 | .func f a c, v, hv => by
  simp only [conc] at hv ⊢
  obtain ⟨x, hx, hv⟩ := Option.bind_eq_some_iff.1 hv
  obtain ⟨y, hy, rfl⟩ := Option.map_eq_some_iff.1 hv
  simp [concL_mono h a x hx, concL_mono h c y hy]
 | .yield l, v, hv => by
  simp only [conc] at hv ⊢
  obtain ⟨d, hd, rfl⟩ := Option.map_eq_some_iff.1 hv
  simp [(h l d hd).1]
 | .nilf, _, hv => hv
 | .iface t x, v, hv => by
  simp only [conc] at hv ⊢
  obtain ⟨y, hy, rfl⟩ := Option.map_eq_some_iff.1 hv
  simp [conc_mono h x y hy]
 | .nili, _, hv => hv
 | .agg l, v, hv => by
  simp only [conc] at hv ⊢
  obtain ⟨y, hy, rfl⟩ := Option.map_eq_some_iff.1 hv
  simp [concL_mono h l y hy]
 | .tuple l, v, hv => by
  simp only [conc] at hv ⊢
  obtain ⟨y, hy, rfl⟩ := Option.map_eq_some_iff.1 hv
  simp [concL_mono h l y hy]
 | .lst _ _, v, hv => by simp only [conc] at hv; cases hv
 | .ept _ _, v, hv => by simp only [conc] at hv; cases hv
 | .esl _, v, hv => hv
theorem concL_mono {s s' : Sg} (h : s.Le s') : ∀ (l : List AV) (v : List Value), concL s l = some v -> concL s' l = some v
 | [], _, hv => hv
 | x :: l, v, hv => by
  simp only [concL] at hv ⊢
  obtain ⟨y, hy, hv⟩ := Option.bind_eq_some_iff.1 hv
  obtain ⟨r, hr, rfl⟩ := Option.map_eq_some_iff.1 hv
  simp [conc_mono h x y hy, concL_mono h l r hr]
end
section lists
variable {s : Sg}
theorem concL_cons {x : AV} {l : List AV} {r : List Value} : concL s (x :: l) = some r ↔ ∃ y r', conc s x = some y /\ concL s l = some r' /\ r = y :: r' := by
 simp only [concL, Option.bind_eq_some_iff, Option.map_eq_some_iff]
 constructor
 ·
  rintro ⟨y, hy, r', hr, rfl⟩; exact ⟨y, r', hy, hr, rfl⟩
 ·
  rintro ⟨y, r', hy, hr, rfl⟩; exact ⟨y, hy, r', hr, rfl⟩
theorem concL_length : ∀ {l : List AV} {r : List Value}, concL s l = some r -> r.length = l.length
 | [], r, h => by simp [concL] at h; subst h; rfl
 | x :: l, r, h => by
  obtain ⟨y, r', _, hr, rfl⟩ := concL_cons.1 h
  simp [concL_length hr]
theorem concL_get : ∀ {l : List AV} {r : List Value} {i : Nat} {a : AV}, concL s l = some r -> l[i]? = some a -> ∃ v, r[i]? = some v /\ conc s a = some v
 | [], _, _, _, _, h => by simp at h
 | x :: l, r, i, a, h, ha => by
  obtain ⟨y, r', hy, hr, rfl⟩ := concL_cons.1 h
  cases i with
  | zero => simp at ha; subst ha; exact ⟨y, by simp, hy⟩
  | succ i => simp at ha; obtain ⟨v, hv, hc⟩ := concL_get hr ha; exact ⟨v, by simpa using hv, hc⟩
theorem concL_append : ∀ {l m : List AV} {r : List Value}, concL s (l ++ m) = some r ↔ ∃ x y, concL s l = some x /\ concL s m = some y /\ r = x ++ y
 | [], m, r => by simp [concL]
 | a :: l, m, r => by
  rw [List.cons_append, concL_cons]
  constructor
  ·
   rintro ⟨y, r', hy, hr, rfl⟩
   obtain ⟨x, z, hx, hz, rfl⟩ := concL_append.1 hr
   exact ⟨y :: x, z, concL_cons.2 ⟨y, x, hy, hx, rfl⟩, hz, rfl⟩
  ·
   rintro ⟨x, z, hx, hz, rfl⟩
   obtain ⟨y, x', hy, hx', rfl⟩ := concL_cons.1 hx
   exact ⟨y, x' ++ z, hy, concL_append.2 ⟨x', z, hx', hz, rfl⟩, rfl⟩
theorem concL_take {l : List AV} {r : List Value} (h : concL s l = some r) (n : Nat) : concL s (l.take n) = some (r.take n) := by
 have h' := h
 rw [<- List.take_append_drop n l] at h'
 obtain ⟨x, y, hx, hy, rfl⟩ := concL_append.1 h'
 rw [hx]
 have hl := concL_length hx
 have hl2 := concL_length hy
 congr 1
 by_cases hn : n ≤ l.length
 ·
  rw [List.length_take, Nat.min_eq_left hn] at hl
  rw [List.take_append_of_le_length (by omega), List.take_of_length_le (by omega)]
 ·
  rw [List.length_drop] at hl2
  have : y = [] := List.eq_nil_of_length_eq_zero (by omega)
  subst this
  rw [List.length_take] at hl
  rw [List.append_nil, List.take_of_length_le (by omega)]
theorem concL_drop {l : List AV} {r : List Value} (h : concL s l = some r) (n : Nat) : concL s (l.drop n) = some (r.drop n) := by
 have h' := h
 rw [<- List.take_append_drop n l] at h'
 obtain ⟨x, y, hx, hy, rfl⟩ := concL_append.1 h'
 rw [hy]
 have hl := concL_length hx
 have hl2 := concL_length hy
 congr 1
 by_cases hn : n ≤ l.length
 ·
  rw [List.length_take, Nat.min_eq_left hn] at hl
  rw [<- hl, List.drop_left]
 ·
  rw [List.length_drop] at hl2
  have : y = [] := List.eq_nil_of_length_eq_zero (by omega)
  subst this
  rw [List.length_take] at hl
  rw [List.append_nil, List.drop_eq_nil_of_le (by omega)]
theorem cells_of_one {a : AV} {v : Value} (h : conc s a = some v) (h1 : asAggV a = none) (h2 : v.cells = #[v]) : concL s a.cells = some v.cells.toList := by
 have : a.cells = [a] := by unfold AV.cells; rw [h1]; rfl
 rw [this, h2]
 simp [concL, h]
theorem concL_cells {a : AV} {v : Value} (h : conc s a = some v) : concL s a.cells = some v.cells.toList := by
 cases a with
 | agg l =>
  have h0 : (AV.agg l).cells = l := rfl
  simp only [conc] at h
  obtain ⟨y, hy, rfl⟩ := Option.map_eq_some_iff.1 h
  rw [h0, hy]; simp [Value.cells]
 | tuple l =>
  refine cells_of_one h rfl ?_
  simp only [conc] at h
  obtain ⟨y, hy, rfl⟩ := Option.map_eq_some_iff.1 h
  rfl
 | slice b o n c =>
  refine cells_of_one h rfl ?_
  simp only [conc] at h
  cases c <;> simp only [sliceC] at h <;> split at h <;> first | (cases h; done) | (obtain ⟨y, hy, rfl⟩ := Option.map_eq_some_iff.1 h; rfl)
 | func f x c =>
  refine cells_of_one h rfl ?_
  simp only [conc] at h
  obtain ⟨x', hx, h⟩ := Option.bind_eq_some_iff.1 h
  obtain ⟨y, hy, rfl⟩ := Option.map_eq_some_iff.1 h
  rfl
 | _ =>
  refine cells_of_one h rfl ?_
  simp only [conc, Option.map_eq_some_iff, Option.some.injEq] at h
  first
   | (subst h; rfl)
   | (cases h; done)
   | (obtain ⟨y, hy, rfl⟩ := h; rfl)
end lists
theorem ofL_conc {s : Sg} {f : Value -> Option AV} (hf : ∀ v a, f v = some a -> conc s a = some v) : ∀ (l : List Value) (r : List AV), Ev.ofL f l = some r -> concL s r = some l
 | [], r, h => by simp [Ev.ofL] at h; subst h; rfl
 | x :: l, r, h => by
  simp only [Ev.ofL, Option.bind_eq_some_iff, Option.map_eq_some_iff] at h
  obtain ⟨y, hy, r', hr, rfl⟩ := h
  exact concL_cons.2 ⟨x, l, hf _ _ hy, ofL_conc hf l r' hr, rfl⟩
theorem ofV_conc {s : Sg} : ∀ (d : Nat) (v : Value) (a : AV), ofV d v = some a -> conc s a = some v := by
 intro d
 induction d with
 | zero =>
  intro v a h
  unfold ofV at h
  split at h <;> first | (cases h <;> first | rfl | (simp [conc]; done)) | (simp at *; done)
 | succ d ih =>
  intro v a h
  unfold ofV at h
  split at h
  case h_8 =>
   rename_i he
   obtain rfl := Nat.succ.inj he
   simp only [Option.bind_eq_some_iff, Option.map_eq_some_iff] at h
   obtain ⟨x', hx, y', hy, rfl⟩ := h
   simp [conc, ofL_conc ih _ _ hx, ofL_conc ih _ _ hy]
  case h_9 =>
   rename_i he
   obtain rfl := Nat.succ.inj he
   simp only [Option.map_eq_some_iff] at h
   obtain ⟨x', hx, rfl⟩ := h
   simp [conc, ofL_conc ih _ _ hx]
  case h_10 =>
   rename_i he
   obtain rfl := Nat.succ.inj he
   simp only [Option.map_eq_some_iff] at h
   obtain ⟨x', hx, rfl⟩ := h
   simp [conc, ofL_conc ih _ _ hx]
  all_goals (cases h <;> first | rfl | (simp [conc]; done))
def TRel (s : Sg) (M : Nat) (T : Tm) (ct : Array Value) : Prop := ∀ i v, T.get M i = some v -> conc s v = some (ct.getD i undef)
theorem TRel.mono {s s' : Sg} (h : s.Le s') {M : Nat} {T : Tm} {ct : Array Value} (k : TRel s M T ct) : TRel s' M T ct := fun i v hv => conc_mono h _ _ (k i v hv)
theorem TRel.put {s : Sg} {M : Nat} {T : Tm} {ct : Array Value} (k : TRel s M T ct) {d : Nat} {v : AV} {c : Value} (hd : d < ct.size) (hv : conc s v = some c) :
 TRel s M (T.put M v d) (ct.setIfInBounds d c) := by
 intro i u hu
 rw [Tm.get_put] at hu
 split at hu
 ·
  rename_i h; subst h; cases hu; simp [hv, hd]
 ·
  rename_i h
  rw [k i u hu]
  simp [Array.getElem?_setIfInBounds_ne (Ne.symm h)]
theorem TRel.empty (s : Sg) (M : Nat) (ct : Array Value) : TRel s M ⟨.nil, .nil⟩ ct := by
 intro i v h
 unfold Tm.get at h
 cases hb : Nat.testBit M i <;> rw [hb] at h <;> cases h
theorem TRel.global {s : Sg} {M : Nat} {T : Tm} {ct : Array Value} (k : TRel s M T ct) : TRel s M ⟨.nil, T.G⟩ ct := by
 intro i v h
 refine k i v ?_
 unfold Tm.get at h ⊢
 cases hb : Nat.testBit M i
 ·
  rw [hb] at h; cases h
 ·
  rw [hb] at h; exact h
def opv (ct : Array Value) : Operand -> Value
 | .tmp t => ct.getD t undef
 | .const v => v
 | .global g => .pointer (some ⟨g, 0, none⟩)
 | .func f => .func (.func f) #[] #[]
theorem evO_tmp (M t : Nat) (T : Tm) : evO M (.tmp t) T = T.get M t := by
 unfold evO evOC Tm.get
 simp only
 cases Nat.testBit M t <;> rfl
theorem evO_conc {s : Sg} {M : Nat} {T : Tm} {ct : Array Value} (k : TRel s M T ct) {o : Operand} {a : AV} (h : evO M o T = some a) : conc s a = some (opv ct o) := by
 cases o with
 | tmp t => rw [evO_tmp] at h; exact k t a h
 | const v => exact ofV_conc 3 v a h
 | global g => cases h
 | func f => cases h; simp [conc, concL, opv]
theorem evOs_cons (M : Nat) (x : Operand) (l : List Operand) (T : Tm) : evOs M (x :: l) T = (evO M x T).bind fun y => (evOs M l T).map (y :: ·) := by
 have h : evOs M (x :: l) T = (evO M x T).obind fun y => (evOs M l T).omap (y :: ·) := rfl
 rw [h]; simp
theorem evOs_conc {s : Sg} {M : Nat} {T : Tm} {ct : Array Value} (k : TRel s M T ct) : ∀ {l : List Operand} {r : List AV}, evOs M l T = some r -> concL s r = some (l.map (opv ct))
 | [], r, h => by cases h; rfl
 | o :: l, r, h => by
  rw [evOs_cons] at h
  simp only [Option.bind_eq_some_iff, Option.map_eq_some_iff] at h
  obtain ⟨y, hy, r', hr, rfl⟩ := h
  exact concL_cons.2 ⟨_, _, evO_conc k hy, evOs_conc k hr, rfl⟩
def isOwn : Blk -> Prop
 | .cells _ _ _ w => w = true
 | .loop .. => True
 | .dead => False
def isLive : Blk -> Prop
 | .dead => False
 | _ => True
theorem isLive_of_own {b : Blk} (h : isOwn b) : isLive b := by cases b <;> first | trivial | exact h
def FzOk (fz : Nat × Nat) (n : Nat) : Prop := fz.1 = fz.2 ∨ n ≤ fz.1
def CL (wr : Bool) (s : Sg) (l : List AV) (vs : List Value) : Prop := match wr with
 | true => concL s l = some vs
 | false => vs.length = l.length /\ ∀ (i : Nat) (v : AV), l[i]? = some v -> oneC v = true -> ∃ u, vs[i]? = some u /\ conc s v = some u
def FzW (wr : Bool) (fz : Nat × Nat) (n : Nat) : Prop := match wr with | true => FzOk fz n | false => True
theorem CL.mono {wr : Bool} {s s' : Sg} (h : s.Le s') {l : List AV} {vs : List Value} (k : CL wr s l vs) : CL wr s' l vs := by
 cases wr with
 | true => exact concL_mono h _ _ (show concL s l = some vs from k)
 | false => exact ⟨k.1, fun i v h1 h2 => (k.2 i v h1 h2).imp fun u hu => ⟨hu.1, conc_mono h _ _ hu.2⟩⟩
def Jk (_ : Sg) (vs : List Value) : Prop := ∃ junk, ∀ s, concL s junk = some vs
theorem Jk.mono {s s' : Sg} (_ : s.Le s') {vs : List Value} (k : Jk s vs) : Jk s' vs := k
theorem Jk.drop {s : Sg} {vs : List Value} (k : Jk s vs) (n : Nat) : Jk s (vs.drop n) := k.elim fun j h => ⟨j.drop n, fun s => concL_drop (h s) n⟩
theorem Jk.nil (s : Sg) : Jk s [] := ⟨[], fun _ => rfl⟩
theorem Jk.of {s : Sg} : ∀ {vs : List Value}, (∀ v ∈ vs, ∃ a, ∀ s, conc s a = some v) -> Jk s vs
 | [], _ => Jk.nil s
 | v :: vs, h => by
  obtain ⟨a, ha⟩ := h v (by simp)
  obtain ⟨j, hj⟩ := Jk.of (s := s) (vs := vs) fun u hu => h u (by simp [hu])
  exact ⟨a :: j, fun s => concL_cons.2 ⟨_, _, ha s, hj s, rfl⟩⟩
def BlkOk (E : Env) (s : Sg) (a c : Nat) (w : World) : Blk -> Prop
 | .cells l e x wr => ∃ arr fz, w.heap[c]? = some (.cells arr e fz) /\ CL wr s l (arr.toList.take l.length) /\ l.length ≤ arr.size /\ FzW wr fz arr.size /\
  (x = true -> arr.size = l.length) /\ (x = false -> arr.size = s.ka a * s.sz a /\ s.sz a = sizeT E e) /\ (wr = true -> Jk s (arr.toList.drop l.length) /\ (fz.1 = fz.2 ∨ isByteK (kindOf E e) = true))
 | .loop f T N M ps asg body st pd => ∃ ct D, w.heap[c]? = some (.loop { state := st, pending := pd, fn := f, tmps := ct, params := ps.toArray, assign := asg, body := body, defers := D }) /\ TRel s M T ct /\ ct.size = N
 | .dead => True
structure HRel (E : Env) (s : Sg) (H : Hp) (w : World) : Prop where
 blk : ∀ a x c, H.m.get a = some x -> s.mu a = some c -> BlkOk E s a c w x
 inj : ∀ a x a' x' c, H.m.get a = some x -> isOwn x -> H.m.get a' = some x' -> isLive x' -> s.mu a = some c -> s.mu a' = some c -> a = a'
 lt : ∀ a c, s.mu a = some c -> c < w.heap.size
 fr : ∀ a, H.next ≤ a -> s.mu a = none /\ H.m.get a = none
structure Ext (s : Sg) (H : Hp) (w : World) (s' : Sg) (H' : Hp) (w' : World) : Prop where
 nx : H.next ≤ H'.next
 le : ∀ a, a < H.next -> s'.mu a = s.mu a /\ s'.ka a = s.ka a /\ s'.sz a = s.sz a
 size : w.heap.size ≤ w'.heap.size
 os : w'.os = w.os
 tape : w'.tape = w.tape
 output : w'.output = w.output
 keep : ∀ c, c < w.heap.size -> (∀ a x, H.m.get a = some x -> isOwn x -> s.mu a ≠ some c) -> w'.heap[c]? = w.heap[c]?
 img : ∀ a x c, H'.m.get a = some x -> isOwn x -> s'.mu a = some c -> c < w.heap.size -> ∃ a0 x0, H.m.get a0 = some x0 /\ isOwn x0 /\ s.mu a0 = some c
 imgL : ∀ a x c, H'.m.get a = some x -> isLive x -> s'.mu a = some c -> c < w.heap.size -> ∃ a0 x0, H.m.get a0 = some x0 /\ isLive x0 /\ s.mu a0 = some c
 loops : ∀ (c : Nat) (r : Loop), w.heap[c]? = some (Obj.loop r) -> ∃ r' : Loop, w'.heap[c]? = some (Obj.loop r')
theorem Ext.refl (s : Sg) (H : Hp) (w : World) : Ext s H w s H w :=
 ⟨Nat.le_refl _, fun _ _ => ⟨rfl, rfl, rfl⟩, Nat.le_refl _, rfl, rfl, rfl, fun _ _ _ => rfl, fun a x _ h o m _ => ⟨a, x, h, o, m⟩, fun a x _ h o m _ => ⟨a, x, h, o, m⟩, fun _ r h => ⟨r, h⟩⟩
theorem Ext.trans {s : Sg} {H : Hp} {w : World} {s' : Sg} {H' : Hp} {w' : World} {s'' : Sg} {H'' : Hp} {w'' : World}
 (h : Ext s H w s' H' w') (k : Ext s' H' w' s'' H'' w'') : Ext s H w s'' H'' w'' where
 nx := Nat.le_trans h.nx k.nx
 le a ha := by
  have h1 := h.le a ha
  have h2 := k.le a (Nat.lt_of_lt_of_le ha h.nx)
  exact ⟨h2.1.trans h1.1, h2.2.1.trans h1.2.1, h2.2.2.trans h1.2.2⟩
 size := Nat.le_trans h.size k.size
 os := k.os.trans h.os
 tape := k.tape.trans h.tape
 output := k.output.trans h.output
 keep c hc hn := by
  refine (k.keep c (Nat.lt_of_lt_of_le hc h.size) ?_).trans (h.keep c hc hn)
  intro a x ha ho hm
  obtain ⟨a0, x0, h0, o0, m0⟩ := h.img a x c ha ho hm hc
  exact hn a0 x0 h0 o0 m0
 img a x c ha ho hm hc := by
  obtain ⟨a0, x0, h0, o0, m0⟩ := k.img a x c ha ho hm (Nat.lt_of_lt_of_le hc h.size)
  exact h.img a0 x0 c h0 o0 m0 hc
 imgL a x c ha ho hm hc := by
  obtain ⟨a0, x0, h0, o0, m0⟩ := k.imgL a x c ha ho hm (Nat.lt_of_lt_of_le hc h.size)
  exact h.imgL a0 x0 c h0 o0 m0 hc
 loops c r hc := by
  obtain ⟨r1, h1⟩ := h.loops c r hc
  exact k.loops c r1 h1
theorem Ext.sg {E : Env} {s : Sg} {H : Hp} {w : World} {s' : Sg} {H' : Hp} {w' : World} (h : Ext s H w s' H' w') (r : HRel E s H w) : s.Le s' := by
 intro a c hc
 have ha : a < H.next := by
  rcases Nat.lt_or_ge a H.next with h1 | h1
  ·
   exact h1
  ·
   rw [(r.fr a h1).1] at hc; cases hc
 obtain ⟨h1, h2, h3⟩ := h.le a ha
 exact ⟨h1.trans hc, h2, h3⟩
end Go.Ev
namespace Go.Ev
theorem emod_negSucc (a m : Nat) (hm : 0 < m) : (Int.negSucc a) % (m : Int) = ((m - 1 - a % m : Nat) : Int) := by
 have h1 := Nat.mod_lt a hm
 have h2 := Nat.div_add_mod a m
 have e : (Int.negSucc a) = ((m - 1 - a % m : Nat) : Int) + (m : Int) * (-((a / m : Nat) : Int) - 1) := by
  rw [Int.negSucc_eq]
  have : ((m - 1 - a % m : Nat) : Int) = (m : Int) - 1 - ((a % m : Nat) : Int) := by omega
  rw [this]
  have h3 : ((m : Int) * ((a / m : Nat) : Int)) + ((a % m : Nat) : Int) = (a : Int) := by exact_mod_cast h2
  rw [Int.mul_sub, Int.mul_neg]
  omega
 rw [e, Int.add_mul_emod_self_left]
 exact Int.emod_eq_of_lt (by omega) (by omega)
theorem wrapU_eq (m : Nat) (n : Int) (hm : 0 < m) : wrapU m n = n % (m : Int) := by
 cases n with
 | ofNat a => show ((a % m : Nat) : Int) = _; simp
 | negSucc a => rw [emod_negSucc a m hm]; rfl
theorem wrapS_eq (m h : Nat) (n : Int) (hm : 0 < m) (hh : m = 2 * h) : wrapS m h n = if n % (m : Int) ≥ (h : Int) then n % (m : Int) - m else n % (m : Int) := by
 cases n with
 | ofNat a =>
  have h1 := Nat.mod_lt a hm
  have e : ((Int.ofNat a) % (m : Int)) = ((a % m : Nat) : Int) := by simp
  have hd : wrapS m h (Int.ofNat a) = bc (Nat.blt (a % m) h) (.ofNat (a % m)) (.negSucc (m - 1 - a % m)) := rfl
  rw [e, hd]
  cases hb : Nat.blt (a % m) h with
  | true =>
   rw [Nat.blt_eq] at hb
   rw [bc_true, if_neg (by omega)]; rfl
  | false =>
   have hb' : ¬ (a % m < h) := fun k => by rw [<- Nat.blt_eq, hb] at k; cases k
   rw [bc_false, if_pos (by omega), Int.negSucc_eq]; omega
 | negSucc a =>
  have h1 := Nat.mod_lt a hm
  have hd : wrapS m h (Int.negSucc a) = bc (Nat.blt (a % m) h) (.negSucc (a % m)) (.ofNat (m - 1 - a % m)) := rfl
  rw [emod_negSucc a m hm, hd]
  cases hb : Nat.blt (a % m) h with
  | true =>
   rw [Nat.blt_eq] at hb
   rw [bc_true, if_pos (by omega), Int.negSucc_eq]; omega
  | false =>
   have hb' : ¬ (a % m < h) := fun k => by rw [<- Nat.blt_eq, hb] at k; cases k
   rw [bc_false, if_neg (by omega)]; rfl
theorem wrapI_eq (k : IntKind) (n : Int) : wrapI k n = k.wrap n := by
 cases k <;> simp only [wrapI, wrapIC] <;>
  first
  | (rw [wrapU_eq _ _ (by omega)]; simp [IntKind.wrap, IntKind.signed, IntKind.bits]; done)
  | (rw [wrapS_eq _ _ _ (by omega) (by omega)]; simp [IntKind.wrap, IntKind.signed, IntKind.bits])
theorem ieq_eq (a b : Int) : ieq a b = (a == b) := by
 cases a <;> cases b <;> rw [Bool.eq_iff_iff] <;> simp only [ieq] <;> simp [Nat.beq_eq] <;> omega
theorem blt_iff (a b : Nat) : Nat.blt a b = true ↔ a < b := by rw [Nat.blt_eq]
theorem ilt_eq (a b : Int) : ilt a b = decide (a < b) := by
 cases a <;> cases b <;> rw [Bool.eq_iff_iff] <;> simp only [ilt] <;> simp <;> omega
theorem not_decide_lt (a b : Int) : (!decide (a < b)) = decide (b ≤ a) := by
 rw [Bool.eq_iff_iff]; simp
theorem kindEq_eq {k k' : IntKind} : kindEq k k' = true ↔ k = k' := by cases k <;> cases k' <;> decide
theorem boolEq_eq (a b : Bool) : boolEq a b = (a == b) := by cases a <;> cases b <;> rfl
theorem modn_eq (k : IntKind) (n : Int) : modn k n = (BitVec.ofInt k.bits n).toNat := by
 rw [BitVec.toNat_ofInt]
 cases k <;> simp only [modn, modk, IntKind.bits] <;> rw [wrapU_eq _ _ (by omega)] <;> rfl
theorem maxn_eq (k : IntKind) : maxn k = 2 ^ k.bits - 1 := by cases k <;> rfl
theorem bitsn_eq (k : IntKind) : bitsn k = k.bits := by cases k <;> rfl
variable {P : Program}
theorem run_intBits (op : BinOp) (k : IntKind) (a b : Int) (w : World) (v : AV) (h : intBin op k a b = some v) (ho : op = .and ∨ op = .or ∨ op = .xor ∨ op = .andNot) (s : Sg) :
 ∃ c, conc s v = some c /\ (Op.intBits op k a b).run P w = .ok c w := by
 rcases ho with rfl | rfl | rfl | rfl <;> simp only [intBin, intBinC, Option.some.injEq] at h <;> subst h <;> refine ⟨_, rfl, ?_⟩ <;> simp only [Op.intBits, Sem.run_pure]
 ·
  rw [wrapI_eq, BitVec.toNat_and, modn_eq, modn_eq]; rfl
 ·
  rw [wrapI_eq, BitVec.toNat_or, modn_eq, modn_eq]; rfl
 ·
  rw [wrapI_eq, BitVec.toNat_xor, modn_eq, modn_eq]; rfl
 ·
  rw [wrapI_eq, BitVec.toNat_and, modn_eq, modn_eq, BitVec.toNat_not, maxn_eq]; rfl
theorem run_intBin {op : BinOp} {k : IntKind} {a b : Int} {v : AV} (h : intBin op k a b = some v) (t : TypeId) (w : World) (s : Sg) :
 ∃ c, conc s v = some c /\ (binOp op t (.int k a) (.int k b)).run P w = .ok c w := by
 cases op
 case and => simpa [binOp] using run_intBits (P := P) .and k a b w v h (by simp) s
 case or => simpa [binOp] using run_intBits (P := P) .or k a b w v h (by simp) s
 case xor => simpa [binOp] using run_intBits (P := P) .xor k a b w v h (by simp) s
 case andNot => simpa [binOp] using run_intBits (P := P) .andNot k a b w v h (by simp) s
 case quo =>
  simp only [intBin, intBinC, ieq_eq] at h
  split at h
  ·
   cases h
  ·
   rename_i hb
   have hb : b ≠ 0 := by simpa using hb
   cases h
   exact ⟨_, rfl, by simp [binOp, Op.intDiv, hb, wrapI_eq]⟩
 case rem =>
  simp only [intBin, intBinC, ieq_eq] at h
  split at h
  ·
   cases h
  ·
   rename_i hb
   have hb : b ≠ 0 := by simpa using hb
   cases h
   exact ⟨_, rfl, by simp [binOp, Op.intDiv, hb]⟩
 case shl => cases h
 case shr => cases h
 all_goals
  simp only [intBin, intBinC, Option.some.injEq] at h
  subst h
  refine ⟨_, rfl, ?_⟩
  simp [binOp, Op.intArith, Op.intCmp, wrapI_eq, ieq_eq, ilt_eq, bne, not_decide_lt, -Bool.not_eq_eq_eq_not]
  try rfl
theorem minN_eq (a b : Nat) : minN a b = min a b := by
 unfold minN
 cases h : Nat.ble a b with
 | true => rw [Nat.ble_eq] at h; rw [bc_true, Nat.min_eq_left h]
 | false =>
  rw [bc_false, Nat.min_eq_right]
  have : ¬ a ≤ b := fun k => by rw [<- Nat.ble_eq, h] at k; cases k
  omega
theorem run_shiftI {op : BinOp} {k yk : IntKind} {a b : Int} {v : AV} (h : shiftI op k a b = some v) (t : TypeId) (w : World) (s : Sg) :
 ∃ c, conc s v = some c /\ (binOp op t (.int k a) (.int yk b)).run P w = .ok c w := by
 cases b with
 | negSucc b => cases h
 | ofNat y =>
  have h' : shiftBy op k a (minN y (bitsn k)) = some v := h
  cases op <;> first | (cases h'; done) | skip
  all_goals
   cases h'
   refine ⟨_, rfl, ?_⟩
   simp only [binOp, Op.shift]
   rw [if_neg (by simp), bitsn_eq, minN_eq]
   simp only [Sem.run_pure, Int.ofNat_eq_natCast, Int.toNat_natCast]
   simp [wrapI_eq]
   try rfl
end Go.Ev
