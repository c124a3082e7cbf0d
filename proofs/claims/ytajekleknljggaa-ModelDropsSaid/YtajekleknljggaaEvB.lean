/-
  The evaluator is right about operations that look at no memory. No conditions.
-/
import Derived.Test.YtajekleknljggaaEvA
import Derived.Laws.StructEq
import Derived.ChangeKeysEq
import Derived.Lib.Strings
set_option linter.unusedVariables false
set_option linter.unusedSimpArgs false
namespace Go.Ev
variable {P : Program} {E : Env}
structure EnvTy (E : Env) (P : Program) : Prop where
 ty : ∀ t i, E.ty t = some i -> TyOk P t i
 el : ∀ t e, (kindOf E t = .slice e ∨ ∃ n, kindOf E t = .array n e) -> ∃ i, E.ty e = some i
 fld : ∀ t fs, kindOf E t = .struct fs -> ∀ p, p ∈ fs -> ∃ i, E.ty p.2 = some i
 flat : ∀ t p, E.flat t = some p -> flatB P p.1 8 t = true /\ p.2 = P.cellsOf t
 depth : 8 ≤ P.depth
theorem bind_some {α β : Type} {o : Option α} {f : α -> Option β} {b : β} (h : o.bind f = some b) : ∃ a, o = some a /\ f a = some b := Option.bind_eq_some_iff.1 h
theorem map_some {α β : Type} {o : Option α} {f : α -> β} {b : β} (h : o.map f = some b) : ∃ a, o = some a /\ f a = b := Option.map_eq_some_iff.1 h
theorem EnvTy.und (hE : EnvTy E P) {t : TypeId} {k : TK} (h : kindOf E t = k) (hk : k ≠ .other) : ∃ d, P.underlying t = some d /\ tkOf d = k := by
 unfold kindOf at h
 cases hi : E.ty t with
 | none => rw [hi] at h; exact absurd h.symm hk
 | some i =>
  rw [hi] at h
  obtain ⟨d, j, hd, _, _, _, _, hkd, _⟩ := (hE.ty t i hi).ex
  exact ⟨d, hd, hkd.symm.trans h⟩
theorem tkOf_slice {d : TypeDesc} {e : TypeId} (h : tkOf d = .slice e) : d = .slice e := by cases d <;> simp_all [tkOf]
theorem tkOf_array {d : TypeDesc} {e : TypeId} {n : Nat} (h : tkOf d = .array n e) : d = .array n e := by cases d <;> simp_all [tkOf]
theorem tkOf_ptr {d : TypeDesc} {e : TypeId} (h : tkOf d = .ptr e) : d = .pointer e := by cases d <;> simp_all [tkOf]
theorem tkOf_int {d : TypeDesc} {k : IntKind} (h : tkOf d = .int k) : d = .int k := by cases d <;> simp_all [tkOf]
theorem tkOf_string {d : TypeDesc} (h : tkOf d = .string) : d = .string := by cases d <;> simp_all [tkOf]
theorem tkOf_bool {d : TypeDesc} (h : tkOf d = .bool) : d = .bool := by cases d <;> simp_all [tkOf]
theorem tkOf_func {d : TypeDesc} (h : tkOf d = .func) : ∃ a b c, d = .func a b c := by cases d <;> simp_all [tkOf]
theorem tkOf_struct {d : TypeDesc} {fs : List (Nat × TypeId)} (h : tkOf d = .struct fs) : ∃ gs : Array Field, d = .struct gs /\ fs = gs.toList.map fun f => (f.offset, f.type) := by
 cases d <;> simp_all [tkOf]
theorem EnvTy.slice (hE : EnvTy E P) {t e : TypeId} (h : kindOf E t = .slice e) : P.underlying t = some (.slice e) := by
 obtain ⟨d, hd, hk⟩ := hE.und h (by simp); rw [hd, tkOf_slice hk]
theorem EnvTy.array (hE : EnvTy E P) {t e : TypeId} {n : Nat} (h : kindOf E t = .array n e) : P.underlying t = some (.array n e) := by
 obtain ⟨d, hd, hk⟩ := hE.und h (by simp); rw [hd, tkOf_array hk]
theorem EnvTy.ptr (hE : EnvTy E P) {t e : TypeId} (h : kindOf E t = .ptr e) : P.underlying t = some (.pointer e) := by
 obtain ⟨d, hd, hk⟩ := hE.und h (by simp); rw [hd, tkOf_ptr hk]
theorem EnvTy.int (hE : EnvTy E P) {t : TypeId} {k : IntKind} (h : kindOf E t = .int k) : P.underlying t = some (.int k) := by
 obtain ⟨d, hd, hk⟩ := hE.und h (by simp); rw [hd, tkOf_int hk]
theorem EnvTy.string (hE : EnvTy E P) {t : TypeId} (h : kindOf E t = .string) : P.underlying t = some .string := by
 obtain ⟨d, hd, hk⟩ := hE.und h (by simp); rw [hd, tkOf_string hk]
theorem EnvTy.bool (hE : EnvTy E P) {t : TypeId} (h : kindOf E t = .bool) : P.underlying t = some .bool := by
 obtain ⟨d, hd, hk⟩ := hE.und h (by simp); rw [hd, tkOf_bool hk]
theorem EnvTy.func (hE : EnvTy E P) {t : TypeId} (h : kindOf E t = .func) : ∃ a b c, P.underlying t = some (.func a b c) := by
 obtain ⟨d, hd, hk⟩ := hE.und h (by simp)
 obtain ⟨a, b, c, rfl⟩ := tkOf_func hk
 exact ⟨a, b, c, hd⟩
theorem EnvTy.struct (hE : EnvTy E P) {t : TypeId} {fs : List (Nat × TypeId)} (h : kindOf E t = .struct fs) :
 ∃ gs : Array Field, P.underlying t = some (.struct gs) /\ fs = gs.toList.map fun f => (f.offset, f.type) := by
 obtain ⟨d, hd, hk⟩ := hE.und h (by simp)
 obtain ⟨gs, rfl, hf⟩ := tkOf_struct hk
 exact ⟨gs, hd, hf⟩
theorem EnvTy.info (hE : EnvTy E P) {t : TypeId} {i : TI} (h : E.ty t = some i) : ∃ j, P.info? t = some j /\ j.size = i.size /\ j.bytes = i.bytes /\
 (∀ z, i.zero = some z -> ∃ v, j.zero = some v /\ (∀ s, conc s z = some v) /\ z.cells.length = i.size) := by
 obtain ⟨d, j, _, hj, h1, h2, _, _, h5⟩ := (hE.ty t i h).ex
 refine ⟨j, hj, h1.symm, h2.symm, fun z hz => ?_⟩
 rw [h5] at hz
 obtain ⟨a, ha, hf⟩ := bind_some hz
 obtain ⟨v, hv, hov⟩ := bind_some ha
 unfold fitZ at hf
 split at hf
 ·
  rename_i hb
  cases hf
  exact ⟨v, hv, fun s => ofV_conc 3 v _ hov, by rw [h1]; exact Nat.eq_of_beq_eq_true hb⟩
 ·
  cases hf
theorem EnvTy.agg (hE : EnvTy E P) {t : TypeId} {i : TI} (h : E.ty t = some i) : ∃ d, P.underlying t = some d /\ i.agg = aggOf d := by
 obtain ⟨d, j, hd, _, _, _, ha, _, _⟩ := (hE.ty t i h).ex
 exact ⟨d, hd, ha⟩
theorem run_und {t : TypeId} {d : TypeDesc} (h : P.underlying t = some d) (w : World) : (underlying t).run P w = .ok d w := by simp [underlying, h]
theorem run_info {t : TypeId} {i : TypeInfo} (h : P.info? t = some i) (w : World) : (typeInfo t).run P w = .ok i w := by simp [typeInfo, h]
theorem run_size {t : TypeId} {i : TypeInfo} (h : P.info? t = some i) (w : World) : (sizeOf t).run P w = .ok i.size w := by simp [sizeOf, typeInfo, h]
theorem run_zero {t : TypeId} {i : TypeInfo} {v : Value} (h : P.info? t = some i) (hz : i.zero = some v) (w : World) : (zeroValue t).run P w = .ok v w := by simp [zeroValue, typeInfo, h, hz]
theorem EnvTy.sizeT (hE : EnvTy E P) {t : TypeId} {i : TI} (h : E.ty t = some i) (w : World) : (sizeOf t).run P w = .ok (Ev.sizeT E t) w := by
 obtain ⟨j, hj, hs, _⟩ := hE.info h
 rw [run_size hj, hs]; simp [Ev.sizeT, h]
theorem run_isAgg {t : TypeId} {d : TypeDesc} (h : P.underlying t = some d) (w : World) : (isAgg t).run P w = .ok (aggOf d) w := by
 simp only [isAgg, Sem.run_bind, run_und h, Result.andThen_ok]
 cases d <;> rfl
theorem strEq_eq : ∀ (a b : List UInt8), strEq a b = (a == b)
 | [], [] => rfl
 | [], _ :: _ => rfl
 | _ :: _, [] => rfl
 | a :: l, b :: r => by
  have h : strEq (a :: l) (b :: r) = bc (Nat.beq a.toNat b.toNat) (strEq l r) false := rfl
  rw [h, strEq_eq l r]
  cases hb : Nat.beq a.toNat b.toNat with
  | true =>
   obtain rfl := UInt8.toNat_inj.1 (Nat.eq_of_beq_eq_true hb)
   simp
  | false =>
   have hne : a ≠ b := fun e => by subst e; simp at hb
   simp [hne]
theorem byteArray_toList (l : List UInt8) : (ByteArray.mk l.toArray).toList = l := by rw [ByteArray.toList_eq]
/-! Structs and arrays of numbers, held against each other. -/
theorem info_of_und {t : TypeId} {d : TypeDesc} (h : P.underlying t = some d) : ∃ j, P.info? t = some j := by
 unfold Program.underlying at h
 cases hj : P.info? t with
 | none => rw [hj] at h; cases h
 | some j => exact ⟨j, rfl⟩
def valOf (P : Program) (t : TypeId) (xs : List Value) : Value :=
 match P.underlying t with
 | some d => if aggOf d then .agg xs.toArray else xs.headD undef
 | none => undef
theorem run_part_val {t : TypeId} {d : TypeDesc} (h : P.underlying t = some d) (hd : aggOf d = false -> P.cellsOf t = 1) (xs : List Value) (off : Nat) (ho : off + P.cellsOf t ≤ xs.length) (w : World) :
 (part t xs.toArray off).run P w = .ok (valOf P t ((xs.drop off).take (P.cellsOf t))) w := by
 obtain ⟨j, hj⟩ := info_of_und h
 have hs : P.cellsOf t = j.size := by simp [Program.cellsOf, hj]
 simp only [part, Sem.run_bind, run_isAgg h, Result.andThen_ok, valOf, h]
 cases ha : aggOf d with
 | true => simp [run_size hj, hs, Nat.add_sub_cancel_left]
 | false =>
  rw [hd ha] at ho ⊢
  have hlt : off < xs.length := by omega
  simp [hlt, List.head?_take, List.head?_drop, List.headD_eq_head?_getD]
theorem cellsEq_nil (bl : Bool) : cellsEq bl [] [] = some true := rfl
theorem cellsEq_cons (bl : Bool) (x y : AV) (l r : List AV) : cellsEq bl (x :: l) (y :: r) = (scalarEq bl x y).bind fun a => (cellsEq bl l r).map fun b => a && b := by
 have h : cellsEq bl (x :: l) (y :: r) = (scalarEq bl x y).obind fun a => (cellsEq bl l r).omap fun b => a && b := rfl
 rw [h]; simp
theorem cellsEq_append {bl : Bool} : ∀ {l1 r1 l2 r2 : List AV} {b : Bool}, l1.length = r1.length -> cellsEq bl (l1 ++ l2) (r1 ++ r2) = some b -> ∃ b1 b2, cellsEq bl l1 r1 = some b1 /\ cellsEq bl l2 r2 = some b2 /\ b = (b1 && b2)
 | [], [], l2, r2, b, _, h => ⟨true, b, rfl, h, by simp⟩
 | x :: l1, y :: r1, l2, r2, b, hl, h => by
  simp only [List.cons_append, cellsEq_cons] at h
  obtain ⟨a, ha, h⟩ := bind_some h
  obtain ⟨c, hc, rfl⟩ := map_some h
  obtain ⟨b1, b2, h1, h2, rfl⟩ := cellsEq_append (by simpa using hl) hc
  exact ⟨a && b1, b2, by simp [cellsEq_cons, ha, h1], h2, by simp [Bool.and_assoc]⟩
 | [], _ :: _, _, _, _, hl, _ => by simp at hl
 | _ :: _, [], _, _, _, hl, _ => by simp at hl
theorem cellsEq_length {bl : Bool} : ∀ {l r : List AV} {b : Bool}, cellsEq bl l r = some b -> l.length = r.length
 | [], [], _, _ => rfl
 | x :: l, y :: r, b, h => by
  simp only [cellsEq_cons] at h
  obtain ⟨a, _, h⟩ := bind_some h
  obtain ⟨c, hc, _⟩ := map_some h
  simp [cellsEq_length hc]
 | [], _ :: _, _, h => by cases h
 | _ :: _, [], _, h => by cases h
def EqOk (P : Program) (bl : Bool) (t : TypeId) (k : Nat) : Prop :=
 ∀ (l r : List AV) (b : Bool) (s : Sg) (xs ys : List Value) (dd : Nat) (w : World), k ≤ dd -> cellsEq bl l r = some b -> l.length = P.cellsOf t -> concL s l = some xs -> concL s r = some ys ->
  (Op.equalIn dd t (valOf P t xs) (valOf P t ys)).run P w = .ok b w
theorem flat_und {bl : Bool} {t : TypeId} : ∀ {d : Nat}, flatB P bl d t = true -> ∃ e, P.underlying t = some e /\ (aggOf e = false -> P.cellsOf t = 1)
 | 0, h => by cases h
 | d + 1, h => by
  unfold flatB at h
  split at h
  ·
   rename_i e; rw [Bool.and_eq_true] at h; exact ⟨_, e, fun _ => Nat.eq_of_beq_eq_true h.2⟩
  ·
   rename_i e; rw [Bool.and_eq_true] at h; exact ⟨_, e, fun _ => Nat.eq_of_beq_eq_true h.2⟩
  ·
   rename_i e; exact ⟨_, e, fun h => by cases h⟩
  ·
   rename_i e; exact ⟨_, e, fun h => by cases h⟩
  ·
   cases h
theorem eqFields_ok {bl : Bool} {f : TypeId -> Bool} {k dd : Nat} (hdd : k ≤ dd) (hf : ∀ t, f t = true -> EqOk P bl t k /\ ∃ e, P.underlying t = some e /\ (aggOf e = false -> P.cellsOf t = 1)) :
 ∀ (fs : List Field) (off n : Nat) (l r : List AV) (b : Bool) (s : Sg) (xs ys : List Value) (w : World), flatB.flatFs P f off n fs = true -> off ≤ n -> l.length = n -> cellsEq bl (l.drop off) (r.drop off) = some b -> r.length = n ->
  concL s l = some xs -> concL s r = some ys -> (Op.eqFields dd xs.toArray ys.toArray fs).run P w = .ok b w
 | [], off, n, l, r, b, s, xs, ys, w, h, _, hl, he, hr, hx, hy => by
  simp only [flatB.flatFs] at h
  have : off = n := Nat.eq_of_beq_eq_true h
  subst this
  rw [List.drop_eq_nil_of_le (by omega), List.drop_eq_nil_of_le (by omega)] at he
  rw [cellsEq_nil] at he
  cases he
  simp [Op.eqFields]
 | g :: fs, off, n, l, r, b, s, xs, ys, w, h, ho, hl, he, hr, hx, hy => by
  simp only [flatB.flatFs, Bool.and_eq_true] at h
  obtain ⟨h1, h2, h3, h4⟩ := h
  have h1 : g.offset = off := Nat.eq_of_beq_eq_true h1
  have hn : g.name ≠ "_" := by simpa using h2
  obtain ⟨heq, e, hu, ha⟩ := hf _ h3
  have hle : off + P.cellsOf g.type ≤ n := by
   clear he hx hy
   have : ∀ (fs : List Field) (a b : Nat), flatB.flatFs P f a b fs = true -> a ≤ b := by
    intro fs
    induction fs with
    | nil => intro a b h; simp only [flatB.flatFs] at h; exact Nat.le_of_eq (Nat.eq_of_beq_eq_true h)
    | cons x fs ih => intro a b h; simp only [flatB.flatFs, Bool.and_eq_true] at h; have := ih _ _ h.2.2.2; omega
   exact this _ _ _ h4
  have hxl := concL_length hx
  have hyl := concL_length hy
  rw [<- List.take_append_drop (P.cellsOf g.type) (l.drop off), <- List.take_append_drop (P.cellsOf g.type) (r.drop off)] at he
  obtain ⟨b1, b2, e1, e2, rfl⟩ := cellsEq_append (by simp; omega) he
  rw [List.drop_drop, List.drop_drop] at e2
  have hstep := heq _ _ b1 s _ _ dd w hdd e1 (by simp; omega) (concL_take (concL_drop hx off) _) (concL_take (concL_drop hy off) _)
  have hrec := eqFields_ok hdd hf fs _ n l r b2 s xs ys w h4 hle hl e2 hr hx hy
  simp only [Op.eqFields, if_pos hn, Sem.run_bind, h1]
  rw [run_part_val hu ha xs off (by omega)]
  simp only [Result.andThen_ok]
  rw [run_part_val hu ha ys off (by omega)]
  simp only [Result.andThen_ok, hstep]
  cases b1
  ·
   simp
  ·
   simpa using hrec
theorem eqItems_ok {bl : Bool} {e : TypeId} {k dd : Nat} (hdd : k ≤ dd) (heq : EqOk P bl e k) {de : TypeDesc} (hu : P.underlying e = some de) (ha : aggOf de = false -> P.cellsOf e = 1) :
 ∀ (m i n : Nat) (l r : List AV) (b : Bool) (s : Sg) (xs ys : List Value) (w : World), i + m = n -> l.length = n * P.cellsOf e -> cellsEq bl (l.drop (i * P.cellsOf e)) (r.drop (i * P.cellsOf e)) = some b -> r.length = n * P.cellsOf e ->
  concL s l = some xs -> concL s r = some ys -> (Op.eqItems dd e (P.cellsOf e) xs.toArray ys.toArray (List.range' i m)).run P w = .ok b w
 | 0, i, n, l, r, b, s, xs, ys, w, hi, hl, he, hr, hx, hy => by
  obtain rfl : i = n := by omega
  rw [List.drop_eq_nil_of_le (by omega), List.drop_eq_nil_of_le (by omega)] at he
  rw [cellsEq_nil] at he
  cases he
  simp [Op.eqItems]
 | m + 1, i, n, l, r, b, s, xs, ys, w, hi, hl, he, hr, hx, hy => by
  have hle : i * P.cellsOf e + P.cellsOf e ≤ n * P.cellsOf e := by
   have : (i + 1) * P.cellsOf e ≤ n * P.cellsOf e := Nat.mul_le_mul_right _ (by omega)
   rwa [Nat.succ_mul] at this
  have hxl := concL_length hx
  have hyl := concL_length hy
  rw [<- List.take_append_drop (P.cellsOf e) (l.drop (i * P.cellsOf e)), <- List.take_append_drop (P.cellsOf e) (r.drop (i * P.cellsOf e))] at he
  obtain ⟨b1, b2, e1, e2, rfl⟩ := cellsEq_append (by simp; omega) he
  rw [List.drop_drop, List.drop_drop, <- Nat.succ_mul] at e2
  have hstep := heq _ _ b1 s _ _ dd w hdd e1 (by simp; omega) (concL_take (concL_drop hx _) _) (concL_take (concL_drop hy _) _)
  have hrec := eqItems_ok hdd heq hu ha m (i + 1) n l r b2 s xs ys w (by omega) hl e2 hr hx hy
  simp only [List.range'_succ, Op.eqItems, Sem.run_bind]
  rw [run_part_val hu ha xs _ (by omega)]
  simp only [Result.andThen_ok]
  rw [run_part_val hu ha ys _ (by omega)]
  simp only [Result.andThen_ok, hstep]
  cases b1
  ·
   simp
  ·
   simpa using hrec
theorem asIntV_some {x : AV} {p : IntKind × Int} (h : asIntV x = some p) : x = .int p.1 p.2 := by cases x <;> first | (cases h; rfl) | cases h
theorem asBoolV_some {x : AV} {b : Bool} (h : asBoolV x = some b) : x = .bool b := by cases x <;> first | (cases h; rfl) | cases h
theorem asPtr_some {x : AV} {p : Nat × Nat} (h : asPtr x = some p) : x = .ptr p.1 p.2 := by cases x <;> first | (cases h; rfl) | cases h
theorem asLst_some {x : AV} {p : Nat × List AV} (h : asLst x = some p) : x = .lst p.1 p.2 := by cases x <;> first | (cases h; rfl) | cases h
theorem asEpt_some {x : AV} {p : List AV × Nat} (h : asEpt x = some p) : x = .ept p.1 p.2 := by cases x <;> first | (cases h; rfl) | cases h
theorem no_lst {s : Sg} {x : AV} {v : Value} (h : conc s x = some v) : asLst x = none := by
 cases x <;> first | rfl | (simp only [conc] at h; cases h; done)
theorem no_ept {s : Sg} {x : AV} {v : Value} (h : conc s x = some v) : asEpt x = none := by
 cases x <;> first | rfl | (simp only [conc] at h; cases h; done)
theorem ptrAdd_c {s : Sg} {x : AV} {v : Value} (h : conc s x = some v) (n : Nat) : ptrAdd x n = (asPtr x).omap fun q => .ptr q.1 (Nat.add q.2 n) := by
 unfold ptrAdd; rw [no_ept h]; cases asPtr x <;> rfl
theorem lstAt_c {s : Sg} {x : AV} {v : Value} (h : conc s x = some v) (n i : Nat) : lstAt n x i = none := by
 unfold lstAt; rw [no_lst h]; rfl
theorem lstSlice_c {s : Sg} {x : AV} {v : Value} (h : conc s x = some v) (n : Nat) (lo hi mx : Option AV) : lstSlice n x lo hi mx = none := by
 unfold lstSlice; rw [no_lst h]; rfl
theorem eptSlice_c {s : Sg} {x : AV} {v : Value} (h : conc s x = some v) (n m : Nat) (lo hi mx : Option AV) : eptSlice x n m lo hi mx = none := by
 unfold eptSlice; rw [no_ept h]; rfl
theorem s2aL_c {s : Sg} {x : AV} {v : Value} (h : conc s x = some v) (n : Nat) : s2aL n x = none := by
 unfold s2aL; rw [no_lst h]; rfl
theorem oe_none2 {α β : Type} (o : Option α) (f : α -> Option β) : oe o none f = o.obind f := by cases o <;> rfl
theorem asStrV_some {x : AV} {l : List UInt8} (h : asStrV x = some l) : x = .str l := by cases x <;> first | (cases h; rfl) | cases h
theorem asSlice_some {x : AV} {q : Nat × Nat × Nat × Cap} (h : asSlice x = some q) : x = .slice q.1 q.2.1 q.2.2.1 q.2.2.2 := by cases x <;> first | (cases h; rfl) | cases h
theorem asAggV_some {x : AV} {l : List AV} (h : asAggV x = some l) : x = .agg l := by cases x <;> first | (cases h; rfl) | cases h
theorem asTupleV_some {x : AV} {l : List AV} (h : asTupleV x = some l) : x = .tuple l := by cases x <;> first | (cases h; rfl) | cases h
theorem asCall_some {x : AV} {q : FuncId × List AV × List AV} (h : asCall x = some q) : x = .func q.1 q.2.1 q.2.2 := by cases x <;> first | (cases h; rfl) | cases h
theorem asYield_some {x : AV} {l : Nat} (h : asYield x = some l) : x = .yield l := by cases x <;> first | (cases h; rfl) | cases h
theorem isNils_true {x : AV} (h : isNils x = true) : x = .nils ∨ ∃ a, x = .esl a := by cases x <;> first | exact .inl rfl | exact .inr ⟨_, rfl⟩ | cases h
theorem asCells_some {x : Blk} {q : List AV × TypeId × Bool × Bool} (h : asCells x = some q) : x = .cells q.1 q.2.1 q.2.2.1 q.2.2.2 := by cases x <;> first | (cases h; rfl) | cases h
theorem natI_some {n : Int} {k : Nat} (h : natI n = some k) : n = k := by cases n <;> first | (cases h; rfl) | cases h
theorem natOf_some {x : AV} {n : Nat} (h : natOf x = some n) : ∃ k, x = .int k n := by
 unfold natOf at h
 rw [obind_eq] at h
 obtain ⟨p, hp, h⟩ := bind_some h
 exact ⟨p.1, by rw [asIntV_some hp, natI_some h]⟩
theorem obind_some {α β : Type} {o : Option α} {f : α -> Option β} {b : β} (h : o.obind f = some b) : ∃ a, o = some a /\ f a = some b := by rw [obind_eq] at h; exact bind_some h
theorem omap_some {α β : Type} {o : Option α} {f : α -> β} {b : β} (h : o.omap f = some b) : ∃ a, o = some a /\ f a = b := by rw [omap_eq] at h; exact map_some h
theorem bc_some {α : Type} {b : Bool} {x : Option α} {a : α} (h : bc b x none = some a) : b = true /\ x = some a := by cases b <;> first | exact ⟨rfl, h⟩ | cases h
theorem scalar_one {bl : Bool} {x : AV} {y : AV} {b : Bool} (h : scalarEq bl x y = some b) : (bl = true /\ ∃ p q, x = .bool p /\ y = .bool q /\ b = (p == q)) ∨ (bl = false /\ ∃ k p q, x = .int k p /\ y = .int k q /\ b = (p == q)) := by
 cases bl with
 | true =>
  have h' : ((asBoolV x).obind fun a => (asBoolV y).omap fun b => bc a b (!b)) = some b := h
  rw [obind_eq] at h'
  obtain ⟨p, hp, h'⟩ := bind_some h'
  rw [omap_eq] at h'
  obtain ⟨q, hq, rfl⟩ := map_some h'
  exact .inl ⟨rfl, p, q, asBoolV_some hp, asBoolV_some hq, by cases p <;> cases q <;> rfl⟩
 | false =>
  have h' : ((asIntV x).obind fun p => (asIntV y).obind fun q => bc (kindEq p.1 q.1) (some (ieq p.2 q.2)) none) = some b := h
  rw [obind_eq] at h'
  obtain ⟨p, hp, h'⟩ := bind_some h'
  rw [obind_eq] at h'
  obtain ⟨q, hq, h'⟩ := bind_some h'
  obtain ⟨hk, h'⟩ := bc_some h'
  cases h'
  have hk := kindEq_eq.1 hk
  exact .inr ⟨rfl, p.1, p.2, q.2, asIntV_some hp, by rw [hk]; exact asIntV_some hq, by rw [ieq_eq]⟩
theorem flat_eq {bl : Bool} : ∀ (d : Nat) (t : TypeId), flatB P bl d t = true -> EqOk P bl t d
 | 0, t, h => by cases h
 | d + 1, t, h => by
  intro l r b s xs ys dd w hdd he hl hx hy
  obtain ⟨dd, rfl⟩ : ∃ m, dd = m + 1 := ⟨dd - 1, by omega⟩
  have hrl := cellsEq_length he
  unfold flatB at h
  split at h
  ·
   rename_i hu
   rw [Bool.and_eq_true] at h
   have h1 : P.cellsOf t = 1 := Nat.eq_of_beq_eq_true h.2
   rw [h1] at hl
   match l, r, hl, hrl with
   | [x], [y], _, _ =>
    rw [cellsEq_cons, cellsEq_nil] at he
    obtain ⟨a, ha, he⟩ := bind_some he
    simp only [Option.map_some, Bool.and_true, Option.some.injEq] at he
    subst he
    obtain ⟨x', _, hx', hxe, rfl⟩ := concL_cons.1 hx
    obtain ⟨y', _, hy', hye, rfl⟩ := concL_cons.1 hy
    simp only [valOf, hu, aggOf, Bool.false_eq_true, if_false, List.headD_cons]
    rcases scalar_one ha with ⟨hbl, p, q, rfl, rfl, rfl⟩ | ⟨hbl, k, p, q, rfl, rfl, rfl⟩
    ·
     simp only [conc, Option.some.injEq] at hx' hy'; subst hx'; subst hy'
     simp [Op.equalIn, run_und hu]
    ·
     rw [hbl] at h; simp at h
  ·
   rename_i k hu
   rw [Bool.and_eq_true] at h
   have h1 : P.cellsOf t = 1 := Nat.eq_of_beq_eq_true h.2
   rw [h1] at hl
   match l, r, hl, hrl with
   | [x], [y], _, _ =>
    rw [cellsEq_cons, cellsEq_nil] at he
    obtain ⟨a, ha, he⟩ := bind_some he
    simp only [Option.map_some, Bool.and_true, Option.some.injEq] at he
    subst he
    obtain ⟨x', _, hx', hxe, rfl⟩ := concL_cons.1 hx
    obtain ⟨y', _, hy', hye, rfl⟩ := concL_cons.1 hy
    simp only [valOf, hu, aggOf, Bool.false_eq_true, if_false, List.headD_cons]
    rcases scalar_one ha with ⟨hbl, p, q, rfl, rfl, rfl⟩ | ⟨hbl, k, p, q, rfl, rfl, rfl⟩
    ·
     rw [hbl] at h; simp at h
    ·
     simp only [conc, Option.some.injEq] at hx' hy'; subst hx'; subst hy'
     simp [Op.equalIn, run_und hu]
  ·
   rename_i fs hu
   simp only [Bool.and_eq_true, Bool.not_eq_true'] at h
   have hf : P.fieldsOf t = fs := by simp [Program.fieldsOf, hu]
   simp only [valOf, hu, aggOf, if_true]
   rw [run_equalIn_struct w dd t xs.toArray ys.toArray (by rw [hf]; exact hu) h.1, hf]
   exact eqFields_ok (k := d) (by omega) (fun u hu' => ⟨flat_eq d u hu', flat_und hu'⟩) fs.toList 0 _ l r b s xs ys w h.2 (Nat.zero_le _) hl (by simpa using he) (by omega) hx hy
  ·
   rename_i n e hu
   simp only [Bool.and_eq_true] at h
   obtain ⟨de, hde, hae⟩ := flat_und h.2
   obtain ⟨j, hj⟩ := info_of_und hde
   have hc : P.cellsOf t = n * P.cellsOf e := Nat.eq_of_beq_eq_true h.1
   simp only [valOf, hu, aggOf, if_true]
   rw [run_equalIn_array w dd xs.toArray ys.toArray hu hj, List.range_eq_range']
   exact eqItems_ok (k := d) (by omega) (flat_eq d e h.2) hde hae n 0 n l r b s xs ys w (by omega) (by omega) (by simpa using he) (by omega) hx hy
  ·
   cases h
end Go.Ev
namespace Go.Ev
variable {P : Program} {E : Env}
theorem ble_iff {a b : Nat} : Nat.ble a b = true ↔ a ≤ b := by rw [Nat.ble_eq]
def OC (s : Sg) : Option AV -> Option Value -> Prop
 | none, none => True
 | some a, some v => conc s a = some v
 | _, _ => False
theorem evOpt_conc {s : Sg} {M : Nat} {T : Tm} {ct : Array Value} (k : TRel s M T ct) {o : Option Operand} {x : Option AV} (h : evOpt M o T = some x) : OC s x (o.map (opv ct)) := by
 cases o with
 | none => simp only [evOpt, Option.some.injEq] at h; subst h; trivial
 | some o =>
  simp only [evOpt, omap_eq] at h
  obtain ⟨a, ha, rfl⟩ := map_some h
  exact evO_conc k ha
theorem boundN_int {a : AV} {d y i : Nat} (h : boundN (some a) d y = some i) : ∃ k, a = .int k (i : Int) /\ i ≤ y := by
 simp only [boundN, obind_eq] at h
 obtain ⟨j, hj, h⟩ := bind_some h
 obtain ⟨hb, h⟩ := bc_some h
 cases h
 obtain ⟨k, rfl⟩ := natOf_some hj
 exact ⟨k, rfl, ble_iff.1 hb⟩
theorem run_bound {s : Sg} {a : AV} {v : Value} {d y y' i : Nat} {code : BoundsCode} (hc : conc s a = some v) (h : boundN (some a) d y = some i) (hy : y ≤ y') (w : World) :
 (Instr.sliceBound v y' code).run P w = .ok i w := by
 obtain ⟨k, rfl, hi⟩ := boundN_int h
 simp only [conc, Option.some.injEq] at hc
 subst hc
 simp only [Instr.sliceBound, asIntOf, Sem.run_bind, Sem.run_pure, Result.andThen_ok]
 rw [if_pos (by omega)]
 simp
@[simp] def mxc (mx : Option AV) (c m : Nat) : Nat := match mx with | none => c | some _ => m
theorem run_bounds {s : Sg} {lo hi mx : Option AV} {clo chi cmx : Option Value} (h1 : OC s lo clo) (h2 : OC s hi chi) (h3 : OC s mx cmx) {len cap cap' l h m : Nat} {b : Bool}
 (hb : boundsN len cap lo hi mx = some (l, h, m)) (hl : len ≤ cap) (hcap : cap ≤ cap') (w : World) :
 (Instr.sliceBounds b len cap' clo chi cmx).run P w = .ok (l, h, mxc mx cap' m) w /\ l ≤ h /\ h ≤ m /\ m ≤ cap /\ (mx = none -> m = cap) := by
 unfold boundsN at hb
 cases mx with
 | none =>
  simp only [obind_eq, omap_eq] at hb
  cases cmx with
  | some c => cases h3
  | none =>
   obtain ⟨h', e1, hb⟩ := bind_some hb
   obtain ⟨l', e2, hb⟩ := map_some hb
   cases hb
   have hh : h ≤ cap /\ (Instr.sliceBounds b len cap' clo chi none).run P w = ((match clo with | some v => Instr.sliceBound v h .sliceB | none => pure 0).run P w).andThen fun l w => .ok (l, h, cap') w := by
    cases chi with
    | none =>
     cases hi with
     | some a => cases h2
     | none =>
      simp only [boundN, Option.some.injEq] at e1
      subst e1
      refine ⟨hl, ?_⟩
      cases clo <;> simp [Instr.sliceBounds]
    | some v =>
     cases hi with
     | none => cases h2
     | some a =>
      have hr := fun code => run_bound (P := P) (code := code) h2 e1 hcap w
      obtain ⟨k, _, hle⟩ := boundN_int e1
      refine ⟨hle, ?_⟩
      cases clo <;> simp [Instr.sliceBounds, hr]
   refine ⟨?_, ?_, hh.1, Nat.le_refl _, fun _ => rfl⟩
   ·
    rw [hh.2]
    cases clo with
    | none =>
     cases lo with
     | some a => cases h1
     | none => simp only [boundN, Option.some.injEq] at e2; subst e2; simp
    | some v =>
     cases lo with
     | none => cases h1
     | some a => rw [run_bound h1 e2 (Nat.le_refl _)]; rfl
   ·
    cases lo with
    | none => simp only [boundN, Option.some.injEq] at e2; omega
    | some a => obtain ⟨k, _, hle⟩ := boundN_int e2; exact hle
 | some m0 =>
  cases cmx with
  | none => cases h3
  | some cm =>
   cases hi with
   | none => cases hb
   | some h0 =>
    cases chi with
    | none => cases h2
    | some ch =>
     simp only [obind_eq, omap_eq] at hb
     obtain ⟨m', e0, hb⟩ := bind_some hb
     obtain ⟨h', e1, hb⟩ := bind_some hb
     obtain ⟨l', e2, hb⟩ := map_some hb
     cases hb
     have r0 := fun code => run_bound (P := P) (code := code) h3 e0 hcap w
     have r1 := fun code => run_bound (P := P) (code := code) h2 e1 (Nat.le_refl _) w
     obtain ⟨_, _, hm⟩ := boundN_int e0
     obtain ⟨_, _, hh⟩ := boundN_int e1
     refine ⟨?_, ?_, hh, hm, fun e => by cases e⟩
     ·
      cases clo with
      | none =>
       cases lo with
       | some a => cases h1
       | none => simp only [boundN, Option.some.injEq] at e2; subst e2; simp [Instr.sliceBounds, r0, r1]
      | some v =>
       cases lo with
       | none => cases h1
       | some a => simp [Instr.sliceBounds, r0, r1, fun code => run_bound (P := P) (code := code) h1 e2 (Nat.le_refl _) w]
     ·
      cases lo with
      | none => simp only [boundN, Option.some.injEq] at e2; omega
      | some a => obtain ⟨k, _, hle⟩ := boundN_int e2; exact hle
theorem addr_add (c o n : Nat) : (⟨c, o, none⟩ : Addr).add n = ⟨c, o + n, none⟩ := by
 unfold Addr.add; split
 ·
  rename_i h; subst h; rfl
 ·
  rfl
theorem addrAt_eq (d m l o size : Nat) : (if m = l then (⟨d, o, none⟩ : Addr) else (⟨d, o, none⟩ : Addr).add (l * size)) = ⟨d, addrAt m l o size, none⟩ := by
 unfold addrAt
 by_cases h : m = l
 ·
  subst h; simp
 ·
  have : Nat.beq m l = false := by rw [<- Bool.not_eq_true, Nat.beq_eq]; exact h
  rw [if_neg h, this, addr_add]; rfl
theorem extract_str (l : List UInt8) (a b : Nat) : (ByteArray.mk l.toArray).extract a b = ⟨((l.take b).drop a).toArray⟩ := by
 have h := Lib.extract_data (ByteArray.mk l.toArray) a b
 cases hx : (ByteArray.mk l.toArray).extract a b with
 | mk d =>
  rw [hx] at h
  congr 1
  rw [List.drop_take]
  simp only at h
  rw [<- h]
theorem EnvTy.elSize (hE : EnvTy E P) {t e : TypeId} (h : kindOf E t = .slice e ∨ ∃ n, kindOf E t = .array n e) (w : World) : (sizeOf e).run P w = .ok (Ev.sizeT E e) w := by
 obtain ⟨i, hi⟩ := hE.el t e h
 exact hE.sizeT hi w
theorem slCap_ok {s : Sg} {b off len es : Nat} {cap : Cap} {v : AV} {c : Value} {lo hi mx : Option AV} {clo chi cmx : Option Value} (hx : conc s (.slice b off len cap) = some c) (h1 : OC s lo clo) (h2 : OC s hi chi) (h3 : OC s mx cmx)
 (h : slCap cap es b off len lo hi mx = some v) {t e : TypeId} (hu : P.underlying t = some (.slice e)) (hs : ∀ w, (sizeOf e).run P w = .ok es w) (w : World) :
 ∃ c', conc s v = some c' /\ (Instr.sliceAt t c clo chi cmx).run P w = .ok c' w := by
 cases cap with
 | ex c0 =>
  simp only [slCap, omap_eq] at h
  obtain ⟨⟨a, b', m⟩, hb, rfl⟩ := map_some h
  simp only [conc, sliceC] at hx
  split at hx
  case isFalse => cases hx
  rename_i hlc
  obtain ⟨d, hd, rfl⟩ := map_some hx
  obtain ⟨hr, hab, hbm, hm, hn⟩ := run_bounds (P := P) (b := true) h1 h2 h3 hb hlc (Nat.le_refl _) w
  have hmm : mxc mx c0 m = m := by cases mx <;> simp [mxc, hn]
  rw [hmm] at hr
  refine ⟨.slice (some ⟨d, addrAt m a off es, none⟩) (b' - a) (m - a), ?_, ?_⟩
  ·
   simp only [conc, sliceC, Nat.sub_eq]; rw [if_pos (by omega), hd]; rfl
  ·
   simp only [Instr.sliceAt, Instr.slice, Sem.run_bind, run_und hu, Result.andThen_ok, hr, hs, Sem.run_pure, Option.map_some]
   rw [<- addrAt_eq]
   by_cases e : m = a <;> simp [e]
 | rest eo sz lb =>
  simp only [slCap] at h
  obtain ⟨hsz, h⟩ := bc_some h
  have hsz : sz = es := Nat.eq_of_beq_eq_true hsz
  rw [obind_eq] at h
  obtain ⟨⟨a, b', m⟩, hb, h⟩ := bind_some h
  simp only [conc, sliceC] at hx
  split at hx
  case isFalse => cases hx
  rename_i hle
  obtain ⟨d, hd, rfl⟩ := map_some hx
  obtain ⟨hr, hab, hbm, hm, hn⟩ := run_bounds (P := P) (b := true) h1 h2 h3 hb hle.1 (show lb ≤ s.ka b - eo by omega) w
  cases mx with
  | none =>
   obtain rfl := hn rfl
   simp only [mxc] at hr
   have h' : bc (Nat.blt a m || Nat.beq a 0) (some (AV.slice b (off + a * sz) (b' - a) (.rest (eo + a) sz (m - a)))) (some (AV.slice b off 0 (.tail eo a sz false))) = some v := h
   cases hlt : (Nat.blt a m || Nat.beq a 0) with
   | true =>
    rw [hlt, bc_true] at h'
    cases h'
    have hlt : a < m ∨ a = 0 := by simpa [blt_iff, Nat.beq_eq] using hlt
    refine ⟨.slice (some ⟨d, off + a * sz, none⟩) (b' - a) (s.ka b - eo - a), ?_, ?_⟩
    ·
     simp only [conc, sliceC]; rw [if_pos ⟨by omega, by omega, by rw [hle.2.2.1, Nat.add_mul], hle.2.2.2⟩, hd]; simp; omega
    ·
     simp only [Instr.sliceAt, Instr.slice, Sem.run_bind, run_und hu, Result.andThen_ok, hr, hs, Sem.run_pure, Option.map_some]
     by_cases ha : a = 0
     ·
      subst ha; simp [addr_add]
     ·
      rw [if_neg (by omega), addr_add, hsz]
   | false =>
    rw [hlt, bc_false] at h'
    cases h'
    have hlt : ¬ a < m /\ a ≠ 0 := by simpa [<- Bool.not_eq_true, blt_iff, Nat.beq_eq] using hlt
    have ea : a = m := by omega
    have eb : b' = m := by omega
    subst ea
    subst eb
    refine ⟨.slice (some ⟨d, if s.ka b - eo = b' then off else off + b' * sz, none⟩) 0 (s.ka b - eo - b'), ?_, ?_⟩
    ·
     simp only [conc, sliceC]; rw [if_pos ⟨trivial, by omega, hle.2.2.1, hle.2.2.2⟩, hd]; simp
    ·
     simp only [Instr.sliceAt, Instr.slice, Sem.run_bind, run_und hu, Result.andThen_ok, hr, hs, Sem.run_pure, Option.map_some, addr_add, <- hsz]
     by_cases e : s.ka b - eo = b' <;> simp [e]
  | some mv =>
   simp only [mxc] at hr
   have h' : some (AV.slice b (addrAt m a off sz) (b' - a) (.ex (m - a))) = some v := h
   cases h'
   refine ⟨.slice (some ⟨d, addrAt m a off sz, none⟩) (b' - a) (m - a), ?_, ?_⟩
   ·
    simp only [conc, sliceC]; rw [if_pos (by omega), hd]; rfl
   ·
    simp only [Instr.sliceAt, Instr.slice, Sem.run_bind, run_und hu, Result.andThen_ok, hr, hs, Sem.run_pure, Option.map_some, <- hsz]
    rw [<- addrAt_eq]
    by_cases e : m = a <;> simp [e]
 | tail eo l sz z =>
  simp only [slCap] at h
  obtain ⟨hl0, h⟩ := bc_some h
  have hl0 : len = 0 := Nat.eq_of_beq_eq_true hl0
  subst hl0
  rw [omap_eq] at h
  obtain ⟨⟨a, b', m⟩, hb, rfl⟩ := map_some h
  simp only [conc, sliceC] at hx
  split at hx
  case isFalse => cases hx
  rename_i hle
  obtain ⟨d, hd, rfl⟩ := map_some hx
  obtain ⟨hr, hab, hbm, hm, hn⟩ := run_bounds (P := P) (b := true) h1 h2 h3 hb (Nat.le_refl _) (Nat.zero_le (if z = true then 0 else s.ka b - eo - l)) w
  obtain rfl : m = 0 := by omega
  obtain rfl : b' = 0 := by omega
  obtain rfl : a = 0 := by omega
  refine ⟨.slice (some ⟨d, if s.ka b - eo = l then off else off + l * sz, none⟩) 0 (mxc mx (if z = true then 0 else s.ka b - eo - l) 0), ?_, ?_⟩
  ·
   simp only [conc, sliceC]; rw [if_pos ⟨trivial, hle.2⟩, hd]; cases mx <;> cases z <;> rfl
  ·
   simp only [Instr.sliceAt, Instr.slice, Sem.run_bind, run_und hu, Result.andThen_ok, hr, hs, Sem.run_pure, Option.map_some, addr_add]
   cases mx <;> simp [addr_add]
theorem evSlice_ok (hE : EnvTy E P) {s : Sg} {t : TypeId} {x v : AV} {c : Value} {lo hi mx : Option AV} {clo chi cmx : Option Value} (hx : conc s x = some c) (h1 : OC s lo clo) (h2 : OC s hi chi) (h3 : OC s mx cmx)
 (h : evSlice (kindOf E t) E x lo hi mx = some v) (w : World) : ∃ c', conc s v = some c' /\ (Instr.sliceAt t c clo chi cmx).run P w = .ok c' w := by
 cases hk : kindOf E t with
 | string =>
  rw [hk] at h
  obtain ⟨l, hl, h'⟩ := obind_some (show ((asStrV x).obind fun s => match mx with | none => (boundsN s.length s.length lo hi none).omap fun r => AV.str ((s.take r.2.1).drop r.1) | some _ => none) = some v from h)
  clear h
  obtain rfl := asStrV_some hl
  simp only [conc, Option.some.injEq] at hx
  subst hx
  have hu := hE.string hk
  cases mx with
  | some _ => cases h'
  | none =>
   cases cmx with
   | some c => cases h3
   | none =>
    obtain ⟨⟨a, b, m⟩, hb, rfl⟩ := omap_some h'
    obtain ⟨hr, hab, hbm, hm, _⟩ := run_bounds (P := P) (b := false) h1 h2 (mx := none) (cmx := none) trivial hb (Nat.le_refl _) (Nat.le_refl _) w
    refine ⟨_, rfl, ?_⟩
    have hsize : (ByteArray.mk l.toArray).size = l.length := by simp [ByteArray.size]
    simp only [Instr.sliceAt, Instr.slice, Sem.run_bind, run_und hu, Result.andThen_ok, Option.isSome_none, Bool.false_eq_true, if_false, hsize]
    simp only [Sem.run_pure, Result.andThen_ok, hr]
    rw [extract_str]
 | slice e =>
  rw [hk] at h
  have hu := hE.slice hk
  have hs := fun w => hE.elSize (.inl hk) w
  cases hq : asSlice x with
  | some q =>
   obtain rfl := asSlice_some hq
   exact slCap_ok hx h1 h2 h3 h hu hs w
  | none =>
   have h' : oe (asSlice x) (bc (isNils x) ((boundsN 0 0 lo hi mx).omap fun _ => x) (lstSlice (sizeT E e) x lo hi mx)) (fun q => slCap q.2.2.2 (sizeT E e) q.1 q.2.1 q.2.2.1 lo hi mx) = some v := h
   rw [hq, oe_none, lstSlice_c hx] at h'
   clear h
   obtain ⟨hn, h2'⟩ := bc_some h'
   clear h'
   obtain ⟨⟨a, b, m⟩, hb, rfl⟩ := omap_some h2'
   obtain ⟨hr, hab, hbm, hm, _⟩ := run_bounds (P := P) (b := true) h1 h2 h3 hb (Nat.le_refl _) (Nat.le_refl _) w
   obtain rfl : m = 0 := by omega
   obtain rfl : b = 0 := by omega
   obtain rfl : a = 0 := by omega
   rcases isNils_true hn with rfl | ⟨ad, rfl⟩
   ·
    simp only [conc, Option.some.injEq] at hx
    subst hx
    refine ⟨_, rfl, ?_⟩
    simp only [Instr.sliceAt, Instr.slice, Sem.run_bind, run_und hu, Result.andThen_ok, hr, hs, Sem.run_pure]
    cases mx <;> simp [mxc]
   ·
    simp only [conc, Option.some.injEq] at hx
    subst hx
    refine ⟨_, rfl, ?_⟩
    simp only [Instr.sliceAt, Instr.slice, Sem.run_bind, run_und hu, Result.andThen_ok, hr, hs, Sem.run_pure]
    cases mx <;> simp [mxc]
 | array n e =>
  rw [hk] at h
  have hu := hE.array hk
  have hs := fun w => hE.elSize (.inr ⟨n, hk⟩) w
  replace h := show (oe (asPtr x) (eptSlice x n (sizeT E e) lo hi mx) fun q => (boundsN n n lo hi mx).omap fun r => AV.slice q.1 (addrAt r.2.2 r.1 q.2 (sizeT E e)) (Nat.sub r.2.1 r.1) (.ex (Nat.sub r.2.2 r.1))) = some v from h
  rw [eptSlice_c hx, oe_none2] at h
  obtain ⟨q, hq, h'⟩ := obind_some h
  clear h
  obtain rfl := asPtr_some hq
  obtain ⟨⟨a, b', m⟩, hb, rfl⟩ := omap_some h'
  simp only [conc] at hx
  obtain ⟨d, hd, rfl⟩ := map_some hx
  obtain ⟨hr, hab, hbm, hm, hn⟩ := run_bounds (P := P) (b := false) h1 h2 h3 hb (Nat.le_refl _) (Nat.le_refl _) w
  have hmm : mxc mx n m = m := by cases mx <;> simp [mxc, hn]
  rw [hmm] at hr
  refine ⟨.slice (some ⟨d, addrAt m a q.2 (sizeT E e), none⟩) (b' - a) (m - a), ?_, ?_⟩
  ·
   simp only [conc, sliceC, Nat.sub_eq]; rw [if_pos (by omega), hd]; rfl
  ·
   simp only [Instr.sliceAt, Sem.run_bind, run_und hu, Result.andThen_ok, Instr.sureAddr, hr, hs, Sem.run_pure]
   rw [<- addrAt_eq]
 | _ => rw [hk] at h; cases h
end Go.Ev
namespace Go.Ev
variable {P : Program} {E : Env}
theorem conc_int {s : Sg} {k : IntKind} {n : Int} {v : Value} (h : conc s (.int k n) = some v) : v = .int k n := by cases h; rfl
theorem conc_bool {s : Sg} {b : Bool} {v : Value} (h : conc s (.bool b) = some v) : v = .bool b := by cases h; rfl
theorem conc_str {s : Sg} {l : List UInt8} {v : Value} (h : conc s (.str l) = some v) : v = .string ⟨l.toArray⟩ := by cases h; rfl
theorem conc_ptr {s : Sg} {b o : Nat} {v : Value} (h : conc s (.ptr b o) = some v) : ∃ d, s.mu b = some d /\ v = .pointer (some ⟨d, o, none⟩) := by
 obtain ⟨d, hd, rfl⟩ := map_some (show (s.mu b).map _ = some v from h); exact ⟨d, hd, rfl⟩
theorem conc_agg {s : Sg} {l : List AV} {v : Value} (h : conc s (.agg l) = some v) : ∃ xs, concL s l = some xs /\ v = .agg xs.toArray := by
 simp only [conc] at h; obtain ⟨xs, hx, rfl⟩ := map_some h; exact ⟨xs, hx, rfl⟩
theorem conc_tuple {s : Sg} {l : List AV} {v : Value} (h : conc s (.tuple l) = some v) : ∃ xs, concL s l = some xs /\ v = .tuple xs.toArray := by
 simp only [conc] at h; obtain ⟨xs, hx, rfl⟩ := map_some h; exact ⟨xs, hx, rfl⟩
theorem eqGuard_other {op : BinOp} {t : TypeId} {x y : Operand} {a b : Value} (h1 : ∀ xs, a ≠ .agg xs) (h2 : a ≠ .nilIface) (w : World) : (eqGuard op t x y a b).run P w = .ok () w := by
 unfold eqGuard
 simp only [Sem.run_bind, Sem.run_ite]
 by_cases h : (!(match op with | .eql | .neq => true | _ => false)) = true
 ·
  cases op <;> first | (simp at h; done) | rfl
 ·
  cases op <;> first | (simp at h; done) | skip
  all_goals
   cases a <;> first | (exact absurd rfl h2) | (exact absurd rfl (h1 _)) | (cases b <;> rfl)
theorem flat_noGuard {bl : Bool} : ∀ (d n : Nat) (t : TypeId), d ≤ n -> flatB P bl d t = true -> P.eqGuardType n t = false
 | 0, _, _, _, h => by cases h
 | d + 1, 0, _, h, _ => by omega
 | d + 1, n + 1, t, hle, h => by
  unfold flatB at h
  unfold Program.eqGuardType
  split at h
  ·
   rename_i hu; rw [hu]
  ·
   rename_i hu; rw [hu]
  ·
   rename_i fs hu
   rw [hu]
   simp only [Bool.and_eq_true] at h
   have key : ∀ (l : List Field) (a b : Nat), flatB.flatFs P (flatB P bl d) a b l = true -> ∀ f ∈ l, P.eqGuardType n f.type = false := by
    intro l
    induction l with
    | nil => intro a b _ f hf; cases hf
    | cons g l ih =>
     intro a b hl f hf
     simp only [flatB.flatFs, Bool.and_eq_true] at hl
     rcases List.mem_cons.1 hf with rfl | hf
     ·
      exact flat_noGuard d n _ (by omega) hl.2.2.1
     ·
      exact ih _ _ hl.2.2.2 f hf
   have := key _ _ _ h.2
   simp only [Array.any_eq_false]
   intro i hi
   have := this (fs[i]) (by simp)
   simp [this]
  ·
   rename_i m e hu
   rw [hu]
   simp only [Bool.and_eq_true] at h
   exact flat_noGuard d n e (by omega) h.2
  ·
   cases h
theorem isPtrV_or {x : AV} {s : Sg} {c : Value} (hc : conc s x = some c) (h : isPtrV x = true) : x = .nilp ∨ ∃ b o, x = .ptr b o := by cases x <;> first | exact .inl rfl | exact .inr ⟨_, _, rfl⟩ | (cases h; done) | (simp only [conc] at hc; cases hc; done)
theorem isSliceV_or {x : AV} {s : Sg} {c : Value} (hc : conc s x = some c) (h : isSliceV x = true) : x = .nils ∨ (∃ b o n c, x = .slice b o n c) ∨ ∃ a, x = .esl a := by cases x <;> first | exact .inl rfl | exact .inr (.inl ⟨_, _, _, _, rfl⟩) | exact .inr (.inr ⟨_, rfl⟩) | (cases h; done) | (simp only [conc] at hc; cases hc; done)
theorem isFuncV_or {x : AV} (h : isFuncV x = true) : x = .nilf ∨ ∃ b o n, x = .func b o n := by cases x <;> first | exact .inl rfl | exact .inr ⟨_, _, _, rfl⟩ | cases h
theorem conc_slice {s : Sg} {b o n : Nat} {c : Cap} {v : Value} (h : conc s (.slice b o n c) = some v) : ∃ d o' c', v = .slice (some ⟨d, o', none⟩) n c' /\ s.mu b = some d := by
 simp only [conc] at h
 cases c with
 | ex c =>
  simp only [sliceC] at h
  split at h
  ·
   obtain ⟨d, hd, rfl⟩ := map_some h; exact ⟨_, _, _, rfl, hd⟩
  ·
   cases h
 | rest e sz lb =>
  simp only [sliceC] at h
  split at h
  ·
   obtain ⟨d, hd, rfl⟩ := map_some h; exact ⟨_, _, _, rfl, hd⟩
  ·
   cases h
 | tail e l sz z =>
  simp only [sliceC] at h
  split at h
  ·
   rename_i hn
   obtain ⟨d, hd, rfl⟩ := map_some h
   rw [hn.1]
   exact ⟨_, _, _, rfl, hd⟩
  ·
   cases h
theorem conc_func {s : Sg} {f : FuncId} {a c : List AV} {v : Value} (h : conc s (.func f a c) = some v) : ∃ x y, concL s a = some x /\ concL s c = some y /\ v = .func (.func f) x.toArray y.toArray := by
 simp only [conc] at h
 obtain ⟨x, hx, h⟩ := bind_some h
 obtain ⟨y, hy, rfl⟩ := map_some h
 exact ⟨x, y, hx, hy, rfl⟩
section
variable {t : TypeId} (w : World) (d : Nat)
theorem eqn_ptr {e : TypeId} (hu : P.underlying t = some (.pointer e)) (b : Option Addr) : (Op.equalIn (d + 1) t (.pointer none) (.pointer b)).run P w = .ok b.isNone w := by simp [Op.equalIn, run_und hu]
theorem eqn_ptr' {e : TypeId} (hu : P.underlying t = some (.pointer e)) (b : Addr) : (Op.equalIn (d + 1) t (.pointer (some b)) (.pointer none)).run P w = .ok false w := by simp [Op.equalIn, run_und hu]
theorem eqn_slice {e : TypeId} (hu : P.underlying t = some (.slice e)) (b : Option Addr) (n c n' c' : Nat) : (Op.equalIn (d + 1) t (.slice none n c) (.slice b n' c')).run P w = .ok b.isNone w := by simp [Op.equalIn, run_und hu]
theorem eqn_slice' {e : TypeId} (hu : P.underlying t = some (.slice e)) (b : Addr) (n c n' c' : Nat) : (Op.equalIn (d + 1) t (.slice (some b) n c) (.slice none n' c')).run P w = .ok false w := by simp [Op.equalIn, run_und hu]
theorem eqn_func {a b : Array TypeId} {v : Bool} (hu : P.underlying t = some (.func a b v)) : (Op.equalIn (d + 1) t .nilFunc .nilFunc).run P w = .ok true w := by simp [Op.equalIn, run_und hu]
theorem eqn_func1 {a b : Array TypeId} {v : Bool} (hu : P.underlying t = some (.func a b v)) (f : Fn) (x y : Array Value) : (Op.equalIn (d + 1) t .nilFunc (.func f x y)).run P w = .ok false w := by simp [Op.equalIn, run_und hu]
theorem eqn_func2 {a b : Array TypeId} {v : Bool} (hu : P.underlying t = some (.func a b v)) (f : Fn) (x y : Array Value) : (Op.equalIn (d + 1) t (.func f x y) .nilFunc).run P w = .ok false w := by simp [Op.equalIn, run_und hu]
theorem eqn_bool (hu : P.underlying t = some .bool) (a b : Bool) : (Op.equalIn (d + 1) t (.bool a) (.bool b)).run P w = .ok (a == b) w := by simp [Op.equalIn, run_und hu]
end
theorem eq_nil_run (hE : EnvTy E P) {t : TypeId} {x y : AV} {cx cy : Value} {s : Sg} {b : Bool} (hx : conc s x = some cx) (hy : conc s y = some cy) (h : eqNil x y = some b)
 (hk : (∃ e, kindOf E t = .ptr e /\ isPtrV x = true /\ isPtrV y = true) ∨ (∃ e, kindOf E t = .slice e /\ isSliceV x = true /\ isSliceV y = true) ∨ (kindOf E t = .func /\ isFuncV x = true /\ isFuncV y = true)) (w : World) :
 (Op.equal t cx cy).run P w = .ok b w := by
 rcases hk with ⟨e, hk, h1, h2⟩ | ⟨e, hk, h1, h2⟩ | ⟨hk, h1, h2⟩
 ·
  have hu := hE.ptr hk
  rcases isPtrV_or hx h1 with rfl | ⟨p, q, rfl⟩ <;> rcases isPtrV_or hy h2 with rfl | ⟨p', q', rfl⟩
  ·
   cases hx; cases hy; cases h; exact eqn_ptr w 9999 hu _
  ·
   obtain ⟨d, _, rfl⟩ := conc_ptr hy; cases hx; cases h; exact eqn_ptr w 9999 hu _
  ·
   obtain ⟨d, _, rfl⟩ := conc_ptr hx; cases hy; cases h; exact eqn_ptr' w 9999 hu _
  ·
   cases h
 ·
  have hu := hE.slice hk
  rcases isSliceV_or hx h1 with rfl | ⟨p, q, m, c, rfl⟩ | ⟨ad, rfl⟩ <;> rcases isSliceV_or hy h2 with rfl | ⟨p', q', m', c', rfl⟩ | ⟨ad', rfl⟩
  ·
   cases hx; cases hy; cases h; exact eqn_slice w 9999 hu _ _ _ _ _
  ·
   obtain ⟨d, _, _, rfl, _⟩ := conc_slice hy; cases hx; cases h; exact eqn_slice w 9999 hu _ _ _ _ _
  ·
   cases hx; cases hy; cases h; exact eqn_slice w 9999 hu _ _ _ _ _
  ·
   obtain ⟨d, _, _, rfl, _⟩ := conc_slice hx; cases hy; cases h; exact eqn_slice' w 9999 hu _ _ _ _ _
  ·
   cases h
  ·
   cases h
  ·
   cases hx; cases hy; cases h; exact eqn_slice' w 9999 hu _ _ _ _ _
  ·
   cases h
  ·
   cases h
 ·
  obtain ⟨a1, a2, a3, hu⟩ := hE.func hk
  rcases isFuncV_or h1 with rfl | ⟨p, q, m, rfl⟩ <;> rcases isFuncV_or h2 with rfl | ⟨p', q', m', rfl⟩
  ·
   cases hx; cases hy; cases h; exact eqn_func w 9999 hu
  ·
   obtain ⟨_, _, _, _, rfl⟩ := conc_func hy; cases hx; cases h; exact eqn_func1 w 9999 hu _ _ _
  ·
   obtain ⟨_, _, _, _, rfl⟩ := conc_func hx; cases hy; cases h; exact eqn_func2 w 9999 hu _ _ _
  ·
   cases h
theorem and_true' {a b : Bool} (h : (a && b) = true) : a = true /\ b = true := by simpa using h
theorem eqAV_run (hE : EnvTy E P) {t : TypeId} {x y : AV} {cx cy : Value} {s : Sg} {b : Bool} (hx : conc s x = some cx) (hy : conc s y = some cy) (h : eqAV (kindOf E t) (E.flat t) x y = some b) (w : World) :
 (Op.equal t cx cy).run P w = .ok b w /\ ∀ (op : BinOp) (ox oy : Operand), (eqGuard op t ox oy cx cy).run P w = .ok () w := by
 cases hk : kindOf E t with
 | ptr e =>
  rw [hk] at h
  obtain ⟨hp, h'⟩ := bc_some (show bc (isPtrV x && isPtrV y) (eqNil x y) none = some b from h)
  obtain ⟨hp1, hp2⟩ := and_true' hp
  refine ⟨eq_nil_run hE hx hy h' (.inl ⟨e, hk, hp1, hp2⟩) w, fun op ox oy => eqGuard_other ?_ ?_ w⟩ <;>
   (rcases isPtrV_or hx hp1 with rfl | ⟨p, q, rfl⟩ <;> first | (cases hx; simp; done) | (obtain ⟨_, _, rfl⟩ := conc_ptr hx; simp))
 | slice e =>
  rw [hk] at h
  obtain ⟨hp, h'⟩ := bc_some (show bc (isSliceV x && isSliceV y) (eqNil x y) none = some b from h)
  obtain ⟨hp1, hp2⟩ := and_true' hp
  refine ⟨eq_nil_run hE hx hy h' (.inr (.inl ⟨e, hk, hp1, hp2⟩)) w, fun op ox oy => eqGuard_other ?_ ?_ w⟩ <;>
   (rcases isSliceV_or hx hp1 with rfl | ⟨p, q, m, c, rfl⟩ | ⟨ad, rfl⟩ <;> first | (cases hx; simp; done) | (obtain ⟨_, _, _, rfl, _⟩ := conc_slice hx; simp))
 | func =>
  rw [hk] at h
  obtain ⟨hp, h'⟩ := bc_some (show bc (isFuncV x && isFuncV y) (eqNil x y) none = some b from h)
  obtain ⟨hp1, hp2⟩ := and_true' hp
  refine ⟨eq_nil_run hE hx hy h' (.inr (.inr ⟨hk, hp1, hp2⟩)) w, fun op ox oy => eqGuard_other ?_ ?_ w⟩ <;>
   (rcases isFuncV_or hp1 with rfl | ⟨p, q, m, rfl⟩ <;> first | (cases hx; simp; done) | (obtain ⟨_, _, _, _, rfl⟩ := conc_func hx; simp))
 | bool =>
  rw [hk] at h
  obtain ⟨p, hp, h'⟩ := obind_some (show ((asBoolV x).obind fun a => (asBoolV y).omap fun b => boolEq a b) = some b from h)
  obtain ⟨q, hq, rfl⟩ := omap_some h'
  obtain rfl := asBoolV_some hp
  obtain rfl := asBoolV_some hq
  obtain rfl := conc_bool hx
  obtain rfl := conc_bool hy
  have hu := hE.bool hk
  refine ⟨?_, fun op ox oy => eqGuard_other (by simp) (by simp) w⟩
  rw [boolEq_eq]
  exact eqn_bool w 9999 hu _ _
 | struct fs =>
  rw [hk] at h
  have h' : eqAgg (E.flat t) x y = some b := h
  cases hf : E.flat t with
  | none => rw [hf] at h'; cases h'
  | some p =>
   rw [hf] at h'
   obtain ⟨l, hl, h1⟩ := obind_some (show ((asAggV x).obind fun l => (asAggV y).obind fun r => bc (Nat.beq (lenL l) p.2) (cellsEq p.1 l r) none) = some b from h')
   obtain ⟨r, hr, h2⟩ := obind_some h1
   obtain ⟨hn, he⟩ := bc_some h2
   obtain rfl := asAggV_some hl
   obtain rfl := asAggV_some hr
   obtain ⟨xs, hxs, rfl⟩ := conc_agg hx
   obtain ⟨ys, hys, rfl⟩ := conc_agg hy
   obtain ⟨hfl, hsz⟩ := hE.flat t p hf
   obtain ⟨gs, hu, _⟩ := hE.struct hk
   have hlen : l.length = P.cellsOf t := by rw [<- lenL_eq, <- hsz]; exact Nat.eq_of_beq_eq_true hn
   have hrun := flat_eq 8 t hfl l r b s xs ys 10000 w (by omega) he hlen hxs hys
   simp only [valOf, hu, aggOf, if_true] at hrun
   exact ⟨hrun, fun op ox oy => run_eqGuard_agg w op t ox oy _ _ (flat_noGuard 8 _ _ hE.depth hfl)⟩
 | array n e =>
  rw [hk] at h
  have h' : eqAgg (E.flat t) x y = some b := h
  cases hf : E.flat t with
  | none => rw [hf] at h'; cases h'
  | some p =>
   rw [hf] at h'
   obtain ⟨l, hl, h1⟩ := obind_some (show ((asAggV x).obind fun l => (asAggV y).obind fun r => bc (Nat.beq (lenL l) p.2) (cellsEq p.1 l r) none) = some b from h')
   obtain ⟨r, hr, h2⟩ := obind_some h1
   obtain ⟨hn, he⟩ := bc_some h2
   obtain rfl := asAggV_some hl
   obtain rfl := asAggV_some hr
   obtain ⟨xs, hxs, rfl⟩ := conc_agg hx
   obtain ⟨ys, hys, rfl⟩ := conc_agg hy
   obtain ⟨hfl, hsz⟩ := hE.flat t p hf
   have hu := hE.array hk
   have hlen : l.length = P.cellsOf t := by rw [<- lenL_eq, <- hsz]; exact Nat.eq_of_beq_eq_true hn
   have hrun := flat_eq 8 t hfl l r b s xs ys 10000 w (by omega) he hlen hxs hys
   simp only [valOf, hu, aggOf, if_true] at hrun
   exact ⟨hrun, fun op ox oy => run_eqGuard_agg w op t ox oy _ _ (flat_noGuard 8 _ _ hE.depth hfl)⟩
 | _ => rw [hk] at h; cases h
def notNum (c : Value) : Prop := (∃ b, c = .bool b) ∨ (∃ a, c = .pointer a) ∨ (∃ a n m, c = .slice a n m) ∨ (∃ f a b, c = .func f a b) ∨ c = .nilFunc ∨ (∃ t v, c = .iface t v) ∨ c = .nilIface ∨ (∃ l, c = .agg l) ∨ ∃ l, c = .tuple l
theorem conc_notNum {s : Sg} {x : AV} {c : Value} (h1 : asIntV x = none) (h2 : asStrV x = none) (h : conc s x = some c) : notNum c := by
 unfold notNum
 cases x with
 | int k n => cases h1
 | str l => cases h2
 | bool b => cases h; simp
 | nilp => cases h; simp
 | ptr b o => obtain ⟨_, _, rfl⟩ := conc_ptr h; simp
 | nils => cases h; simp
 | slice b o n c => obtain ⟨_, _, _, rfl, _⟩ := conc_slice h; simp
 | func f a c => obtain ⟨_, _, _, _, rfl⟩ := conc_func h; simp
 | yield l => obtain ⟨d, _, rfl⟩ := map_some (show (s.mu l).map _ = some c from h); simp
 | nilf => cases h; simp
 | iface t v => simp only [conc] at h; obtain ⟨y, _, rfl⟩ := map_some h; simp
 | nili => cases h; simp
 | agg l => obtain ⟨_, _, rfl⟩ := conc_agg h; simp
 | tuple l => obtain ⟨_, _, rfl⟩ := conc_tuple h; simp
 | lst n l => simp only [conc] at h; cases h
 | ept l o => simp only [conc] at h; cases h
 | esl a => cases h; simp
theorem binOp_eq {c : Value} (h : notNum c) (t : TypeId) (d : Value) : binOp .eql t c d = (do pure (.bool (<- Op.equal t c d))) /\ binOp .neq t c d = (do pure (.bool (!(<- Op.equal t c d)))) := by
 rcases h with ⟨_, rfl⟩ | ⟨_, rfl⟩ | ⟨_, _, _, rfl⟩ | ⟨_, _, _, rfl⟩ | rfl | ⟨_, _, rfl⟩ | rfl | ⟨_, rfl⟩ | ⟨_, rfl⟩ <;> exact ⟨rfl, rfl⟩
theorem binAV_run (hE : EnvTy E P) {t : TypeId} {op : BinOp} {x y : AV} {cx cy : Value} {s : Sg} {v : AV} (hx : conc s x = some cx) (hy : conc s y = some cy) (h : binAV (kindOf E t) (E.flat t) op x y = some v) (w : World) (ox oy : Operand) :
 ∃ c, conc s v = some c /\ (do eqGuard op t ox oy cx cy; binOp op t cx cy : Sem Value).run P w = .ok c w := by
 unfold binAV at h
 cases hi : asIntV x with
 | some p =>
  rw [hi, oe_some] at h
  obtain rfl := asIntV_some hi
  obtain rfl := conc_int hx
  have hg := fun w => eqGuard_other (P := P) (op := op) (t := t) (x := ox) (y := oy) (a := .int p.1 p.2) (b := cy) (by simp) (by simp) w
  unfold binInt binIntC at h
  cases hs : isShift op with
  | true =>
   rw [hs] at h
   obtain ⟨q, hq, h2⟩ := obind_some h
   obtain rfl := asIntV_some hq
   obtain rfl := conc_int hy
   obtain ⟨c, hc, hr⟩ := run_shiftI (P := P) (yk := q.1) h2 t w s
   exact ⟨c, hc, by simp only [Sem.run_bind, hg, Result.andThen_ok, hr]⟩
  | false =>
   rw [hs] at h
   obtain ⟨q, hq, h2⟩ := obind_some h
   obtain ⟨hk, h3⟩ := bc_some h2
   obtain rfl := asIntV_some hq
   obtain rfl := conc_int hy
   obtain ⟨c, hc, hr⟩ := run_intBin (P := P) h3 t w s
   rw [kindEq_eq] at hk
   exact ⟨c, hc, by simp only [Sem.run_bind, hg, Result.andThen_ok]; rw [<- hk]; exact hr⟩
 | none =>
  rw [hi, oe_none] at h
  cases hs : asStrV x with
  | some a =>
   rw [hs, oe_some] at h
   obtain ⟨b, hb, h2⟩ := obind_some h
   obtain rfl := asStrV_some hs
   obtain rfl := asStrV_some hb
   obtain rfl := conc_str hx
   obtain rfl := conc_str hy
   have hg := fun w => eqGuard_other (P := P) (op := op) (t := t) (x := ox) (y := oy) (a := .string ⟨a.toArray⟩) (b := .string ⟨b.toArray⟩) (by simp) (by simp) w
   cases op <;> first | (cases h2; done) | skip
   ·
    -- add
    have h3 : (match Nat.ble (Nat.add a.length b.length) 1048576 with | true => some (AV.str (a ++ b)) | false => none) = some v := h2
    split at h3
    ·
     rename_i hle
     cases h3
     rw [ble_iff] at hle
     have hle : a.length + b.length ≤ 1048576 := hle
     refine ⟨_, rfl, ?_⟩
     simp only [Sem.run_bind, hg, Result.andThen_ok]
     simp only [binOp, Op.stringOp, Sem.run_ite]
     rw [if_neg (by simp [ByteArray.size, IntKind.max, IntKind.signed, IntKind.bits]; omega)]
     simp only [Sem.run_pure]
     have : (⟨a.toArray⟩ ++ ⟨b.toArray⟩ : ByteArray) = ⟨(a ++ b).toArray⟩ := by
      apply ByteArray.ext
      simp [ByteArray.data_append]
     rw [this]
    ·
     cases h3
   ·
    cases h2
    refine ⟨_, rfl, ?_⟩
    simp only [Sem.run_bind, hg, Result.andThen_ok]
    simp [binOp, Op.stringOp, strEq_eq, byteArray_toList]
   ·
    cases h2
    refine ⟨_, rfl, ?_⟩
    simp only [Sem.run_bind, hg, Result.andThen_ok]
    simp [binOp, Op.stringOp, strEq_eq, byteArray_toList]
  | none =>
   rw [hs, oe_none] at h
   have hbe : ∀ (r : Bool), (Op.equal t cx cy).run P w = .ok r w -> (binOp .eql t cx cy).run P w = .ok (.bool r) w /\ (binOp .neq t cx cy).run P w = .ok (.bool (!r)) w := by
    intro r hr
    obtain ⟨h1, h2⟩ := binOp_eq (conc_notNum hi hs hx) t cy
    rw [h1, h2]
    simp only [Sem.run_bind, hr, Result.andThen_ok, Sem.run_pure]
    exact ⟨trivial, trivial⟩
   cases op <;> first | (cases h; done) | skip
   ·
    obtain ⟨b, hb, rfl⟩ := omap_some (show (eqAV (kindOf E t) (E.flat t) x y).omap AV.bool = some v from h)
    obtain ⟨hr, hg⟩ := eqAV_run hE hx hy hb w
    exact ⟨_, rfl, by simp only [Sem.run_bind, hg, Result.andThen_ok]; exact (hbe b hr).1⟩
   ·
    obtain ⟨b, hb, rfl⟩ := omap_some (show (eqAV (kindOf E t) (E.flat t) x y).omap (fun b => AV.bool (!b)) = some v from h)
    obtain ⟨hr, hg⟩ := eqAV_run hE hx hy hb w
    exact ⟨_, rfl, by simp only [Sem.run_bind, hg, Result.andThen_ok]; exact (hbe b hr).2⟩
/-! A part of a struct or an array. -/
theorem takeE_some {n : Nat} {l r : List AV} (h : takeE n l = some r) : n ≤ l.length /\ r = l.take n := by
 rw [takeE_eq] at h
 split at h
 ·
  rename_i hn; cases h; exact ⟨hn, rfl⟩
 ·
  cases h
theorem partAV_run (hE : EnvTy E P) {t : TypeId} {cs : List AV} {off : Nat} {v : AV} {s : Sg} {xs : List Value} (h : partAV E t cs off = some v) (hx : concL s cs = some xs) (w : World) :
 ∃ c, conc s v = some c /\ (part t xs.toArray off).run P w = .ok c w := by
 unfold partAV at h
 cases hi : E.ty t with
 | none => rw [hi] at h; cases h
 | some i =>
  rw [hi] at h
  simp only at h
  obtain ⟨d, hd, ha⟩ := hE.agg hi
  have hs := hE.sizeT hi w
  have hsz : Ev.sizeT E t = i.size := by simp [Ev.sizeT, hi]
  rw [hsz] at hs
  cases hag : i.agg with
  | true =>
   rw [hag] at h
   simp only at h
   obtain ⟨r, hr, rfl⟩ := omap_some h
   obtain ⟨hle, rfl⟩ := takeE_some hr
   rw [dropL_eq]
   refine ⟨.agg ((xs.drop off).take i.size).toArray, ?_, ?_⟩
   ·
    simp only [conc, concL_take (concL_drop hx off) i.size, Option.map_some]
   ·
    simp only [part, Sem.run_bind, run_isAgg hd, Result.andThen_ok]
    rw [<- ha, hag]
    simp [hs, Nat.add_sub_cancel_left]
  | false =>
   rw [hag] at h
   simp only at h
   rw [getL_eq] at h
   obtain ⟨c, hc, hcv⟩ := concL_get hx h
   refine ⟨c, hcv, ?_⟩
   simp only [part, Sem.run_bind, run_isAgg hd, Result.andThen_ok]
   rw [<- ha, hag]
   simp [hc]
/-! Building a struct or an array of its parts. -/
theorem overlay_foldl : ∀ (vs : List Value) (j off : Nat) (cs : Array Value), off + j + vs.length ≤ cs.size ->
 ((vs.zipIdx j).foldl (fun a (p : Value × Nat) => a.setIfInBounds (off + p.2) p.1) cs).toList = cs.toList.take (off + j) ++ (vs ++ cs.toList.drop (off + j + vs.length))
 | [], j, off, cs, h => by simp
 | v :: vs, j, off, cs, h => by
  simp only [List.length_cons] at h
  rw [List.zipIdx_cons, List.foldl_cons, overlay_foldl vs (j + 1) off _ (by simp; omega)]
  have e1 : (cs.setIfInBounds (off + j) v).toList = cs.toList.set (off + j) v := by simp
  rw [e1]
  have e2 : off + (j + 1) = off + j + 1 := by omega
  rw [e2, List.take_set, List.drop_set]
  have hlen : off + j < cs.toList.length := by simp; omega
  have hmin : min (off + j) cs.size = off + j := by simp at hlen; omega
  rw [if_pos (by omega), List.take_succ_eq_append_getElem hlen]
  simp only [List.length_cons, List.cons_append]
  rw [List.set_append_right _ _ (by simp; omega)]
  simp [hmin, Nat.add_assoc, Nat.add_comm 1]
theorem setE_some {new l r : List AV} {off : Nat} (h : setE new off l = some r) : off + new.length ≤ l.length /\ r = l.take off ++ (new ++ l.drop (off + new.length)) := by
 rw [setE_eq] at h
 split at h
 ·
  rename_i hn; cases h; exact ⟨by omega, rfl⟩
 ·
  cases h
theorem concL_setE {s : Sg} {new l r : List AV} {off : Nat} {ns xs : List Value} (h : setE new off l = some r) (hn : concL s new = some ns) (hx : concL s l = some xs) :
 off + ns.length ≤ xs.length /\ concL s r = some (xs.take off ++ (ns ++ xs.drop (off + ns.length))) := by
 obtain ⟨hle, rfl⟩ := setE_some h
 have h1 := concL_length hn
 have h2 := concL_length hx
 refine ⟨by omega, ?_⟩
 exact concL_append.2 ⟨_, _, concL_take hx off, concL_append.2 ⟨_, _, hn, by rw [h1]; exact concL_drop hx _, rfl⟩, rfl⟩
theorem fillParts_cons (M : Nat) (place : Nat -> Option (Nat × Nat)) (T : Tm) (p : Nat × Operand) (ps : List (Nat × Operand)) (cs : List AV) :
 fillParts M place T (p :: ps) cs = (place p.1).bind fun q => (evO M p.2 T).bind fun v => match Nat.beq (lenL v.cells) q.2 with | true => (setE v.cells q.1 cs).bind (fillParts M place T ps) | false => none := by
 have h : fillParts M place T (p :: ps) cs = (place p.1).obind fun q => (evO M p.2 T).obind fun v => match Nat.beq (lenL v.cells) q.2 with | true => (setE v.cells q.1 cs).obind (fillParts M place T ps) | false => none := rfl
 rw [h]; simp only [obind_eq]
theorem fillParts_run {M : Nat} {place cplace : Nat -> Option (Nat × Nat)} (hp : ∀ i q, place i = some q -> cplace i = some q) {T : Tm} {s : Sg} {ct : Array Value} (hT : TRel s M T ct) :
 ∀ (ps : List (Nat × Operand)) (cs r : List AV) (xs : List Value), fillParts M place T ps cs = some r -> concL s cs = some xs ->
  ∃ ys, concL s r = some ys /\ Instr.fill cplace xs.toArray (ps.map fun p => (p.1, opv ct p.2)) = some ys.toArray
 | [], cs, r, xs, h, hx => by cases h; exact ⟨xs, hx, rfl⟩
 | p :: ps, cs, r, xs, h, hx => by
  rw [fillParts_cons] at h
  obtain ⟨q, hq, h1⟩ := bind_some h
  obtain ⟨v, hv, h2⟩ := bind_some h1
  have hc := evO_conc hT hv
  have hcc := concL_cells hc
  split at h2
  case h_2 => cases h2
  rename_i hb
  obtain ⟨cs', hcs, h3⟩ := bind_some h2
  obtain ⟨hle, hcs'⟩ := concL_setE hcs hcc hx
  obtain ⟨ys, hys, hf⟩ := fillParts_run hp hT ps cs' r _ h3 hcs'
  refine ⟨ys, hys, ?_⟩
  have hsz : (opv ct p.2).cells.size = q.2 := by
   have h4 := concL_length hcc
   have h5 : lenL v.cells = q.2 := Nat.eq_of_beq_eq_true hb
   rw [lenL_eq] at h5
   rw [<- h5, <- h4]; simp
  simp only [List.map_cons, Instr.fill, hp _ _ hq]
  have hle' : q.1 + (opv ct p.2).cells.size ≤ xs.length := by simpa using hle
  rw [if_neg (by simp [hsz]; omega)]
  rw [<- hf]
  congr 1
  apply Array.ext'
  have := overlay_foldl (opv ct p.2).cells.toList 0 q.1 xs.toArray (by simpa using hle')
  rw [<- Array.foldl_toList, Array.toList_zipIdx]
  simpa using this
end Go.Ev
namespace Go.Ev
variable {P : Program} {E : Env}
theorem natOf_conc {s : Sg} {x : AV} {n : Nat} {c : Value} (h : natOf x = some n) (hc : conc s x = some c) : ∃ k, c = .int k (n : Int) := by
 obtain ⟨k, rfl⟩ := natOf_some h
 exact ⟨k, conc_int hc⟩
theorem idxAddr_run (hE : EnvTy E P) {s : Sg} {t : TypeId} {x i v : AV} {cx ci : Value} {n : Nat} (hx : conc s x = some cx) (hi : conc s i = some ci) (hn : natOf i = some n)
 (h : idxAddr (kindOf E t) E x n = some v) (w : World) : ∃ c, conc s v = some c /\ (Instr.indexAt t cx ci).run P w = .ok c w := by
 obtain ⟨k, rfl⟩ := natOf_conc hn hi
 cases hk : kindOf E t with
 | array m e =>
  rw [hk] at h
  obtain ⟨hlt, h2⟩ := bc_some (show bc (Nat.blt n m) (ptrAdd x (Nat.mul n (sizeT E e))) none = some v from h)
  rw [blt_iff] at hlt
  rw [ptrAdd_c hx] at h2
  obtain ⟨q, hq, rfl⟩ := omap_some h2
  obtain rfl := asPtr_some hq
  obtain ⟨d, hd, rfl⟩ := conc_ptr hx
  have hu := hE.array hk
  refine ⟨.pointer (some ⟨d, q.2 + n * sizeT E e, none⟩), by simp [conc, hd], ?_⟩
  simp only [Instr.indexAt, asIntOf, Instr.sureAddr, Sem.run_bind, Sem.run_pure, Result.andThen_ok, run_und hu, hE.elSize (.inr ⟨m, hk⟩)]
  rw [if_pos (by omega)]
  simp [hE.elSize (.inr ⟨m, hk⟩), addr_add]
 | slice e =>
  rw [hk] at h
  replace h := show (oe (asSlice x) (lstAt (sizeT E e) x n) fun q => bc (Nat.blt n q.2.2.1) (some (AV.ptr q.1 (Nat.add q.2.1 (Nat.mul n (sizeT E e))))) none) = some v from h
  rw [lstAt_c hx, oe_none2] at h
  obtain ⟨q, hq, h1⟩ := obind_some h
  obtain ⟨hlt, h2⟩ := bc_some h1
  rw [blt_iff] at hlt
  cases h2
  obtain rfl := asSlice_some hq
  have hu := hE.slice hk
  obtain ⟨b, o, m, c⟩ := q
  simp only at hlt hx
  have hcx : ∃ d c', cx = .slice (some ⟨d, o, none⟩) m c' /\ s.mu b = some d := by
   simp only [conc] at hx
   cases c with
   | ex c =>
    simp only [sliceC] at hx
    split at hx
    ·
     obtain ⟨d, hd, rfl⟩ := map_some hx; exact ⟨_, _, rfl, hd⟩
    ·
     cases hx
   | rest e sz lb =>
    simp only [sliceC] at hx
    split at hx
    ·
     obtain ⟨d, hd, rfl⟩ := map_some hx; exact ⟨_, _, rfl, hd⟩
    ·
     cases hx
   | tail e l sz z =>
    simp only [sliceC] at hx
    split at hx
    ·
     rename_i hm; omega
    ·
     cases hx
  obtain ⟨d, c', rfl, hd⟩ := hcx
  refine ⟨.pointer (some ⟨d, o + n * sizeT E e, none⟩), by simp [conc, hd], ?_⟩
  simp only [Instr.indexAt, asIntOf, Instr.sureAddr, Sem.run_bind, Sem.run_pure, Result.andThen_ok, run_und hu]
  rw [if_pos (by omega)]
  simp [hE.elSize (.inl hk), addr_add]
 | _ => rw [hk] at h; cases h
theorem idxVal_run (hE : EnvTy E P) {s : Sg} {t : TypeId} {x i v : AV} {cx ci : Value} {n : Nat} (hx : conc s x = some cx) (hi : conc s i = some ci) (hn : natOf i = some n)
 (h : idxVal (kindOf E t) E x n = some v) (w : World) : ∃ c, conc s v = some c /\ (Instr.index t cx ci).run P w = .ok c w := by
 obtain ⟨k, rfl⟩ := natOf_conc hn hi
 cases hk : kindOf E t with
 | string =>
  rw [hk] at h
  obtain ⟨l, hl, h1⟩ := obind_some (show ((asStrV x).obind fun s => (s[n]?).omap fun c => AV.int .u8 (.ofNat c.toNat)) = some v from h)
  obtain ⟨c, hc, rfl⟩ := omap_some h1
  obtain rfl := asStrV_some hl
  obtain rfl := conc_str hx
  have hu := hE.string hk
  refine ⟨_, rfl, ?_⟩
  have hg : (ByteArray.mk l.toArray)[n]? = some c := by
   obtain ⟨hlt, he⟩ := List.getElem?_eq_some_iff.1 hc
   have hlt' : n < (ByteArray.mk l.toArray).size := by simpa [ByteArray.size] using hlt
   rw [getElem?_pos _ n hlt', <- he]
   rfl
  simp [Instr.index, asIntOf, run_und hu, hg]
 | array m e =>
  rw [hk] at h
  obtain ⟨l, hl, h1⟩ := obind_some (show ((asAggV x).obind fun cs => bc (Nat.blt n m) (partAV E e cs (Nat.mul n (sizeT E e))) none) = some v from h)
  obtain ⟨hlt, h2⟩ := bc_some h1
  rw [blt_iff] at hlt
  obtain rfl := asAggV_some hl
  obtain ⟨xs, hxs, rfl⟩ := conc_agg hx
  obtain ⟨c, hc, hr⟩ := partAV_run hE h2 hxs w
  have hu := hE.array hk
  refine ⟨c, hc, ?_⟩
  simp only [Instr.index, asIntOf, Sem.run_bind, Sem.run_pure, Result.andThen_ok, run_und hu]
  rw [if_pos (by omega)]
  simp only [Sem.run_bind, hE.elSize (.inr ⟨m, hk⟩), Result.andThen_ok, Int.toNat_natCast]
  exact hr
 | _ => rw [hk] at h; cases h
theorem lenAV_run (hE : EnvTy E P) {s : Sg} {t ty : TypeId} {ts : Array TypeId} {x v : AV} {c : Value} (ht : ts[0]? = some t) (hx : conc s x = some c) (h : lenAV (kindOf E t) E x = some v) (w : World) :
 ∃ c', conc s v = some c' /\ (Builtin.len_ ts ty #[c]).run P w = .ok c' w := by
 cases hk : kindOf E t with
 | string =>
  rw [hk] at h
  obtain ⟨l, hl, rfl⟩ := omap_some (show ((asStrV x).omap fun s => AV.int .i64 (.ofNat s.length)) = some v from h)
  obtain rfl := asStrV_some hl
  obtain rfl := conc_str hx
  refine ⟨.int .i64 l.length, rfl, ?_⟩
  unfold Builtin.len_
  simp only [ht, List.getElem?_toArray, List.getElem?_cons_zero, Sem.run_bind, run_und (hE.string hk), Result.andThen_ok, goInt, Sem.run_pure]
  rfl
 | array n e =>
  rw [hk] at h
  cases (show some (AV.int .i64 (.ofNat n)) = some v from h)
  refine ⟨.int .i64 n, rfl, ?_⟩
  unfold Builtin.len_
  simp only [ht, List.getElem?_toArray, List.getElem?_cons_zero, Sem.run_bind, run_und (hE.array hk), Result.andThen_ok]
  cases c <;> simp only [goInt, Sem.run_pure]
 | ptr a =>
  rw [hk] at h
  have h' : (match kindOf E a with | .array n _ => some (AV.int .i64 (.ofNat n)) | _ => none) = some v := h
  split at h'
  ·
   rename_i n e hka
   cases h'
   refine ⟨.int .i64 n, rfl, ?_⟩
   unfold Builtin.len_
   simp only [ht, List.getElem?_toArray, List.getElem?_cons_zero, Sem.run_bind, run_und (hE.ptr hk), Result.andThen_ok]
   cases c <;> simp only [Sem.run_bind, run_und (hE.array hka), Result.andThen_ok, goInt, Sem.run_pure]
  ·
   cases h'
 | slice e =>
  rw [hk] at h
  have h' : oe (asSlice x) (bc (isNils x) (some (AV.int .i64 (.ofNat 0))) ((asLst x).omap fun q => .int .i64 (.ofNat (lenL q.2)))) (fun q => some (AV.int .i64 (.ofNat q.2.2.1))) = some v := h
  rw [no_lst hx] at h'
  cases hs : asSlice x with
  | none =>
   rw [hs, oe_none] at h'
   obtain ⟨hn, h2⟩ := bc_some h'
   rcases isNils_true hn with rfl | ⟨ad, rfl⟩ <;> cases h2 <;> cases hx <;> exact ⟨_, rfl, by unfold Builtin.len_; simp [ht, run_und (hE.slice hk), goInt]⟩
  | some q =>
   rw [hs, oe_some] at h'
   obtain rfl := asSlice_some hs
   obtain ⟨d, o, c', rfl, _⟩ := conc_slice hx
   cases h'
   exact ⟨_, rfl, by unfold Builtin.len_; simp [ht, run_und (hE.slice hk), goInt]⟩
 | _ => rw [hk] at h; cases h
theorem capAV_run (hE : EnvTy E P) {s : Sg} {t ty : TypeId} {ts : Array TypeId} {x v : AV} {c : Value} (ht : ts[0]? = some t) (hx : conc s x = some c) (h : capAV (kindOf E t) x = some v) (w : World) :
 ∃ c', conc s v = some c' /\ (Builtin.cap_ ts ty #[c]).run P w = .ok c' w := by
 cases hk : kindOf E t with
 | slice e =>
  rw [hk] at h
  have h' : oe (asSlice x) (bc (isNils x) (some (AV.int .i64 (.ofNat 0))) none) (fun q => capX q.2.2.2) = some v := h
  cases hs : asSlice x with
  | none =>
   rw [hs, oe_none] at h'
   obtain ⟨hn, h2⟩ := bc_some h'
   rcases isNils_true hn with rfl | ⟨ad, rfl⟩ <;> cases h2 <;> cases hx <;> exact ⟨_, rfl, by simp [Builtin.cap_, ht, run_und (hE.slice hk), goInt]⟩
  | some q =>
   rw [hs, oe_some] at h'
   obtain rfl := asSlice_some hs
   obtain ⟨b, o, n, cp⟩ := q
   cases cp with
   | ex k =>
    cases (show some (AV.int .i64 (.ofNat k)) = some v from h')
    simp only [conc, sliceC] at hx
    split at hx
    ·
     obtain ⟨d, hd, rfl⟩ := map_some hx
     exact ⟨_, rfl, by simp [Builtin.cap_, ht, run_und (hE.slice hk), goInt]⟩
    ·
     cases hx
   | rest => cases h'
   | tail => cases h'
 | _ => rw [hk] at h; cases h
theorem minI_eq (a b : Int) : minI a b = if b < a then b else a := by
 unfold minI; rw [ilt_eq]; by_cases h : b < a <;> simp [h]
theorem maxI_eq (a b : Int) : maxI a b = if a < b then b else a := by
 unfold maxI; rw [ilt_eq]; by_cases h : a < b <;> simp [h]
theorem mmL_cons (f : Int -> Int -> Int) (k : IntKind) (x : AV) (l : List AV) (a : Int) : mmL f k (x :: l) a = (asIntV x).bind fun p => bc (kindEq k p.1) (mmL f k l (f a p.2)) none := by
 have h : mmL f k (x :: l) a = (asIntV x).obind fun p => bc (kindEq k p.1) (mmL f k l (f a p.2)) none := rfl
 rw [h, obind_eq]
theorem mm_run {f : Int -> Int -> Int} {g : Value -> Value -> Sem Value} (hg : ∀ k a b, g (.int k a) (.int k b) = pure (.int k (f a b))) {s : Sg} {k : IntKind} :
 ∀ (l : List AV) (a : Int) (v : AV) (xs : List Value), mmL f k l a = some v -> concL s l = some xs -> ∀ w, ∃ c, conc s v = some c /\ (xs.foldlM g (.int k a)).run P w = .ok c w
 | [], a, v, xs, h, hx, w => by
  cases h; cases hx; exact ⟨_, rfl, rfl⟩
 | x :: l, a, v, xs, h, hx, w => by
  rw [mmL_cons] at h
  obtain ⟨p, hp, h1⟩ := bind_some h
  obtain ⟨hk, h2⟩ := bc_some h1
  obtain rfl := asIntV_some hp
  obtain ⟨y, r, hy, hr, rfl⟩ := concL_cons.1 hx
  obtain rfl := conc_int hy
  have hk := kindEq_eq.1 hk
  rw [List.foldlM_cons, <- hk, hg]
  simp only [Sem.run_bind, Sem.run_pure, Result.andThen_ok]
  exact mm_run hg l _ v r h2 hr w
theorem mapA (f : Operand -> Value) (a : Array Operand) : (a.toList.map f).toArray = a.map f := by rw [<- Array.toList_map]
theorem mapL (f : Operand -> Value) (a : Array Operand) : a.toList.map f = (a.map f).toList := by simp
theorem evPure_ok (hE : EnvTy E P) {s : Sg} {M : Nat} {T : Tm} {ct : Array Value} (hT : TRel s M T ct) {o : Oper} {v : AV} (h : evPure M o.op E T = some v) (hc : cls o.op E = .pure) (w : World) :
 ∃ c, conc s v = some c /\ (execOp (opv ct) o).run P w = .ok (.value c) w := by
 cases ho : o.op with
 | move x => rw [ho] at h; exact ⟨_, evO_conc hT h, by simp [execOp, ho]⟩
 | assign x => rw [ho] at h; exact ⟨_, evO_conc hT h, by simp [execOp, ho]⟩
 | pick c a b =>
  rw [ho] at h
  obtain ⟨v1, h1, h2⟩ := obind_some (show ((evO M c T).obind fun v => (asBoolV v).obind fun t => bc t (evO M a T) (evO M b T)) = some v from h)
  obtain ⟨t, ht, h3⟩ := obind_some h2
  obtain rfl := asBoolV_some ht
  have e1 := conc_bool (evO_conc hT h1)
  cases t with
  | true => exact ⟨_, evO_conc hT h3, by simp [execOp, ho, e1, asBool]⟩
  | false => exact ⟨_, evO_conc hT h3, by simp [execOp, ho, e1, asBool]⟩
 | nilCheck x =>
  rw [ho] at h
  obtain ⟨v1, h1, h2⟩ := obind_some (show (evO M x T).obind nilChk = some v from h)
  have hv := evO_conc hT h1
  unfold nilChk at h2
  cases hp : asPtr v1 with
  | some q =>
   rw [hp, oe_some] at h2
   cases h2
   obtain rfl := asPtr_some hp
   obtain ⟨d, hd, e⟩ := conc_ptr hv
   exact ⟨_, hv, by simp [execOp, ho, e]⟩
  | none =>
   rw [hp, oe_none] at h2
   cases hq : asCall v1 with
   | none => rw [hq, oe_none, no_ept hv] at h2; cases h2
   | some q =>
    rw [hq, oe_some] at h2
    cases h2
    obtain rfl := asCall_some hq
    obtain ⟨a, b, _, _, e⟩ := conc_func hv
    exact ⟨_, hv, by simp [execOp, ho, e]⟩
 | binOp op t x y yt =>
  rw [ho] at h
  obtain ⟨v1, h1, h2⟩ := obind_some (show ((evO M x T).obind fun x => (evO M y T).obind fun y => binAV (kindOf E t) (E.flat t) op x y) = some v from h)
  obtain ⟨v2, h3, h4⟩ := obind_some h2
  obtain ⟨c, hc, hr⟩ := binAV_run hE (evO_conc hT h1) (evO_conc hT h3) h4 w x y
  exact ⟨c, hc, by simp only [execOp, ho]; rw [Sem.run_bind, hr]; rfl⟩
 | unOp op t x =>
  rw [ho] at h
  obtain ⟨v1, h1, h2⟩ := obind_some (show (evO M x T).obind (unAV op) = some v from h)
  have hv := evO_conc hT h1
  cases op with
  | neg =>
   obtain ⟨p, hp, rfl⟩ := omap_some (show ((asIntV v1).omap fun p => AV.int p.1 (wrapI p.1 (Int.sub 0 p.2))) = some v from h2)
   obtain rfl := asIntV_some hp
   have e := conc_int hv
   have e2 : Int.sub 0 p.2 = 0 - p.2 := rfl
   exact ⟨_, rfl, by simp [execOp, ho, e, Op.unary, Op.intArith, wrapI_eq, e2]⟩
  | not =>
   obtain ⟨p, hp, rfl⟩ := omap_some (show ((asBoolV v1).omap fun b => AV.bool (!b)) = some v from h2)
   obtain rfl := asBoolV_some hp
   have e := conc_bool hv
   exact ⟨_, rfl, by simp [execOp, ho, e, Op.unary]⟩
  | xor => cases h2
  | plus => cases h2
 | convert sT dT x =>
  rw [ho] at h
  obtain ⟨v1, h1, h2⟩ := obind_some (show (evO M x T).obind (convI (kindOf E sT) (kindOf E dT)) = some v from h)
  have hv := evO_conc hT h1
  cases hk : kindOf E sT with
  | int k =>
   rw [hk] at h2
   cases hk2 : kindOf E dT with
   | int k2 =>
    rw [hk2] at h2
    obtain ⟨p, hp, rfl⟩ := omap_some (show ((asIntV v1).omap fun p => AV.int k2 (wrapI k2 p.2)) = some v from h2)
    obtain rfl := asIntV_some hp
    have e := conc_int hv
    exact ⟨_, rfl, by simp [execOp, ho, e, convert, run_und (hE.int hk), run_und (hE.int hk2), Conv.intToInt, wrapI_eq]⟩
   | _ => rw [hk2] at h2; cases h2
  | string =>
   rw [hk] at h2
   cases hk2 : kindOf E dT with
   | string =>
    rw [hk2] at h2
    obtain ⟨p, hp, rfl⟩ := omap_some (show ((asStrV v1).omap AV.str) = some v from h2)
    obtain rfl := asStrV_some hp
    have e := conc_str hv
    exact ⟨_, rfl, by simp [execOp, ho, e, convert, run_und (hE.string hk), run_und (hE.string hk2)]⟩
   | _ => rw [hk2] at h2; cases h2
  | _ => rw [hk] at h2; cases h2
 | makeFunc fn a c =>
  rw [ho] at h
  cases fn with
  | func f =>
   obtain ⟨a', ha, h2⟩ := obind_some (show ((evOs M a.toList T).obind fun a => (evOs M c.toList T).omap fun c => AV.func f a c) = some v from h)
   obtain ⟨c', hc', rfl⟩ := omap_some h2
   have e1 := evOs_conc hT ha
   have e2 := evOs_conc hT hc'
   refine ⟨.func (.func f) (a.map (opv ct)) (c.map (opv ct)), ?_, by simp [execOp, ho, Instr.makeFunc]⟩
   simp [conc, e1, e2, mapA]
  | _ => cases h
 | makeInterface t x =>
  rw [ho] at h
  obtain ⟨hk, h1⟩ := bc_some (show bc (ifaceOk (kindOf E t)) ((evO M x T).omap (AV.iface t ·)) none = some v from h)
  obtain ⟨v1, hv1, rfl⟩ := omap_some h1
  have hv := evO_conc hT hv1
  refine ⟨.iface t (opv ct x), by simp only [conc, hv, Option.map_some], ?_⟩
  have hne : kindOf E t ≠ .other := by intro e; rw [e] at hk; cases hk
  obtain ⟨d, hd, hkd⟩ := hE.und rfl hne
  have : ∀ ms, d ≠ .interface ms := by intro ms e; subst e; rw [<- hkd] at hk; cases hk
  simp only [execOp, ho, Sem.run_bind, Instr.makeInterface, run_und hd, Result.andThen_ok]
  cases d <;> first | rfl | exact absurd rfl (this _)
 | fieldAddr sT x f =>
  rw [ho] at h
  obtain ⟨p, hp, h1⟩ := obind_some (show ((fieldOf (kindOf E sT) f).obind fun p => bc (Nat.blt 0 (sizeT E p.2)) ((evO M x T).obind fun v => ptrAdd v p.1) none) = some v from h)
  obtain ⟨hpos, h2⟩ := bc_some h1
  obtain ⟨v1, hv1, h3⟩ := obind_some h2
  rw [ptrAdd_c (evO_conc hT hv1)] at h3
  obtain ⟨q, hq, rfl⟩ := omap_some h3
  obtain rfl := asPtr_some hq
  obtain ⟨d, hd, e⟩ := conc_ptr (evO_conc hT hv1)
  cases hk : kindOf E sT with
  | struct fs =>
   rw [hk] at hp
   have hp : fs[f]? = some p := hp
   obtain ⟨gs, hu, rfl⟩ := hE.struct hk
   simp only [List.getElem?_map, Option.map_eq_some_iff] at hp
   obtain ⟨g, hg, rfl⟩ := hp
   rw [blt_iff] at hpos
   have hty : ∃ i, E.ty g.type = some i := by
    cases hi : E.ty g.type with
    | some i => exact ⟨i, rfl⟩
    | none => simp [Ev.sizeT, hi] at hpos
   obtain ⟨i, hi⟩ := hty
   have hs := fun w => hE.sizeT hi w
   have hg' : gs[f]? = some g := by simpa using hg
   refine ⟨.pointer (some ⟨d, q.2 + g.offset, none⟩), by simp [conc, hd], ?_⟩
   simp only [execOp, ho, e, Sem.run_bind, Instr.fieldAt, run_und hu, Result.andThen_ok, hg', Instr.sureAddr, Sem.run_pure, fieldPlace, hs, Sem.run_ite]
   have hne : ¬ Ev.sizeT E g.type = 0 := by simp only at hpos; omega
   simp [hne, addr_add]
  | _ => rw [hk] at hp; cases hp
 | field sT x f =>
  rw [ho] at h
  obtain ⟨p, hp, h1⟩ := obind_some (show ((fieldOf (kindOf E sT) f).obind fun p => (evO M x T).obind fun v => (asAggV v).obind fun cs => partAV E p.2 cs p.1) = some v from h)
  obtain ⟨v1, hv1, h2⟩ := obind_some h1
  obtain ⟨cs, hcs, h3⟩ := obind_some h2
  obtain rfl := asAggV_some hcs
  obtain ⟨xs, hxs, e⟩ := conc_agg (evO_conc hT hv1)
  cases hk : kindOf E sT with
  | struct fs =>
   rw [hk] at hp
   have hp : fs[f]? = some p := hp
   obtain ⟨gs, hu, rfl⟩ := hE.struct hk
   simp only [List.getElem?_map, Option.map_eq_some_iff] at hp
   obtain ⟨g, hg, rfl⟩ := hp
   have hg' : gs[f]? = some g := by simpa using hg
   obtain ⟨c, hc', hr⟩ := partAV_run hE h3 hxs w
   refine ⟨c, hc', ?_⟩
   simp only [execOp, ho, e, Sem.run_bind, Instr.field, run_und hu, Result.andThen_ok, hg', asAgg, Sem.run_pure]
   rw [hr]; rfl
  | _ => rw [hk] at hp; cases hp
 | indexAddr t x i =>
  rw [ho] at h
  obtain ⟨v1, h1, h2⟩ := obind_some (show ((evO M x T).obind fun x => (evO M i T).obind fun i => (natOf i).obind fun i => idxAddr (kindOf E t) E x i) = some v from h)
  obtain ⟨v2, h3, h4⟩ := obind_some h2
  obtain ⟨n, hn, h5⟩ := obind_some h4
  obtain ⟨c, hc', hr⟩ := idxAddr_run hE (evO_conc hT h1) (evO_conc hT h3) hn h5 w
  exact ⟨c, hc', by simp only [execOp, ho, Sem.run_bind]; rw [hr]; rfl⟩
 | index t x i =>
  rw [ho] at h
  obtain ⟨v1, h1, h2⟩ := obind_some (show ((evO M x T).obind fun x => (evO M i T).obind fun i => (natOf i).obind fun i => idxVal (kindOf E t) E x i) = some v from h)
  obtain ⟨v2, h3, h4⟩ := obind_some h2
  obtain ⟨n, hn, h5⟩ := obind_some h4
  obtain ⟨c, hc', hr⟩ := idxVal_run hE (evO_conc hT h1) (evO_conc hT h3) hn h5 w
  exact ⟨c, hc', by simp only [execOp, ho, Sem.run_bind]; rw [hr]; rfl⟩
 | slice t x lo hi mx =>
  rw [ho] at h
  obtain ⟨v1, h1, h2⟩ := obind_some (show ((evO M x T).obind fun x => (evOpt M lo T).obind fun lo => (evOpt M hi T).obind fun hi => (evOpt M mx T).obind fun mx => evSlice (kindOf E t) E x lo hi mx) = some v from h)
  obtain ⟨l1, h3, h4⟩ := obind_some h2
  obtain ⟨l2, h5, h6⟩ := obind_some h4
  obtain ⟨l3, h7, h8⟩ := obind_some h6
  obtain ⟨c, hc', hr⟩ := evSlice_ok hE (evO_conc hT h1) (evOpt_conc hT h3) (evOpt_conc hT h5) (evOpt_conc hT h7) h8 w
  exact ⟨c, hc', by simp only [execOp, ho, Sem.run_bind]; rw [hr]; rfl⟩
 | sliceToArrayPointer t x =>
  rw [ho] at h
  cases hk : kindOf E t with
  | array n e =>
   have h' : (match kindOf E t with
    | .array n _ => (evO M x T).obind (s2aV n)
    | _ => none) = some v := h
   rw [hk] at h'
   obtain ⟨v1, hv1, h2⟩ := obind_some h'
   unfold s2aV at h2
   rw [s2aL_c (evO_conc hT hv1), oe_none2] at h2
   obtain ⟨⟨b, o2, m, cp⟩, hq, h3⟩ := obind_some h2
   obtain rfl := asSlice_some hq
   have hv := evO_conc hT hv1
   have hfin : Nat.blt m n = false /\ v = .ptr b o2 /\ ∃ d c', opv ct x = .slice (some ⟨d, o2, none⟩) m c' /\ s.mu b = some d := by
    cases cp with
    | tail => cases h3
    | ex c =>
     have h4 : bc (Nat.blt m n) none (some (AV.ptr b o2)) = some v := h3
     cases hb : Nat.blt m n <;> rw [hb] at h4 <;> cases h4
     simp only [conc, sliceC] at hv
     split at hv
     ·
      obtain ⟨d, hd, e⟩ := map_some hv; exact ⟨rfl, rfl, d, _, e.symm, hd⟩
     ·
      cases hv
    | rest e1 e2 e3 =>
     have h4 : bc (Nat.blt m n) none (some (AV.ptr b o2)) = some v := h3
     cases hb : Nat.blt m n <;> rw [hb] at h4 <;> cases h4
     simp only [conc, sliceC] at hv
     split at hv
     ·
      obtain ⟨d, hd, e⟩ := map_some hv; exact ⟨rfl, rfl, d, _, e.symm, hd⟩
     ·
      cases hv
   obtain ⟨hlt, rfl, d, c', e2, hd⟩ := hfin
   have hlt : ¬ m < n := fun k => by rw [<- blt_iff, hlt] at k; cases k
   refine ⟨.pointer (some ⟨d, o2, none⟩), by simp [conc, hd], ?_⟩
   simp only [execOp, ho, e2, Sem.run_bind, Instr.arrayAt, run_und (hE.array hk), Result.andThen_ok, Sem.run_ite, if_neg hlt, Sem.run_pure]
  | _ =>
   have h' : (match kindOf E t with
    | .array n _ => (evO M x T).obind (s2aV n)
    | _ => none) = some v := h
   rw [hk] at h'; cases h'
 | extract x i =>
  rw [ho] at h
  obtain ⟨v1, hv1, h2⟩ := obind_some (show ((evO M x T).obind fun v => (asTupleV v).obind fun l => getL l i) = some v from h)
  obtain ⟨l, hl, h3⟩ := obind_some h2
  obtain rfl := asTupleV_some hl
  rw [getL_eq] at h3
  obtain ⟨xs, hxs, e⟩ := conc_tuple (evO_conc hT hv1)
  obtain ⟨c, hc', hcv⟩ := concL_get hxs h3
  exact ⟨c, hcv, by simp [execOp, ho, e, Instr.extract, hc']⟩
 | build t ps =>
  rw [ho] at h
  obtain ⟨hk, h1⟩ := bc_some (show bc (isAggK (kindOf E t)) ((zeroT E t).obind fun z => (fillParts M (buildK (kindOf E t) E) T ps.toList z.cells).omap AV.agg) none = some v from h)
  obtain ⟨z, hz, h2⟩ := obind_some h1
  obtain ⟨r, hr, rfl⟩ := omap_some h2
  obtain ⟨i, hi, hzi⟩ := bind_some (show (E.ty t).bind (·.zero) = some z by simpa [zeroT] using hz)
  obtain ⟨j, hj, hsz, _, hzero⟩ := hE.info hi
  obtain ⟨zv, hzv, hzc, _⟩ := hzero z hzi
  have hcz := concL_cells (hzc s)
  cases hkk : kindOf E t with
  | struct fs =>
   obtain ⟨gs, hu, hfs⟩ := hE.struct hkk
   rw [hkk] at hr
   have hsz2 : ∀ g ∈ gs.toList, ∀ w, (sizeOf g.type).run P w = .ok (sizeT E g.type) w := by
    intro g hg w
    obtain ⟨k, hk2⟩ := hE.fld t fs hkk (g.offset, g.type) (by rw [hfs]; exact List.mem_map.2 ⟨g, hg, rfl⟩)
    exact hE.sizeT hk2 w
   have hmap : ∀ (l : List Field), (∀ g ∈ l, ∀ w, (sizeOf g.type).run P w = .ok (sizeT E g.type) w) -> ∀ w, (l.mapM fun f => (do pure (f.offset, <- sizeOf f.type) : Sem (Nat × Nat))).run P w = .ok (l.map fun f => (f.offset, sizeT E f.type)) w := by
    intro l
    induction l with
    | nil => intro _ w; rfl
    | cons g l ih =>
     intro hl w
     rw [List.mapM_cons]
     simp only [Sem.run_bind, hl g (by simp) w, Result.andThen_ok, Sem.run_pure, ih (fun x hx => hl x (by simp [hx])) w, List.map_cons]
   obtain ⟨ys, hys, hf⟩ := fillParts_run (cplace := fun i => (gs.toList.map fun f => (f.offset, sizeT E f.type))[i]?) (fun i q hq => by
    have hq : (fs[i]?).omap (fun p => (p.1, sizeT E p.2)) = some q := hq
    obtain ⟨p, hp, rfl⟩ := omap_some hq
    rw [hfs, List.getElem?_map, Option.map_eq_some_iff] at hp
    obtain ⟨g, hg, rfl⟩ := hp
    rw [List.getElem?_map, hg]; rfl) hT ps.toList z.cells r _ hr hcz
   refine ⟨.agg ys.toArray, by simp [conc, hys], ?_⟩
   have hgs : (gs.mapM fun f => (do pure (f.offset, <- sizeOf f.type) : Sem (Nat × Nat))).run P w = .ok (gs.toList.map fun f => (f.offset, sizeT E f.type)).toArray w := by
    rw [Array.mapM_eq_mapM_toList]
    simp only [Sem.run_map, hmap gs.toList hsz2 w, Result.andThen_ok]
   simp only [execOp, ho, Sem.run_bind, Instr.build, run_zero hj hzv, Result.andThen_ok, run_und hu, hgs]
   have : (Array.map (fun x => (x.1, opv ct x.2)) ps).toList = ps.toList.map fun p => (p.1, opv ct p.2) := by simp
   rw [this]
   have e2 : zv.cells.toList.toArray = zv.cells := by simp
   rw [e2] at hf
   have hfun : (fun i => (gs.toList.map fun f => (f.offset, sizeT E f.type))[i]?) = fun x => Option.map (fun (f : Field) => (f.offset, sizeT E f.type)) gs[(x : Nat)]? := by funext i; simp
   rw [hfun] at hf
   simp
   rw [hf]
   rfl
  | array n e =>
   have hu := hE.array hkk
   rw [hkk] at hr
   obtain ⟨ys, hys, hf⟩ := fillParts_run (cplace := fun i => some (i * sizeT E e, sizeT E e)) (fun i q hq => hq) hT ps.toList z.cells r _ hr hcz
   refine ⟨.agg ys.toArray, by simp [conc, hys], ?_⟩
   simp only [execOp, ho, Sem.run_bind, Instr.build, run_zero hj hzv, Result.andThen_ok, run_und hu, hE.elSize (.inr ⟨n, hkk⟩)]
   have : (Array.map (fun x => (x.1, opv ct x.2)) ps).toList = ps.toList.map fun p => (p.1, opv ct p.2) := by simp
   rw [this]
   have e2 : zv.cells.toList.toArray = zv.cells := by simp
   rw [e2] at hf
   simp [hf]
  | _ => rw [hkk] at hk; cases hk
 | call c =>
  rw [ho] at h
  have h' : (match c.callee with
   | .builtin b => (evOs M c.args.toList T).obind fun as => bltArgs b E as c.argTypes.toList
   | _ => none) = some v := h
  cases hcc : c.callee with
  | builtin b =>
   rw [hcc] at h'
   obtain ⟨as, has, h2⟩ := obind_some h'
   have e1 := evOs_conc hT has
   obtain ⟨ks, hex⟩ : ∃ ks, (execOp (opv ct) o).run P w = (builtin b c.argTypes o.type ks (c.args.map (opv ct))).run P w :=
    ⟨_, by simp only [execOp, ho, Sem.run_bind, resolve, hcc, Sem.run_pure, Result.andThen_ok, invoke]; rfl⟩
   rw [hex]
   rw [mapL] at e1
   cases b with
   | len =>
    cases as with
    | nil => cases h2
    | cons x r =>
     cases r with
     | cons => cases h2
     | nil =>
      cases hts : c.argTypes.toList with
      | nil => rw [hts] at h2; cases h2
      | cons t ts =>
       rw [hts] at h2
       have h3 : lenAV (kindOf E t) E x = some v := h2
       obtain ⟨y, r, hy, hr, hrr⟩ := concL_cons.1 e1
       cases hr
       have ht : c.argTypes[0]? = some t := by rw [<- Array.getElem?_toList, hts]; rfl
       have hargs : c.args.map (opv ct) = #[y] := by rw [<- Array.toArray_toList (xs := c.args.map (opv ct)), hrr]
       obtain ⟨c', hc', hrun⟩ := lenAV_run (ty := o.type) hE ht hy h3 w
       exact ⟨c', hc', by rw [hargs]; simp only [builtin, Sem.run_bind, hrun, Result.andThen_ok, Sem.run_pure]⟩
   | cap =>
    cases as with
    | nil => cases h2
    | cons x r =>
     cases r with
     | cons => cases h2
     | nil =>
      cases hts : c.argTypes.toList with
      | nil => rw [hts] at h2; cases h2
      | cons t ts =>
       rw [hts] at h2
       have h3 : capAV (kindOf E t) x = some v := h2
       obtain ⟨y, r, hy, hr, hrr⟩ := concL_cons.1 e1
       cases hr
       have ht : c.argTypes[0]? = some t := by rw [<- Array.getElem?_toList, hts]; rfl
       have hargs : c.args.map (opv ct) = #[y] := by rw [<- Array.toArray_toList (xs := c.args.map (opv ct)), hrr]
       obtain ⟨c', hc', hrun⟩ := capAV_run (ty := o.type) hE ht hy h3 w
       exact ⟨c', hc', by rw [hargs]; simp only [builtin, Sem.run_bind, hrun, Result.andThen_ok, Sem.run_pure]⟩
   | min =>
    cases as with
    | nil => cases h2
    | cons x l =>
     obtain ⟨p, hp, h4⟩ := obind_some (show ((asIntV x).obind fun p => mmL minI p.1 l p.2) = some v from h2)
     obtain rfl := asIntV_some hp
     obtain ⟨y, r, hy, hr, hrr⟩ := concL_cons.1 e1
     obtain rfl := conc_int hy
     obtain ⟨c', hc', hrun⟩ := mm_run (P := P) (g := Builtin.min2) (fun k a b => by simp only [Builtin.min2, minI_eq]) l p.2 v r h4 hr w
     exact ⟨c', hc', by simp only [builtin, Sem.run_bind, Builtin.min_, hrr, hrun, Result.andThen_ok, Sem.run_pure]⟩
   | max =>
    cases as with
    | nil => cases h2
    | cons x l =>
     obtain ⟨p, hp, h4⟩ := obind_some (show ((asIntV x).obind fun p => mmL maxI p.1 l p.2) = some v from h2)
     obtain rfl := asIntV_some hp
     obtain ⟨y, r, hy, hr, hrr⟩ := concL_cons.1 e1
     obtain rfl := conc_int hy
     obtain ⟨c', hc', hrun⟩ := mm_run (P := P) (g := Builtin.max2) (fun k a b => by simp only [Builtin.max2, maxI_eq, gt_iff_lt]) l p.2 v r h4 hr w
     exact ⟨c', hc', by simp only [builtin, Sem.run_bind, Builtin.max_, hrr, hrun, Result.andThen_ok, Sem.run_pure]⟩
   | _ => cases h2
  | value f => rw [hcc] at h'; cases h'
  | invoke r m => rw [hcc] at h'; cases h'
 | _ => rw [ho] at h; cases h
end Go.Ev
