/-
  The evaluator is right about code and calls. No conditions.
-/
import Derived.Test.YtajekleknljggaaEvC
set_option linter.unusedVariables false
set_option linter.unusedSimpArgs false
namespace Go.Ev
variable {P : Program} {E : Env}
def fAt (b : Frame) (ct : Array Value) (D : List Deferred) (todo : List Item) : Frame := { b with tmps := ct, defers := D, todo := todo }
def putD (ct : Array Value) (d : Option Tmp) (v : Value) : Array Value := match d with | some d => ct.setIfInBounds d v | none => ct
theorem putD_size (ct : Array Value) (d : Option Tmp) (v : Value) : (putD ct d v).size = ct.size := by cases d <;> simp [putD]
section moves
variable {b : Frame} {ct : Array Value} {D : List Deferred} {k : List Item} {cs : List Frame} {w : World}
theorem fAt_eval (x : Operand) : (fAt b ct D k).eval x = opv ct x := by cases x <;> rfl
theorem fAt_eval' : (fAt b ct D k).eval = opv ct := funext fAt_eval
theorem st_skip (hb : b.mode = .run) : step P (lone (fAt b ct D (.code .skip :: k)) cs w) = .next (lone (fAt b ct D k) cs w) :=
 step_lone_go (by simp [stepG, stepG.exec, fAt, hb])
theorem st_label (hb : b.mode = .run) {l : Nat} : step P (lone (fAt b ct D (.code (.label l) :: k)) cs w) = .next (lone (fAt b ct D k) cs w) :=
 step_lone_go (by simp [stepG, stepG.exec, fAt, hb])
theorem st_inBlock (hb : b.mode = .run) {id : Nat} : step P (lone (fAt b ct D (.inBlock id :: k)) cs w) = .next (lone (fAt b ct D k) cs w) :=
 step_lone_go (by simp [stepG, stepG.exec, fAt, hb])
theorem st_inScope (hb : b.mode = .run) {c : Code} : step P (lone (fAt b ct D (.inScope c :: k)) cs w) = .next (lone (fAt b ct D k) cs w) :=
 step_lone_go (by simp [stepG, stepG.exec, fAt, hb])
theorem st_seq (hb : b.mode = .run) {x y : Code} : step P (lone (fAt b ct D (.code (.seq x y) :: k)) cs w) = .next (lone (fAt b ct D (.code x :: .code y :: k)) cs w) :=
 step_lone_go (by simp [stepG, stepG.exec, fAt, hb])
theorem st_cond (hb : b.mode = .run) {c : Operand} {x y : Code} {t : Bool} (h : opv ct c = .bool t) :
 step P (lone (fAt b ct D (.code (.cond c x y) :: k)) cs w) = .next (lone (fAt b ct D (.code (if t then x else y) :: k)) cs w) :=
 step_lone_go (by
  have := fAt_eval (b := b) (ct := ct) (D := D) (k := .code (.cond c x y) :: k) c
  simp only [fAt, hb] at this
  simp [stepG, stepG.exec, fAt, hb, this, h])
theorem st_block (hb : b.mode = .run) {id : Nat} {c : Code} : step P (lone (fAt b ct D (.code (.block id c) :: k)) cs w) = .next (lone (fAt b ct D (.code c :: .inBlock id :: k)) cs w) :=
 step_lone_go (by simp [stepG, stepG.exec, fAt, hb])
theorem st_loop (hb : b.mode = .run) {c : Code} : step P (lone (fAt b ct D (.code (.loop c) :: k)) cs w) = .next (lone (fAt b ct D (.code c :: .inLoop c :: k)) cs w) :=
 step_lone_go (by simp [stepG, stepG.exec, fAt, hb])
theorem st_inLoop (hb : b.mode = .run) {c : Code} : step P (lone (fAt b ct D (.inLoop c :: k)) cs w) = .next (lone (fAt b ct D (.code c :: .inLoop c :: k)) cs w) :=
 step_lone_go (by simp [stepG, stepG.exec, fAt, hb])
theorem st_scope (hb : b.mode = .run) {c : Code} : step P (lone (fAt b ct D (.code (.scope c) :: k)) cs w) = .next (lone (fAt b ct D (.code c :: .inScope c :: k)) cs w) :=
 step_lone_go (by simp [stepG, stepG.exec, fAt, hb])
theorem st_exit (hb : b.mode = .run) {id : Nat} {k' : List Item} (h : exitTo id k = some k') : step P (lone (fAt b ct D (.code (.exit id) :: k)) cs w) = .next (lone (fAt b ct D k') cs w) :=
 step_lone_go (by simp [stepG, stepG.exec, fAt, hb, h])
theorem st_region (hb : b.mode = .run) {id : Nat} {ops : Array Oper} : step P (lone (fAt b ct D (.code (.region id ops false) :: k)) cs w) = .next (lone (fAt b ct D (.inRegion ops (List.range ops.size) :: k)) cs w) :=
 step_lone_go (by simp [stepG, stepG.exec, fAt, hb])
theorem st_draw (hb : b.mode = .run) (hm : P.follows .mixedOrders = true) {id : Nat} {ops : Array Oper} :
 ∃ t, step P (lone (fAt b ct D (.code (.region id ops true) :: k)) cs w) = .next (lone (fAt b ct D (.inRegion ops (Region.linearise .any ops t) :: k)) cs (drewW w)) :=
 ⟨w.tape w.drawn (.order b.fn id), step_lone_go (by simp [stepG, stepG.exec, fAt, hb, choose, Sem.run, Question.forced, Question.cut, Region.schedule, hm, drewW])⟩
theorem st_regionEnd (hb : b.mode = .run) {ops : Array Oper} : step P (lone (fAt b ct D (.inRegion ops [] :: k)) cs w) = .next (lone (fAt b ct D k) cs w) :=
 step_lone_go (by simp [stepG, stepG.exec, fAt, hb])
theorem fAt_finish {ops : Array Oper} {i : Nat} {rest : List Nat} {o : Oper} (ho : ops[i]? = some o) (v : Value) :
 (fAt b ct D (.inRegion ops (i :: rest) :: k)).finish v = fAt b (putD ct o.dst v) D (.inRegion ops rest :: k) := by
 simp only [Frame.finish, fAt, ho, Option.bind_some, putD]
 cases o.dst <;> rfl
theorem st_unwanted (hb : b.mode = .run) {ops : Array Oper} {i : Nat} {rest : List Nat} {o : Oper} (ho : ops[i]? = some o) (hw : Region.wanted o (yielded ops ct) = false) :
 step P (lone (fAt b ct D (.inRegion ops (i :: rest) :: k)) cs w) = .next (lone (fAt b (putD ct o.dst undef) D (.inRegion ops rest :: k)) cs w) := by
 rw [<- fAt_finish ho]
 exact step_lone_go (by
  simp only [fAt] at *
  simp [stepG, stepG.exec, hb, ho, hw])
theorem stG_op (hb : b.mode = .run) {ops : Array Oper} {i : Nat} {rest : List Nat} {o : Oper} (ho : ops[i]? = some o) (hw : Region.wanted o (yielded ops ct) = true) (hd : ∀ c, o.op ≠ .defer c) :
 stepG P true { frame := fAt b ct D (.inRegion ops (i :: rest) :: k), callers := cs, status := .running, dying := none } w =
  stepG.apply P true (fAt b ct D (.inRegion ops (i :: rest) :: k)) cs none (execOp (opv ct) o) w := by
 have he := fAt_eval' (b := b) (ct := ct) (D := D) (k := .inRegion ops (i :: rest) :: k)
 simp only [fAt] at he
 simp only [stepG, stepG.exec, fAt, hb, ho, Option.map_some, hw, Option.getD_some, if_true, stepG.oper, Frame.oper?, he]
 split
 ·
  rename_i h1 h2; exact absurd h2 (hd _)
 ·
  rfl
end moves
structure Cx where
 b : Frame
 D : List Deferred
 k : List Item
 cs : List Frame
 ops : Array Oper
 i : Nat
 rest : List Nat
def Cx.Here (x : Cx) (o : Oper) (ct : Array Value) : Prop := x.b.mode = .run /\ x.ops[x.i]? = some o /\ Region.wanted o (yielded x.ops ct) = true
def Doing (P : Program) (o : Oper) (x : Cx) (ct : Array Value) (w : World) (c : Value) (w' : World) : Prop :=
 Steps P (lone (fAt x.b ct x.D (.inRegion x.ops (x.i :: x.rest) :: x.k)) x.cs w) (lone (fAt x.b (putD ct o.dst c) x.D (.inRegion x.ops x.rest :: x.k)) x.cs w')
theorem Doing.of_leaves {o : Oper} {x : Cx} {ct : Array Value} {w w' : World} {n : Next} {c : Value} (hx : x.Here o ct) (h : (execOp (opv ct) o).run P w = .ok n w') (hl : Leaves n c) (hd : ∀ x, o.op ≠ .defer x) : Doing P o x ct w c w' := by
 obtain ⟨hb, ho, hw⟩ := hx
 refine .one (step_lone_go ?_)
 rw [stG_op hb ho hw hd, <- fAt_finish ho]
 rcases hl with rfl | ⟨rfl, rfl⟩
 ·
  simp [stepG.apply, h]
 ·
  simp [stepG.apply, h]
def Enters (P : Program) (nx : Next) (fr : Frame) : Prop := (∃ f as, nx = .enter f as /\ fr = Frame.enter P f as .normal) ∨ (∃ l f t a b, nx = .round l f t a b /\ fr = Frame.round l f t a b .normal)
def callSem (cf : Value) (args : Array Value) : Sem Next := do let d <- Deferred.ofValue cf args; invoke d.target d.args
def CallOk (P : Program) (E : Env) (call : CallF) : Prop := ∀ (cl : Frame) (cs : List Frame) fv args H v H' s w cf cargs, call fv args H = some (v, H') -> HRel E s H w -> conc s fv = some cf -> concL s args = some cargs ->
 ∃ s' w' c, conc s' v = some c /\ HRel E s' H' w' /\ Ext s H w s' H' w' /\
  ((∃ nx fr, (callSem cf cargs.toArray).run P w = .ok nx w /\ Enters P nx fr /\ Steps P (lone fr (cl :: cs) w) (lone (cl.finish c) cs w')) ∨
   ((callSem cf cargs.toArray).run P w = .ok (.value c) w' /\ ∀ l, args ≠ [.yield l]))
theorem apply_enter {fr fr' : Frame} {cs : List Frame} {m : Sem Next} {w : World} {nx : Next} (h : m.run P w = .ok nx w) (he : Enters P nx fr') (ht : ∀ d r s k, fr.todo ≠ .call d true r s :: k) :
 (stepG.apply P true fr cs none m w).bare = .go { frame := fr', callers := fr :: cs, status := .running, dying := none } w := by
 rcases he with ⟨f, as, rfl, rfl⟩ | ⟨l, f, t, a, b, rfl, rfl⟩
 ·
  simp only [stepG.apply, Sem.runT_eq, if_true, h, GStep.bare_after]
  rfl
 ·
  simp only [stepG.apply, Sem.runT_eq, if_true, h, GStep.bare_after]
  rfl
theorem Doing.of_call {o : Oper} {x : Cx} {ct : Array Value} {w w' : World} {nx : Next} {fr : Frame} {c : Value} (hx : x.Here o ct) (h : (execOp (opv ct) o).run P w = .ok nx w) (he : Enters P nx fr) (hd : ∀ x, o.op ≠ .defer x)
 (hs : Steps P (lone fr (fAt x.b ct x.D (.inRegion x.ops (x.i :: x.rest) :: x.k) :: x.cs) w) (lone ((fAt x.b ct x.D (.inRegion x.ops (x.i :: x.rest) :: x.k)).finish c) x.cs w')) : Doing P o x ct w c w' := by
 obtain ⟨hb, ho, hw⟩ := hx
 have hst : step P (lone (fAt x.b ct x.D (.inRegion x.ops (x.i :: x.rest) :: x.k)) x.cs w) = .next (lone fr (fAt x.b ct x.D (.inRegion x.ops (x.i :: x.rest) :: x.k) :: x.cs) w) := by
  refine step_lone_go ?_
  rw [stG_op hb ho hw hd]
  exact apply_enter h he (fun _ _ _ _ h => by cases h)
 refine .head hst ?_
 rw [<- fAt_finish ho]
 exact hs
theorem putT_ok {s : Sg} {N M : Nat} {T T' : Tm} {ct : Array Value} {d : Option Tmp} {v : AV} {c : Value} (h : putT N M T d v = some T') (k : TRel s M T ct) (hN : ct.size = N) (hc : conc s v = some c) :
 TRel s M T' (putD ct d c) := by
 unfold putT putTC at h
 cases d with
 | none => cases h; exact k
 | some t =>
  simp only at h
  split at h
  ·
   rename_i hb
   have ht : t < ct.size := by rw [hN]; exact (blt_iff _ _).1 hb
   have := TRel.put k ht hc
   split at h
   ·
    rename_i hm; cases h; simpa [Tm.put, hm, putD] using this
   ·
    rename_i hm; cases h; simpa [Tm.put, hm, putD] using this
  ·
   cases h
theorem bltEff_append {H H' : Hp} {as : List AV} {ts : List TypeId} {v : AV} (h : bltEff .append E H as ts = some (v, H')) : ∃ s x t ts', as = [s, x] /\ ts = t :: ts' /\ appArgs E H t ts' s x = some (v, H') := by
 cases as with
 | nil => cases h
 | cons s r => cases r with
  | nil => cases h
  | cons x r => cases r with
   | nil => cases ts with
    | nil => cases h
    | cons t ts => exact ⟨s, x, t, ts, rfl, rfl, h⟩
   | cons _ _ => cases h
theorem bltEff_copy {H H' : Hp} {as : List AV} {ts : List TypeId} {v : AV} (h : bltEff .copy E H as ts = some (v, H')) : ∃ s x t ts', as = [s, x] /\ ts = t :: ts' /\ copyArgs E H t s x = some (v, H') := by
 cases as with
 | nil => cases h
 | cons s r => cases r with
  | nil => cases h
  | cons x r => cases r with
   | nil => cases ts with
    | nil => cases h
    | cons t ts => exact ⟨s, x, t, ts, rfl, rfl, h⟩
   | cons _ _ => cases h
theorem bltEff_clear {H H' : Hp} {as : List AV} {ts : List TypeId} {v : AV} (h : bltEff .clear E H as ts = some (v, H')) : ∃ s t ts', as = [s] /\ ts = t :: ts' /\ clearArgs E H t s = some (v, H') := by
 cases as with
 | nil => cases h
 | cons s r => cases r with
  | nil => cases ts with
   | nil => cases h
   | cons t ts => exact ⟨s, t, ts, rfl, rfl, h⟩
  | cons x r => cases h
theorem evEff_ok (hE : EnvTy E P) {call : CallF} (hcall : CallOk P E call) {s : Sg} {H H' : Hp} {w : World} (r : HRel E s H w) {M : Nat} {T : Tm} {ct : Array Value} (hT : TRel s M T ct) {o : Oper} {v : AV} {x : Cx} (hx : x.Here o ct)
 (h : evEff M o.op E call T H = some (v, H')) :
 ∃ s' w' c, Doing P o x ct w c w' /\ conc s' v = some c /\ HRel E s' H' w' /\ Ext s H w s' H' w' := by
 cases ho : o.op with
 | store t a y0 =>
  rw [ho] at h
  obtain ⟨p, hp, h⟩ := obind_some (show ((evO M a T).obind fun p => (evO M y0 T).obind fun x => storeV E H t p x) = some (v, H') from h)
  obtain ⟨y, hy, h⟩ := obind_some h
  obtain ⟨w', hrun, rfl, r', x'⟩ := store_run' hE r h (evO_conc hT hp) (evO_conc hT hy)
  refine ⟨s, w', undef, Doing.of_leaves (n := .skip) hx ?_ (.inr ⟨rfl, rfl⟩) (fun c hc => by rw [ho] at hc; cases hc), rfl, r', x'⟩
  simp only [execOp, ho, Sem.run_bind, hrun, Result.andThen_ok, Sem.run_pure]
 | call c =>
  rw [ho] at h
  replace h := show (match c.callee with
   | .value f => (evO M f T).obind fun f => (evOs M c.args.toList T).obind fun as => call f as H
   | .builtin b => (evOs M c.args.toList T).obind fun as => bltEff b E H as c.argTypes.toList
   | _ => none) = some (v, H') from (by
    have h' := h
    unfold evEff evEffC at h'
    cases hcal : c.callee <;> simp only [hcal] at h' ⊢ <;> exact h')
  have hd : ∀ x, o.op ≠ .defer x := fun x hx => by rw [ho] at hx; cases hx
  cases hcal : c.callee with
  | value f =>
   rw [hcal] at h
   obtain ⟨fv, hfv, h⟩ := obind_some h
   obtain ⟨as, has, h⟩ := obind_some h
   obtain ⟨s', w', cv, hc, r', x', hans⟩ := hcall (fAt x.b ct x.D (.inRegion x.ops (x.i :: x.rest) :: x.k)) x.cs fv as H v H' s w _ _ h r (evO_conc hT hfv) (evOs_conc hT has)
   rcases hans with ⟨nx, fr, hrun, hent, hs⟩ | ⟨hrun, _⟩
   ·
    refine ⟨s', w', cv, Doing.of_call (nx := nx) (fr := fr) hx ?_ hent hd hs, hc, r', x'⟩
    rw [mapA] at hrun
    simpa only [execOp, ho, resolve, hcal, callSem] using hrun
   ·
    refine ⟨s', w', cv, Doing.of_leaves (n := .value cv) hx ?_ (.inl rfl) hd, hc, r', x'⟩
    rw [mapA] at hrun
    simpa only [execOp, ho, resolve, hcal, callSem] using hrun
  | builtin bb =>
   rw [hcal] at h
   obtain ⟨as, has, h⟩ := obind_some h
   have hasc := evOs_conc hT has
   have key : ∀ (consts : Array Bool) (type : TypeId), Did P E s H w v H' (builtin bb c.argTypes type consts (c.args.map (opv ct))) := by
    intro consts type
    cases bb with
    | append =>
     obtain ⟨sv, x0, t, ts, rfl, hts, h⟩ := bltEff_append h
     obtain ⟨y, r1, hy, hr1, e1⟩ := concL_cons.1 hasc
     obtain ⟨z, r2, hz, hr2, e2⟩ := concL_cons.1 hr1
     cases hr2
     have : c.args.map (opv ct) = #[y, z] := by rw [<- mapA, e1, e2]
     rw [this]
     exact append_run hE r hts h hy hz
    | copy =>
     obtain ⟨sv, x0, t, ts, rfl, hts, h⟩ := bltEff_copy h
     obtain ⟨y, r1, hy, hr1, e1⟩ := concL_cons.1 hasc
     obtain ⟨z, r2, hz, hr2, e2⟩ := concL_cons.1 hr1
     cases hr2
     have : c.args.map (opv ct) = #[y, z] := by rw [<- mapA, e1, e2]
     rw [this]
     exact copy_run hE r hts h hy hz
    | clear =>
     obtain ⟨sv, t, ts, rfl, hts, h⟩ := bltEff_clear h
     obtain ⟨y, r1, hy, hr1, e1⟩ := concL_cons.1 hasc
     cases hr1
     have : c.args.map (opv ct) = #[y] := by rw [<- mapA, e1]
     rw [this]
     exact clear_run hE r hts h hy
    | _ => cases h
   obtain ⟨s', w', n, cv, hrun, hl, hc, r', x'⟩ := key (c.args.map fun | .const _ => true | _ => false) o.type
   refine ⟨s', w', cv, Doing.of_leaves (n := n) hx ?_ hl hd, hc, r', x'⟩
   simp only [execOp, ho, resolve, hcal, Sem.run_bind, Sem.run_pure, Result.andThen_ok, invoke]
   exact hrun
  | invoke r n => rw [hcal] at h; cases h
 | _ => rw [ho] at h; cases h
end Go.Ev
namespace Go.Ev
variable {P : Program} {E : Env}
theorem conc_bool_inv {s : Sg} {v : AV} {b : Bool} (h : conc s v = some (.bool b)) : v = .bool b := by
 cases v with
 | bool x => cases h; rfl
 | ptr x o => obtain ⟨_, _, h1⟩ := conc_ptr h; cases h1
 | slice x o n c => obtain ⟨_, _, _, h1, _⟩ := conc_slice h; cases h1
 | func f a c => obtain ⟨_, _, _, _, h1⟩ := conc_func h; cases h1
 | yield l => obtain ⟨d, _, h1⟩ := map_some (show (s.mu l).map _ = some (Value.bool b) from h); cases h1
 | iface t x => simp only [conc] at h; obtain ⟨y, _, h1⟩ := map_some h; cases h1
 | agg l => obtain ⟨_, _, h1⟩ := conc_agg h; cases h1
 | tuple l => obtain ⟨_, _, h1⟩ := conc_tuple h; cases h1
 | _ => cases h
theorem yielded_some {ops : Array Oper} {ct : Array Value} {j : Nat} {b : Bool} : yielded ops ct j = some b ↔ ∃ d, (ops[j]?).bind (·.dst) = some d /\ ct[d]? = some (.bool b) := by
 unfold yielded
 cases hd : (ops[j]?).bind (·.dst) with
 | none => simp
 | some d =>
  simp only [Option.bind_some]
  cases hc : ct[d]? with
  | none => simp [hc]
  | some v =>
   cases v <;> simp [hc]
theorem wantedG_ok {s : Sg} {M : Nat} {T : Tm} {ct : Array Value} (hT : TRel s M T ct) {ops : Array Oper} {g : Nat × Bool} {b : Bool} (h : wantedG M ops.toList T g = some b) : (yielded ops ct g.1 == some g.2) = b := by
 unfold wantedG wantedGC at h
 rw [Array.getElem?_toList] at h
 cases hd : (ops[g.1]?).bind (·.dst) with
 | none =>
  rw [hd] at h
  cases h
  have : yielded ops ct g.1 = none := by unfold yielded; rw [hd]; rfl
  rw [this]; rfl
 | some d =>
  rw [hd] at h
  obtain ⟨v, hv, hb⟩ := omap_some h
  have hc := hT d v hv
  cases ha : asBoolV v with
  | none =>
   rw [ha] at hb
   cases hb
   cases hy : yielded ops ct g.1 with
   | none => rfl
   | some b' =>
    obtain ⟨d', hd', hct⟩ := yielded_some.1 hy
    rw [hd] at hd'; cases hd'
    have : ct.getD d undef = .bool b' := by simp [hct]
    rw [this] at hc
    rw [conc_bool_inv hc] at ha
    cases ha
  | some b' =>
   rw [ha] at hb
   obtain rfl := asBoolV_some ha
   have hc' := conc_bool hc
   have hct : ct[d]? = some (.bool b') := by
    cases hq : ct[d]? with
    | none => simp [hq, undef] at hc'
    | some y => simp [hq] at hc'; rw [hc']
   have hy := yielded_some.2 ⟨d, hd, hct⟩
   rw [hy]
   have hb : boolEq b' g.2 = b := hb
   rw [<- hb, boolEq_eq]
   cases b' <;> cases g.2 <;> rfl
theorem wantedA_ok {s : Sg} {M : Nat} {T : Tm} {ct : Array Value} (hT : TRel s M T ct) {ops : Array Oper} {o : Oper} {b : Bool} (h : wantedA M ops.toList T o = some b) : Region.wanted o (yielded ops ct) = b := by
 unfold wantedA at h
 unfold Region.wanted
 cases hg : o.guard with
 | none => rw [hg] at h; cases h; rfl
 | some g => rw [hg] at h; exact wantedG_ok hT h
theorem evOp_ok (hE : EnvTy E P) {call : CallF} (hcall : CallOk P E call) {s : Sg} {S S' : St} {w : World} {N M : Nat} (r : HRel E s S.H w) {ct : Array Value} (hT : TRel s M S.T ct) (hN : ct.size = N) {o : Oper} {x : Cx} (hx : x.Here o ct)
 (h : evOp E call N M o S = some S') :
 ∃ s' w' c, Doing P o x ct w c w' /\ HRel E s' S'.H w' /\ Ext s S.H w s' S'.H w' /\ TRel s' M S'.T (putD ct o.dst c) := by
 unfold evOp evOpC at h
 cases hcl : cls o.op E with
 | pure =>
  rw [hcl] at h
  obtain ⟨v, hv, h⟩ := obind_some h
  obtain ⟨T', hT', rfl⟩ := omap_some h
  obtain ⟨c, hc, hrun⟩ := evPure_ok (P := P) hE hT hv hcl w
  exact ⟨s, w, c, Doing.of_leaves hx hrun (.inl rfl) (fun x hx => by rw [hx] at hv; cases hv), r, Ext.refl _ _ _, putT_ok hT' hT hN hc⟩
 | read =>
  rw [hcl] at h
  obtain ⟨v, hv, h⟩ := obind_some h
  obtain ⟨T', hT', rfl⟩ := omap_some h
  obtain ⟨w', c, hrun, hc, r', x'⟩ := evRead_ok hE r hT hv
  exact ⟨s, w', c, Doing.of_leaves hx hrun (.inl rfl) (fun x hx => by rw [hx] at hv; cases hv), r', x', putT_ok hT' hT hN hc⟩
 | alloc =>
  rw [hcl] at h
  obtain ⟨p, hp, h⟩ := obind_some h
  obtain ⟨T', hT', rfl⟩ := omap_some h
  obtain ⟨ka, sz, obj, w1, c, hw1, hrun, hmk⟩ := evAlloc_ok (P := P) hE (w := w) hT (x := p.1) (f := p.2) hp
  have hh : w1.heap = w.heap := by rcases hw1 with rfl | rfl <;> rfl
  have hx1 : Ext s S.H w s S.H w1 := by
   rcases hw1 with rfl | rfl
   ·
    exact Ext.refl _ _ _
   ·
    exact Ext.drew _ _ _
  have r1 := r.congr hh
  have hfr := (r.fr S.H.next (Nat.le_refl _)).1
  obtain ⟨hc, hb⟩ := hmk s (Sg.Le.refl s) S.H.next (pushW w1 obj) (by rw [<- hh]; exact pushW_new w1 obj) hfr
  rw [<- hh] at hc hb
  obtain ⟨r2, x2⟩ := HRel.new r1 hb
  refine ⟨_, _, c, Doing.of_leaves hx hrun (.inl rfl) (fun x hx => by rw [hx] at hp; cases hp), r2, hx1.trans x2, putT_ok hT' (hT.mono (addB_le hfr)) hN hc⟩
 | eff =>
  rw [hcl] at h
  obtain ⟨p, hp, h⟩ := obind_some h
  obtain ⟨T', hT', rfl⟩ := omap_some h
  obtain ⟨s', w', c, hdo, hc, r', x'⟩ := evEff_ok hE hcall r hT hx (v := p.1) (H' := p.2) hp
  exact ⟨s', w', c, hdo, r', x', putT_ok hT' (hT.mono (x'.sg r)) hN hc⟩
theorem evOps_cons (call : CallF) (N M : Nat) (all : List Oper) (o : Oper) (l : List Oper) (S : St) : evOps E call N M all (o :: l) S = opStep E call N M all o (evOps E call N M all l) S := rfl
theorem evOps_ok (hE : EnvTy E P) {call : CallF} (hcall : CallOk P E call) {N M : Nat} {ops : Array Oper} {b : Frame} (hb : b.mode = .run) {D : List Deferred} {k : List Item} {cs : List Frame} :
 ∀ (l : List Oper) (j : Nat) (s : Sg) (S S' : St) (w : World) (ct : Array Value), ops.toList.drop j = l -> HRel E s S.H w -> TRel s M S.T ct -> ct.size = N -> evOps E call N M ops.toList l S = some S' ->
  ∃ s' w' ct', Steps P (lone (fAt b ct D (.inRegion ops (List.range' j l.length) :: k)) cs w) (lone (fAt b ct' D k) cs w') /\ HRel E s' S'.H w' /\ Ext s S.H w s' S'.H w' /\ TRel s' M S'.T ct' /\ ct'.size = N
 | [], j, s, S, S', w, ct, _, r, hT, hN, h => by
  cases h
  exact ⟨s, w, ct, .one (st_regionEnd hb), r, Ext.refl _ _ _, hT, hN⟩
 | o :: l, j, s, S, S', w, ct, hl, r, hT, hN, h => by
  rw [evOps_cons] at h
  have ho : ops[j]? = some o := by
   have : (ops.toList.drop j)[0]? = some o := by rw [hl]; rfl
   rw [List.getElem?_drop] at this
   simpa using this
  have hl' : ops.toList.drop (j + 1) = l := by
   rw [<- List.drop_drop, hl]; rfl
  have hrg : List.range' j (o :: l).length = j :: List.range' (j + 1) l.length := by simp [List.range'_succ]
  rw [hrg]
  have go : ∀ S1, evOp E call N M o S = some S1 -> evOps E call N M ops.toList l S1 = some S' -> Region.wanted o (yielded ops ct) = true ->
   ∃ s' w' ct', Steps P (lone (fAt b ct D (.inRegion ops (j :: List.range' (j + 1) l.length) :: k)) cs w) (lone (fAt b ct' D k) cs w') /\ HRel E s' S'.H w' /\ Ext s S.H w s' S'.H w' /\ TRel s' M S'.T ct' /\ ct'.size = N := by
   intro S1 h1 h2 hw
   obtain ⟨s1, w1, c, hdo, r1, x1, hT1⟩ := evOp_ok hE hcall r hT hN (x := ⟨b, D, k, cs, ops, j, List.range' (j + 1) l.length⟩) ⟨hb, ho, hw⟩ h1
   obtain ⟨s2, w2, ct2, hst, r2, x2, hT2, hN2⟩ := evOps_ok hE hcall hb l (j + 1) s1 S1 S' w1 _ hl' r1 hT1 (by rw [putD_size]; exact hN) h2
   exact ⟨s2, w2, ct2, Steps.trans hdo hst, r2, x1.trans x2, hT2, hN2⟩
  unfold opStep opStepC at h
  cases hg : o.guard with
  | none =>
   rw [hg] at h
   obtain ⟨S1, h1, h2⟩ := obind_some h
   exact go S1 h1 h2 (by unfold Region.wanted; rw [hg])
  | some g =>
   rw [hg] at h
   obtain ⟨bb, hbb, h⟩ := obind_some h
   have hw := wantedG_ok hT hbb
   have hwr : Region.wanted o (yielded ops ct) = bb := by unfold Region.wanted; rw [hg]; exact hw
   cases bb with
   | true =>
    obtain ⟨S1, h1, h2⟩ := obind_some h
    exact go S1 h1 h2 hwr
   | false =>
    obtain ⟨T1, h1, h2⟩ := obind_some h
    obtain ⟨s2, w2, ct2, hst, r2, x2, hT2, hN2⟩ := evOps_ok hE hcall hb l (j + 1) s ⟨T1, S.H⟩ S' w _ hl' r (putT_ok h1 hT hN (undef_conc s)) (by rw [putD_size]; exact hN) h2
    exact ⟨s2, w2, ct2, .head (st_unwanted hb ho hwr) hst, r2, x2, hT2, hN2⟩
end Go.Ev
namespace Go.Ev
variable {P : Program} {E : Env}
def Marks (s : Sg) (H : Hp) (w : World) (n0 : Nat) (D : List Deferred) : Prop :=
 n0 ≤ w.heap.size /\ ∃ rs : List Nat, D = rs.map (fun r => { target := .collected r, args := #[] }) /\ rs.Nodup /\
  ∀ r ∈ rs, n0 ≤ r /\ w.heap[r]? = some (Obj.deferred (some [])) /\ ∀ a x, H.m.get a = some x -> isOwn x -> s.mu a ≠ some r
theorem Marks.ext {s s' : Sg} {H H' : Hp} {w w' : World} {n0 : Nat} {D : List Deferred} (m : Marks s H w n0 D) (x : Ext s H w s' H' w') : Marks s' H' w' n0 D := by
 obtain ⟨h0, rs, hD, hn, hr⟩ := m
 refine ⟨Nat.le_trans h0 x.size, rs, hD, hn, fun r hr' => ?_⟩
 obtain ⟨h1, h2, h3⟩ := hr r hr'
 have hlt : r < w.heap.size := (Array.getElem?_eq_some_iff.1 h2).1
 refine ⟨h1, (x.keep r hlt h3).trans h2, fun a y ha ho hm => ?_⟩
 obtain ⟨a0, x0, h4, h5, h6⟩ := x.img a y r ha ho hm hlt
 exact h3 a0 x0 h4 h5 h6
def RoundOk (b : Frame) (w : World) : Prop := ∀ l, b.roundOf = some l -> ∃ r : Loop, w.heap[l]? = some (Obj.loop r)
theorem RoundOk.ext {b : Frame} {s s' : Sg} {H H' : Hp} {w w' : World} (m : RoundOk b w) (x : Ext s H w s' H' w') : RoundOk b w' := fun l hl => by
 obtain ⟨r, hr⟩ := m l hl
 exact x.loops l r hr
def Ends (P : Program) (m : Machine) (b : Frame) (ct : Array Value) (D : List Deferred) (k : List Item) (cs : List Frame) (w : World) : Ex -> Prop
 | .normal => Steps P m (lone (fAt b ct D k) cs w)
 | .exit i => ∃ k', exitTo i k' = exitTo i k /\ Steps P m (lone (fAt b ct D (.code (.exit i) :: k')) cs w)
 | .ret => ∃ k', Steps P m (lone (fAt b ct D (.code .ret :: k')) cs w)
theorem Ends.of_steps {m m' : Machine} {b : Frame} {ct : Array Value} {D : List Deferred} {k : List Item} {cs : List Frame} {w : World} {e : Ex} (h : Steps P m m') (h' : Ends P m' b ct D k cs w e) : Ends P m b ct D k cs w e := by
 cases e with
 | normal => exact h.trans h'
 | exit i => obtain ⟨k', h1, h2⟩ := h'; exact ⟨k', h1, h.trans h2⟩
 | ret => obtain ⟨k', h2⟩ := h'; exact ⟨k', h.trans h2⟩
theorem Ends.pass {m : Machine} {b : Frame} {ct : Array Value} {D : List Deferred} {k : List Item} {cs : List Frame} {w : World} {e : Ex} {x : Item} (hx : ∀ i, exitTo i (x :: k) = exitTo i k) (he : e ≠ .normal)
 (h : Ends P m b ct D (x :: k) cs w e) : Ends P m b ct D k cs w e := by
 cases e with
 | normal => exact absurd rfl he
 | exit i => obtain ⟨k', h1, h2⟩ := h; exact ⟨k', h1.trans (hx i), h2⟩
 | ret => exact h
theorem HRel.push {s : Sg} {H : Hp} {w : World} (r : HRel E s H w) (o : Obj) : HRel E s H (pushW w o) /\ Ext s H w s H (pushW w o) := by
 have hk : ∀ c, c < w.heap.size -> (pushW w o).heap[c]? = w.heap[c]? := fun c hc => pushW_old w o c hc
 refine ⟨⟨fun a x c ha hc => blk_old hk (Sg.Le.refl s) (r.lt a c hc) rfl rfl (r.blk a x c ha hc), r.inj, fun a c hc => by have := r.lt a c hc; simp [pushW]; omega, r.fr⟩, ?_⟩
 exact ⟨Nat.le_refl _, fun _ _ => ⟨rfl, rfl, rfl⟩, by simp [pushW], rfl, rfl, rfl, fun c hc _ => hk c hc, fun a x _ h o m _ => ⟨a, x, h, o, m⟩, fun a x _ h o m _ => ⟨a, x, h, o, m⟩, fun c q h => ⟨q, (hk c (Array.getElem?_eq_some_iff.1 h).1).trans h⟩⟩
theorem getLoop_run {w : World} {l : Nat} {q : Loop} (h : w.heap[l]? = some (.loop q)) : (Instr.getLoop l).run P w = .ok q w := by
 have h1 : (getObj l).run P w = .ok (.loop q) w := by simp [getObj, Sem.run, h]
 simp only [Instr.getLoop, Sem.run_bind, h1, Result.andThen_ok]
 rfl
theorem setLoop_run {w : World} {l : Nat} {o : Obj} {q : Loop} (h : w.heap[l]? = some (.loop q)) : (setObj l o).run P w = .ok () (putC w l o) := by
 simp [setObj, Sem.run, h, putC]
theorem HRel.setLoop {s : Sg} {H : Hp} {w : World} (r : HRel E s H w) {a d : Nat} {x x' : Blk} {q q' : Loop} (ha : H.m.get a = some x) (ho : isOwn x) (hd : s.mu a = some d) (hh : w.heap[d]? = some (.loop q))
 (hx' : x' = .dead ∨ ∃ f T N M ps as bo st pe, x' = .loop f T N M ps as bo st pe /\ q' = { state := st, pending := pe, fn := f, tmps := q'.tmps, params := ps.toArray, assign := as, body := bo, defers := q'.defers } /\ TRel s M T q'.tmps /\ q'.tmps.size = N) :
 HRel E s (setBlk H a x') (putC w d (.loop q')) /\ Ext s H w s (setBlk H a x') (putC w d (.loop q')) := by
 have hdlt := (Array.getElem?_eq_some_iff.1 hh).1
 have hget : ∀ b, (setBlk H a x').m.get b = if b = a then some x' else H.m.get b := fun b => Tr.get_set _ _ _ _
 have hloop : ∀ (c : Nat) (q0 : Loop), w.heap[c]? = some (Obj.loop q0) -> ∃ q1 : Loop, (putC w d (.loop q')).heap[c]? = some (Obj.loop q1) := by
  intro c q0 hc
  rw [putC_heap]
  by_cases h1 : c = d /\ d < w.heap.size
  ·
   rw [if_pos h1]; exact ⟨q', rfl⟩
  ·
   rw [if_neg h1]; exact ⟨q0, hc⟩
 constructor
 ·
  refine ⟨?_, ?_, fun b c hc => by rw [putC_size]; exact r.lt b c hc, ?_⟩
  ·
   intro b y c hb hc
   rw [hget] at hb
   split at hb
   ·
    rename_i he; subst he
    cases hb
    rw [hd] at hc; cases hc
    rcases hx' with rfl | ⟨f, T, N, M, ps, as, bo, st, pe, rfl, hq, hT, hN⟩
    ·
     trivial
    ·
     exact ⟨q'.tmps, q'.defers, by rw [putC_heap, if_pos ⟨rfl, hdlt⟩]; exact congrArg (fun z => some (Obj.loop z)) hq, hT, hN⟩
   ·
    rename_i hne
    have hcd : y = .dead ∨ c ≠ d := by
     cases y with
     | dead => exact .inl rfl
     | cells l0 e0 x0 w0 => exact .inr fun e2 => hne (by subst e2; exact (r.inj a _ b _ c ha ho hb trivial hd hc).symm)
     | loop f0 t0 n0 m0 p0 a0 b0 st0 pe0 => exact .inr fun e2 => hne (by subst e2; exact (r.inj a _ b _ c ha ho hb trivial hd hc).symm)
    rcases hcd with rfl | hcd
    ·
     trivial
    ·
     have h0 := r.blk b y c hb hc
     have hk : (putC w d (.loop q')).heap[c]? = w.heap[c]? := by rw [putC_heap, if_neg (fun h => hcd h.1)]
     cases y with
     | cells => obtain ⟨p1, p2, h1, h2⟩ := h0; exact ⟨p1, p2, hk.trans h1, h2⟩
     | loop => obtain ⟨p1, p2, h1, h2⟩ := h0; exact ⟨p1, p2, hk.trans h1, h2⟩
     | dead => trivial
  ·
   intro b y b' y' c hb hbo hb' hbo' hc hc'
   rw [hget] at hb hb'
   have h1 : ∃ z, H.m.get b = some z /\ isOwn z := by
    split at hb
    ·
     rename_i he; subst he; exact ⟨_, ha, ho⟩
    ·
     exact ⟨y, hb, hbo⟩
   have h2 : ∃ z, H.m.get b' = some z /\ isLive z := by
    split at hb'
    ·
     rename_i he; subst he; exact ⟨_, ha, isLive_of_own ho⟩
    ·
     exact ⟨y', hb', hbo'⟩
   obtain ⟨z, hz, hzo⟩ := h1
   obtain ⟨z', hz', hzo'⟩ := h2
   exact r.inj b z b' z' c hz hzo hz' hzo' hc hc'
  ·
   intro b hb
   have hb' : H.next ≤ b := hb
   have := r.nextlt hd
   refine ⟨(r.fr b hb').1, ?_⟩
   rw [hget, if_neg (by omega)]; exact (r.fr b hb').2
 ·
  refine ⟨Nat.le_refl _, fun _ _ => ⟨rfl, rfl, rfl⟩, by rw [putC_size]; exact Nat.le_refl _, rfl, rfl, rfl, ?_, ?_, ?_, hloop⟩
  ·
   intro c _ hn
   rw [putC_heap, if_neg (fun h => hn a _ ha ho (by rw [h.1]; exact hd))]
  ·
   intro b y c hb hbo hc _
   rw [hget] at hb
   split at hb
   ·
    rename_i he; subst he; exact ⟨_, _, ha, ho, hc⟩
   ·
    exact ⟨b, y, hb, hbo, hc⟩
  ·
   intro b y c hb hbo hc _
   rw [hget] at hb
   split at hb
   ·
    rename_i he; subst he; exact ⟨_, _, ha, isLive_of_own ho, hc⟩
   ·
    exact ⟨b, y, hb, hbo, hc⟩
def DrawOk (P : Program) (E : Env) (call : CallF) : Prop := ∀ (N M id : Nat) (ops : Array Oper) (b : Frame) (D : List Deferred) (k : List Item) (cs : List Frame) (s : Sg) (S S' : St) (w : World) (ct : Array Value), b.mode = .run ->
 HRel E s S.H w -> TRel s M S.T ct -> ct.size = N -> evDraw E call N M ops.toList S = some S' ->
  ∃ s' w' ct', Steps P (lone (fAt b ct D (.code (.region id ops true) :: k)) cs w) (lone (fAt b ct' D k) cs w') /\ HRel E s' S'.H w' /\ Ext s S.H w s' S'.H w' /\ TRel s' M S'.T ct' /\ ct'.size = N
def CodeOk (P : Program) (E : Env) (fid : FuncId) (N M : Nat) (c : Code) (f : St -> Option (Ex × St)) : Prop :=
 ∀ (S S' : St) (e : Ex), f S = some (e, S') -> ∀ (b : Frame) (ct : Array Value) (D : List Deferred) (k : List Item) (cs : List Frame) (s : Sg) (w : World) (n0 : Nat), b.fn = fid -> b.mode = .run -> HRel E s S.H w -> TRel s M S.T ct -> ct.size = N ->
  Marks s S.H w n0 D -> RoundOk b w ->
  ∃ s' w' ct' D', Ends P (lone (fAt b ct D (.code c :: k)) cs w) b ct' D' k cs w' e /\ HRel E s' S'.H w' /\ Ext s S.H w s' S'.H w' /\ TRel s' M S'.T ct' /\ ct'.size = N /\ Marks s' S'.H w' n0 D'
end Go.Ev
namespace Go.Ev
variable {P : Program} {E : Env}
section
variable {call : CallF} {fid : FuncId} {N M : Nat}
theorem exitTo_code (i : Nat) (c : Code) (k : List Item) : exitTo i (.code c :: k) = exitTo i k := rfl
theorem exitTo_inLoop (i : Nat) (c : Code) (k : List Item) : exitTo i (.inLoop c :: k) = exitTo i k := rfl
theorem exitTo_inScope (i : Nat) (c : Code) (k : List Item) : exitTo i (.inScope c :: k) = exitTo i k := rfl
theorem iterStep_some {ih : St -> Option (Ex × St)} {r : Option (Ex × St)} {e : Ex} {S' : St} (h : iterStep ih r = some (e, S')) :
 (∃ S1, r = some (.normal, S1) /\ ih S1 = some (e, S')) ∨ (r = some (e, S') /\ e ≠ .normal) := by
 obtain ⟨p, hp, h⟩ := obind_some h
 obtain ⟨e1, S1⟩ := p
 cases e1 with
 | normal => exact .inl ⟨S1, hp, h⟩
 | exit i => cases h; exact .inr ⟨hp, by simp⟩
 | ret => cases h; exact .inr ⟨hp, by simp⟩
theorem ok_seq {a b : Code} {fa fb : St -> Option (Ex × St)} (ha : CodeOk P E fid N M a fa) (hb : CodeOk P E fid N M b fb) : CodeOk P E fid N M (.seq a b) (fun S => seqStep fb (fa S)) := by
 intro S S' e h fr ct D k cs s w n0 hf hm r hT hN hM hR
 rcases iterStep_some h with ⟨S1, h1, h2⟩ | ⟨h1, hne⟩
 ·
  obtain ⟨s1, w1, ct1, D1, e1, r1, x1, T1, N1, M1⟩ := ha S S1 .normal h1 fr ct D (.code b :: k) cs s w n0 hf hm r hT hN hM hR
  obtain ⟨s2, w2, ct2, D2, e2, r2, x2, T2, N2, M2⟩ := hb S1 S' e h2 fr ct1 D1 k cs s1 w1 n0 hf hm r1 T1 N1 M1 (hR.ext x1)
  exact ⟨s2, w2, ct2, D2, .of_steps (.head (st_seq hm) e1) e2, r2, x1.trans x2, T2, N2, M2⟩
 ·
  obtain ⟨s1, w1, ct1, D1, e1, r1, x1, T1, N1, M1⟩ := ha S S' e h1 fr ct D (.code b :: k) cs s w n0 hf hm r hT hN hM hR
  exact ⟨s1, w1, ct1, D1, .of_steps (.one (st_seq hm)) (.pass (fun i => exitTo_code i b k) hne e1), r1, x1, T1, N1, M1⟩
theorem ok_cond {c : Operand} {a b : Code} {fa fb : St -> Option (Ex × St)} (ha : CodeOk P E fid N M a fa) (hb : CodeOk P E fid N M b fb) : CodeOk P E fid N M (.cond c a b) (fun S => condStep (evO M c S.T) fa fb S) := by
 intro S S' e h fr ct D k cs s w n0 hf hm r hT hN hM hR
 obtain ⟨v, hv, h⟩ := obind_some h
 obtain ⟨t, ht, h⟩ := obind_some h
 obtain rfl := asBoolV_some ht
 have hc := conc_bool (evO_conc hT hv)
 cases t with
 | true =>
  obtain ⟨s1, w1, ct1, D1, e1, r1, x1, T1, N1, M1⟩ := ha S S' e h fr ct D k cs s w n0 hf hm r hT hN hM hR
  exact ⟨s1, w1, ct1, D1, .of_steps (.one (st_cond hm hc)) e1, r1, x1, T1, N1, M1⟩
 | false =>
  obtain ⟨s1, w1, ct1, D1, e1, r1, x1, T1, N1, M1⟩ := hb S S' e h fr ct D k cs s w n0 hf hm r hT hN hM hR
  exact ⟨s1, w1, ct1, D1, .of_steps (.one (st_cond hm hc)) e1, r1, x1, T1, N1, M1⟩
theorem ok_block {id : Nat} {b : Code} {fb : St -> Option (Ex × St)} (hb : CodeOk P E fid N M b fb) : CodeOk P E fid N M (.block id b) (fun S => (fb S).omap fun p => leaveBlk id p.1 p.2) := by
 intro S S' e h fr ct D k cs s w n0 hf hm r hT hN hM hR
 obtain ⟨p, hp, h⟩ := omap_some h
 obtain ⟨e0, S0⟩ := p
 obtain ⟨s1, w1, ct1, D1, e1, r1, x1, T1, N1, M1⟩ := hb S S0 e0 hp fr ct D (.inBlock id :: k) cs s w n0 hf hm r hT hN hM hR
 cases e0 with
 | normal =>
  cases h
  exact ⟨s1, w1, ct1, D1, .head (st_block hm) (Steps.trans e1 (.one (st_inBlock hm))), r1, x1, T1, N1, M1⟩
 | ret =>
  cases h
  exact ⟨s1, w1, ct1, D1, .of_steps (.one (st_block hm)) e1, r1, x1, T1, N1, M1⟩
 | exit i =>
  obtain ⟨k', h1, h2⟩ := e1
  have h := show bc (Nat.beq i id) (Ex.normal, S0) (.exit i, S0) = (e, S') from h
  cases hi : Nat.beq i id with
  | true =>
   rw [hi] at h
   cases h
   have hi' : i = id := Nat.eq_of_beq_eq_true hi
   subst hi'
   refine ⟨s1, w1, ct1, D1, .head (st_block hm) (Steps.trans h2 (.one (st_exit hm ?_))), r1, x1, T1, N1, M1⟩
   rw [h1]; simp [exitTo]
  | false =>
   rw [hi] at h
   cases h
   have hi' : id ≠ i := fun he => by subst he; rw [Nat.beq_refl] at hi; cases hi
   refine ⟨s1, w1, ct1, D1, ⟨k', ?_, .head (st_block hm) h2⟩, r1, x1, T1, N1, M1⟩
   rw [h1]; simp [exitTo, hi']
theorem ok_scope {b : Code} {fb : St -> Option (Ex × St)} (hb : CodeOk P E fid N M b fb) : CodeOk P E fid N M (.scope b) fb := by
 intro S S' e h fr ct D k cs s w n0 hf hm r hT hN hM hR
 obtain ⟨s1, w1, ct1, D1, e1, r1, x1, T1, N1, M1⟩ := hb S S' e h fr ct D (.inScope b :: k) cs s w n0 hf hm r hT hN hM hR
 refine ⟨s1, w1, ct1, D1, .of_steps (.one (st_scope hm)) ?_, r1, x1, T1, N1, M1⟩
 cases e with
 | normal => exact Steps.trans e1 (.one (st_inScope hm))
 | exit i => exact .pass (fun i => exitTo_inScope i b k) (by simp) e1
 | ret => exact .pass (fun i => exitTo_inScope i b k) (by simp) e1
theorem ok_iter {b : Code} {fb : St -> Option (Ex × St)} (hb : CodeOk P E fid N M b fb) : ∀ (n : Nat) (S S' : St) (e : Ex), iter fb n S = some (e, S') ->
 ∀ (fr : Frame) (ct : Array Value) (D : List Deferred) (k : List Item) (cs : List Frame) (s : Sg) (w : World) (n0 : Nat), fr.fn = fid -> fr.mode = .run -> HRel E s S.H w -> TRel s M S.T ct -> ct.size = N -> Marks s S.H w n0 D -> RoundOk fr w ->
 ∃ s' w' ct' D', Ends P (lone (fAt fr ct D (.code b :: .inLoop b :: k)) cs w) fr ct' D' k cs w' e /\ HRel E s' S'.H w' /\ Ext s S.H w s' S'.H w' /\ TRel s' M S'.T ct' /\ ct'.size = N /\ Marks s' S'.H w' n0 D'
 | 0, S, S', e, h => by cases h
 | n + 1, S, S', e, h => by
  intro fr ct D k cs s w n0 hf hm r hT hN hM hR
  have h := show iterStep (iter fb n) (fb S) = some (e, S') from h
  rcases iterStep_some h with ⟨S1, h1, h2⟩ | ⟨h1, hne⟩
  ·
   obtain ⟨s1, w1, ct1, D1, e1, r1, x1, T1, N1, M1⟩ := hb S S1 .normal h1 fr ct D (.inLoop b :: k) cs s w n0 hf hm r hT hN hM hR
   obtain ⟨s2, w2, ct2, D2, e2, r2, x2, T2, N2, M2⟩ := ok_iter hb n S1 S' e h2 fr ct1 D1 k cs s1 w1 n0 hf hm r1 T1 N1 M1 (hR.ext x1)
   exact ⟨s2, w2, ct2, D2, .of_steps (Steps.trans e1 (.one (st_inLoop hm))) e2, r2, x1.trans x2, T2, N2, M2⟩
  ·
   obtain ⟨s1, w1, ct1, D1, e1, r1, x1, T1, N1, M1⟩ := hb S S' e h1 fr ct D (.inLoop b :: k) cs s w n0 hf hm r hT hN hM hR
   exact ⟨s1, w1, ct1, D1, .pass (fun i => exitTo_inLoop i b k) hne e1, r1, x1, T1, N1, M1⟩
theorem ok_loop {b : Code} {fb : St -> Option (Ex × St)} (hb : CodeOk P E fid N M b fb) (n : Nat) : CodeOk P E fid N M (.loop b) (iter fb n) := by
 intro S S' e h fr ct D k cs s w n0 hf hm r hT hN hM hR
 obtain ⟨s1, w1, ct1, D1, e1, r1, x1, T1, N1, M1⟩ := ok_iter hb n S S' e h fr ct D k cs s w n0 hf hm r hT hN hM hR
 exact ⟨s1, w1, ct1, D1, .of_steps (.one (st_loop hm)) e1, r1, x1, T1, N1, M1⟩
theorem ok_region (hE : EnvTy E P) (hcall : CallOk P E call) (hdraw : DrawOk P E call) (id : Nat) (ops : Array Oper) (draw : Bool) : CodeOk P E fid N M (.region id ops draw) (fun S => regStep E call N M ops draw S) := by
 intro S S' e h fr ct D k cs s w n0 hf hm r hT hN hM hR
 cases draw with
 | false =>
  obtain ⟨S1, h1, he⟩ := omap_some (show (evOps E call N M ops.toList ops.toList ⟨⟨.nil, S.T.G⟩, S.H⟩).omap (fun s => (Ex.normal, s)) = some (e, S') from h)
  cases he
  obtain ⟨s1, w1, ct1, e1, r1, x1, T1, N1⟩ := evOps_ok hE hcall hm (D := D) (k := k) (cs := cs) ops.toList 0 s ⟨⟨.nil, S.T.G⟩, S.H⟩ S' w ct (by simp) r hT.global hN h1
  refine ⟨s1, w1, ct1, D, .head (st_region hm) ?_, r1, x1, T1, N1, hM.ext x1⟩
  rw [List.range_eq_range']
  simpa using e1
 | true =>
  obtain ⟨S1, h1, he⟩ := omap_some (show (evDraw E call N M ops.toList ⟨⟨.nil, S.T.G⟩, S.H⟩).omap (fun s => (Ex.normal, s)) = some (e, S') from h)
  cases he
  obtain ⟨s1, w1, ct1, e1, r1, x1, T1, N1⟩ := hdraw N M id ops fr D k cs s ⟨⟨.nil, S.T.G⟩, S.H⟩ S' w ct hm r hT.global hN h1
  exact ⟨s1, w1, ct1, D, e1, r1, x1, T1, N1, hM.ext x1⟩
end
/-! A loop over a function. -/
def loopNew (fid : FuncId) (ct : Array Value) (ps : Array Tmp) (a b : Code) (d : Nat) : Loop := { state := .ready, pending := none, fn := fid, tmps := ct, params := ps, assign := a, body := b, defers := d }
theorem enterLoop_none {fid : FuncId} {ct : Array Value} {ps : Array Tmp} {a b : Code} {w : World} :
 (Instr.enterLoop fid ct ps a b none).run P w = .ok (w.heap.size + 1, [{ target := .collected w.heap.size, args := #[] }]) (pushW (pushW w (.deferred (some []))) (.loop (loopNew fid ct ps a b w.heap.size))) := by
 simp only [Instr.enterLoop, Sem.run_bind, run_newObj, Result.andThen_ok, Sem.run_pure]
 rw [Array.size_push]
 rfl
theorem enterLoop_some {fid : FuncId} {ct : Array Value} {ps : Array Tmp} {a b : Code} {w : World} {l : Nat} {q : Loop} (h : w.heap[l]? = some (.loop q)) :
 (Instr.enterLoop fid ct ps a b (some l)).run P w = .ok (w.heap.size, []) (pushW w (.loop (loopNew fid ct ps a b q.defers))) := by
 simp only [Instr.enterLoop, Sem.run_bind, getLoop_run h, run_newObj, Result.andThen_ok, Sem.run_pure]
 rfl
theorem endLoop_run {w : World} {l : Nat} {q : Loop} (h : w.heap[l]? = some (.loop q)) (hb : q.state ≠ .busy) :
 (Instr.endLoop l).run P w = .ok q.pending (putC w l (.loop { q with state := .exhausted })) := by
 have hb' : (q.state == LoopState.busy) = false := by
  cases hs : q.state <;> first | rfl | exact absurd hs hb
 simp only [Instr.endLoop, Sem.run_bind, getLoop_run h, Result.andThen_ok, hb', Bool.false_eq_true, if_false, setLoop_run h, Sem.run_pure]
section
variable {fr : Frame} {ct : Array Value} {D : List Deferred} {k : List Item} {cs : List Frame} {w : World}
theorem st_endRange (hm : fr.mode = .run) {l : Nat} {q : Loop} (h : w.heap[l]? = some (.loop q)) (hb : q.state ≠ .busy) :
 step P (lone (fAt fr ct D (.endRangeFunc l :: k)) cs w) = .next (lone (fAt fr ct D ((q.pending.map Item.code).toList ++ k)) cs (putC w l (.loop { q with state := .exhausted }))) := by
 refine step_lone_go ?_
 have hr := endLoop_run (P := P) h hb
 simp only [stepG, stepG.exec, fAt, hm, Sem.runT_eq, hr, GStep.bare_after]
 rfl
theorem callSem_yield (cf : Value) (l : Nat) (f : Operand) (hf : opv ct f = cf) (todo : List Item) :
 (do let d <- resolve (fAt fr ct D todo).eval { callee := .value f, args := #[.const (.func (.yield l) #[] #[])], argTypes := #[] } 0; invoke d.target d.args : Sem Next) = callSem cf #[.func (.yield l) #[] #[]] := by
 rw [fAt_eval']
 have h1 : Array.map (opv ct) #[.const (.func (.yield l) #[] #[])] = #[.func (.yield l) #[] #[]] := by simp [opv]
 simp only [resolve, callSem, hf, h1]
theorem st_rangeFunc (hm : fr.mode = .run) {f : Operand} {ps : Array Tmp} {a b : Code} {l : Nat} {mark : List Deferred} {w1 : World} {nx : Next} {fr0 : Frame} (he : (Instr.enterLoop fr.fn ct ps a b fr.roundOf).run P w = .ok (l, mark) w1)
 (hc : (callSem (opv ct f) #[.func (.yield l) #[] #[]]).run P w1 = .ok nx w1) (hent : Enters P nx fr0) :
 step P (lone (fAt fr ct D (.code (.rangeFunc f ps a b) :: k)) cs w) = .next (lone fr0 (fAt fr ct (mark ++ D) (.inRangeFunc l :: k) :: cs) w1) := by
 refine step_lone_go ?_
 have hap := apply_enter (P := P) (cs := cs) (fr := fAt fr ct (mark ++ D) (.inRangeFunc l :: k)) (m := callSem (opv ct f) #[.func (.yield l) #[] #[]]) hc hent (fun _ _ _ _ h => by cases h)
 rw [<- callSem_yield (fr := fr) (D := mark ++ D) (opv ct f) l f rfl (.inRangeFunc l :: k)] at hap
 simp only [stepG, stepG.exec, fAt, hm, Sem.runT_eq, he, GStep.bare_after]
 simp only [fAt, hm] at hap
 exact hap
end
end Go.Ev
namespace Go.Ev
variable {P : Program} {E : Env}
section
variable {call : CallF} {fid : FuncId} {N M : Nat}
theorem endLoopA_some {T : Tm} {H : Hp} {id : Nat} {e : Ex} {S' : St} (h : endLoopA T H id = some (e, S')) :
 ∃ f T0 N0 M0 ps a b st pe, H.m.get id = some (.loop f T0 N0 M0 ps a b st pe) /\ st ≠ .busy /\ S' = ⟨T, setBlk H id .dead⟩ /\
  ((pe = none /\ e = .normal) ∨ (∃ i, pe = some (.exit i) /\ e = .exit i) ∨ (pe = some .ret /\ e = .ret)) := by
 obtain ⟨x, hx, h⟩ := obind_some h
 cases x with
 | loop f T0 N0 M0 ps a b st pe =>
  have hst : st ≠ .busy := by rintro rfl; cases h
  refine ⟨f, T0, N0, M0, ps, a, b, st, pe, hx, hst, ?_⟩
  cases pe with
  | none => cases st <;> first | exact absurd rfl hst | (cases h; exact ⟨rfl, .inl ⟨rfl, rfl⟩⟩)
  | some c =>
   have h' : (exOf c).omap (fun e => (e, (⟨T, setBlk H id .dead⟩ : St))) = some (e, S') := by cases st <;> first | exact absurd rfl hst | exact h
   obtain ⟨e0, he0, h⟩ := omap_some h'
   cases h
   refine ⟨rfl, .inr ?_⟩
   cases c <;> first | (cases he0; exact .inr ⟨rfl, rfl⟩) | (cases he0; exact .inl ⟨_, rfl, rfl⟩) | cases he0
 | cells => cases h
 | dead => cases h
theorem rf_core (hcall : CallOk P E call) {f : Operand} {ps : Array Tmp} {a b : Code} {S S' : St} {e : Ex} (h : rfStep E call fid N M f ps a b S = some (e, S'))
 {fr : Frame} {ct : Array Value} {D mark : List Deferred} {k : List Item} {cs : List Frame} {s : Sg} {w w0 : World} {n0 d : Nat} (hm : fr.mode = .run) (hT : TRel s M S.T ct) (hN : ct.size = N)
 (he : (Instr.enterLoop fr.fn ct ps a b fr.roundOf).run P w = .ok (w0.heap.size, mark) (pushW w0 (.loop (loopNew fid ct ps a b d)))) (r0 : HRel E s S.H w0) (x0 : Ext s S.H w s S.H w0) (hM : Marks s S.H w0 n0 (mark ++ D)) :
 ∃ s' w' ct' D', Ends P (lone (fAt fr ct D (.code (.rangeFunc f ps a b) :: k)) cs w) fr ct' D' k cs w' e /\ HRel E s' S'.H w' /\ Ext s S.H w s' S'.H w' /\ TRel s' M S'.T ct' /\ ct'.size = N /\ Marks s' S'.H w' n0 D' := by
 obtain ⟨fv, hfv, h⟩ := obind_some h
 obtain ⟨p, hp, h⟩ := obind_some h
 obtain ⟨v, H2⟩ := p
 have hfr0 := (r0.fr S.H.next (Nat.le_refl _)).1
 have hb : BlkOk E (addB s S.H.next w0.heap.size 0 0) S.H.next w0.heap.size (pushW w0 (.loop (loopNew fid ct ps a b d))) (.loop fid S.T N M ps.toList a b .ready none) :=
  ⟨ct, d, by rw [pushW_new]; simp [loopNew], hT.mono (addB_le hfr0), hN⟩
 obtain ⟨r1, x1⟩ := HRel.new r0 hb
 have hmu : (addB s S.H.next w0.heap.size 0 0).mu S.H.next = some w0.heap.size := addB_mu _ _ _ _ _
 have hyc : concL (addB s S.H.next w0.heap.size 0 0) [.yield S.H.next] = some [.func (.yield w0.heap.size) #[] #[]] := by
  simp [concL, conc, hmu]
 obtain ⟨s2, w2, c, hc, r2, x2, hans⟩ := hcall (fAt fr ct (mark ++ D) (.inRangeFunc w0.heap.size :: k)) cs fv [.yield S.H.next] _ v H2 _ _ _ _ hp r1 (conc_mono (addB_le hfr0) _ _ (evO_conc hT hfv)) hyc
 obtain ⟨nx, fr0, hrun, hent, hs⟩ : ∃ nx fr0, _ /\ _ /\ _ := hans.resolve_right fun k => k.2 _ rfl
 have hst := st_rangeFunc (P := P) (k := k) (cs := cs) (D := D) hm he hrun hent
 obtain ⟨f1, T1, N1, M1, ps1, a1, b1, st1, pe1, hget, hst1, rfl, hend⟩ := endLoopA_some h
 have hmu2 : s2.mu S.H.next = some w0.heap.size := by
  rw [(x2.le S.H.next (Nat.lt_succ_self _)).1]; exact hmu
 obtain ⟨ct1, D1, hh, hT1, hN1⟩ := r2.blk _ _ _ hget hmu2
 obtain ⟨r3, x3⟩ := r2.setLoop (x' := .dead) (q' := { ({ state := st1, pending := pe1, fn := f1, tmps := ct1, params := ps1.toArray, assign := a1, body := b1, defers := D1 } : Loop) with state := .exhausted }) hget trivial hmu2 hh (.inl rfl)
 have hfin : (fAt fr ct (mark ++ D) (.inRangeFunc w0.heap.size :: k)).finish c = fAt fr ct (mark ++ D) (.endRangeFunc w0.heap.size :: k) := rfl
 have hsteps : Steps P (lone (fAt fr ct D (.code (.rangeFunc f ps a b) :: k)) cs w) (lone (fAt fr ct (mark ++ D) ((pe1.map Item.code).toList ++ k)) cs (putC w2 w0.heap.size (.loop { ({ state := st1, pending := pe1, fn := f1, tmps := ct1, params := ps1.toArray, assign := a1, body := b1, defers := D1 } : Loop) with state := .exhausted }))) := by
  refine .head hst (Steps.trans hs ?_)
  rw [hfin]
  exact .one (st_endRange hm hh hst1)
 have xx := (x1.trans x2).trans x3
 refine ⟨s2, _, ct, mark ++ D, ?_, r3, x0.trans xx, hT.mono (xx.sg r0), hN, hM.ext xx⟩
 rcases hend with ⟨rfl, rfl⟩ | ⟨i, rfl, rfl⟩ | ⟨rfl, rfl⟩
 ·
  exact hsteps
 ·
  exact ⟨k, rfl, hsteps⟩
 ·
  exact ⟨k, hsteps⟩
theorem ok_rangeFunc (hcall : CallOk P E call) {f : Operand} {ps : Array Tmp} {a b : Code} : CodeOk P E fid N M (.rangeFunc f ps a b) (fun S => rfStep E call fid N M f ps a b S) := by
 intro S S' e h fr ct D k cs s w n0 hf hm r hT hN hM hR
 cases hro : fr.roundOf with
 | none =>
  have he := enterLoop_none (P := P) (fid := fr.fn) (ct := ct) (ps := ps) (a := a) (b := b) (w := w)
  obtain ⟨r0, x0⟩ := r.push (.deferred (some []))
  refine rf_core hcall h (mark := [{ target := .collected w.heap.size, args := #[] }]) (w0 := pushW w (.deferred (some []))) (d := w.heap.size) hm hT hN ?_ r0 x0 ?_
  ·
   rw [hro, he, hf]
   congr 2
   simp [pushW]
  ·
   obtain ⟨h0, rs, hD, hn, hr⟩ := hM.ext x0
   have hsz : (pushW w (.deferred (some []))).heap.size = w.heap.size + 1 := by simp [pushW]
   have h0' := hM.1
   refine ⟨h0, w.heap.size :: rs, by rw [hD]; rfl, ?_, ?_⟩
   ·
    refine List.nodup_cons.2 ⟨fun hmem => ?_, hn⟩
    obtain ⟨_, rs', hD', _, hr'⟩ := hM
    rw [hD] at hD'
    have hrs : rs = rs' := by
     have := congrArg (List.map fun (d : Deferred) => match d.target with | .collected r => r | _ => 0) hD'
     simpa [List.map_map, Function.comp_def] using this
    subst hrs
    have := (Array.getElem?_eq_some_iff.1 (hr' _ hmem).2.1).1
    omega
   ·
    intro r' hr'
    rcases List.mem_cons.1 hr' with rfl | hr'
    ·
     refine ⟨h0', pushW_new _ _, fun a x ha ho hm => ?_⟩
     have := r.lt a _ hm
     omega
    ·
     exact hr r' hr'
 | some l =>
  obtain ⟨q, hq⟩ := hR l hro
  have he := enterLoop_some (P := P) (fid := fr.fn) (ct := ct) (ps := ps) (a := a) (b := b) hq
  refine rf_core hcall h (mark := []) (w0 := w) (d := q.defers) hm hT hN ?_ r (Ext.refl _ _ _) hM
  rw [hro, he, hf]
theorem codeC_ok (hE : EnvTy E P) (hcall : CallOk P E call) (hdraw : DrawOk P E call) (k0 : Nat) (c : Code) : CodeOk P E fid N M c (fun S => (codeC E fid N M c).f call k0 S) := by
 induction c with
 | skip =>
  intro S S' e h fr ct D k cs s w n0 hf hm r hT hN hM hR
  cases h
  exact ⟨s, w, ct, D, .one (st_skip hm), r, Ext.refl _ _ _, hT, hN, hM⟩
 | region id ops draw => exact ok_region hE hcall hdraw id ops draw
 | seq a b ia ib => exact ok_seq ia ib
 | cond c a b ia ib => exact ok_cond ia ib
 | block id b ib => exact ok_block ib
 | loop b ib => exact ok_loop ib k0
 | rangeFunc f ps a b ia ib => exact ok_rangeFunc hcall
 | exit i =>
  intro S S' e h fr ct D k cs s w n0 hf hm r hT hN hM hR
  cases h
  exact ⟨s, w, ct, D, ⟨k, rfl, .refl _ _⟩, r, Ext.refl _ _ _, hT, hN, hM⟩
 | scope b ib => exact ok_scope ib
 | label l =>
  intro S S' e h fr ct D k cs s w n0 hf hm r hT hN hM hR
  cases h
  exact ⟨s, w, ct, D, .one (st_label hm), r, Ext.refl _ _ _, hT, hN, hM⟩
 | goto l => intro S S' e h; cases h
 | ret =>
  intro S S' e h fr ct D k cs s w n0 hf hm r hT hN hM hR
  cases h
  exact ⟨s, w, ct, D, ⟨k, .refl _ _⟩, r, Ext.refl _ _ _, hT, hN, hM⟩
 | refuse why => intro S S' e h; cases h
end
end Go.Ev
namespace Go.Ev
variable {P : Program} {E : Env}
/-! The arguments. -/
theorem ofArgs_nil (M i : Nat) (T : Tm) : ofArgs M [] i T = T := rfl
theorem ofArgs_cons (M : Nat) (x : AV) (l : List AV) (i : Nat) (T : Tm) : ofArgs M (x :: l) i T = ofArgs M l (i + 1) (Tm.put M T x i) := rfl
theorem ofArgs_get (M : Nat) : ∀ (l : List AV) (i : Nat) (T : Tm) (j : Nat), (ofArgs M l i T).get M j = if i ≤ j /\ j < i + l.length then l[j - i]? else T.get M j
 | [], i, T, j => by rw [ofArgs_nil, if_neg (by rintro ⟨h1, h2⟩; simp only [List.length_nil] at h2; omega)]
 | x :: l, i, T, j => by
  rw [ofArgs_cons, ofArgs_get M l (i + 1) (Tm.put M T x i) j, Tm.get_put]
  by_cases h1 : i + 1 ≤ j /\ j < i + 1 + l.length
  ·
   rw [if_pos h1, if_pos (by simp; omega)]
   have : j - i = (j - (i + 1)) + 1 := by omega
   rw [this]; simp
  ·
   rw [if_neg h1]
   by_cases h2 : j = i
   ·
    subst h2
    rw [if_pos rfl, if_pos (by simp)]; simp
   ·
    rw [if_neg (by omega), if_neg (by simp; omega)]
theorem ofArgs_rel {s : Sg} {M N : Nat} {as : List AV} {cas : List Value} (h : concL s as = some cas) : TRel s M (ofArgs M as 0 ⟨.nil, .nil⟩) (cas.toArray ++ Array.replicate (N - cas.length) undef) := by
 intro j v hj
 rw [ofArgs_get] at hj
 split at hj
 ·
  obtain ⟨c, hc, hcv⟩ := concL_get h hj
  rw [hcv]
  have hlt : j < cas.length := (List.getElem?_eq_some_iff.1 hc).1
  have : (cas.toArray ++ Array.replicate (N - cas.length) undef)[j]? = some c := by
   rw [Array.getElem?_append_left (by simpa using hlt)]; simpa using hc
  simp [this]
 ·
  exact TRel.empty s M _ j v hj
/-! The results. -/
theorem resL_cons (M : Nat) (T : Tm) (H : Hp) (r : ResultVar) (l : List ResultVar) : resL E M T H (r :: l) = (match r with
 | .tmp t => (Tm.get M T t).obind fun v => (resL E M T H l).omap (v :: ·)
 | .cell a t => (Tm.get M T a).obind fun p => (asPtr p).obind fun q => (loadAV E H t q.1 q.2).obind fun v => (resL E M T H l).omap (v :: ·)) := rfl
def resSem (ct : Array Value) (r : ResultVar) : Sem Value := match r with
 | .tmp t => pure (ct.getD t undef)
 | .cell a t => do loadVar t (<- asAddr (ct.getD a undef))
theorem resL_run (hE : EnvTy E P) {s : Sg} {M : Nat} {T : Tm} {H : Hp} {w : World} {ct : Array Value} (r : HRel E s H w) (hT : TRel s M T ct) : ∀ (l : List ResultVar) (vs : List AV), resL E M T H l = some vs ->
 ∃ cs, concL s vs = some cs /\ (l.mapM (resSem ct)).run P w = .ok cs w
 | [], vs, h => by cases h; exact ⟨[], rfl, rfl⟩
 | x :: l, vs, h => by
  rw [resL_cons] at h
  cases x with
  | tmp t =>
   obtain ⟨v, hv, h⟩ := obind_some h
   obtain ⟨vs', hvs, rfl⟩ := omap_some h
   obtain ⟨cs, hcs, hrun⟩ := resL_run hE r hT l vs' hvs
   refine ⟨_, concL_cons.2 ⟨_, _, hT t v hv, hcs, rfl⟩, ?_⟩
   rw [List.mapM_cons]
   simp only [resSem, Sem.run_bind, Sem.run_pure, Result.andThen_ok, hrun]
  | cell a t =>
   obtain ⟨p, hp, h⟩ := obind_some h
   obtain ⟨q, hq, h⟩ := obind_some h
   obtain ⟨v, hv, h⟩ := obind_some h
   obtain ⟨vs', hvs, rfl⟩ := omap_some h
   obtain rfl := asPtr_some hq
   obtain ⟨d, hd, hpv⟩ := conc_ptr (hT a _ hp)
   obtain ⟨c, hc, hload⟩ := loadAV_run (P := P) hE r hv hd
   obtain ⟨cs, hcs, hrun⟩ := resL_run hE r hT l vs' hvs
   refine ⟨_, concL_cons.2 ⟨_, _, hc, hcs, rfl⟩, ?_⟩
   rw [List.mapM_cons]
   have ha : (asAddr (.pointer (some ⟨d, q.2, none⟩))).run P w = .ok ⟨d, q.2, none⟩ w := rfl
   simp only [resSem, hpv, Sem.run_bind, ha, hload, Sem.run_pure, Result.andThen_ok, hrun]
theorem single_conc {s : Sg} {vs : List AV} {cs : List Value} (h : concL s vs = some cs) : conc s (single vs) = some (if h : cs.toArray.size = 1 then cs.toArray[0] else .tuple cs.toArray) := by
 cases vs with
 | nil => cases h; rfl
 | cons v l =>
  obtain ⟨c, cs', hc, hcs, rfl⟩ := concL_cons.1 h
  cases l with
  | nil => cases hcs; simpa [single] using hc
  | cons v2 l2 =>
   obtain ⟨c2, cs2, hc2, hcs2, rfl⟩ := concL_cons.1 hcs
   have : single (v :: v2 :: l2) = .tuple (v :: v2 :: l2) := rfl
   rw [this, conc, h]
   simp
theorem results_run (hE : EnvTy E P) {s : Sg} {M : Nat} {T : Tm} {H : Hp} {w : World} {ct : Array Value} (r : HRel E s H w) (hT : TRel s M T ct) {fn : Func} {vs : List AV} (h : resL E M T H fn.results.toList = some vs) :
 ∃ c, conc s (single vs) = some c /\ (results fn ct).run P w = .ok c w := by
 obtain ⟨cs, hcs, hrun⟩ := resL_run hE r hT _ _ h
 refine ⟨_, single_conc hcs, ?_⟩
 have h1 : (fn.results.mapM (resSem ct)).run P w = .ok cs.toArray w := by
  rw [Array.mapM_eq_mapM_toList]
  simp only [Sem.run_map, hrun, Result.andThen_ok]
 have h2 : (results fn ct).run P w = ((fn.results.mapM (resSem ct)).run P w).andThen fun vs w => .ok (if h : vs.size = 1 then vs[0] else .tuple vs) w := by
  unfold results
  rw [Sem.run_bind]
  rfl
 rw [h2, h1]
 rfl
/-! The way out of a frame. -/
def outFr (b : Frame) (ct : Array Value) (D : List Deferred) (todo : List Item) : Frame := { fAt b ct D todo with mode := .returning }
theorem st_mark {b : Frame} {ct : Array Value} {D : List Deferred} {todo : List Item} {cs : List Frame} {w : World} {r : Nat} (h : w.heap[r]? = some (Obj.deferred (some []))) :
 step P (lone (outFr b ct ({ target := .collected r, args := #[] } :: D) todo) cs w) = .next (lone (outFr b ct D todo) cs (putC w r (.deferred none))) := by
 refine step_lone_go ?_
 have hg : (getObj r).run P w = .ok (.deferred (some [])) w := by simp [getObj, Sem.run, h]
 have hs : (setObj r (.deferred none)).run P w = .ok () (putC w r (.deferred none)) := by simp [setObj, Sem.run, h, putC]
 have ht : (Instr.takeDeferred r).run P w = .ok [] (putC w r (.deferred none)) := by
  simp only [Instr.takeDeferred, Sem.run_bind, hg, Result.andThen_ok, hs, Sem.run_pure]
 simp only [stepG, outFr, fAt, unwind, Sem.runT_eq, ht, GStep.bare_after]
 rfl
theorem HRel.other {s : Sg} {H : Hp} {w : World} (r : HRel E s H w) {d : Nat} {o o' : Obj} (hd : w.heap[d]? = some o) (hc : ∀ a e f, o ≠ .cells a e f) (hl : ∀ q, o ≠ .loop q) : HRel E s H (putC w d o') := by
 refine ⟨fun a x c ha hc' => ?_, r.inj, fun a c h => by rw [putC_size]; exact r.lt a c h, r.fr⟩
 have h0 := r.blk a x c ha hc'
 by_cases hcd : c = d
 ·
  subst hcd
  cases x with
  | cells => obtain ⟨p1, p2, h1, _⟩ := h0; rw [hd] at h1; cases h1; exact absurd rfl (hc _ _ _)
  | loop => obtain ⟨p1, p2, h1, _⟩ := h0; rw [hd] at h1; cases h1; exact absurd rfl (hl _)
  | dead => trivial
 ·
  have hk : (putC w d o').heap[c]? = w.heap[c]? := by rw [putC_heap, if_neg (fun h => hcd h.1)]
  cases x with
  | cells => obtain ⟨p1, p2, h1, h2⟩ := h0; exact ⟨p1, p2, hk.trans h1, h2⟩
  | loop => obtain ⟨p1, p2, h1, h2⟩ := h0; exact ⟨p1, p2, hk.trans h1, h2⟩
  | dead => trivial
theorem Ext.other {s s0 : Sg} {H H0 : Hp} {w w0 : World} (x : Ext s0 H0 w0 s H w) {d : Nat} {o o' : Obj} (h0 : w0.heap.size ≤ d) (hd : w.heap[d]? = some o) (hl : ∀ q, o ≠ .loop q) : Ext s0 H0 w0 s H (putC w d o') where
 nx := x.nx
 le := x.le
 size := by rw [putC_size]; exact x.size
 os := x.os
 tape := x.tape
 output := x.output
 keep c hc hn := by rw [putC_heap, if_neg (by omega)]; exact x.keep c hc hn
 img := x.img
 imgL := x.imgL
 loops c q hc := by
  obtain ⟨q', hq⟩ := x.loops c q hc
  refine ⟨q', ?_⟩
  rw [putC_heap, if_neg, hq]
  rintro ⟨rfl, _⟩
  rw [hd] at hq; cases hq
  exact hl _ rfl
theorem unmark {b : Frame} {ct : Array Value} {todo : List Item} {cs : List Frame} {s s0 : Sg} {H H0 : Hp} {w0 : World} : ∀ (rs : List Nat) (w : World), rs.Nodup -> (∀ r ∈ rs, w0.heap.size ≤ r /\ w.heap[r]? = some (Obj.deferred (some []))) ->
 HRel E s H w -> Ext s0 H0 w0 s H w ->
 ∃ w', Steps P (lone (outFr b ct (rs.map fun r => { target := .collected r, args := #[] }) todo) cs w) (lone (outFr b ct [] todo) cs w') /\ HRel E s H w' /\ Ext s0 H0 w0 s H w'
 | [], w, _, _, r, x => ⟨w, .refl _ _, r, x⟩
 | d :: rs, w, hn, hr, r, x => by
  obtain ⟨h1, h2⟩ := hr d (by simp)
  obtain ⟨hnd, hn'⟩ := List.nodup_cons.1 hn
  have r1 := r.other (o' := .deferred none) h2 (by simp) (by simp)
  have x1 := x.other (o' := .deferred none) h1 h2 (by simp)
  obtain ⟨w', hst, r', x'⟩ := unmark rs (putC w d (.deferred none)) hn' (fun d' hd' => by
   obtain ⟨h3, h4⟩ := hr d' (by simp [hd'])
   refine ⟨h3, ?_⟩
   rw [putC_heap, if_neg, h4]
   rintro ⟨rfl, _⟩
   exact hnd hd') r1 x1
  exact ⟨w', .head (st_mark h2) hst, r', x'⟩
end Go.Ev
namespace Go.Ev
variable {P : Program} {E : Env}
def FnRes (P : Program) (E : Env) (f : FuncId) (as : List AV) (H : Hp) (v : AV) (H' : Hp) : Prop := ∀ (cs : List Frame) s w cas, HRel E s H w -> concL s as = some cas ->
 ∃ s' w' c fr, (callFunc f cas.toArray).run P w = .ok (.enter f cas.toArray) w /\ conc s' v = some c /\ HRel E s' H' w' /\ Ext s H w s' H' w' /\
  Steps P (lone (Frame.enter P f cas.toArray .normal) cs w) (lone fr cs w') /\ fr.fn = f /\ fr.leaving P w' (.returned c)
def FnVal (P : Program) (E : Env) (f : FuncId) (as : List AV) (H : Hp) (v : AV) (H' : Hp) : Prop := (∀ l, AV.yield l ∉ as) /\ ∀ s w cas, HRel E s H w -> concL s as = some cas ->
 ∃ s' w' c, (callFunc f cas.toArray).run P w = .ok (.value c) w' /\ conc s' v = some c /\ HRel E s' H' w' /\ Ext s H w s' H' w'
structure EnvOk (E : Env) (P : Program) : Prop where
 types : EnvTy E P
 fn : ∀ f fn, E.fn f = some fn -> P.funcs[f]? = some fn
 nm : ∀ f fn, E.fn f = some fn -> fn.body.isSome = true -> (fn.name == "runtime.NumGoroutine") = false
 mixed : P.follows .mixedOrders = true
 sums : ∀ f g, E.sum f = some g -> ∀ as H v H', g as H = some (v, H') -> FnRes P E f as H v H' ∨ FnVal P E f as H v H'
theorem callFunc_run {f : FuncId} {fn : Func} {args : Array Value} {c : Code} (hf : P.funcs[f]? = some fn) (hn : (fn.name == "runtime.NumGoroutine") = false) (hb : fn.body = some c) (w : World) :
 (callFunc f args).run P w = .ok (.enter f args) w := by
 have h1 : program.run P w = .ok P w := rfl
 simp only [callFunc, Sem.run_bind, h1, Result.andThen_ok, hf, hn, Bool.false_eq_true, if_false, hb, Option.isNone_some, Sem.run_pure]
theorem out_leaving {b : Frame} {ct : Array Value} {todo : List Item} {w : World} {fn : Func} {c : Value} (hk : b.kind = .normal) (hf : P.funcs[b.fn]? = some fn) (hr : (results fn ct).run P w = .ok c w) :
 (outFr b ct [] todo).leaving P w (.returned c) := ⟨rfl, rfl, hk, fn, hf, hr⟩
theorem st_end {b : Frame} {ct : Array Value} {D : List Deferred} {cs : List Frame} {w : World} (hm : b.mode = .run) (hr : b.roundOf = none) : step P (lone (fAt b ct D []) cs w) = .next (lone (outFr b ct D []) cs w) :=
 step_lone_go (by simp [stepG, stepG.exec, fAt, outFr, hm, hr])
theorem st_ret {b : Frame} {ct : Array Value} {D : List Deferred} {k : List Item} {cs : List Frame} {w : World} (hm : b.mode = .run) (hr : b.roundOf = none) : step P (lone (fAt b ct D (.code .ret :: k)) cs w) = .next (lone (outFr b ct D (.code .ret :: k)) cs w) :=
 step_lone_go (by simp [stepG, stepG.exec, fAt, outFr, hm, hr])
section
variable {call : CallF}
theorem callFn_res (hE : EnvOk E P) (hcall : CallOk P E call) (hdraw : DrawOk P E call) {k0 : Nat} {f : FuncId} {as : List AV} {H H' : Hp} {v : AV} (hs : E.sum f = none) (h : callFn E k0 call f as H = some (v, H')) : FnRes P E f as H v H' := by
 unfold callFn callC at h
 rw [hs] at h
 cases hfn : E.fn f with
 | none => rw [hfn] at h; cases h
 | some fn =>
  rw [hfn] at h
  have h := show (bodyC E f fn).f k0 call as H = some (v, H') from h
  unfold bodyC at h
  cases hb : fn.body with
  | none => rw [hb] at h; cases h
  | some c =>
   rw [hb] at h
   obtain ⟨hle, h⟩ := bc_some (show bc (Nat.ble (lenL as) fn.ntmps) (retOf E fn (evCode E call k0 f fn.ntmps (E.mask fn) c ⟨ofArgs (E.mask fn) as 0 ⟨.nil, .nil⟩, H⟩)) none = some (v, H') from h)
   obtain ⟨p, hp, h⟩ := obind_some h
   obtain ⟨e, S'⟩ := p
   have hPf := hE.fn f fn hfn
   have hnm := hE.nm f fn hfn (by rw [hb]; rfl)
   rw [lenL_eq] at hle
   have hle := ble_iff.1 hle
   have hne : isExit e = false /\ ((resL E (E.mask fn) S'.T S'.H fn.results.toList).omap fun l => (single l, S'.H)) = some (v, H') := by
    have h := show bc (isExit e) none ((resL E (E.mask fn) S'.T S'.H fn.results.toList).omap fun l => (single l, S'.H)) = some (v, H') from h
    cases hx : isExit e with
    | true => rw [hx] at h; cases h
    | false => rw [hx] at h; exact ⟨rfl, h⟩
   obtain ⟨hne, h⟩ := hne
   obtain ⟨vs, hvs, he⟩ := omap_some h
   cases he
   intro cs s w cas r hc
   have hlen := concL_length hc
   have hcs : cas.toArray.size = cas.length := by simp
   have hfr : Frame.enter P f cas.toArray .normal = fAt (Frame.enter P f cas.toArray .normal) (cas.toArray ++ Array.replicate (fn.ntmps - cas.length) undef) [] [.code c] := by
    simp [Frame.enter, fAt, hPf, hb]
   have hM0 : Marks s H w w.heap.size [] := ⟨Nat.le_refl _, [], rfl, List.nodup_nil, fun r hr => by cases hr⟩
   obtain ⟨s1, w1, ct1, D1, e1, r1, x1, T1, N1, M1⟩ := codeC_ok (fid := f) (N := fn.ntmps) (M := E.mask fn) hE.types hcall hdraw k0 c ⟨ofArgs (E.mask fn) as 0 ⟨.nil, .nil⟩, H⟩ S' e hp (Frame.enter P f cas.toArray .normal)
    (cas.toArray ++ Array.replicate (fn.ntmps - cas.length) undef) [] [] cs s w w.heap.size rfl rfl r (ofArgs_rel hc) (by simp; omega) hM0 (fun l hl => by cases hl)
   rw [<- hfr] at e1
   have hout : ∃ todo, Steps P (lone (Frame.enter P f cas.toArray .normal) cs w) (lone (outFr (Frame.enter P f cas.toArray .normal) ct1 D1 todo) cs w1) := by
    cases e with
    | normal => exact ⟨_, Steps.trans e1 (.one (st_end rfl rfl))⟩
    | exit i => cases hne
    | ret =>
     obtain ⟨k', h2⟩ := e1
     exact ⟨_, Steps.trans h2 (.one (st_ret rfl rfl))⟩
   obtain ⟨todo, hout⟩ := hout
   obtain ⟨_, rs, hD, hnd, hrs⟩ := M1
   obtain ⟨w2, hst2, r2, x2⟩ := unmark (P := P) (E := E) (b := Frame.enter P f cas.toArray .normal) (ct := ct1) (todo := todo) (cs := cs) rs w1 hnd (fun d hd => ⟨(hrs d hd).1, (hrs d hd).2.1⟩) r1 x1
   rw [<- hD] at hst2
   obtain ⟨cv, hcv, hres⟩ := results_run hE.types r2 T1 hvs
   exact ⟨s1, w2, cv, _, callFunc_run hPf hnm hb w, hcv, r2, x2, Steps.trans hout hst2, rfl, out_leaving rfl hPf hres⟩
theorem callFn_ok (hE : EnvOk E P) (hcall : CallOk P E call) (hdraw : DrawOk P E call) {k0 : Nat} {f : FuncId} {as : List AV} {H H' : Hp} {v : AV} (h : callFn E k0 call f as H = some (v, H')) : FnRes P E f as H v H' ∨ FnVal P E f as H v H' := by
 cases hs : E.sum f with
 | some g =>
  unfold callFn callC at h
  rw [hs] at h
  exact hE.sums f g hs as H v H' h
 | none => exact .inl (callFn_res hE hcall hdraw hs h)
/-! A round of a loop. -/
theorem setParams_nil_cons (N M : Nat) (T : Tm) (v : AV) (vs : List AV) : setParams N M [] T (v :: vs) = none := rfl
theorem setParams_cons_nil (N M : Nat) (T : Tm) (p : Tmp) (ps : List Tmp) : setParams N M (p :: ps) T [] = none := rfl
theorem setParams_cons_cons (N M : Nat) (T : Tm) (p : Tmp) (ps : List Tmp) (v : AV) (vs : List AV) : setParams N M (p :: ps) T (v :: vs) = bc (Nat.blt p N) (setParams N M ps (Tm.put M T v p) vs) none := rfl
theorem setParams_ok {s : Sg} {N M : Nat} : ∀ {ps : List Tmp} {T T' : Tm} {as : List AV} {cas : List Value} {ct : Array Value}, setParams N M ps T as = some T' -> concL s as = some cas -> TRel s M T ct -> ct.size = N ->
 cas.length = ps.length /\ TRel s M T' ((ps.zip cas).foldl (fun tmps p => tmps.setIfInBounds p.1 p.2) ct) /\ ((ps.zip cas).foldl (fun tmps p => tmps.setIfInBounds p.1 p.2) ct).size = N
 | [], T, T', [], cas, ct, h, hc, hT, hN => by cases h; cases hc; exact ⟨rfl, hT, hN⟩
 | [], T, T', v :: vs, cas, ct, h, hc, hT, hN => by rw [setParams_nil_cons] at h; cases h
 | p :: ps, T, T', [], cas, ct, h, hc, hT, hN => by rw [setParams_cons_nil] at h; cases h
 | p :: ps, T, T', v :: vs, cas, ct, h, hc, hT, hN => by
  rw [setParams_cons_cons] at h
  obtain ⟨hb, h⟩ := bc_some h
  obtain ⟨c, cs, hcv, hcs, rfl⟩ := concL_cons.1 hc
  have hp : p < ct.size := by rw [hN]; exact (blt_iff _ _).1 hb
  obtain ⟨h1, h2, h3⟩ := setParams_ok h hcs (TRel.put hT hp hcv) (by simpa using hN)
  exact ⟨by simp [h1], by simpa using h2, by simpa using h3⟩
theorem st_beginRound {b : Frame} {ct : Array Value} {D : List Deferred} {k : List Item} {cs : List Frame} {w : World} {l : Nat} {q : Loop} (hm : b.mode = .run) (hr : b.roundOf = some l) (hq : w.heap[l]? = some (.loop q)) (hs : q.state = .ready) :
 step P (lone (fAt b ct D (.beginRound :: k)) cs w) = .next (lone (fAt b ct D k) cs (putC w l (.loop { q with state := .busy }))) := by
 refine step_lone_go ?_
 have h1 : (Instr.beginRound l).run P w = .ok () (putC w l (.loop { q with state := .busy })) := by
  simp only [Instr.beginRound, Sem.run_bind, getLoop_run hq, setLoop_run hq, Result.andThen_ok, hs, Sem.run_pure]
 have h2 : (do b.roundOf.elim (stuck "beginRound: no round") Instr.beginRound; pure .skip : Sem Next).run P w = .ok .skip (putC w l (.loop { q with state := .busy })) := by
  simp only [hr, Option.elim_some, Sem.run_bind, h1, Result.andThen_ok, Sem.run_pure]
 simp only [stepG, stepG.exec, fAt, hm, stepG.apply, Sem.runT_eq, if_true]
 rw [h2]
 simp only [GStep.bare_after]
 rfl
theorem endRound_run {w : World} {l : Nat} {q : Loop} (hq : w.heap[l]? = some (.loop q)) (j : Option Code) :
 (Instr.endRound l j).run P w = .ok (.bool j.isNone) (putC w l (.loop { q with state := if j.isNone then .ready else .done, pending := j })) := by
 simp only [Instr.endRound, Sem.run_bind, getLoop_run hq, setLoop_run hq, Result.andThen_ok, Sem.run_pure]
theorem st_leaveRound {b : Frame} {ct : Array Value} {D : List Deferred} {cl : Frame} {cs : List Frame} {w : World} {l : Nat} {q : Loop} (hm : b.mode = .run) (hk : b.kind = .normal) (hr : b.roundOf = some l) (hq : w.heap[l]? = some (.loop q)) :
 step P (lone (fAt b ct D []) (cl :: cs) w) = .next (lone (cl.finish (.bool true)) cs (putC w l (.loop { q with state := .ready, pending := none }))) := by
 refine step_lone_go ?_
 simp only [stepG, stepG.exec, fAt, hm, hr, Sem.runT_eq, endRound_run hq, GStep.bare_after, doReturn, hk]
 rfl
theorem st_retRound {b : Frame} {ct : Array Value} {D : List Deferred} {k : List Item} {cl : Frame} {cs : List Frame} {w : World} {l : Nat} {q : Loop} (hm : b.mode = .run) (hk : b.kind = .normal) (hr : b.roundOf = some l) (hq : w.heap[l]? = some (.loop q)) :
 step P (lone (fAt b ct D (.code .ret :: k)) (cl :: cs) w) = .next (lone (cl.finish (.bool false)) cs (putC w l (.loop { q with state := .done, pending := some .ret }))) := by
 refine step_lone_go ?_
 simp only [stepG, stepG.exec, fAt, hm, hr, Sem.runT_eq, endRound_run hq, GStep.bare_after, doReturn, hk]
 rfl
theorem st_exitRound {b : Frame} {ct : Array Value} {D : List Deferred} {k : List Item} {cl : Frame} {cs : List Frame} {w : World} {l i : Nat} {q : Loop} (hm : b.mode = .run) (hk : b.kind = .normal) (hr : b.roundOf = some l) (hq : w.heap[l]? = some (.loop q)) (he : exitTo i k = none) :
 step P (lone (fAt b ct D (.code (.exit i) :: k)) (cl :: cs) w) = .next (lone (cl.finish (.bool false)) cs (putC w l (.loop { q with state := .done, pending := some (.exit i) }))) := by
 refine step_lone_go ?_
 simp only [stepG, stepG.exec, fAt, hm, hr, Sem.runT_eq, endRound_run hq, GStep.bare_after, doReturn, hk, he]
 rfl
end
end Go.Ev
namespace Go.Ev
variable {P : Program} {E : Env}
section
variable {call : CallF}
theorem yield_run {d : Nat} {q : Loop} {args : Array Value} {w : World} (hq : w.heap[d]? = some (.loop q)) (hn : args.size = q.params.size) :
 (callSem (.func (.yield d) #[] #[]) args).run P w = .ok (.round d q.fn ((q.params.zip args).foldl (fun tmps (t, a) => tmps.setIfInBounds t a) q.tmps) q.assign q.body) w := by
 simp only [callSem, Deferred.ofValue, Sem.run_bind, Sem.run_pure, Result.andThen_ok, invoke, Array.empty_append, Instr.yield, getLoop_run hq]
 rw [if_neg (by simp [hn])]
 rfl
theorem beginRoundA_some {H H1 : Hp} {l : Nat} (h : beginRoundA H l = some H1) : ∃ f T N M ps a b p, H.m.get l = some (.loop f T N M ps a b .ready p) /\ H1 = setBlk H l (.loop f T N M ps a b .busy p) := by
 obtain ⟨x, hx, h⟩ := obind_some h
 cases x with
 | loop f T N M ps a b st p =>
  cases st with
  | ready => cases h; exact ⟨f, T, N, M, ps, a, b, p, hx, rfl⟩
  | _ => cases h
 | _ => cases h
theorem endRoundA_some {H H1 : Hp} {l : Nat} {j : Option Code} (h : endRoundA H l j = some H1) : ∃ f T N M ps a b st p, H.m.get l = some (.loop f T N M ps a b st p) /\ H1 = setBlk H l (.loop f T N M ps a b (stOf j) j) := by
 obtain ⟨x, hx, h⟩ := obind_some h
 cases x with
 | loop f T N M ps a b st p => cases h; exact ⟨f, T, N, M, ps, a, b, st, p, hx, rfl⟩
 | _ => cases h
theorem endRound_ok {s : Sg} {H H1 : Hp} {w : World} {l d : Nat} {j : Option Code} (r : HRel E s H w) (h : endRoundA H l j = some H1) (hd : s.mu l = some d) :
 ∃ q : Loop, w.heap[d]? = some (.loop q) /\ HRel E s H1 (putC w d (.loop { q with state := stOf j, pending := j })) /\ Ext s H w s H1 (putC w d (.loop { q with state := stOf j, pending := j })) := by
 obtain ⟨f, T, N, M, ps, a, b, st, p, hget, rfl⟩ := endRoundA_some h
 obtain ⟨ct, D, hh, hT, hN⟩ := r.blk _ _ _ hget hd
 obtain ⟨r1, x1⟩ := r.setLoop (x' := .loop f T N M ps a b (stOf j) j) (q' := { ({ state := st, pending := p, fn := f, tmps := ct, params := ps.toArray, assign := a, body := b, defers := D } : Loop) with state := stOf j, pending := j }) hget trivial hd hh
  (.inr ⟨f, T, N, M, ps, a, b, stOf j, j, rfl, rfl, hT, hN⟩)
 exact ⟨_, hh, r1, x1⟩
theorem yieldTo_ok (hE : EnvOk E P) (hcall : CallOk P E call) (hdraw : DrawOk P E call) {k0 l : Nat} {args : List AV} {H H' : Hp} {v : AV} (h : yieldTo E k0 call l args H = some (v, H'))
 (cl : Frame) (cs : List Frame) {s : Sg} {w : World} {cf : Value} {cargs : List Value} (r : HRel E s H w) (hcf : conc s (.yield l) = some cf) (hcargs : concL s args = some cargs) :
 ∃ s' w' c nx fr, (callSem cf cargs.toArray).run P w = .ok nx w /\ Enters P nx fr /\ conc s' v = some c /\ HRel E s' H' w' /\ Ext s H w s' H' w' /\
  Steps P (lone fr (cl :: cs) w) (lone (cl.finish c) cs w') := by
 obtain ⟨d, hd, rfl⟩ := map_some (show (s.mu l).map (fun d => Value.func (.yield d) #[] #[]) = some cf from hcf)
 obtain ⟨x, hx, h⟩ := obind_some h
 cases x with
 | cells => cases h
 | dead => cases h
 | loop fid T N M ps a b st0 p0 =>
  obtain ⟨T', hT', h⟩ := obind_some h
  obtain ⟨ct, D0, hh, hT, hN⟩ := r.blk _ _ _ hx hd
  obtain ⟨hlen, hTR, hNR⟩ := setParams_ok hT' hcargs hT hN
  have hrun := yield_run (P := P) (args := cargs.toArray) hh (by simp [hlen])
  have hfold : (((ps.toArray).zip cargs.toArray).foldl (fun tmps (t, a) => tmps.setIfInBounds t a) ct) = (ps.zip cargs).foldl (fun tmps p => tmps.setIfInBounds p.1 p.2) ct := by
   simp
  generalize hct0 : (ps.zip cargs).foldl (fun tmps p => tmps.setIfInBounds p.1 p.2) ct = ct0 at hTR hNR hfold
  simp only [hfold] at hrun
  let fr := Frame.round d fid ct0 a b .normal
  have hfr : fr = fAt fr ct0 [] [.code a, .beginRound, .code b] := rfl
  have hMk : ∀ (s : Sg) (H : Hp) (w : World), Marks s H w 0 [] := fun s H w => ⟨Nat.zero_le _, [], rfl, List.nodup_nil, fun r hr => by cases hr⟩
  cases hea : evCode E call k0 fid N M a ⟨T', H⟩ with
  | none => rw [hea] at h; cases h
  | some p1 =>
   obtain ⟨e1, S1⟩ := p1
   rw [hea] at h
   cases e1 with
   | exit i => cases h
   | ret => cases h
   | normal =>
    obtain ⟨H1, hbr, h⟩ := obind_some (show (beginRoundA S1.H l).obind (fun H1 => roundEnd l (evCode E call k0 fid N M b ⟨S1.T, H1⟩)) = some (v, H') from h)
    obtain ⟨s1, w1, ct1, D1, st1, r1, x1, TT1, N1, M1⟩ := codeC_ok (fid := fid) (N := N) (M := M) hE.types hcall hdraw k0 a ⟨T', H⟩ S1 .normal hea fr ct0 [] [.beginRound, .code b] (cl :: cs) s w 0 rfl rfl r hTR hNR (hMk _ _ _)
     (fun l' hl' => by cases hl'; exact ⟨_, hh⟩)
    rw [<- hfr] at st1
    have hd1 : s1.mu l = some d := (x1.sg r l d hd).1
    obtain ⟨f2, T2, N2, M2, ps2, a2, b2, p2, hget2, rfl⟩ := beginRoundA_some hbr
    obtain ⟨ct2, D2, hh2, hT2, hN2⟩ := r1.blk _ _ _ hget2 hd1
    obtain ⟨r2, x2⟩ := r1.setLoop (x' := .loop f2 T2 N2 M2 ps2 a2 b2 .busy p2) (q' := { ({ state := .ready, pending := p2, fn := f2, tmps := ct2, params := ps2.toArray, assign := a2, body := b2, defers := D2 } : Loop) with state := .busy }) hget2 trivial hd1 hh2
     (.inr ⟨f2, T2, N2, M2, ps2, a2, b2, .busy, p2, rfl, rfl, hT2, hN2⟩)
    have st2 := st_beginRound (P := P) (b := fr) (ct := ct1) (D := D1) (k := [.code b]) (cs := cl :: cs) rfl rfl hh2 rfl
    have hst2 := Steps.trans st1 (.one st2)
    generalize hw2 : putC w1 d (.loop { ({ state := .ready, pending := p2, fn := f2, tmps := ct2, params := ps2.toArray, assign := a2, body := b2, defers := D2 } : Loop) with state := .busy }) = w2 at r2 x2 hst2
    have hloop2 : ∃ q : Loop, w2.heap[d]? = some (.loop q) := x2.loops d _ hh2
    cases heb : evCode E call k0 fid N M b ⟨S1.T, setBlk S1.H l (.loop f2 T2 N2 M2 ps2 a2 b2 .busy p2)⟩ with
    | none => rw [heb] at h; cases h
    | some p3 =>
     obtain ⟨e3, S3⟩ := p3
     rw [heb] at h
     obtain ⟨s3, w3, ct3, D3, st3, r3, x3, TT3, N3, M3⟩ := codeC_ok (fid := fid) (N := N) (M := M) hE.types hcall hdraw k0 b ⟨S1.T, setBlk S1.H l (.loop f2 T2 N2 M2 ps2 a2 b2 .busy p2)⟩ S3 e3 heb fr ct1 D1 [] (cl :: cs) s1 w2 0 rfl rfl r2 TT1 N1 (M1.ext x2)
      (fun l' hl' => by cases hl'; exact hloop2)
     have hd3 : s3.mu l = some d := (x3.sg r2 l d hd1).1
     have xx := (x1.trans x2).trans x3
     cases e3 with
     | normal =>
      obtain ⟨H4, hend, he⟩ := omap_some (show (endRoundA S3.H l none).omap (fun H => (AV.bool true, H)) = some (v, H') from h)
      cases he
      obtain ⟨q, hq, r4, x4⟩ := endRound_ok r3 hend hd3
      exact ⟨s3, _, .bool true, _, fr, hrun, .inr ⟨_, _, _, _, _, rfl, rfl⟩, rfl, r4, xx.trans x4, Steps.trans hst2 (Steps.trans st3 (.one (st_leaveRound rfl rfl rfl hq)))⟩
     | exit i =>
      obtain ⟨H4, hend, he⟩ := omap_some (show (endRoundA S3.H l (some (.exit i))).omap (fun H => (AV.bool false, H)) = some (v, H') from h)
      cases he
      obtain ⟨q, hq, r4, x4⟩ := endRound_ok r3 hend hd3
      obtain ⟨k', hk', st3⟩ := st3
      exact ⟨s3, _, .bool false, _, fr, hrun, .inr ⟨_, _, _, _, _, rfl, rfl⟩, rfl, r4, xx.trans x4, Steps.trans hst2 (Steps.trans st3 (.one (st_exitRound rfl rfl rfl hq hk')))⟩
     | ret =>
      obtain ⟨H4, hend, he⟩ := omap_some (show (endRoundA S3.H l (some .ret)).omap (fun H => (AV.bool false, H)) = some (v, H') from h)
      cases he
      obtain ⟨q, hq, r4, x4⟩ := endRound_ok r3 hend hd3
      obtain ⟨k', st3⟩ := st3
      exact ⟨s3, _, .bool false, _, fr, hrun, .inr ⟨_, _, _, _, _, rfl, rfl⟩, rfl, r4, xx.trans x4, Steps.trans hst2 (Steps.trans st3 (.one (st_retRound rfl rfl rfl hq)))⟩
theorem callSem_func {f : FuncId} {x y args : Array Value} : callSem (.func (.func f) x y) args = callFunc f (x ++ args ++ y) := rfl
theorem appStep_ok (hE : EnvOk E P) (hcall : CallOk P E call) (hdraw : DrawOk P E call) (k0 : Nat) : CallOk P E (fun f args H => appStep f E k0 call args H) := by
 intro cl cs fv args H v H' s w cf cargs h r hcf hcargs
 replace h := show oe (asCall fv) (oe (asYield fv) none fun l => yieldTo E k0 call l args H) (fun p => callFn E k0 call p.1 (appL p.2.1 (appL args p.2.2)) H) = some (v, H') from h
 cases hc : asCall fv with
 | none =>
  rw [hc, oe_none] at h
  cases hy : asYield fv with
  | none => rw [hy] at h; cases h
  | some l =>
   rw [hy, oe_some] at h
   obtain rfl := asYield_some hy
   obtain ⟨s', w', c, nx, fr, h1, h2, h3, h4, h5, h6⟩ := yieldTo_ok hE hcall hdraw h cl cs r hcf hcargs
   exact ⟨s', w', c, h3, h4, h5, .inl ⟨nx, fr, h1, h2, h6⟩⟩
 | some p =>
  rw [hc, oe_some] at h
  obtain rfl := asCall_some hc
  obtain ⟨f, a1, a2⟩ := p
  obtain ⟨x, y, hx, hy, rfl⟩ := conc_func hcf
  rw [appL_eq, appL_eq] at h
  have hall : concL s (a1 ++ (args ++ a2)) = some (x ++ (cargs ++ y)) := concL_append.2 ⟨_, _, hx, concL_append.2 ⟨_, _, hcargs, hy, rfl⟩, rfl⟩
  have harr : x.toArray ++ cargs.toArray ++ y.toArray = (x ++ (cargs ++ y)).toArray := by simp
  rcases callFn_ok hE hcall hdraw h with h | h
  ·
   obtain ⟨s', w', c, fr, hrun, hc', r', x', hst, hfn, hlv⟩ := h (cl :: cs) s w _ r hall
   refine ⟨s', w', c, hc', r', x', .inl ⟨_, _, ?_, .inl ⟨f, _, rfl, rfl⟩, Steps.trans hst (.one (step_leave_returned hlv))⟩⟩
   rw [callSem_func, harr]
   exact hrun
  ·
   obtain ⟨s', w', c, hrun, hc', r', x'⟩ := h.2 s w _ r hall
   refine ⟨s', w', c, hc', r', x', .inr ⟨?_, fun l e => h.1 l (by rw [e]; simp)⟩⟩
   rw [callSem_func, harr]
   exact hrun
end
def DrawsOk (P : Program) (E : Env) : Prop := ∀ call, CallOk P E call -> DrawOk P E call
theorem app_ok (hE : EnvOk E P) (hD : DrawsOk P E) : ∀ k, CallOk P E (app E k)
 | 0 => fun _ _ _ _ _ _ _ _ _ _ _ h => by cases h
 | k + 1 => appStep_ok hE (app_ok hE hD k) (hD _ (app_ok hE hD k)) k
end Go.Ev
