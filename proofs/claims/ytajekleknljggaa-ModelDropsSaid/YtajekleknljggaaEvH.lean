/-
  The calculus over slices by what they hold. No conditions.
-/
import Derived.Test.YtajekleknljggaaEvG
set_option linter.unusedVariables false
set_option linter.unusedSimpArgs false
namespace Go.Ev
noncomputable section
def WCall2 (E : Env) (f : AV) (as : List AV) (H : Hp) (K : AV -> Hp -> Prop) : Prop :=
 ∀ σ f1 as1 H1, HR false σ H H1 -> VR false σ H1 f f1 -> VRL false σ H1 as as1 ->
  WCall E f1 as1 H1 fun v1 H1' => ∃ σ' v H', Lf H1.next σ H H1 σ' H' H1' /\ HR false σ' H' H1' /\ VR false σ' H1' v v1 /\ K v H'
theorem WCall2.mono {E : Env} {f : AV} {as : List AV} {H : Hp} {K K' : AV -> Hp -> Prop} (h : WCall2 E f as H K) (k : ∀ v H, K v H -> K' v H) : WCall2 E f as H K' := by
 intro σ f1 as1 H1 r hf ha
 exact (h σ f1 as1 H1 r hf ha).mono fun v1 H1' ⟨σ', v, H', h1, h2, h3, h4⟩ => ⟨σ', v, H', h1, h2, h3, k _ _ h4⟩
def env2 (E : Env) : Env := { E with J := some (WCall2 E) }
theorem jmono_2 (E : Env) : JMono (env2 E) := fun _ _ _ _ _ h k => WCall2.mono h k
theorem cls_2 (E : Env) (o : Op) : cls o (env2 E) = cls o E := by cases o <;> rfl
theorem evSlice_2 (E : Env) (k : TK) : evSlice k (env2 E) = evSlice k E := by cases k <;> rfl
theorem idxAddr_2 (E : Env) (k : TK) : idxAddr k (env2 E) = idxAddr k E := by cases k <;> rfl
theorem idxVal_2 (E : Env) (k : TK) : idxVal k (env2 E) = idxVal k E := by cases k <;> rfl
theorem buildK_2 (E : Env) (k : TK) : buildK k (env2 E) = buildK k E := by cases k <;> rfl
theorem lenAV_2 (E : Env) (k : TK) : lenAV k (env2 E) = lenAV k E := by cases k <;> rfl
theorem bltArgs_2 (E : Env) (b : Builtin) (as : List AV) (ts : List TypeId) : bltArgs b (env2 E) as ts = bltArgs b E as ts := by
 cases b <;> first
  | rfl
  | (cases as with
   | nil => rfl
   | cons x r => cases r with
    | cons => rfl
    | nil => cases ts with
     | nil => rfl
     | cons t ts => first | exact congrFun (lenAV_2 E (kindOf E t)) x | rfl)
theorem appCap_2 (E : Env) (k : Cap) : appCap k (env2 E) = appCap k E := by cases k <;> rfl
theorem evAppend_2 (E : Env) : evAppend (env2 E) = evAppend E := by
 funext H e s n new
 unfold evAppend
 simp only [appCap_2]; rfl
theorem appArgs_2 (E : Env) : appArgs (env2 E) = appArgs E := by
 funext H t ts s x
 unfold appArgs
 rw [evAppend_2]; rfl
theorem evPure_2 (E : Env) (M : Nat) (o : Op) (T : Tm) : evPure M o (env2 E) T = evPure M o E T := by
 cases o with
 | build t ps =>
  show bc (isAggK (kindOf E t)) ((zeroT E t).obind fun z => (fillParts M (buildK (kindOf E t) (env2 E)) T ps.toList z.cells).omap AV.agg) none = _
  rw [buildK_2]; rfl
 | slice t x lo hi mx =>
  show ((evO M x T).obind fun x => (evOpt M lo T).obind fun lo => (evOpt M hi T).obind fun hi => (evOpt M mx T).obind fun mx => evSlice (kindOf E t) (env2 E) x lo hi mx) = _
  rw [evSlice_2]; rfl
 | indexAddr t x i =>
  show ((evO M x T).obind fun x => (evO M i T).obind fun i => (natOf i).obind fun i => idxAddr (kindOf E t) (env2 E) x i) = _
  rw [idxAddr_2]; rfl
 | index t x i =>
  show ((evO M x T).obind fun x => (evO M i T).obind fun i => (natOf i).obind fun i => idxVal (kindOf E t) (env2 E) x i) = _
  rw [idxVal_2]; rfl
 | call c =>
  show (match c.callee with | .builtin b => (evOs M c.args.toList T).obind fun as => bltArgs b (env2 E) as c.argTypes.toList | _ => none) = (match c.callee with | .builtin b => (evOs M c.args.toList T).obind fun as => bltArgs b E as c.argTypes.toList | _ => none)
  split
  ·
   simp only [bltArgs_2]
  ·
   rfl
 | _ => rfl
theorem evRead_2 (E : Env) (M : Nat) (o : Op) (T : Tm) (H : Hp) : evRead M o (env2 E) T H = evRead M o E T H := by cases o <;> rfl
theorem evAlloc_2 (E : Env) (M : Nat) (o : Op) (T : Tm) : evAlloc M o (env2 E) T = evAlloc M o E T := by cases o <;> rfl
theorem bltEff_2 (E : Env) (b : Builtin) (H : Hp) (as : List AV) (ts : List TypeId) : bltEff b (env2 E) H as ts = bltEff b E H as ts := by
 cases b <;> first
  | rfl
  | (cases as with
   | nil => rfl
   | cons x r => cases r with
    | nil => rfl
    | cons y r => cases r with
     | cons => rfl
     | nil => cases ts with
      | nil => rfl
      | cons t ts => show appArgs (env2 E) H t ts x y = appArgs E H t ts x y; rw [appArgs_2])
theorem storeV_2 (E : Env) (H : Hp) (t : TypeId) (p x : AV) : storeV (env2 E) H t p x = storeV E H t p x := rfl
theorem isEff_2 (E : Env) (o : Oper) : isEff (env2 E) o = isEff E o := by unfold isEff; rw [cls_2]
theorem okS_2 (E : Env) (ops : List Oper) : okS (env2 E) ops = okS E ops := by
 unfold okS
 simp only [isEff_2]
structure SR (M : Nat) (σ : Mp) (s2 s1 : St) : Prop where
 t : TR false σ s1.H M s2.T s1.T
 h : HR false σ s2.H s1.H
def LKn (q : Bool) (n M : Nat) (σ : Mp) (H2 H1 : Hp) (K : St -> Prop) (s1 : St) : Prop := ∃ σ' s2, Lf n σ H2 H1 σ' s2.H s1.H /\ SR M σ' s2 s1 /\ (q = false -> ∀ c, (∀ b, σ' b ≠ some c) -> (s1.H.m.get c).isSome = true -> (H1.m.get c).isSome = true) /\ K s2
def LK (n M : Nat) (σ : Mp) (H2 H1 : Hp) (K : St -> Prop) (s1 : St) : Prop := ∃ σ' s2, Lf n σ H2 H1 σ' s2.H s1.H /\ SR M σ' s2 s1 /\ K s2
section
variable {E : Env} {fid : FuncId} {N M : Nat} {σ : Mp}
theorem putT_R {w : Bool} {H : Hp} {T T' T2 : Tm} {d : Option Tmp} {v a : AV} (k : TR w σ H M T T') (hv : VR w σ H v a) (h : putT N M T d v = some T2) : ∃ T2', putT N M T' d a = some T2' /\ TR w σ H M T2 T2' := by
 cases d with
 | none => cases h; exact ⟨T', rfl, k⟩
 | some t =>
  have e : ∀ (T : Tm) (v : AV), putT N M T (some t) v = bc (Nat.blt t N) (some (T.put M v t)) none := by
   intro T v
   unfold putT putTC Tm.put
   cases hb : Nat.blt t N with
   | false => simp only [hb]; rfl
   | true => cases hm : Nat.testBit M t <;> simp only [hb, hm] <;> rfl
  rw [e] at h ⊢
  obtain ⟨h1, h⟩ := bc_some h
  cases h
  refine ⟨T'.put M a t, by rw [h1]; rfl, ?_⟩
  intro i x hx
  rw [Tm.get_put] at hx ⊢
  split at hx
  ·
   rename_i he; cases hx; exact ⟨a, by rw [if_pos he], hv⟩
  ·
   rename_i he
   obtain ⟨y, hy, hr⟩ := k i x hx
   exact ⟨y, by rw [if_neg he]; exact hy, hr⟩
theorem KPut_R {n : Nat} {T T' : Tm} {d : Option Tmp} {K : St -> Prop} {v a : AV} {H2 H1 G2 G1 : Hp} {σ0 : Mp} (k : TR false σ H1 M T T') (r : HR false σ H2 H1) (hl : Lf n σ0 G2 G1 σ H2 H1) (hv : VR false σ H1 v a) (h : KPut N M T d K v H2) :
 KPut N M T' d (LK n M σ0 G2 G1 K) a H1 := by
 obtain ⟨T2, hT, hk⟩ := h
 obtain ⟨T2', hT', hr⟩ := putT_R k hv hT
 exact ⟨T2', hT', σ, ⟨T2, H2⟩, hl, ⟨hr, r⟩, hk⟩
theorem KPut_Rn {q : Bool} {n : Nat} {T T' : Tm} {d : Option Tmp} {K : St -> Prop} {v a : AV} {H2 H1 G2 G1 : Hp} {σ0 : Mp} (k : TR false σ H1 M T T') (r : HR false σ H2 H1) (hl : Lf n σ0 G2 G1 σ H2 H1) (hn : q = false -> ∀ c, (∀ b, σ b ≠ some c) -> (H1.m.get c).isSome = true -> (G1.m.get c).isSome = true) (hv : VR false σ H1 v a) (h : KPut N M T d K v H2) :
 KPut N M T' d (LKn q n M σ0 G2 G1 K) a H1 := by
 obtain ⟨T2, hT, hk⟩ := h
 obtain ⟨T2', hT', hr⟩ := putT_R k hv hT
 exact ⟨T2', hT', σ, ⟨T2, H2⟩, hl, ⟨hr, r⟩, hn, hk⟩
theorem single_R {w : Bool} {H : Hp} : ∀ {l r : List AV}, VRL w σ H l r -> VR w σ H (single l) (single r)
 | [], _, h => by rw [VRL.nil] at h; subst h; exact VR.tuple_mk (VRL.nil.2 rfl)
 | [x], _, h => by
  obtain ⟨y, r', h1, h2, rfl⟩ := VRL.cons.1 h
  rw [VRL.nil] at h2; subst h2; exact h1
 | x :: y :: l, _, h => by
  have h0 := h
  obtain ⟨x', r', h1, h2, rfl⟩ := VRL.cons.1 h
  obtain ⟨y', r'', h3, h4, rfl⟩ := VRL.cons.1 h2
  exact VR.tuple_mk h0
theorem wpEff_R (hJ : E.J = none) (hZ : ZeroOk E) {o : Op} {s2 s1 : St} {K : AV -> Hp -> Prop} (r : SR M σ s2 s1) (h : wpEff (env2 E) M o s2.T s2.H K) :
 wpEff E M o s1.T s1.H fun a H1' => ∃ σ' v H', Lf s1.H.next σ s2.H s1.H σ' H' H1' /\ HR false σ' H' H1' /\ VR false σ' H1' v a /\ (isCallO o = false -> ∀ c, (∀ b, σ' b ≠ some c) -> (H1'.m.get c).isSome = true -> (s1.H.m.get c).isSome = true) /\ K v H' := by
 cases o with
 | store t x y =>
  obtain ⟨p, hp, v, hv, q, hq, hk⟩ := h
  obtain ⟨p', hp', r1⟩ := evO_R r.t hp
  obtain ⟨v', hv', r2⟩ := evO_R r.t hv
  rw [storeV_2] at hq
  obtain ⟨q', hq', σ', hl, hh, hr⟩ := storeV_R r.h r1 r2 hq
  exact ⟨p', hp', v', hv', q', hq', σ', q.1, q.2, hl.toLf, hh, hr, fun _ => hl.nu, hk⟩
 | call c =>
  have h := show (match c.callee with
   | .value f => oP (evO M f s2.T) (KCallF (env2 E) M s2.T s2.H c.args.toList K)
   | .builtin b => oP (evOs M c.args.toList s2.T) (KBlt (env2 E) b s2.H c.argTypes.toList K)
   | _ => False) from h
  show (match c.callee with
   | .value f => oP (evO M f s1.T) (KCallF E M s1.T s1.H c.args.toList _)
   | .builtin b => oP (evOs M c.args.toList s1.T) (KBlt E b s1.H c.argTypes.toList _)
   | _ => False)
  split at h
  ·
   rename_i f hc
   obtain ⟨fv, hf, as, ha, h⟩ := h
   obtain ⟨f', hf', r1⟩ := evO_R r.t hf
   obtain ⟨as', ha', r2⟩ := evOs_R r.t ha
   have h := show WCall2 E fv as s2.H K from h
   refine ⟨f', hf', as', ha', ?_⟩
   show callJ E f' as' s1.H _
   rw [callJ_1 hJ]
   refine (h σ f' as' s1.H r.h r1 r2).mono ?_
   rintro v1 H1' ⟨σ', v, H', h1, h2, h3, h4⟩
   exact ⟨σ', v, H', h1, h2, h3, fun hq => absurd hq (by unfold isCallO; simp only [hc]; decide), h4⟩
  ·
   rename_i b hc
   obtain ⟨as, ha, q, hq, hk⟩ := h
   obtain ⟨as', ha', r2⟩ := evOs_R r.t ha
   rw [bltEff_2] at hq
   obtain ⟨q', hq', σ', hl, hh, hr⟩ := bltEff_R hZ r.h r2 hq
   exact ⟨as', ha', q', hq', σ', q.1, q.2, hl.toLf, hh, hr, fun _ => hl.nu, hk⟩
  ·
   exact h
 | _ => exact h.elim
theorem wpOp_Rn (hJ : E.J = none) (hZ : ZeroOk E) {o : Oper} {s2 s1 : St} {K : St -> Prop} (r : SR M σ s2 s1) (h : wpOp (env2 E) N M o s2 K) : wpOp E N M o s1 (LKn (isCallO o.op) s1.H.next M σ s2.H s1.H K) := by
 unfold wpOp at h ⊢
 rw [cls_2] at h
 cases hc : cls o.op E with
 | pure =>
  rw [hc] at h
  obtain ⟨v, hv, hk⟩ := h
  rw [evPure_2] at hv
  obtain ⟨a, ha, hr⟩ := evPure_R hZ r.t hv
  exact ⟨a, ha, KPut_Rn r.t r.h (Lf.refl _ _ _ _) (fun _ _ _ h => h) hr hk⟩
 | read =>
  rw [hc] at h
  obtain ⟨v, hv, hk⟩ := h
  rw [evRead_2] at hv
  obtain ⟨a, ha, hr⟩ := evRead_R r.h r.t hv
  exact ⟨a, ha, KPut_Rn r.t r.h (Lf.refl _ _ _ _) (fun _ _ _ h => h) hr hk⟩
 | alloc =>
  rw [hc] at h
  obtain ⟨p, hp, hk⟩ := h
  rw [evAlloc_2] at hp
  obtain ⟨q, hq, hb, hv⟩ := evAlloc_R hZ r.t hp
  obtain ⟨r', k'⟩ := r.h.new hb
  exact ⟨q, hq, KPut_Rn (r.t.mono k'.kp) r' k'.toLf (fun _ => k'.nu) (hv _ _ _ _ (by simp [Mp.add])) hk⟩
 | eff =>
  rw [hc] at h
  refine wpEff_mono (jmono_1 hJ) (wpEff_R hJ hZ r h) fun a H1' ⟨σ', v, H', hl, hh, hr, hn, hk⟩ => ?_
  exact KPut_Rn (r.t.mono hl.kp) hh hl hn hr hk
theorem wpOp_R (hJ : E.J = none) (hZ : ZeroOk E) {o : Oper} {s2 s1 : St} {K : St -> Prop} (r : SR M σ s2 s1) (h : wpOp (env2 E) N M o s2 K) : wpOp E N M o s1 (LK s1.H.next M σ s2.H s1.H K) :=
 wpOp_mono (jmono_1 hJ) (wpOp_Rn hJ hZ r h) fun _ ⟨σ', s2, h1, h2, _, h3⟩ => ⟨σ', s2, h1, h2, h3⟩
theorem LK.bind {n : Nat} {H2 H1 : Hp} {K K' : St -> Prop} {s1 : St} {σ' : Mp} {s2 : St} (hn : n ≤ H1.next) (hl : Lf H1.next σ H2 H1 σ' s2.H s1.H) {t : St} (h : LK s1.H.next M σ' s2.H s1.H K t) (k : ∀ s, K s -> K' s) : LK n M σ H2 H1 K' t := by
 obtain ⟨σ'', s, h1, h2, h3⟩ := h
 exact ⟨σ'', s, (hl.then h1).mono hn, h2, k s h3⟩
theorem asBool_T {w : Bool} {H : Hp} {T T' : Tm} (k : TR w σ H M T T') {ops : List Oper} {g : Nat × Bool} {b : Bool} (h : wantedG M ops T g = some b) : wantedG M ops T' g = some b := by
 unfold wantedG wantedGC at h ⊢
 cases hd : (ops[g.1]?).bind (·.dst) with
 | none => rw [hd] at h; exact h
 | some d =>
  rw [hd] at h
  obtain ⟨v, hv, rfl⟩ := omap_some (show (Tm.get M T d).omap _ = some b from h)
  obtain ⟨a, ha, hr⟩ := k d v hv
  show (Tm.get M T' d).omap _ = _
  rw [ha]
  show some (oe (asBoolV a) false fun b => boolEq b g.2) = _
  rw [hr.asBool]
theorem wpOps_R (hJ : E.J = none) (hZ : ZeroOk E) {all : List Oper} {K : St -> Prop} : ∀ {l : List Oper} {σ : Mp} {s2 s1 : St}, SR M σ s2 s1 -> wpOps (env2 E) N M all l s2 K -> wpOps E N M all l s1 (LK s1.H.next M σ s2.H s1.H K)
 | [], σ, s2, s1, r, h => ⟨σ, s2, Lf.refl _ _ _ _, r, h⟩
 | o :: l, σ, s2, s1, r, h => by
  have tail : ∀ t : St, LK s1.H.next M σ s2.H s1.H (fun s' => wpOps (env2 E) N M all l s' K) t -> wpOps E N M all l t (LK s1.H.next M σ s2.H s1.H K) := by
   rintro t ⟨σ', s, h1, h2, h3⟩
   exact wpOps_mono (jmono_1 hJ) (fun u hu => LK.bind (Nat.le_refl _) h1 hu fun _ h => h) (wpOps_R hJ hZ h2 h3)
  unfold wpOps at h ⊢
  split at h
  ·
   exact wpOp_mono (jmono_1 hJ) (wpOp_R hJ hZ r h) tail
  ·
   obtain ⟨b, hb, h⟩ := h
   refine ⟨b, asBool_T r.t hb, ?_⟩
   cases b with
   | true => exact wpOp_mono (jmono_1 hJ) (wpOp_R hJ hZ r (show wpOp (env2 E) N M o s2 _ from h)) tail
   | false =>
    have h := show KPut N M s2.T o.dst (fun s' => wpOps (env2 E) N M all l s' K) .undef s2.H from h
    exact KPut_mono (show KPut N M s1.T o.dst _ .undef s1.H from KPut_R r.t r.h (Lf.refl _ _ _ _) VR.undef h) tail
end
end
end Go.Ev
namespace Go.Ev
noncomputable section
/-! A region whose order is open. -/
theorem capEq_r (c : Cap) : capEq c c = true := by cases c <;> simp [capEq, boolEq_eq]
mutual
theorem avEq_r : ∀ v : AV, avEq v v = true
 | .bool b => by simp [avEq, boolEq_eq]
 | .int k n => by simp [avEq, kindEq_s, ieq_eq]
 | .str s => by simp [avEq, strEq_eq]
 | .nilp | .nils | .nilf | .nili => rfl
 | .ptr b o => by simp [avEq]
 | .slice b o n c => by simp [avEq, capEq_r]
 | .func f a c => by simp [avEq, avEqL_r a, avEqL_r c]
 | .yield l => by simp [avEq]
 | .iface t v => by simp [avEq, avEq_r v]
 | .agg l => by simp [avEq, avEqL_r l]
 | .tuple l => by simp [avEq, avEqL_r l]
 | .esl a => by simp [avEq]
 | .lst n l => by simp [avEq, avEqL_r l]
 | .ept l o => by simp [avEq, avEqL_r l]
theorem avEqL_r : ∀ l : List AV, avEqL l l = true
 | [] => rfl
 | x :: l => by simp [avEqL, avEq_r x, avEqL_r l]
end
theorem allI_all {p : Nat -> Oper -> Bool} : ∀ {l : List Oper} {k : Nat}, (∀ j y, l[j]? = some y -> p (k + j) y = true) -> allI p k l = true
 | [], _, _ => rfl
 | o :: l, k, h => by
  unfold allI
  have h0 := h 0 o rfl
  rw [Nat.add_zero] at h0
  rw [h0]
  exact allI_all fun j y hj => by
   have := h (j + 1) y (by simpa using hj)
   rwa [show k + (j + 1) = k + 1 + j by omega] at this
theorem enum_get : ∀ {l : List Oper} {k j : Nat} {y : Oper}, l[j]? = some y -> (k + j, y) ∈ enumFrom k l := by
 intro l
 induction l with
 | nil => intro k j y h; simp at h
 | cons o l ih =>
  intro k j y h
  unfold enumFrom
  cases j with
  | zero =>
   have : o = y := by simpa using h
   subst this; simp
  | succ j =>
   have := ih (k := k + 1) (show l[j]? = some y by simpa using h)
   rw [show k + 1 + j = k + (j + 1) by omega] at this
   exact List.mem_cons_of_mem _ this
theorem loose_mem {E : Env} {ops : List Oper} {e j : Nat} {x y : Oper} (hx : ops[e]? = some x) (hy : ops[j]? = some y) (he : isEff E x = true) (hb : looseB E (ancL ops []) e j y = true) : (e, j) ∈ loose E ops := by
 unfold loose looseA
 rw [List.mem_flatMap]
 refine ⟨(e, x), by simpa using enum_get (k := 0) hx, ?_⟩
 simp only [he, bc_true]
 rw [List.mem_map]
 exact ⟨(j, y), List.mem_filter.2 ⟨by simpa using enum_get (k := 0) hy, hb⟩, rfl⟩
theorem loose_2 (E : Env) (ops : List Oper) : loose (env2 E) ops = loose E ops := by
 unfold loose looseA looseB
 simp only [isEff_2, cls_2]
theorem looseAll_mem {E : Env} {M : Nat} {ops : List Oper} {tr : List St} {p : Nat × Nat} : ∀ {l : List (Nat × Nat)}, looseAll E M ops tr l -> p ∈ l -> looseOk E M ops tr p
 | q :: l, h, hp => by
  rcases List.mem_cons.1 hp with rfl | hp
  ·
   exact h.1
  ·
   exact looseAll_mem h.2 hp
theorem looseOk_2 (E : Env) (M : Nat) (ops : List Oper) (tr : List St) (p : Nat × Nat) : looseOk (env2 E) M ops tr p = looseOk E M ops tr p := by
 unfold looseOk
 simp only [cls_2]
theorem read_own {E : Env} {M : Nat} {s d : TypeId} {x : Operand} {T : Tm} {H : Hp} {v : AV} (hl : isLoad (.convert s d x) = true) (h : evRead M (.convert s d x) E T H = some v) :
 ∃ y e, evO M x T = some y /\ (∀ T' H', evRead M (.convert s d x) E T' H' = (evO M x T').obind (ownSlice e H')) /\ ownSlice e H y = some v := by
 have hl : Nat.beq s d = true := hl
 obtain rfl := Nat.eq_of_beq_eq_true hl
 have hd : ∀ T' H', evRead M (.convert s s x) E T' H' = (match kindOf E s with
  | .slice e => match isByteK (kindOf E e) with
   | true => match kindOf E s with
    | .string => (evO M x T').obind (strOf H')
    | .slice _ => match Nat.beq s s with | true => (evO M x T').obind (ownSlice e H') | false => none
    | _ => none
   | false => none
  | _ => none) := fun _ _ => rfl
 rw [hd] at h
 cases hk : kindOf E s with
 | slice e =>
  rw [hk] at h
  cases hb : isByteK (kindOf E e) with
  | false => simp only [hb] at h; cases h
  | true =>
   simp only [hb, Nat.beq_refl] at h
   obtain ⟨y, hy, h⟩ := obind_some h
   refine ⟨y, _, hy, fun T' H' => ?_, h⟩
   rw [hd, hk]
   simp only [hb, Nat.beq_refl]
 | _ => rw [hk] at h; cases h
theorem evRead_look {E : Env} {M : Nat} {o : Op} {T : Tm} {H H' : Hp} {v : AV} (hl : isLoad o = true) (h : evRead M o E T H = some v) (hb : ∀ b, lookB M o T = some b -> H'.m.get b = H.m.get b) : evRead M o E T H' = some v := by
 cases o with
 | load t a =>
  obtain ⟨p, hp, h⟩ := obind_some (show ((evO M a T).obind fun v => oe (asPtr v) ((asEpt v).obind fun q => partAV E t q.1 q.2) fun q => loadAV E H t q.1 q.2) = some v from h)
  show ((evO M a T).obind fun v => oe (asPtr v) ((asEpt v).obind fun q => partAV E t q.1 q.2) fun q => loadAV E H' t q.1 q.2) = some v
  rw [hp]
  show oe (asPtr p) ((asEpt p).obind fun q => partAV E t q.1 q.2) (fun q => loadAV E H' t q.1 q.2) = some v
  cases hq : asPtr p with
  | none => rw [hq] at h; exact h
  | some q =>
   rw [hq, oe_some] at h
   rw [oe_some]
   have hk := hb q.1 (by show (evO M a T).obind _ = _; rw [hp]; show (asPtr p).omap _ = _; rw [hq]; rfl)
   unfold loadAV loadC at h ⊢
   cases hi : E.ty t with
   | none => rw [hi] at h; cases h
   | some i =>
    rw [hi] at h
    simp only at h ⊢
    cases hag : i.agg with
    | true =>
     rw [hag] at h
     show (cellsAt H' q.1 q.2 i.size).omap AV.agg = _
     rw [cellsAt_get hk]; exact h
    | false =>
     rw [hag] at h
     show cellAt H' q.1 q.2 = _
     rw [cellAt_get hk]; exact h
 | convert s d x =>
  obtain ⟨y, e, hy, ho, hown⟩ := read_own hl h
  rw [ho]
  obtain ⟨q, hq, hown'⟩ := obind_some hown
  have hk := hb q.1 (by show (evO M x T).obind _ = _; rw [hy]; show (asSlice y).omap _ = _; rw [hq]; rfl)
  show (evO M x T).obind (ownSlice e H') = _
  rw [hy]
  show (asSlice y).obind _ = _
  rw [hq]
  show (H'.m.get q.1).obind _ = _
  rw [hk]; exact hown'
 | _ => cases hl
section
variable {E : Env} {N M : Nat}
abbrev Tri := Mp × St × St
structure Way (E : Env) (M : Nat) (ops : List Oper) (base : Nat) (X : List Tri) : Prop where
 sr : ∀ (i : Nat) (a : Tri), X[i]? = some a -> SR M a.1 a.2.1 a.2.2
 hole : ops.any (isAlloc E) = true -> ∀ (i : Nat) (a : Tri) (k : Nat), X[i]? = some a -> i ≤ k -> k < ops.length -> a.2.2.H.m.get (base + k) = none
 room : ∀ (i : Nat) (a : Tri), X[i]? = some a -> ops.any (isAlloc E) = true -> base + ops.length ≤ a.2.2.H.next
 lf : ∀ (i : Nat) (a b : Tri), X[i]? = some a -> X[i + 1]? = some b -> Lf base a.1 a.2.1.H a.2.2.H b.1 b.2.1.H b.2.2.H
 alloc : ∀ (i : Nat) (a b : Tri) (y : Oper), X[i]? = some a -> X[i + 1]? = some b -> ops[i]? = some y -> cls y.op E = .alloc -> wantedA M ops a.2.2.T y = some true -> b.1 a.2.1.H.next = some (base + i)
 want : ∀ (i : Nat) (a b : Tri) (y : Oper), X[i]? = some a -> X[i + 1]? = some b -> ops[i]? = some y -> ∃ b, wantedA M ops a.2.2.T y = some b
 nu : ∀ (i : Nat) (a b : Tri) (y : Oper), X[i]? = some a -> X[i + 1]? = some b -> ops[i]? = some y -> isCallO y.op = false -> ∀ c, (∀ k, b.1 k ≠ some c) -> (b.2.2.H.m.get c).isSome = true -> (a.2.2.H.m.get c).isSome = true
 read : ∀ (i : Nat) (a b : Tri) (y : Oper), X[i]? = some a -> X[i + 1]? = some b -> ops[i]? = some y -> cls y.op E = .read -> wantedA M ops a.2.2.T y = some true -> ∃ v, evRead M y.op E a.2.1.T a.2.1.H = some v
theorem Way.far {ops : List Oper} {base : Nat} {X : List Tri} (h : Way E M ops base X) : ∀ (d : Nat) {i : Nat} {a b : Tri}, X[i]? = some a -> X[i + d]? = some b -> Lf base a.1 a.2.1.H a.2.2.H b.1 b.2.1.H b.2.2.H := by
 intro d
 induction d with
 | zero => intro i a b ha hb; rw [Nat.add_zero, ha] at hb; cases hb; exact Lf.refl _ _ _ _
 | succ d ih =>
  intro i a b ha hb
  have hlt : i + d < X.length := by have := (List.getElem?_eq_some_iff.1 hb).1; omega
  have hc := List.getElem?_eq_getElem hlt
  exact (ih ha hc).trans (h.lf (i + d) _ b hc hb)
theorem Way.farN {ops : List Oper} {base : Nat} {X : List Tri} (h : Way E M ops base X) (hlen : X.length ≤ ops.length + 1) : ∀ (d : Nat) {i : Nat} {a b : Tri}, noCalls ops i (i + d) -> X[i]? = some a -> X[i + d]? = some b -> ∀ c, (∀ k, b.1 k ≠ some c) -> (b.2.2.H.m.get c).isSome = true -> (a.2.2.H.m.get c).isSome = true := by
 intro d
 induction d with
 | zero => intro i a b _ ha hb c _ hs; rw [Nat.add_zero, ha] at hb; cases hb; exact hs
 | succ d ih =>
  intro i a b hn ha hb c hc hs
  have hlt : i + d < X.length := by have := (List.getElem?_eq_some_iff.1 hb).1; omega
  have hm := List.getElem?_eq_getElem hlt
  have hlt2 : i + d < ops.length := by have := (List.getElem?_eq_some_iff.1 hb).1; omega
  have hy := List.getElem?_eq_getElem hlt2
  have h1 := h.nu (i + d) _ b _ hm hb hy (hn _ _ (Nat.le_add_right _ _) (Nat.lt_succ_self _) hy) c hc hs
  exact ih (fun k o h1 h2 => hn k o h1 (by omega)) ha hm c (fun k hk => hc k ((h.lf (i + d) _ b hm hb).kp.le _ _ hk)) h1
theorem lookB_R {σ : Mp} {H : Hp} {T T' : Tm} {o : Op} {c : Nat} {v : AV} {H2 : Hp} (hl : isLoad o = true) (k : TR false σ H M T T') (hv : evRead M o E T H2 = some v) (h : lookB M o T' = some c) : (∃ b, lookB M o T = some b /\ σ b = some c) ∨ (lookB M o T = none /\ Fz σ H c) := by
 cases o with
 | load t x =>
  obtain ⟨p, hp, _⟩ := obind_some (show ((evO M x T).obind fun v => oe (asPtr v) ((asEpt v).obind fun q => partAV E t q.1 q.2) fun q => loadAV E H2 t q.1 q.2) = some v from hv)
  obtain ⟨p', hp', hr⟩ := evO_R k hp
  obtain ⟨p1, hp1, h⟩ := obind_some (show ((evO M x T').obind fun v => (asPtr v).omap (·.1)) = some c from h)
  rw [hp'] at hp1; cases hp1
  obtain ⟨⟨c1, o1⟩, hq, rfl⟩ := omap_some h
  obtain rfl := asPtr_some hq
  have hlook : lookB M (.load t x) T = (asPtr p).omap (·.1) := by show (evO M x T).obind _ = _; rw [hp]; rfl
  rw [hlook]
  cases p with
  | ptr b o =>
   simp only [VR] at hr
   obtain ⟨c', hc, he⟩ := hr
   cases he
   exact .inl ⟨b, rfl, hc⟩
  | ept cs off =>
   simp only [VR] at hr
   rcases hr with ⟨hw, _⟩ | ⟨c', o, cs', he, hf, _⟩
   ·
    cases hw
   ·
    cases he; exact .inr ⟨rfl, hf⟩
  | _ =>
   simp only [VR] at hr
   first
    | (cases hr; done)
    | (obtain ⟨_, _, he⟩ := hr; cases he; done)
    | (obtain ⟨_, _, _, _, he⟩ := hr; cases he; done)
    | (rcases hr with ⟨hw, _⟩ | ⟨_, he | ⟨_, _, _, he, _⟩ | ⟨_, he⟩⟩ | ⟨_, _, _, _, _, _, he, _⟩ <;> first | cases hw | cases he)
 | convert s d x =>
  obtain ⟨y, e, hy, _, hown⟩ := read_own hl hv
  obtain ⟨q, hq, _⟩ := obind_some hown
  obtain ⟨b, o, n, kk⟩ := q
  obtain rfl := asSlice_some hq
  obtain ⟨p', hp', hr⟩ := evO_R k hy
  obtain ⟨c', hc, rfl⟩ := hr.slice
  obtain ⟨p1, hp1, h⟩ := obind_some (show ((evO M x T').obind fun v => (asSlice v).omap (·.1)) = some c from h)
  rw [hp'] at hp1; cases hp1
  cases h
  exact .inl ⟨b, by show (evO M x T).obind _ = _; rw [hy]; rfl, hc⟩
 | _ => cases hl
theorem Way.okD {ops : List Oper} {base : Nat} {X : List Tri} (h : Way E M ops base X) (hX : X.length = ops.length + 1) (hl : looseAll E M ops (X.map fun a => a.2.1) (loose E ops)) : okD E M ops base (X.map fun a => a.2.2) = true := by
 unfold Go.Ev.okD
 simp only
 refine allI_all fun e x hx => ?_
 rw [Nat.zero_add]
 cases he : isEff E x with
 | false => rfl
 | true =>
  simp only
  refine allI_all fun j y hy => ?_
  rw [Nat.zero_add]
  cases hb : Nat.beq e j || (bitAt (ancL ops []) j e || bitAt (ancL ops []) e j) with
  | true => rfl
  | false =>
   simp only
   have hen := (List.getElem?_eq_some_iff.1 hx).1
   have hjn := (List.getElem?_eq_some_iff.1 hy).1
   have he0 := List.getElem?_eq_getElem (show e < X.length by omega)
   have he1 := List.getElem?_eq_getElem (show e + 1 < X.length by omega)
   have hj0 := List.getElem?_eq_getElem (show j < X.length by omega)
   have hj1 := List.getElem?_eq_getElem (show j + 1 < X.length by omega)
   generalize X[e] = u at he0
   generalize X[e + 1] = v at he1
   generalize X[j] = s at hj0
   generalize X[j + 1] = s' at hj1
   have hej : e ≠ j := by rintro rfl; rw [Nat.beq_refl] at hb; cases hb
   unfold okPair
   have m1 : (X.map fun a => a.2.2)[j]? = some s.2.2 := by rw [List.getElem?_map, hj0]; rfl
   have m2 : (X.map fun a => a.2.2)[e]? = some u.2.2 := by rw [List.getElem?_map, he0]; rfl
   have m3 : (X.map fun a => a.2.2)[e + 1]? = some v.2.2 := by rw [List.getElem?_map, he1]; rfl
   have n1 : (X.map fun a => a.2.1)[j]? = some s.2.1 := by rw [List.getElem?_map, hj0]; rfl
   have n2 : (X.map fun a => a.2.1)[e]? = some u.2.1 := by rw [List.getElem?_map, he0]; rfl
   have n3 : (X.map fun a => a.2.1)[e + 1]? = some v.2.1 := by rw [List.getElem?_map, he1]; rfl
   have ok : ∀ hbb : looseB E (ancL ops []) e j y = true, looseOk E M ops (X.map fun a => a.2.1) (e, j) := fun hbb => looseAll_mem hl (loose_mem hx hy he hbb)
   simp only [looseOk, hy, n1, n2, n3] at ok
   unfold looseB at ok
   rw [hb] at ok
   have want : ∀ {b}, wantedA M ops s.2.1.T y = some b -> wantedA M ops s.2.2.T y = some b := by
    intro b hw
    unfold wantedA at hw ⊢
    split at hw
    ·
     exact hw
    ·
     exact asBool_T (h.sr j s hj0).t hw
   cases hc : cls y.op E with
   | pure => rfl
   | eff => rfl
   | read =>
    rw [hc] at ok
    simp only [m1, m2, m3]
    have ok := ok rfl
    cases hw : wantedA M ops s.2.2.T y with
    | none => obtain ⟨b, hb⟩ := h.want j s s' y hj0 hj1 hy; rw [hw] at hb; cases hb
    | some b =>
     cases b with
     | false => rfl
     | true =>
      simp only
      obtain ⟨hld, ok⟩ := ok
      have ok := ok.resolve_left (fun k => by rw [want k] at hw; cases hw)
      obtain ⟨x2, hx2⟩ := h.read j s s' y hj0 hj1 hy hc hw
      obtain ⟨x1, hx1, _⟩ := evRead_R (h.sr j s hj0).h (h.sr j s hj0).t hx2
      have same : ∀ {H'}, (∀ c, lookB M y.op s.2.2.T = some c -> H'.m.get c = s.2.2.H.m.get c) -> optEq (evRead M y.op E s.2.2.T H') (evRead M y.op E s.2.2.T s.2.2.H) = true := by
       intro H' hh
       rw [hx1, evRead_look hld hx1 hh]
       exact avEq_r x1
      cases hlt : Nat.blt e j with
      | true =>
       rw [hlt] at ok
       rcases (show (∃ b, lookB M y.op s.2.1.T = some b /\ (s.2.1.H.m.get b).isSome = true /\ NT b u.2.1.H s.2.1.H) ∨ (lookB M y.op s.2.1.T = none /\ noCalls ops e j) from ok) with ⟨b, hb1, hb0, hb2, l, hb3, hb4⟩ | ⟨hno, hcalls⟩
       rotate_right
       ·
        refine same fun c hc1 => ?_
        rw [blt_iff] at hlt
        have lf := h.far (j - e) he0 (by rw [show e + (j - e) = j by omega]; exact hj0)
        rcases lookB_R (E := E) hld (h.sr j s hj0).t hx2 hc1 with ⟨b', hb5, _⟩ | ⟨_, hf⟩
        ·
         rw [hno] at hb5; cases hb5
        ·
         have hs0 := h.farN (Nat.le_of_eq hX) (j - e) (by rw [show e + (j - e) = j by omega]; exact hcalls) he0 (by rw [show e + (j - e) = j by omega]; exact hj0) c hf.1 hf.2.2
         have hlt' : c < u.2.2.H.next := by
          by_cases hh : c < u.2.2.H.next
          ·
           exact hh
          ·
           rw [(h.sr e u he0).h.fr1 c (by omega)] at hs0; cases hs0
         exact (lf.kp.fz c ⟨fun k hk => hf.1 k (lf.kp.le _ _ hk), hlt', hs0⟩).2.symm
       refine same fun c hc1 => ?_
       rw [blt_iff] at hlt
       have lf := h.far (j - e) he0 (by rw [show e + (j - e) = j by omega]; exact hj0)
       rcases lookB_R (E := E) hld (h.sr j s hj0).t hx2 hc1 with ⟨b', hb5, hb6⟩ | ⟨hb5, _⟩
       ·
        rw [hb1] at hb5; cases hb5
        obtain ⟨z, hz⟩ := Option.isSome_iff_exists.1 hb0
        rw [hz] at hb2
        obtain ⟨c', _, hc', _⟩ := (h.sr e u he0).h.blk b z hb2
        have hcc : c' = c := by
         have := lf.kp.le b c' hc'
         rw [hb6] at this; cases this; rfl
        subst hcc
        obtain ⟨l', hl1, hl2⟩ := lf.lg
        have : l' = l := List.append_cancel_right (hl1.symm.trans hb3)
        subst this
        exact (hl2 b c' hc' hb4).symm
       ·
        rw [hb1] at hb5; cases hb5
      | false =>
       rw [hlt] at ok
       have ok := (show ∀ b, lookB M y.op s.2.1.T = some b -> NT b s.2.1.H v.2.1.H from ok)
       refine same fun c hc1 => ?_
       have hge : j < e := by
        have : ¬ e < j := fun k => by rw [<- blt_iff, hlt] at k; cases k
        omega
       have lf := h.far (e + 1 - j) hj0 (by rw [show j + (e + 1 - j) = e + 1 by omega]; exact he1)
       rcases lookB_R (E := E) hld (h.sr j s hj0).t hx2 hc1 with ⟨b, hb5, hb6⟩ | ⟨_, hf⟩
       ·
        obtain ⟨_, l, hb3, hb4⟩ := ok b hb5
        obtain ⟨l', hl1, hl2⟩ := lf.lg
        have : l' = l := List.append_cancel_right (hl1.symm.trans hb3)
        subst this
        exact hl2 b c hb6 hb4
       ·
        exact (lf.kp.fz c hf).2
   | alloc =>
    rw [hc] at ok
    simp only [m1, m2, m3]
    cases hw : wantedA M ops s.2.2.T y with
    | none => obtain ⟨b, hb⟩ := h.want j s s' y hj0 hj1 hy; rw [hw] at hb; cases hb
    | some b =>
     cases b with
     | false => rfl
     | true =>
      simp only
      cases hlt : Nat.blt j e with
      | true =>
       have ok := (ok (by simpa using hlt)).resolve_left (fun k => by rw [want k] at hw; cases hw)
       obtain ⟨⟨l0, e0, x0, w0, hcells⟩, _, l, hb3, hb4⟩ := ok
       rw [blt_iff] at hlt
       have ha := h.alloc j s s' y hj0 hj1 hy hc hw
       have lf0 := h.far (e - (j + 1)) hj1 (by rw [show j + 1 + (e - (j + 1)) = e by omega]; exact he0)
       have lf := h.lf e u v he0 he1
       have hu := lf0.kp.le _ _ ha
       obtain ⟨l', hl1, hl2⟩ := lf.lg
       have : l' = l := List.append_cancel_right (hl1.symm.trans hb3)
       subst this
       have hsame := hl2 _ _ hu hb4
       obtain ⟨c', z, hc', hz, l1, rfl, _⟩ := (h.sr e u he0).h.blk _ _ hcells
       rw [hu] at hc'; cases hc'
       rw [hsame, hz]
       show (Nat.beq e0 e0 && (boolEq x0 x0 && (boolEq w0 w0 && avEqL l1 l1))) = true
       rw [Nat.beq_refl, boolEq_eq, boolEq_eq, avEqL_r]; simp
      | false =>
       simp only
       have hle : ¬ j < e := fun k => by rw [<- blt_iff, hlt] at k; cases k
       rw [h.hole (List.any_eq_true.2 ⟨y, List.mem_of_getElem? hy, by unfold isAlloc; rw [hc]⟩) e u j he0 (by omega) hjn]
end
end
end Go.Ev
namespace Go.Ev
noncomputable section
section
variable {E : Env} {N M : Nat}
theorem Way.one {ops : List Oper} {base : Nat} {a : Tri} (h1 : SR M a.1 a.2.1 a.2.2) (h2 : ∀ k, k < ops.length -> a.2.2.H.m.get (base + k) = none) (h3 : ops.any (isAlloc E) = true -> base + ops.length ≤ a.2.2.H.next) : Way E M ops base [a] := by
 have e : ∀ {i : Nat} {x : Tri}, [a][i]? = some x -> i = 0 /\ x = a := by
  intro i x h
  cases i with
  | zero => simp at h; exact ⟨rfl, h.symm⟩
  | succ i => simp at h
 refine ⟨fun i x h => ?_, fun _ i x k h hk hk2 => ?_, fun i x h => ?_, fun i x y h h' => ?_, fun i x y z h h' => ?_, fun i x y z h h' => ?_, fun i x y z h h' => ?_, fun i x y z h h' => ?_⟩
 ·
  obtain ⟨_, rfl⟩ := e h; exact h1
 ·
  obtain ⟨_, rfl⟩ := e h; exact h2 k hk2
 ·
  obtain ⟨_, rfl⟩ := e h; exact h3
 all_goals (obtain ⟨hi, _⟩ := e h'; omega)
theorem Way.snoc {ops : List Oper} {base : Nat} {X : List Tri} {a b : Tri} {y : Oper} (h : Way E M ops base (X ++ [a])) (hy : ops[X.length]? = some y) (h1 : SR M b.1 b.2.1 b.2.2) (h2 : ops.any (isAlloc E) = true -> ∀ k, X.length + 1 ≤ k -> k < ops.length -> b.2.2.H.m.get (base + k) = none)
 (h3 : Lf base a.1 a.2.1.H a.2.2.H b.1 b.2.1.H b.2.2.H) (h4 : cls y.op E = .alloc -> wantedA M ops a.2.2.T y = some true -> b.1 a.2.1.H.next = some (base + X.length)) (h5 : ∃ b, wantedA M ops a.2.2.T y = some b)
 (h7 : isCallO y.op = false -> ∀ c, (∀ k, b.1 k ≠ some c) -> (b.2.2.H.m.get c).isSome = true -> (a.2.2.H.m.get c).isSome = true)
 (h6 : cls y.op E = .read -> wantedA M ops a.2.2.T y = some true -> ∃ v, evRead M y.op E a.2.1.T a.2.1.H = some v) : Way E M ops base (X ++ [a] ++ [b]) := by
 have hlast : (X ++ [a])[X.length]? = some a := by simp
 have e : ∀ {i : Nat} {x : Tri}, (X ++ [a] ++ [b])[i]? = some x -> (X ++ [a])[i]? = some x ∨ (i = X.length + 1 /\ x = b) := by
  intro i x hx
  by_cases hi : i < (X ++ [a]).length
  ·
   rw [List.getElem?_append_left hi] at hx; exact .inl hx
  ·
   rw [List.getElem?_append_right (by omega)] at hx
   have : i - (X ++ [a]).length = 0 := by
    cases hk : i - (X ++ [a]).length with
    | zero => rfl
    | succ k => rw [hk] at hx; simp at hx
   rw [this] at hx
   simp at hx this hi
   exact .inr ⟨by omega, hx.symm⟩
 have lt : ∀ {i : Nat} {x : Tri}, (X ++ [a])[i]? = some x -> i ≤ X.length := by
  intro i x hx
  have := (List.getElem?_eq_some_iff.1 hx).1
  simp at this; omega
 have two : ∀ {i : Nat} {x z : Tri}, (X ++ [a] ++ [b])[i]? = some x -> (X ++ [a] ++ [b])[i + 1]? = some z -> ((X ++ [a])[i]? = some x /\ (X ++ [a])[i + 1]? = some z) ∨ (i = X.length /\ x = a /\ z = b) := by
  intro i x z hx hz
  rcases e hz with hz | ⟨hi, rfl⟩
  ·
   rcases e hx with hx | ⟨hi, _⟩
   ·
    exact .inl ⟨hx, hz⟩
   ·
    have := lt hz; omega
  ·
   rcases e hx with hx | ⟨hi', _⟩
   ·
    right
    obtain rfl : i = X.length := by omega
    rw [hlast] at hx; cases hx
    exact ⟨rfl, rfl, rfl⟩
   ·
    omega
 refine ⟨fun i x hx => ?_, fun hal i x k hx hk hk2 => ?_, fun i x hx hal => ?_, fun i x z hx hz => ?_, fun i x z w hx hz hw => ?_, fun i x z w hx hz hw => ?_, fun i x z w hx hz hw => ?_, fun i x z w hx hz hw => ?_⟩
 ·
  rcases e hx with hx | ⟨_, rfl⟩
  ·
   exact h.sr i x hx
  ·
   exact h1
 ·
  rcases e hx with hx | ⟨rfl, rfl⟩
  ·
   exact h.hole hal i x k hx hk hk2
  ·
   exact h2 hal k hk hk2
 ·
  rcases e hx with hx | ⟨_, rfl⟩
  ·
   exact h.room i x hx hal
  ·
   exact Nat.le_trans (h.room _ a hlast hal) h3.kp.next
 ·
  rcases two hx hz with ⟨hx, hz⟩ | ⟨_, rfl, rfl⟩
  ·
   exact h.lf i x z hx hz
  ·
   exact h3
 ·
  rcases two hx hz with ⟨hx, hz⟩ | ⟨rfl, rfl, rfl⟩
  ·
   exact h.alloc i x z w hx hz hw
  ·
   rw [hy] at hw; cases hw; exact h4
 ·
  rcases two hx hz with ⟨hx, hz⟩ | ⟨rfl, rfl, rfl⟩
  ·
   exact h.want i x z w hx hz hw
  ·
   rw [hy] at hw; cases hw; exact h5
 ·
  rcases two hx hz with ⟨hx, hz⟩ | ⟨rfl, rfl, rfl⟩
  ·
   exact h.nu i x z w hx hz hw
  ·
   rw [hy] at hw; cases hw; exact h7
 ·
  rcases two hx hz with ⟨hx, hz⟩ | ⟨rfl, rfl, rfl⟩
  ·
   exact h.read i x z w hx hz hw
  ·
   rw [hy] at hw; cases hw; exact h6
theorem wantedA_R {σ : Mp} {s2 s1 : St} (r : SR M σ s2 s1) {ops : List Oper} {y : Oper} {b : Bool} (h : wantedA M ops s2.T y = some b) : wantedA M ops s1.T y = some b := by
 unfold wantedA at h ⊢
 split at h
 ·
  exact h
 ·
  exact asBool_T r.t h
theorem wpTr_R (hJ : E.J = none) (hZ : ZeroOk E) {ops : List Oper} {base : Nat} {K2 K1 : List St -> Prop} {a0 : Tri}
 (hend : ∀ X, X.length = ops.length + 1 -> X[0]? = some a0 -> Way E M ops base X -> K2 (X.map fun a => a.2.1) -> K1 (X.map fun a => a.2.2)) : ∀ (l : List Oper) {X : List Tri} {a : Tri}, (X ++ [a])[0]? = some a0 -> X.length + l.length = ops.length -> (∀ i, l[i]? = ops[X.length + i]?) ->
  base ≤ a.2.2.H.next -> Way E M ops base (X ++ [a]) -> wpTr2 (env2 E) N M ops l a.2.1 (X.map fun a => a.2.1).reverse K2 -> wpTr E N M ops l (base + X.length) a.2.2 (X.map fun a => a.2.2).reverse K1 := by
 intro l
 induction l with
 | nil =>
  intro X a hh hlen _ _ hX h
  have h := show K2 ((X.map fun a => a.2.1).reverse.reverse ++ [a.2.1]) from h
  show K1 ((X.map fun a => a.2.2).reverse.reverse ++ [a.2.2])
  rw [List.reverse_reverse] at h ⊢
  have := hend (X ++ [a]) (by simp at hlen ⊢; omega) hh hX
  rw [List.map_append, List.map_append] at this
  exact this h
 | cons o l ih =>
  intro X a hh hlen hget hbase hX h
  have hy : ops[X.length]? = some o := by have := hget 0; simpa using this.symm
  have hlast : (X ++ [a])[X.length]? = some a := by simp
  have hXn : X.length < ops.length := (List.getElem?_eq_some_iff.1 hy).1
  have r := hX.sr _ a hlast
  obtain ⟨b, hw, h⟩ := h
  have hw1 := wantedA_R r hw
  refine ⟨b, hw1, ?_⟩
  have next : ∀ c : Tri, SR M c.1 c.2.1 c.2.2 -> Lf base a.1 a.2.1.H a.2.2.H c.1 c.2.1.H c.2.2.H -> (ops.any (isAlloc E) = true -> ∀ k, X.length + 1 ≤ k -> k < ops.length -> c.2.2.H.m.get (base + k) = none) ->
   (cls o.op E = .alloc -> b = true -> c.1 a.2.1.H.next = some (base + X.length)) -> (isCallO o.op = false -> ∀ d, (∀ k, c.1 k ≠ some d) -> (c.2.2.H.m.get d).isSome = true -> (a.2.2.H.m.get d).isSome = true) -> (cls o.op E = .read -> b = true -> ∃ v, evRead M o.op E a.2.1.T a.2.1.H = some v) ->
   wpTr2 (env2 E) N M ops l c.2.1 (a.2.1 :: (X.map fun a => a.2.1).reverse) K2 -> wpTr E N M ops l (Nat.succ (base + X.length)) c.2.2 (a.2.2 :: (X.map fun a => a.2.2).reverse) K1 := by
   intro c hsr hlf hhole hal hnu hrd h
   have := ih (X := X ++ [a]) (a := c) (by
    rw [List.getElem?_append_left (by simp)]; exact hh) (by simp at hlen ⊢; omega) (fun i => by
    have := hget (i + 1)
    rw [List.getElem?_cons_succ] at this
    rw [this]; congr 1; simp; omega) (Nat.le_trans hbase hlf.kp.next)
    (hX.snoc hy hsr hhole hlf (fun h1 h2 => hal h1 (by rw [hw1] at h2; exact Option.some.inj h2)) ⟨b, hw1⟩ hnu (fun h1 h2 => hrd h1 (by rw [hw1] at h2; exact Option.some.inj h2))) (by simpa using h)
   simpa [Nat.add_assoc] using this
  have far : ∀ {c : Tri}, Lf a.2.2.H.next a.1 a.2.1.H a.2.2.H c.1 c.2.1.H c.2.2.H -> ops.any (isAlloc E) = true -> ∀ k, X.length + 1 ≤ k -> k < ops.length -> c.2.2.H.m.get (base + k) = none := by
   intro c hlf hal k hk hk2
   have := hX.room _ a hlast hal
   exact hlf.hole _ (by omega) (hX.hole hal _ a k hlast (by omega) hk2)
  cases b with
  | false =>
   have h := show KPut N M a.2.1.T o.dst (fun s' => wpTr2 (env2 E) N M ops l s' (a.2.1 :: (X.map fun a => a.2.1).reverse) K2) .undef a.2.1.H from h
   have h1 : KPut N M a.2.2.T o.dst (fun s' => wpTr E N M ops l (base + X.length).succ s' (a.2.2 :: (X.map fun a => a.2.2).reverse) K1) .undef a.2.2.H := by
    refine KPut_mono (K := LKn false a.2.2.H.next M a.1 a.2.1.H a.2.2.H _) (KPut_Rn r.t r.h (Lf.refl _ _ _ _) (fun _ _ _ h => h) VR.undef h) ?_
    rintro s1 ⟨σ', s2, h1, h2, hn, h3⟩
    exact next (σ', s2, s1) h2 (h1.mono hbase) (far h1) (fun _ h => by cases h) (fun _ => hn rfl) (fun _ h => by cases h) h3
   exact h1
  | true =>
   have h := show wpOp (env2 E) N M o a.2.1 (fun s' => wpTr2 (env2 E) N M ops l s' (a.2.1 :: (X.map fun a => a.2.1).reverse) K2) from h
   refine (show wpOpD E N M (base + X.length) o a.2.2 _ from ?_)
   unfold wpOpD
   cases hc : cls o.op E with
   | alloc =>
    simp only
    have hal : ops.any (isAlloc E) = true := List.any_eq_true.2 ⟨o, List.mem_of_getElem? hy, by unfold isAlloc; rw [hc]⟩
    have hnone := hX.hole hal _ a X.length hlast (Nat.le_refl _) hXn
    have hroom := hX.room _ a hlast hal
    refine ⟨hnone, ?_⟩
    unfold wpOp at h
    rw [cls_2, hc] at h
    obtain ⟨p, hp, hk⟩ := h
    rw [evAlloc_2] at hp
    obtain ⟨q, hq, hb, hv⟩ := evAlloc_R hZ r.t hp
    have hfree : ∀ b, a.1 b ≠ some (base + X.length) := by
     intro b hb
     obtain ⟨y, hy⟩ := r.h.ex b _ hb
     rw [hnone] at hy; cases hy
    obtain ⟨r', k'⟩ := HR.newAt (n := base) (c := base + X.length) (H1' := setBlk a.2.2.H (base + X.length) q.1) (Nat.le_add_right _ _) r.h hb hnone hfree rfl (Nat.le_refl _) (by show base + X.length < a.2.2.H.next; omega)
    obtain ⟨T2, hT2, hk⟩ := hk
    have hadd : (a.1.add a.2.1.H.next (base + X.length)) a.2.1.H.next = some (base + X.length) := by simp [Mp.add]
    obtain ⟨T1, hT1, hTr⟩ := putT_R (r.t.mono k'.kp) (hv _ (setBlk a.2.2.H (base + X.length) q.1) _ _ hadd) hT2
    refine ⟨q, hq, T1, hT1, ?_⟩
    refine next (a.1.add a.2.1.H.next (base + X.length), ⟨T2, (newBlk a.2.1.H p.1).2⟩, ⟨T1, setBlk a.2.2.H (base + X.length) q.1⟩) ⟨hTr, r'⟩ k'.toLf (fun hal k hk hk2 => ?_) (fun _ _ => hadd) (fun _ => k'.nu) (fun h => by rw [hc] at h; cases h) hk
    show (setBlk a.2.2.H (base + X.length) q.1).m.get (base + k) = none
    rw [set_get, if_neg (by omega)]
    exact hX.hole hal _ a k hlast (by omega) hk2
   | pure =>
    simp only
    refine wpOp_mono (jmono_1 hJ) (wpOp_Rn hJ hZ r h) ?_
    rintro s1 ⟨σ', s2, h1, h2, hn, h3⟩
    exact next (σ', s2, s1) h2 (h1.mono hbase) (far h1) (fun h => by rw [hc] at h; cases h) hn (fun h => by rw [hc] at h; cases h) h3
   | eff =>
    simp only
    refine wpOp_mono (jmono_1 hJ) (wpOp_Rn hJ hZ r h) ?_
    rintro s1 ⟨σ', s2, h1, h2, hn, h3⟩
    exact next (σ', s2, s1) h2 (h1.mono hbase) (far h1) (fun h => by rw [hc] at h; cases h) hn (fun h => by rw [hc] at h; cases h) h3
   | read =>
    simp only
    have hsome : ∃ v, evRead M o.op E a.2.1.T a.2.1.H = some v := by
     unfold wpOp at h
     rw [cls_2, hc] at h
     obtain ⟨v, hv, _⟩ := h
     rw [evRead_2] at hv
     exact ⟨v, hv⟩
    refine wpOp_mono (jmono_1 hJ) (wpOp_Rn hJ hZ r h) ?_
    rintro s1 ⟨σ', s2, h1, h2, hn, h3⟩
    exact next (σ', s2, s1) h2 (h1.mono hbase) (far h1) (fun h => by rw [hc] at h; cases h) hn (fun _ _ => hsome) h3
theorem wpTr2_of {all : List Oper} {d : St} {K : St -> Prop} {K2 : List St -> Prop} (hM : JMono E) (hk : ∀ tr, K (lastS tr d) -> K2 tr) : ∀ {l : List Oper} {s : St} {acc : List St}, wpOps E N M all l s K -> wpTr2 E N M all l s acc K2 := by
 intro l
 induction l with
 | nil =>
  intro s acc h
  refine hk _ ?_
  have : ∀ (l : List St) (x d : St), lastS (l ++ [x]) d = x := by
   intro l; induction l with
   | nil => intro x d; rfl
   | cons y l ih => intro x d; exact ih x y
  rw [this]; exact h
 | cons o l ih =>
  intro s acc h
  unfold wpOps at h
  unfold wpTr2
  cases hg : o.guard with
  | none =>
   rw [hg] at h
   exact ⟨true, by unfold wantedA; rw [hg], wpOp_mono hM h fun s' k => ih k⟩
  | some g =>
   rw [hg] at h
   obtain ⟨b, hb, h⟩ := h
   refine ⟨b, by unfold wantedA; rw [hg]; exact hb, ?_⟩
   cases b with
   | true => exact wpOp_mono hM (show wpOp E N M o s _ from h) fun s' k => ih k
   | false => exact KPut_mono (show KPut N M s.T o.dst (fun s' => wpOps E N M all l s' K) .undef s.H from h) fun s' k => ih k
theorem draw_R (hJ : E.J = none) (hZ : ZeroOk E) {ops : List Oper} {σ : Mp} {s2 s1 : St} {K : St -> Prop} (r : SR M σ s2 s1) (h : drawJ (env2 E) N M ops s2 K) : wpDraw E N M ops s1 (LK s1.H.next M σ s2.H s1.H K) := by
 obtain ⟨hS, h⟩ := (show okS (env2 E) ops = true /\ draw2 (env2 E) N M ops s2 K (loose (env2 E) ops) from h)
 rw [okS_2] at hS
 refine ⟨hS, ?_⟩
 have h : wpTr2 (env2 E) N M ops ops s2 [] fun tr => looseAll (env2 E) M ops tr (loose (env2 E) ops) /\ K (lastS tr s2) := by
  cases hl : loose (env2 E) ops with
  | nil => rw [hl] at h; exact wpTr2_of (d := s2) (jmono_2 E) (fun tr k => ⟨trivial, k⟩) h
  | cons p l => rw [hl] at h; exact h
 have hroom : roomOf E ops = 0 /\ ops.any (isAlloc E) = false ∨ roomOf E ops = ops.length := by
  unfold roomOf
  cases ops.any (isAlloc E) with
  | true => exact .inr rfl
  | false => exact .inl ⟨rfl, rfl⟩
 let s1' : St := ⟨s1.T, ⟨s1.H.m, Nat.add s1.H.next (roomOf E ops), s1.H.log⟩⟩
 have kp : Kp σ s1.H σ s1'.H := ⟨fun _ _ h => h, Nat.le_add_right _ _, fun c hc => ⟨hc.1, rfl⟩⟩
 have lf0 : Lf s1.H.next σ s2.H s1.H σ s2.H s1'.H := ⟨kp, ⟨[], rfl, fun _ _ _ _ => rfl⟩, fun _ _ h => h⟩
 have r' : SR M σ s2 s1' := by
  refine ⟨r.t.mono kp, ⟨fun b x hx => ?_, r.h.inj, fun b c hc => ?_, r.h.dom, r.h.fr2, fun c hc => ?_, r.h.ex, r.h.ex2⟩⟩
  ·
   obtain ⟨c, y, h1, h2, h3⟩ := r.h.blk b x hx
   exact ⟨c, y, h1, h2, h3.mono kp⟩
  ·
   exact Nat.lt_of_lt_of_le (r.h.lt b c hc) (Nat.le_add_right _ _)
  ·
   exact r.h.fr1 c (Nat.le_trans (Nat.le_add_right _ _) hc)
 have base : Way E M ops s1.H.next [(σ, s2, s1')] := by
  refine Way.one r' (fun k hk => r.h.fr1 _ (Nat.le_add_right _ _)) (fun hal => ?_)
  rcases hroom with ⟨_, h⟩ | h
  ·
   rw [h] at hal; cases hal
  ·
   show s1.H.next + ops.length ≤ Nat.add s1.H.next (roomOf E ops)
   rw [h]; exact Nat.le_refl _
 have := wpTr_R (N := N) (K1 := KTrEnd E M ops s1.H.next s1 (LK s1.H.next M σ s2.H s1.H K)) (a0 := (σ, s2, s1')) hJ hZ (ops := ops) (base := s1.H.next) (K2 := fun tr => looseAll (env2 E) M ops tr (loose (env2 E) ops) /\ K (lastS tr s2)) ?_ ops (X := []) (a := (σ, s2, s1')) rfl (by simp) (fun i => by simp) (Nat.le_add_right _ _) base h
 ·
  exact this
 ·
  intro X hlen h0 hX ⟨hl, hk⟩
  rw [loose_2] at hl
  have hl : looseAll E M ops (X.map fun a => a.2.1) (loose E ops) := by
   have : ∀ l, looseAll (env2 E) M ops (X.map fun a => a.2.1) l -> looseAll E M ops (X.map fun a => a.2.1) l := by
    intro l
    induction l with
    | nil => exact fun _ => trivial
    | cons p l ih => exact fun h => ⟨by have := h.1; rwa [looseOk_2] at this, ih h.2⟩
   exact this _ hl
  refine ⟨hX.okD hlen hl, ?_⟩
  have hlast := List.getElem?_eq_getElem (show ops.length < X.length by omega)
  have e : ∀ (f : Tri -> St) (d : St), lastS (X.map f) d = f X[ops.length] := by
   intro f d
   have : ∀ (l : List St) (d : St), l ≠ [] -> lastS l d = l.getLast?.getD d := by
    intro l
    induction l with
    | nil => intro d h; exact absurd rfl h
    | cons y l ih =>
     intro d _
     cases l with
     | nil => rfl
     | cons z l =>
      rw [show lastS (y :: z :: l) d = lastS (z :: l) y from rfl, ih y (by simp), List.getLast?_cons_cons]
      obtain ⟨u, hu⟩ := Option.isSome_iff_exists.1 (by simp : ((z :: l).getLast?).isSome = true)
      rw [hu]; rfl
   rw [this _ _ (by intro h; have := congrArg List.length h; simp at this; rw [this] at hlen; simp at hlen)]
   have h2 : (X.map f).getLast? = some (f X[ops.length]) := by
    rw [List.getLast?_eq_getElem?, List.length_map, List.getElem?_map, show X.length - 1 = ops.length by omega, hlast]; rfl
   rw [h2]; rfl
  rw [e] at hk ⊢
  have lf := hX.far ops.length h0 (by rw [Nat.zero_add]; exact hlast)
  exact ⟨X[ops.length].1, X[ops.length].2.1, lf0.trans lf, hX.sr _ _ hlast, hk⟩
end
end
end Go.Ev
namespace Go.Ev
noncomputable section
/-! One behind the other. -/
def Mp.comp (τ σ : Mp) : Mp := fun b => (τ b).bind σ
theorem noAgg_R {w : Bool} {σ : Mp} {H : Hp} {v a : AV} (h : VR w σ H v a) (k : asAggV v = none) : asAggV a = none := by
 cases v <;> simp only [VR] at h <;> first
  | (cases k; done)
  | (subst h; rfl)
  | (obtain ⟨_, _, rfl⟩ := h; rfl)
  | (obtain ⟨_, _, _, _, rfl⟩ := h; rfl)
  | (rcases h with ⟨_, _, rfl, _⟩ | ⟨_, rfl | ⟨_, _, _, rfl, _⟩ | ⟨_, rfl⟩⟩ | ⟨_, _, _, _, _, _, rfl, _⟩ <;> rfl)
  | (rcases h with ⟨_, _, rfl, _⟩ | ⟨_, _, _, rfl, _⟩ <;> rfl)
theorem one_cells {v : AV} (h : asAggV v = none) : v.cells = [v] := by unfold AV.cells; rw [h]; rfl
theorem regroup {w : Bool} {σ : Mp} {H : Hp} : ∀ {l cs : List AV}, VRL w σ H (catL l) cs -> ∃ l', VRL w σ H l l' /\ catL l' = cs
 | [], cs, h => by
  have h := show VRL w σ H [] cs from h
  rw [VRL.nil] at h; subst h
  exact ⟨[], VRL.nil.2 rfl, rfl⟩
 | x :: l, cs, h => by
  have h := show VRL w σ H (appL x.cells (catL l)) cs from h
  rw [appL_eq] at h
  obtain ⟨p, q, hp, hq, rfl⟩ := VRL.split h
  obtain ⟨l', hl', rfl⟩ := regroup hq
  have hx : ∃ y, VR w σ H x y /\ y.cells = p := by
   cases ha : asAggV x with
   | some c =>
    obtain rfl := asAggV_some ha
    exact ⟨.agg p, VR.agg_mk hp, rfl⟩
   | none =>
    rw [one_cells ha] at hp
    obtain ⟨y, r, h1, h2, rfl⟩ := VRL.cons.1 hp
    rw [VRL.nil] at h2; subst h2
    exact ⟨y, h1, one_cells (noAgg_R h1 ha)⟩
  obtain ⟨y, h1, h2⟩ := hx
  refine ⟨y :: l', VRL.cons.2 ⟨y, l', h1, hl', rfl⟩, ?_⟩
  show appL y.cells (catL l') = _
  rw [appL_eq, h2]
theorem cells_len_R {w : Bool} {σ : Mp} {H : Hp} {sz : Nat} : ∀ {l l' : List AV}, VRL w σ H l l' -> (∀ x ∈ l, x.cells.length = sz) -> ∀ x ∈ l', x.cells.length = sz
 | [], _, h, _ => by rw [VRL.nil] at h; subst h; simp
 | x :: l, _, h, k => by
  obtain ⟨y, r, h1, h2, rfl⟩ := VRL.cons.1 h
  intro z hz
  rcases List.mem_cons.1 hz with rfl | hz
  ·
   rw [h1.cells.len]; exact k x (by simp)
  ·
   exact cells_len_R h2 (fun u hu => k u (by simp [hu])) z hz
section
variable {τ σ : Mp} {H H1 : Hp}
theorem fz_comp_r (r : HR false σ H H1) {b c : Nat} (hb : σ b = some c) (hf : Fz τ H b) : Fz (τ.comp σ) H1 c := by
 refine ⟨fun a ha => ?_, r.lt _ _ hb, ?_⟩
 ·
  unfold Mp.comp at ha
  obtain ⟨d, hd, he⟩ := Option.bind_eq_some_iff.1 ha
  obtain rfl := r.inj _ _ _ he hb
  exact hf.1 a hd
 ·
  obtain ⟨y, hy⟩ := r.ex _ _ hb; rw [hy]; rfl
theorem fz_comp_l {c : Nat} (hf : Fz σ H1 c) : Fz (τ.comp σ) H1 c := by
 refine ⟨fun a ha => ?_, hf.2⟩
 unfold Mp.comp at ha
 obtain ⟨d, _, he⟩ := Option.bind_eq_some_iff.1 ha
 exact hf.1 d he
mutual
theorem VR.comp (r : HR false σ H H1) : ∀ (v u a : AV), VR true τ H v u -> VR false σ H1 u a -> VR false (τ.comp σ) H1 v a
 | .bool _, _, _, h, k => by simp only [VR] at h; subst h; simpa only [VR] using k
 | .int _ _, _, _, h, k => by simp only [VR] at h; subst h; simpa only [VR] using k
 | .str _, _, _, h, k => by simp only [VR] at h; subst h; simpa only [VR] using k
 | .nilp, _, _, h, k => by simp only [VR] at h; subst h; simpa only [VR] using k
 | .nils, _, _, h, k => by simp only [VR] at h; subst h; simpa only [VR] using k
 | .esl _, _, _, h, k => by simp only [VR] at h; subst h; simpa only [VR] using k
 | .nilf, _, _, h, k => by simp only [VR] at h; subst h; simpa only [VR] using k
 | .nili, _, _, h, k => by simp only [VR] at h; subst h; simpa only [VR] using k
 | .ptr _ _, _, _, h, k => by
  obtain ⟨d, hd, rfl⟩ := h.ptr
  obtain ⟨c, hc, rfl⟩ := k.ptr
  exact VR.ptr_mk (by unfold Mp.comp; rw [hd]; exact hc)
 | .slice _ _ _ _, _, _, h, k => by
  obtain ⟨d, hd, rfl⟩ := h.slice
  obtain ⟨c, hc, rfl⟩ := k.slice
  exact VR.slice_mk (by unfold Mp.comp; rw [hd]; exact hc)
 | .yield _, _, _, h, k => by
  obtain ⟨d, hd, rfl⟩ := h.yield
  obtain ⟨c, hc, rfl⟩ := k.yield
  simp only [VR]
  exact ⟨c, by unfold Mp.comp; rw [hd]; exact hc, rfl⟩
 | .func _ x y, _, _, h, k => by
  obtain ⟨x', y', h1, h2, rfl⟩ := h.func
  obtain ⟨x2, y2, k1, k2, rfl⟩ := k.func
  simp only [VR]
  exact ⟨x2, y2, VRL.comp r x x' x2 h1 k1, VRL.comp r y y' y2 h2 k2, rfl⟩
 | .iface _ v, _, _, h, k => by
  simp only [VR] at h
  obtain ⟨v', h1, rfl⟩ := h
  simp only [VR] at k
  obtain ⟨v2, k1, rfl⟩ := k
  simp only [VR]
  exact ⟨v2, VR.comp r v v' v2 h1 k1, rfl⟩
 | .agg l, _, _, h, k => by
  obtain ⟨l', h1, rfl⟩ := h.agg
  obtain ⟨l2, k1, rfl⟩ := k.agg
  exact VR.agg_mk (VRL.comp r l l' l2 h1 k1)
 | .tuple l, _, _, h, k => by
  obtain ⟨l', h1, rfl⟩ := h.tuple
  obtain ⟨l2, k1, rfl⟩ := k.tuple
  exact VR.tuple_mk (VRL.comp r l l' l2 h1 k1)
 | .lst sz l, _, _, h, k => by
  simp only [VR] at h
  rcases h with ⟨_, l', rfl, h1⟩ | ⟨rfl, h1⟩ | ⟨hl, hz, b, o, kk, l', rfl, hf, hs, hle, h1, h2, h3⟩
  ·
   by_cases hl : l' = []
   ·
    subst hl
    have : l = [] := List.eq_nil_of_length_eq_zero (by rw [<- h1.len]; rfl)
    subst this
    rcases k.lst0 with ⟨hw, _⟩ | k
    ·
     cases hw
    ·
     exact VR.lst0_mk k
   ·
    have hl0 : l ≠ [] := by rintro rfl; rw [VRL.nil] at h1; exact hl h1
    rcases k.lst1 hl with ⟨hw, _⟩ | ⟨c, o, kk, l2, rfl, hz, hf, hs, hle, k1, k2, k3⟩
    ·
     cases hw
    ·
     rw [h1.len] at hle k3 ⊢
     exact VR.lst1_mk hl0 hz (fz_comp_l hf) hs hle (VRL.comp r l l' l2 h1 k1) k2 k3
  ·
   rcases h1 with rfl | ⟨b, o, kk, rfl, h2, h3⟩ | ⟨ad, rfl⟩
   rotate_right
   ·
    simp only [VR] at k; subst k
    exact VR.lst0_mk (.inr (.inr ⟨ad, rfl⟩))
   ·
    simp only [VR] at k; subst k
    exact VR.lst0_mk (.inl rfl)
   ·
    obtain ⟨c, hc, rfl⟩ := k.slice
    exact VR.lst0_mk (.inr (.inl ⟨c, o, kk, rfl, h2, h3⟩))
  ·
   obtain ⟨c, hc, rfl⟩ := k.slice
   obtain ⟨cs, hcs, hr⟩ := r.cells hc h3
   obtain ⟨l2, k1, rfl⟩ := regroup hr
   exact VR.lst1_mk hl hz (fz_comp_r r hc hf) hs hle (VRL.comp r l l' l2 h1 k1) (cells_len_R k1 h2) hcs
 | .ept cs off, _, _, h, k => by
  simp only [VR] at h
  rcases h with ⟨_, l', rfl, h1⟩ | ⟨b, o, cs', rfl, hf, h1, h2⟩
  ·
   rcases k.ept with ⟨hw, _⟩ | ⟨c, o, l2, rfl, hf, k1, k2⟩
   ·
    cases hw
   ·
    rw [h1.len] at k2
    exact VR.ept_mk (fz_comp_l hf) (VRL.comp r cs l' l2 h1 k1) k2
  ·
   obtain ⟨c, hc, rfl⟩ := k.ptr
   obtain ⟨cs2, hcs, hr⟩ := r.cells hc h2
   exact VR.ept_mk (fz_comp_r r hc hf) (VRL.comp r cs cs' cs2 h1 hr) hcs
theorem VRL.comp (r : HR false σ H H1) : ∀ (l m n : List AV), VRL true τ H l m -> VRL false σ H1 m n -> VRL false (τ.comp σ) H1 l n
 | [], _, _, h, k => by rw [VRL.nil] at h; subst h; rw [VRL.nil] at k; subst k; exact VRL.nil.2 rfl
 | x :: l, _, _, h, k => by
  obtain ⟨y, r', h1, h2, rfl⟩ := VRL.cons.1 h
  obtain ⟨z, r2, k1, k2, rfl⟩ := VRL.cons.1 k
  exact VRL.cons.2 ⟨z, r2, VR.comp r x y z h1 k1, VRL.comp r l r' r2 h2 k2, rfl⟩
end
theorem HR.comp {H0 : Hp} (h : HR true τ H0 H) (r : HR false σ H H1) : HR false (τ.comp σ) H0 H1 := by
 have tr : ∀ {M : Nat} {T T' T2 : Tm}, TR true τ H M T T' -> TR false σ H1 M T' T2 -> TR false (τ.comp σ) H1 M T T2 := by
  intro M T T' T2 h1 k1 i v hv
  obtain ⟨u, hu, h2⟩ := h1 i v hv
  obtain ⟨a, ha, h3⟩ := k1 i u hu
  exact ⟨a, ha, VR.comp r v u a h2 h3⟩
 have un : ∀ {b c}, (τ.comp σ) b = some c -> ∃ d, τ b = some d /\ σ d = some c := fun hb => Option.bind_eq_some_iff.1 hb
 refine ⟨fun b x hx => ?_, fun b b' c hb hb' => ?_, fun b c hb => ?_, fun b c hb => ?_, h.fr2, r.fr1, fun b c hb => ?_, fun b c hb => ?_⟩
 ·
  obtain ⟨d, y, hd, hy, hr⟩ := h.blk b x hx
  obtain ⟨c, z, hc, hz, hr2⟩ := r.blk d y hy
  refine ⟨c, z, by unfold Mp.comp; rw [hd]; exact hc, hz, ?_⟩
  cases x with
  | cells l e ex wr =>
   obtain ⟨l', rfl, h1⟩ := hr
   obtain ⟨l2, rfl, h2⟩ := hr2
   exact ⟨l2, rfl, VRL.comp r l l' l2 h1 h2⟩
  | loop f T n m ps a b st p =>
   obtain ⟨T', rfl, h1⟩ := hr
   obtain ⟨T2, rfl, h2⟩ := hr2
   exact ⟨T2, rfl, tr h1 h2⟩
  | dead => trivial
 ·
  obtain ⟨d, h1, h2⟩ := un hb
  obtain ⟨d', h3, h4⟩ := un hb'
  obtain rfl := r.inj _ _ _ h2 h4
  exact h.inj _ _ _ h1 h3
 ·
  obtain ⟨d, h1, h2⟩ := un hb; exact r.lt _ _ h2
 ·
  obtain ⟨d, h1, h2⟩ := un hb; exact h.dom _ _ h1
 ·
  obtain ⟨d, h1, h2⟩ := un hb; exact r.ex _ _ h2
 ·
  obtain ⟨d, h1, h2⟩ := un hb; exact h.ex2 _ _ h1
end
structure Xt (H0 : Hp) (τ : Mp) (H' H : Hp) : Prop where
 hr : HR true τ H' H
 id : ∀ b x, H0.m.get b = some x -> τ b = some b
 lg : ∃ l, H'.log = l ++ H0.log /\ ∀ l', H.log = l' ++ H0.log -> ∀ b x, H0.m.get b = some x -> b ∈ l' -> b ∈ l
theorem Lf.out {σ σ' τ : Mp} {H0 H1 H H1' H' : Hp} (r0 : HR false σ H0 H1) (h : Lf H1.next σ H0 H1 σ' H H1') (x : Xt H0 τ H' H) : Lf H1.next σ H0 H1 (τ.comp σ') H' H1' := by
 obtain ⟨l, h1, h2⟩ := h.lg
 obtain ⟨l', h3, h4⟩ := x.lg
 refine ⟨⟨fun b c hb => ?_, h.kp.next, fun c hc => ⟨fun b hb => ?_, (h.kp.fz c hc).2⟩⟩, ⟨l', h3, fun b c hb hn => ?_⟩, h.hole⟩
 ·
  obtain ⟨y, hy⟩ := r0.ex2 b c hb
  unfold Mp.comp
  rw [x.id b y hy]; exact h.kp.le b c hb
 ·
  unfold Mp.comp at hb
  obtain ⟨d, _, hd⟩ := Option.bind_eq_some_iff.1 hb
  exact (h.kp.fz c hc).1 d hd
 ·
  obtain ⟨y, hy⟩ := r0.ex2 b c hb
  exact h2 b c hb fun hm => hn (h4 l h1 b y hy hm)
end
end Go.Ev
namespace Go.Ev
noncomputable section
section
variable {E : Env} {fid : FuncId} {N M : Nat}
theorem SR.glob {σ : Mp} {s2 s1 : St} (r : SR M σ s2 s1) : SR M σ ⟨⟨.nil, s2.T.G⟩, s2.H⟩ ⟨⟨.nil, s1.T.G⟩, s1.H⟩ := by
 refine ⟨fun i v hv => ?_, r.h⟩
 unfold Tm.get at hv
 cases hb : Nat.testBit M i with
 | false => rw [hb] at hv; cases hv
 | true =>
  rw [hb] at hv
  obtain ⟨a, ha, h⟩ := r.t i v (by unfold Tm.get; rw [hb]; exact hv)
  refine ⟨a, ?_, h⟩
  unfold Tm.get at ha ⊢
  rw [hb] at ha ⊢; exact ha
theorem LK.out {n : Nat} {σ : Mp} {H2 H1 : Hp} {K : St -> Prop} {s1 : St} {σ' : Mp} {s2 : St} (hl : Lf n σ H2 H1 σ' s2.H s1.H) (hn : n ≤ s1.H.next) {t : St} (h : LK s1.H.next M σ' s2.H s1.H K t) : LK n M σ H2 H1 K t := by
 obtain ⟨σ'', s, h1, h2, h3⟩ := h
 exact ⟨σ'', s, hl.trans (h1.mono hn), h2, h3⟩
theorem wpC_R (hJ : E.J = none) (hZ : ZeroOk E) (c : Code) : ∀ {σ : Mp} {s2 s1 : St} {K : Ex -> St -> Prop}, SR M σ s2 s1 -> wpC (env2 E) fid N M c s2 K -> wpC E fid N M c s1 fun e => LK s1.H.next M σ s2.H s1.H (K e) := by
 have hM : JMono E := jmono_1 hJ
 induction c with
 | skip => intro σ s2 s1 K r h; exact ⟨σ, s2, Lf.refl _ _ _ _, r, h⟩
 | region id ops draw =>
  intro σ s2 s1 K r h
  cases draw with
  | false => exact wpOps_R hJ hZ (K := KNorm K) (s2 := ⟨⟨.nil, s2.T.G⟩, s2.H⟩) (s1 := ⟨⟨.nil, s1.T.G⟩, s1.H⟩) r.glob h
  | true =>
   show drawJ E N M ops.toList ⟨⟨.nil, s1.T.G⟩, s1.H⟩ _
   unfold drawJ
   rw [hJ]
   exact draw_R hJ hZ (K := KNorm K) (s2 := ⟨⟨.nil, s2.T.G⟩, s2.H⟩) (s1 := ⟨⟨.nil, s1.T.G⟩, s1.H⟩) r.glob h
 | seq a b ia ib =>
  intro σ s2 s1 K r h
  refine wpC_mono hM a (ia (K := KSeq (wpC (env2 E) fid N M b) K) r h) ?_
  rintro e t ⟨σ', s, h1, h2, h3⟩
  cases e with
  | normal => exact wpC_mono hM b (ib h2 h3) fun e u hu => LK.out h1 h1.kp.next hu
  | exit i => exact ⟨σ', s, h1, h2, h3⟩
  | ret => exact ⟨σ', s, h1, h2, h3⟩
 | cond c a b ia ib =>
  intro σ s2 s1 K r h
  obtain ⟨v, hv, t, ht, h⟩ := h
  obtain ⟨v', hv', hr⟩ := evO_R r.t hv
  refine ⟨v', hv', t, by rw [hr.asBool]; exact ht, ?_⟩
  cases t with
  | true => exact ia r h
  | false => exact ib r h
 | block id b ib =>
  intro σ s2 s1 K r h
  refine wpC_mono hM b (ib (K := KBlk id K) r h) ?_
  rintro e t ⟨σ', s, h1, h2, h3⟩
  show LK s1.H.next M σ s2.H s1.H (K (leaveBlk id e t).1) (leaveBlk id e t).2
  cases e with
  | normal => exact ⟨σ', s, h1, h2, h3⟩
  | ret => exact ⟨σ', s, h1, h2, h3⟩
  | exit i =>
   have e1 : ∀ s : St, leaveBlk id (.exit i) s = bc (Nat.beq i id) (.normal, s) (.exit i, s) := fun _ => rfl
   have h3 := show K (leaveBlk id (.exit i) s).1 (leaveBlk id (.exit i) s).2 from h3
   rw [e1] at h3 ⊢
   cases hb : Nat.beq i id with
   | true => rw [hb] at h3; exact ⟨σ', s, h1, h2, h3⟩
   | false => rw [hb] at h3; exact ⟨σ', s, h1, h2, h3⟩
 | loop b ib =>
  intro σ s2 s1 K r h
  obtain ⟨I, m, h0, hI⟩ := h
  refine ⟨fun n t => ∃ σ' s, Lf s1.H.next σ s2.H s1.H σ' s.H t.H /\ SR M σ' s t /\ I n s, m, ⟨σ, s2, Lf.refl _ _ _ _, r, h0⟩, ?_⟩
  rintro n t ⟨σ', s, h1, h2, h3⟩
  refine wpC_mono hM b (ib h2 (hI n s h3)) ?_
  rintro e u ⟨σ'', s', k1, k2, k3⟩
  have hl := h1.trans (k1.mono h1.kp.next)
  cases e with
  | normal =>
   obtain ⟨m', hm, k3⟩ := k3
   exact ⟨m', hm, σ'', s', hl, k2, k3⟩
  | exit i => exact ⟨σ'', s', hl, k2, k3⟩
  | ret => exact ⟨σ'', s', hl, k2, k3⟩
 | rangeFunc f ps a b ia ib =>
  intro σ s2 s1 K r h
  obtain ⟨fv, hf, h⟩ := h
  obtain ⟨fv', hf', hr⟩ := evO_R r.t hf
  have h := show WCall2 E fv [.yield s2.H.next] (newBlk s2.H (.loop fid s2.T N M ps.toList a b .ready none)).2 (KEnd s2.T s2.H.next K) from h
  obtain ⟨r', k'⟩ := r.h.new (x := .loop fid s2.T N M ps.toList a b .ready none) (y := .loop fid s1.T N M ps.toList a b .ready none) ⟨s1.T, rfl, r.t⟩
  have hadd : (σ.add s2.H.next s1.H.next) s2.H.next = some s1.H.next := by simp [Mp.add]
  refine ⟨fv', hf', ?_⟩
  show callJ E fv' [.yield s1.H.next] (newBlk s1.H (.loop fid s1.T N M ps.toList a b .ready none)).2 _
  rw [callJ_1 hJ]
  refine (h _ fv' [.yield s1.H.next] _ r' (VR.mono k'.kp _ _ hr) (VRL.one (by simp only [VR]; exact ⟨_, hadd, rfl⟩))).mono ?_
  rintro v H1' ⟨σ', u, H', h1, h2, _, q, hq, hk⟩
  obtain ⟨x, hx, hq⟩ := obind_some hq
  obtain ⟨c, y, hc, hy, hb⟩ := h2.blk _ x hx
  have := h1.kp.le _ _ hadd
  rw [hc] at this; cases this
  cases x with
  | cells => cases hq
  | dead => cases hq
  | loop f' T n m ps' a' b' st pend =>
   obtain ⟨T', rfl, _⟩ := hb
   obtain ⟨r2, k2⟩ := h2.set (n := s1.H.next) (x := .dead) (y := .dead) hx hc trivial
   have hl : Lf s1.H.next σ s2.H s1.H σ' (setBlk H' s2.H.next .dead) (setBlk H1' s1.H.next .dead) := (k'.toLf.trans (h1.mono (Nat.le_succ _))).trans k2.toLf
   have kp := hl.kp
   have fin : ∀ e, K e ⟨s2.T, setBlk H' s2.H.next .dead⟩ -> LK s1.H.next M σ s2.H s1.H (K e) ⟨s1.T, setBlk H1' s1.H.next .dead⟩ := fun e hk => ⟨σ', ⟨s2.T, setBlk H' s2.H.next .dead⟩, hl, ⟨r.t.mono kp, r2⟩, hk⟩
   show oP (endLoopA s1.T H1' s1.H.next) _
   unfold endLoopA
   rw [hy]
   cases st with
   | busy => cases hq
   | exhausted =>
    cases pend with
    | none => cases hq; exact ⟨_, rfl, fin _ hk⟩
    | some c =>
     obtain ⟨e, he, rfl⟩ := omap_some (show (exOf c).omap (fun e => (e, (⟨s2.T, setBlk H' s2.H.next .dead⟩ : St))) = some q from hq)
     exact ⟨(e, ⟨s1.T, setBlk H1' s1.H.next .dead⟩), by show (exOf c).omap _ = _; rw [he]; rfl, fin _ hk⟩
   | ready =>
    cases pend with
    | none => cases hq; exact ⟨_, rfl, fin _ hk⟩
    | some c =>
     obtain ⟨e, he, rfl⟩ := omap_some (show (exOf c).omap (fun e => (e, (⟨s2.T, setBlk H' s2.H.next .dead⟩ : St))) = some q from hq)
     exact ⟨(e, ⟨s1.T, setBlk H1' s1.H.next .dead⟩), by show (exOf c).omap _ = _; rw [he]; rfl, fin _ hk⟩
   | done =>
    cases pend with
    | none => cases hq; exact ⟨_, rfl, fin _ hk⟩
    | some c =>
     obtain ⟨e, he, rfl⟩ := omap_some (show (exOf c).omap (fun e => (e, (⟨s2.T, setBlk H' s2.H.next .dead⟩ : St))) = some q from hq)
     exact ⟨(e, ⟨s1.T, setBlk H1' s1.H.next .dead⟩), by show (exOf c).omap _ = _; rw [he]; rfl, fin _ hk⟩
 | exit i => intro σ s2 s1 K r h; exact ⟨σ, s2, Lf.refl _ _ _ _, r, h⟩
 | scope b ib => intro σ s2 s1 K r h; exact ib r h
 | label l => intro σ s2 s1 K r h; exact ⟨σ, s2, Lf.refl _ _ _ _, r, h⟩
 | goto l => intro σ s2 s1 K r h; exact h.elim
 | ret => intro σ s2 s1 K r h; exact ⟨σ, s2, Lf.refl _ _ _ _, r, h⟩
 | refuse why => intro σ s2 s1 K r h; exact h.elim
/-! A call of a loop's body. -/
theorem setParams_R {σ : Mp} {H : Hp} : ∀ {ps : List Tmp} {T T' T2 : Tm} {as as' : List AV}, TR false σ H M T T' -> VRL false σ H as as' -> setParams N M ps T as = some T2 -> ∃ T2', setParams N M ps T' as' = some T2' /\ TR false σ H M T2 T2'
 | [], T, T', T2, as, as', k, ha, h => by
  cases as with
  | nil => rw [VRL.nil] at ha; subst ha; cases h; exact ⟨T', rfl, k⟩
  | cons => cases h
 | p :: ps, T, T', T2, as, as', k, ha, h => by
  cases as with
  | nil => cases h
  | cons x as =>
   obtain ⟨y, r, h1, h2, rfl⟩ := VRL.cons.1 ha
   obtain ⟨hp, h⟩ := bc_some (show bc (Nat.blt p N) (setParams N M ps (Tm.put M T x p) as) none = some T2 from h)
   have k' : TR false σ H M (T.put M x p) (T'.put M y p) := by
    intro i v hv
    rw [Tm.get_put] at hv ⊢
    split at hv
    ·
     rename_i he; cases hv; exact ⟨y, by rw [if_pos he], h1⟩
    ·
     rename_i he
     obtain ⟨a, ha, hr⟩ := k i v hv
     exact ⟨a, by rw [if_neg he]; exact ha, hr⟩
   obtain ⟨T2', hT, hr⟩ := setParams_R k' h2 h
   exact ⟨T2', by show bc (Nat.blt p N) (setParams N M ps (Tm.put M T' y p) r) none = _; rw [hp]; exact hT, hr⟩
theorem wcall2_yield (hJ : E.J = none) (hZ : ZeroOk E) {l : Nat} {T : Tm} {ps : List Tmp} {a b : Code} {st : LoopState} {pd : Option Code} {as : List AV} {H : Hp} {K : AV -> Hp -> Prop} (hl : H.m.get l = some (.loop fid T N M ps a b st pd))
 (h : oP (setParams N M ps T as) fun T' => wpC (env2 E) fid N M a ⟨T', H⟩ (KMid (env2 E) fid N M b l K)) : WCall2 E (.yield l) as H K := by
 intro σ f1 as1 H1 r hf ha
 obtain ⟨c, hc, rfl⟩ := hf.yield
 obtain ⟨c', y, hc', hy, hb⟩ := r.blk l _ hl
 rw [hc] at hc'; cases hc'
 obtain ⟨T1, rfl, hT1⟩ := hb
 obtain ⟨T2, hT2, h⟩ := h
 obtain ⟨T2', hT2', hT⟩ := setParams_R hT1 ha hT2
 refine wcall_yield hJ hy ⟨T2', hT2', ?_⟩
 refine wpC_mono (jmono_1 hJ) a (wpC_R hJ hZ a (s2 := ⟨T2, H⟩) (s1 := ⟨T2', H1⟩) ⟨hT, r⟩ h) ?_
 rintro e t ⟨σ', s, h1, h2, he, G, hG, hk⟩
 have he := show e = .normal from he
 subst he
 refine ⟨rfl, ?_⟩
 obtain ⟨x, hx, hG⟩ := obind_some hG
 obtain ⟨d, z, hd, hz, hbz⟩ := h2.h.blk l x hx
 cases x with
 | cells => cases hG
 | dead => cases hG
 | loop f' T' n m ps' a' b' st' p' =>
  obtain ⟨T3, rfl, hT3⟩ := hbz
  cases st' with
  | busy => cases hG
  | done => cases hG
  | exhausted => cases hG
  | ready =>
   cases hG
   have hdd : d = c := by
    have := h1.kp.le _ _ hc
    rw [hd] at this; exact Option.some.inj this
   subst hdd
   obtain ⟨r2, k2⟩ := h2.h.set (n := H1.next) (x := .loop f' T' n m ps' a' b' .busy p') (y := .loop f' T3 n m ps' a' b' .busy p') hx hd ⟨T3, rfl, hT3⟩
   refine ⟨setBlk t.H d (.loop f' T3 n m ps' a' b' .busy p'), by unfold beginRoundA; rw [hz]; rfl, ?_⟩
   have hk := show wpC (env2 E) fid N M b ⟨s.T, setBlk s.H l (.loop f' T' n m ps' a' b' .busy p')⟩ (KRound l K) from hk
   show wpC E fid N M b ⟨t.T, setBlk t.H d (.loop f' T3 n m ps' a' b' .busy p')⟩ (KRound d _)
   have hl2 : Lf H1.next σ H H1 σ' (setBlk s.H l (.loop f' T' n m ps' a' b' .busy p')) (setBlk t.H d (.loop f' T3 n m ps' a' b' .busy p')) := h1.trans k2.toLf
   refine wpC_mono (jmono_1 hJ) b (wpC_R hJ hZ b (s2 := ⟨s.T, setBlk s.H l (.loop f' T' n m ps' a' b' .busy p')⟩) (s1 := ⟨t.T, setBlk t.H d (.loop f' T3 n m ps' a' b' .busy p')⟩) ⟨h2.t.mono k2.kp, r2⟩ hk) ?_
   rintro e u ⟨σ2, v, g1, g2, g3⟩
   have gl : Lf H1.next σ H H1 σ2 v.H u.H := hl2.trans (g1.mono hl2.kp.next)
   have hend : ∀ j bb, oP (endRoundA v.H l j) (K (.bool bb)) -> oP (endRoundA u.H d j) fun H1' => ∃ σ' v H', Lf H1.next σ H H1 σ' H' H1' /\ HR false σ' H' H1' /\ VR false σ' H1' v (.bool bb) /\ K v H' := by
    rintro j bb ⟨G, hG, hk⟩
    obtain ⟨x, hx, hG⟩ := obind_some hG
    obtain ⟨d', z, hd', hz, hbz⟩ := g2.h.blk l x hx
    have hdd : d' = d := by
     have := gl.kp.le _ _ hc
     rw [hd'] at this; exact Option.some.inj this
    subst hdd
    cases x with
    | cells => cases hG
    | dead => cases hG
    | loop f'' T'' n m ps'' a'' b'' st'' p'' =>
     obtain ⟨T4, rfl, hT4⟩ := hbz
     cases hG
     obtain ⟨r3, k3⟩ := g2.h.set (n := H1.next) (x := .loop f'' T'' n m ps'' a'' b'' (stOf j) j) (y := .loop f'' T4 n m ps'' a'' b'' (stOf j) j) hx hd' ⟨T4, rfl, hT4⟩
     exact ⟨setBlk u.H d' (.loop f'' T4 n m ps'' a'' b'' (stOf j) j), by unfold endRoundA; rw [hz]; rfl, σ2, .bool bb, _, gl.trans k3.toLf, r3, VR.bool, hk⟩
   cases e with
   | normal => exact hend none true g3
   | exit i => exact hend _ false g3
   | ret => exact hend _ false g3
end
/-! Into a function, and out. -/
theorem argG_R {w : Bool} {σ : Mp} {H : Hp} : ∀ {l r : List AV} {k : Nat} {G G' : TL}, VRL w σ H l r -> (∀ i v, G.get i = some v -> ∃ a, G'.get i = some a /\ VR w σ H v a) -> ∀ i v, (argG l k G).get i = some v -> ∃ a, (argG r k G').get i = some a /\ VR w σ H v a
 | [], _, _, _, _, h, k => by rw [VRL.nil] at h; subst h; exact k
 | x :: l, _, n, G, G', h, k => by
  obtain ⟨y, r', h1, h2, rfl⟩ := VRL.cons.1 h
  refine argG_R (k := n + 1) h2 fun i v hv => ?_
  rw [TL.get_put] at hv ⊢
  split at hv
  ·
   rename_i he; cases hv; exact ⟨y, by rw [if_pos he], h1⟩
  ·
   rename_i he
   obtain ⟨a, ha, hr⟩ := k i v hv
   exact ⟨a, by rw [if_neg he]; exact ha, hr⟩
theorem resL_R {E : Env} {M : Nat} {σ : Mp} {T T' : Tm} {H2 H1 : Hp} (k : TR false σ H1 M T T') (r : HR false σ H2 H1) : ∀ {l : List ResultVar} {vs : List AV}, resL E M T H2 l = some vs -> ∃ us, resL E M T' H1 l = some us /\ VRL false σ H1 vs us
 | [], vs, h => by cases h; exact ⟨[], rfl, VRL.nil.2 rfl⟩
 | .tmp t :: l, vs, h => by
  obtain ⟨v, hv, h⟩ := obind_some (show ((Tm.get M T t).obind fun v => (resL E M T H2 l).omap (v :: ·)) = some vs from h)
  obtain ⟨vs, hvs, rfl⟩ := omap_some h
  obtain ⟨a, ha, hr⟩ := k t v hv
  obtain ⟨us, hus, hr2⟩ := resL_R k r hvs
  exact ⟨a :: us, by show ((Tm.get M T' t).obind fun v => (resL E M T' H1 l).omap (v :: ·)) = _; rw [ha]; show (resL E M T' H1 l).omap _ = _; rw [hus]; rfl, VRL.cons.2 ⟨a, us, hr, hr2, rfl⟩⟩
 | .cell t ty :: l, vs, h => by
  obtain ⟨p, hp, h⟩ := obind_some (show ((Tm.get M T t).obind fun p => (asPtr p).obind fun q => (loadAV E H2 ty q.1 q.2).obind fun v => (resL E M T H2 l).omap (v :: ·)) = some vs from h)
  obtain ⟨q, hq, h⟩ := obind_some h
  obtain ⟨v, hv, h⟩ := obind_some h
  obtain ⟨vs, hvs, rfl⟩ := omap_some h
  obtain rfl := asPtr_some hq
  obtain ⟨a, ha, hr⟩ := k t _ hp
  obtain ⟨c, hc, rfl⟩ := hr.ptr
  obtain ⟨u, hu, hr1⟩ := r.load hc hv
  obtain ⟨us, hus, hr2⟩ := resL_R k r hvs
  refine ⟨u :: us, ?_, VRL.cons.2 ⟨u, us, hr1, hr2, rfl⟩⟩
  show ((Tm.get M T' t).obind fun p => (asPtr p).obind fun q => (loadAV E H1 ty q.1 q.2).obind fun v => (resL E M T' H1 l).omap (v :: ·)) = _
  rw [ha]
  show ((loadAV E H1 ty c q.2).obind fun v => (resL E M T' H1 l).omap (v :: ·)) = _
  rw [hu]; show (resL E M T' H1 l).omap _ = _
  rw [hus]; rfl
end
end Go.Ev
namespace Go.Ev
noncomputable section
/-! Out of a function. -/
def idm (H0 : Hp) : Mp := fun b => if (H0.m.get b).isSome then some b else none
theorem idm_some {H0 : Hp} {b : Nat} {x : Blk} (h : H0.m.get b = some x) : idm H0 b = some b := by unfold idm; rw [h]; rfl
theorem idm_eq {H0 : Hp} {b c : Nat} (h : idm H0 b = some c) : c = b /\ ∃ x, H0.m.get b = some x := by
 unfold idm at h
 split at h
 ·
  rename_i hs; cases h; exact ⟨rfl, Option.isSome_iff_exists.1 hs⟩
 ·
  cases h
mutual
theorem VR.refl_of {σ τ : Mp} {H H1 : Hp} (h : ∀ b c, σ b = some c -> τ b = some b) : ∀ (v a : AV), VR false σ H1 v a -> VR true τ H v v
 | .bool _, _, _ => VR.bool
 | .int _ _, _, _ => VR.int
 | .str _, _, _ => VR.str
 | .nilp, _, _ => by simp only [VR]
 | .nils, _, _ => by simp only [VR]
 | .esl _, _, _ => by simp only [VR]
 | .nilf, _, _ => by simp only [VR]
 | .nili, _, _ => by simp only [VR]
 | .ptr _ _, _, k => by obtain ⟨c, hc, _⟩ := k.ptr; exact VR.ptr_mk (h _ _ hc)
 | .slice _ _ _ _, _, k => by obtain ⟨c, hc, _⟩ := k.slice; exact VR.slice_mk (h _ _ hc)
 | .yield _, _, k => by obtain ⟨c, hc, _⟩ := k.yield; simp only [VR]; exact ⟨_, h _ _ hc, rfl⟩
 | .func _ x y, _, k => by
  obtain ⟨x', y', h1, h2, _⟩ := k.func
  simp only [VR]; exact ⟨x, y, VRL.refl_of h x x' h1, VRL.refl_of h y y' h2, rfl⟩
 | .iface _ v, _, k => by
  simp only [VR] at k ⊢
  obtain ⟨v', h1, _⟩ := k
  exact ⟨v, VR.refl_of h v v' h1, rfl⟩
 | .agg l, _, k => by obtain ⟨l', h1, _⟩ := k.agg; exact VR.agg_mk (VRL.refl_of h l l' h1)
 | .tuple l, _, k => by obtain ⟨l', h1, _⟩ := k.tuple; exact VR.tuple_mk (VRL.refl_of h l l' h1)
 | .lst sz l, _, k => by
  simp only [VR] at k
  rcases k with ⟨hw, _⟩ | ⟨rfl, _⟩ | ⟨_, _, _, _, _, l', _, _, _, _, h1, _⟩
  ·
   cases hw
  ·
   exact VR.lstw_mk rfl (VRL.nil.2 rfl)
  ·
   exact VR.lstw_mk rfl (VRL.refl_of h l l' h1)
 | .ept l off, _, k => by
  simp only [VR] at k
  rcases k with ⟨hw, _⟩ | ⟨_, _, l', _, _, h1, _⟩
  ·
   cases hw
  ·
   exact VR.eptw_mk rfl (VRL.refl_of h l l' h1)
theorem VRL.refl_of {σ τ : Mp} {H H1 : Hp} (h : ∀ b c, σ b = some c -> τ b = some b) : ∀ (l r : List AV), VRL false σ H1 l r -> VRL true τ H l l
 | [], _, _ => VRL.nil.2 rfl
 | x :: l, _, k => by
  obtain ⟨y, r', h1, h2, _⟩ := VRL.cons.1 k
  exact VRL.cons.2 ⟨x, l, VR.refl_of h x y h1, VRL.refl_of h l r' h2, rfl⟩
end
theorem BR.refl_of {σ τ : Mp} {H H1 : Hp} (h : ∀ b c, σ b = some c -> τ b = some b) {x y : Blk} (k : BR false σ H1 x y) : BR true τ H x x := by
 cases x with
 | cells l e ex wr => obtain ⟨l', _, h1⟩ := k; exact ⟨l, rfl, VRL.refl_of h l l' h1⟩
 | loop f T n m ps a b st p =>
  obtain ⟨T', _, h1⟩ := k
  exact ⟨T, rfl, fun i v hv => by obtain ⟨a, _, h2⟩ := h1 i v hv; exact ⟨v, hv, VR.refl_of h v a h2⟩⟩
 | dead => trivial
structure XU (H0 H' H : Hp) : Prop where
 nx : H'.next = H0.next
 nx2 : H0.next ≤ H.next
 blk : ∀ b x, H0.m.get b = some x -> (H.m.get b = some x /\ H'.m.get b = some x) ∨ ∃ y y', H.m.get b = some y /\ H'.m.get b = some y' /\ BR true (idm H0) H y' y
 nn : ∀ b, H0.m.get b = Option.none -> H'.m.get b = Option.none
 lg : ∃ l, H'.log = l ++ H0.log /\ ∀ l', H.log = l' ++ H0.log -> ∀ b x, H0.m.get b = some x -> b ∈ l' -> b ∈ l
theorem XU.xt {σ : Mp} {H0 H1 H' H : Hp} (r : HR false σ H0 H1) (hH : ∀ c, H.next ≤ c -> H.m.get c = none) (h : XU H0 H' H) : Xt H0 (idm H0) H' H := by
 have hid : ∀ b c, σ b = some c -> idm H0 b = some b := fun b c hb => by obtain ⟨x, hx⟩ := r.ex2 b c hb; exact idm_some hx
 have lt : ∀ b x, H0.m.get b = some x -> b < H0.next := fun b x hx => by
  rcases Nat.lt_or_ge b H0.next with h | h
  ·
   exact h
  ·
   rw [r.fr2 b h] at hx; cases hx
 refine ⟨⟨fun b x hx => ?_, fun b b' c hb hb' => ?_, fun b c hb => ?_, fun b c hb => ?_, fun b hb => ?_, fun c hc => hH c hc, fun b c hb => ?_, fun b c hb => ?_⟩, fun b x hx => idm_some hx, h.lg⟩
 ·
  cases h0 : H0.m.get b with
  | none => rw [h.nn b h0] at hx; cases hx
  | some z =>
   rcases h.blk b z h0 with ⟨h1, h2⟩ | ⟨y, y', h1, h2, h3⟩
   ·
    rw [h2] at hx
    obtain ⟨c, y, _, _, hb⟩ := r.blk b z h0
    have hz : z = x := Option.some.inj hx
    rw [<- hz]
    exact ⟨b, z, idm_some h0, h1, hb.refl_of hid⟩
   ·
    rw [h2] at hx; cases hx
    exact ⟨b, y, idm_some h0, h1, h3⟩
 ·
  rw [<- (idm_eq hb).1, <- (idm_eq hb').1]
 ·
  obtain ⟨rfl, x, hx⟩ := idm_eq hb
  exact Nat.lt_of_lt_of_le (lt _ x hx) h.nx2
 ·
  obtain ⟨rfl, x, hx⟩ := idm_eq hb
  rw [h.nx]; exact lt _ x hx
 ·
  rw [h.nx] at hb; exact h.nn b (r.fr2 b hb)
 ·
  obtain ⟨rfl, x, hx⟩ := idm_eq hb
  rcases h.blk _ x hx with ⟨h1, _⟩ | ⟨y, _, h1, _⟩
  ·
   exact ⟨x, h1⟩
  ·
   exact ⟨y, h1⟩
 ·
  obtain ⟨rfl, x, hx⟩ := idm_eq hb
  rcases h.blk _ x hx with ⟨_, h1⟩ | ⟨_, y, _, h1, _⟩
  ·
   exact ⟨x, h1⟩
  ·
   exact ⟨y, h1⟩
theorem XU.same {H0 H : Hp} (h : Fr H0 H) (hlt : ∀ b x, H0.m.get b = some x -> b < H0.next) : XU H0 H0 H := by
 refine ⟨rfl, h.1, fun b x hx => .inl ⟨by rw [h.2 b (hlt b x hx)]; exact hx, hx⟩, fun b hb => hb, [], rfl, fun l' hl b x hx hb => ?_⟩
 obtain ⟨l, h1, h2⟩ := h.lg
 have : l' = l := List.append_cancel_right (hl.symm.trans h1)
 subst this
 have := h2 b hb
 have := hlt b x hx
 omega
def FZ (H0 H : Hp) (v' v : AV) : Prop := VR true (idm H0) H v' v
def FZL (H0 H : Hp) (l' l : List AV) : Prop := VRL true (idm H0) H l' l
def XO (H0 : Hp) (K : AV -> Hp -> Prop) (v : AV) (H : Hp) : Prop :=
 K v H ∨ (Fr H0 H /\ ∃ v', FZ H0 H v' v /\ K v' H0) ∨ ∃ H' v', XU H0 H' H /\ FZ H0 H v' v /\ K v' H'
def KO (E : Env) (H0 : Hp) (l : List ResultVar) (K : AV -> Hp -> Prop) (e : Ex) (s : St) : Prop := isExit e = false /\ s.T.L = .nil /\ oP (resG E s.T.G s.H l) fun vs => XO H0 K (single vs) s.H
def KOuts (H0 : Hp) (K : AV -> Hp -> Prop) (H : Hp) (vs : List AV) : Prop := XO H0 K (single vs) H
theorem ko_r {E : Env} {H0 : Hp} {l : List ResultVar} {K : AV -> Hp -> Prop} {G : TL} {H : Hp} : KO E H0 l K .ret ⟨⟨.nil, G⟩, H⟩ = oP (resG E G H l) (KOuts H0 K H) := propext ⟨fun h => h.2.2, fun h => ⟨rfl, rfl, h⟩⟩
theorem ko_n {E : Env} {H0 : Hp} {l : List ResultVar} {K : AV -> Hp -> Prop} {G : TL} {H : Hp} : KO E H0 l K .normal ⟨⟨.nil, G⟩, H⟩ = oP (resG E G H l) (KOuts H0 K H) := propext ⟨fun h => h.2.2, fun h => ⟨rfl, rfl, h⟩⟩
theorem kouts_0 {H0 : Hp} {K : AV -> Hp -> Prop} {H : Hp} : KOuts H0 K H [] = XO H0 K (.tuple []) H := rfl
theorem kouts_1 {H0 : Hp} {K : AV -> Hp -> Prop} {H : Hp} {v : AV} : KOuts H0 K H [v] = XO H0 K v H := rfl
theorem kouts_2 {H0 : Hp} {K : AV -> Hp -> Prop} {H : Hp} {v u : AV} {l : List AV} : KOuts H0 K H (v :: u :: l) = XO H0 K (.tuple (v :: u :: l)) H := rfl
def WF (H : Hp) : Prop := ∀ b, H.next ≤ b -> H.m.get b = none
theorem enter3 {P : Program} {wk : FuncId -> Bool} {f : FuncId} {fn : Func} {c : Code} {a1 a2 as : List AV} {H : Hp} {K : AV -> Hp -> Prop} {N : Nat} {l : List ResultVar} (hZ : ZeroOk (envV P wk)) (hw : wk f = false) (hf : (envV P wk).fn f = some fn) (hb : fn.body = some c) (hN : fn.ntmps = N) (hr : fn.results = l.toArray)
 (hl : Nat.ble (appL a1 (appL as a2)).length N = true) (hro : resOk N l = true) (h : WF H -> wpC (env2 (envV P wk)) f N (FULL N) c ⟨⟨.nil, argG (appL a1 (appL as a2)) 0 .nil⟩, H⟩ (KO (env2 (envV P wk)) H l K)) : WCall2 (envV P wk) (.func f a1 a2) as H K := by
 intro σ f1 as1 H1 r hf1 ha
 have key : WCall (envV P wk) f1 as1 H1 fun v1 H1' => ∃ σ' v H', Lf H1.next σ H H1 σ' H' H1' /\ HR false σ' H' H1' /\ VR false σ' H1' v v1 /\ XO H K v H' := by
  obtain ⟨x, y, hx, hy, rfl⟩ := hf1.func
  have hm : (envV P wk).mask fn = FULL N := by rw [<- hN]; rfl
  have hargs : VRL false σ H1 (appL a1 (appL as a2)) (appL x (appL as1 y)) := by
   rw [appL_eq, appL_eq, appL_eq, appL_eq]; exact VRL.app hx (VRL.app ha hy)
  refine wcall_fn rfl (by show bc (wk f) _ none = none; rw [hw]; rfl) hf hb (by rw [lenL_eq, hargs.len, hN]; exact hl) ?_
  rw [hm, hN, ofArgs_argG (by have := ble_iff.1 hl; rw [hargs.len]; omega)]
  have hT : TR false σ H1 (FULL N) ⟨.nil, argG (appL a1 (appL as a2)) 0 .nil⟩ ⟨.nil, argG (appL x (appL as1 y)) 0 .nil⟩ := by
   intro i v hv
   unfold Tm.get at hv ⊢
   cases hb : Nat.testBit (FULL N) i with
   | false => rw [hb] at hv; cases hv
   | true =>
    rw [hb] at hv
    exact argG_R hargs (fun i v h => by cases h) i v hv
  refine wpC_mono (jmono_1 rfl) c (wpC_R (E := envV P wk) rfl hZ c (s1 := ⟨⟨.nil, argG (appL x (appL as1 y)) 0 .nil⟩, H1⟩) ⟨hT, r⟩ (h r.fr2)) ?_
  rintro e t ⟨σ', ⟨⟨L, G⟩, H'⟩, h1, h2, he, hL, vs, hvs, hk⟩
  obtain rfl : L = .nil := hL
  refine ⟨he, ?_⟩
  have hro' : ∀ r ∈ l, match r with | .tmp t => t < N | .cell a _ => a < N := by
   intro r hr
   have := List.all_eq_true.1 hro r hr
   cases r with
   | tmp t => exact (blt_iff _ _).1 this
   | cell a t => exact (blt_iff _ _).1 this
  have hres : resL (envV P wk) (FULL N) ⟨.nil, G⟩ H' l = some vs := by
   rw [resL_G hro']
   have hvs := show resG (env2 (envV P wk)) G H' l = some vs from hvs
   have : ∀ l, resG (env2 (envV P wk)) G H' l = resG (envV P wk) G H' l := by
    intro l
    induction l with
    | nil => rfl
    | cons r l ih => cases r <;> simp only [resG, ih] <;> rfl
   rw [this] at hvs; exact hvs
  obtain ⟨us, hus, hr2⟩ := resL_R h2.t h2.h hres
  rw [hm, hr]
  exact ⟨us, by simpa using hus, σ', single vs, H', h1, h2.h, single_R hr2, hk⟩
 refine key.mono ?_
 rintro v1 H1' ⟨σ', v, H', h1, h2, h3, hk⟩
 have hlt : ∀ b x, H.m.get b = some x -> b < H.next := fun b x hx => by
  rcases Nat.lt_or_ge b H.next with h | h
  ·
   exact h
  ·
   rw [r.fr2 b h] at hx; cases hx
 have fin : ∀ {H'' v'}, XU H H'' H' -> FZ H H' v' v -> K v' H'' -> ∃ σ' v H', Lf H1.next σ H H1 σ' H' H1' /\ HR false σ' H' H1' /\ VR false σ' H1' v v1 /\ K v H' := by
  intro H'' v' hx hv hk
  have xt := hx.xt r h2.fr2
  exact ⟨(idm H).comp σ', v', H'', Lf.out r h1 xt, xt.hr.comp h2, VR.comp h2 _ _ _ hv h3, hk⟩
 rcases hk with hk | ⟨hf, v', hv, hk⟩ | ⟨H'', v', hx, hv, hk⟩
 ·
  exact ⟨σ', v, H', h1, h2, h3, hk⟩
 ·
  exact fin (XU.same hf hlt) hv hk
 ·
  exact fin hx hv hk
/-! What is kept of a value. -/
section
variable {H0 H : Hp}
theorem FZ.int {k : IntKind} {n : Int} : FZ H0 H (.int k n) (.int k n) := VR.int
theorem FZ.bool {b : Bool} : FZ H0 H (.bool b) (.bool b) := VR.bool
theorem FZ.str {s : List UInt8} : FZ H0 H (.str s) (.str s) := VR.str
theorem FZ.nilp : FZ H0 H .nilp .nilp := by unfold FZ; simp only [VR]
theorem FZ.nils : FZ H0 H .nils .nils := VR.nils_mk
theorem FZ.lst {sz : Nat} {l l' : List AV} (h : FZL H0 H l l') : FZ H0 H (.lst sz l) (.lst sz l') := VR.lstw_mk rfl h
theorem FZ.agg {l l' : List AV} (h : FZL H0 H l l') : FZ H0 H (.agg l) (.agg l') := VR.agg_mk h
theorem FZ.tuple {l l' : List AV} (h : FZL H0 H l l') : FZ H0 H (.tuple l) (.tuple l') := VR.tuple_mk h
theorem FZ.ptr {b o : Nat} {x : Blk} (h : H0.m.get b = some x) : FZ H0 H (.ptr b o) (.ptr b o) := VR.ptr_mk (idm_some h)
theorem FZ.slice {b o n : Nat} {k : Cap} {x : Blk} (h : H0.m.get b = some x) : FZ H0 H (.slice b o n k) (.slice b o n k) := VR.slice_mk (idm_some h)
theorem FZL.nil : FZL H0 H [] [] := VRL.nil.2 rfl
theorem FZL.cons {x y : AV} {l r : List AV} (h : FZ H0 H x y) (k : FZL H0 H l r) : FZL H0 H (x :: l) (y :: r) := VRL.cons.2 ⟨y, r, h, k, rfl⟩
theorem FZ.nils0 {sz : Nat} : FZ H0 H (.lst sz []) .nils := VR.lst0_mk (.inl rfl)
theorem FZL.map {α : Type} {f g : α -> AV} {l : List α} (h : ∀ a ∈ l, FZ H0 H (f a) (g a)) : FZL H0 H (l.map f) (l.map g) := by
 induction l with
 | nil => exact FZL.nil
 | cons a l ih => exact FZL.cons (h a (by simp)) (ih fun b hb => h b (by simp [hb]))
theorem Own.fz {sz e n : Nat} {v : AV} {cs : List AV} (h : Own H H0.next e sz v n cs) (hpos : 0 < sz) (hlt : ∀ b, H0.next ≤ b -> H0.m.get b = none) {l l' : List AV} (hl : l.length = n) (hcat : catL l = cs) (hlen : ∀ x ∈ l, x.cells.length = sz) (hfz : FZL H0 H l' l) : FZ H0 H (.lst sz l') v := by
 have hl' : l'.length = n := by rw [<- hl]; exact (VRL.len hfz).symm
 rcases h.2 with ⟨rfl, rfl⟩ | ⟨b, x, h1, h2, rfl, h3⟩
 ·
  obtain rfl := List.eq_nil_of_length_eq_zero hl'
  exact FZ.nils0
 ·
  by_cases h0 : n = 0
  ·
   subst h0
   obtain rfl := List.eq_nil_of_length_eq_zero hl'
   refine VR.lst0_mk (.inr (.inl ⟨b, 0, _, rfl, ?_, fun h => absurd h (by omega)⟩))
   cases x <;> first | trivial | rfl
  ·
   have hn : l' ≠ [] := by rintro rfl; exact h0 hl'.symm
   rw [<- hl']
   refine VR.lst1_mk hn hpos ⟨fun a ha => ?_, h2, by rw [h3]; rfl⟩ ?_ ?_ hfz hlen ?_
   ·
    obtain ⟨rfl, y, hy⟩ := idm_eq ha
    rw [hlt _ h1] at hy; cases hy
   ·
    cases x <;> first | trivial | rfl
   ·
    cases x <;> exact Nat.le_refl _
   ·
    have hc : cs.length = l'.length * sz := by rw [h.1, hl']
    rw [hcat, cellsAt_pos (by rw [<- hc, h.1]; exact Nat.ne_of_gt (Nat.mul_pos (Nat.pos_of_ne_zero h0) hpos))]
    show (H.m.get b).obind (cellsB 0 _) = _
    rw [h3]
    show cellsB 0 _ (.cells cs e x true) = _
    rw [cellsB_c, dropL_z, takeE_all hc]
end
/-! Rules on slices of which only what they hold is known. -/
section
variable {E : Env} {e sz n i : Nat} {l : List AV} {v : AV} {H : Hp}
theorem len_lst : lenAV (.slice e) E (.lst sz l) = some (.int .i64 (l.length : Int)) := by
 show some (AV.int .i64 (.ofNat (lenL l))) = _
 rw [lenL_eq]; rfl
theorem ia_lst (h : l[i]? = some v) : idxAddr (.slice e) E (.lst sz l) i = bc (Nat.beq sz (sizeT E e)) (some (.ept v.cells 0)) none := by
 show bc (Nat.beq sz (sizeT E e)) ((getL l i).omap fun v => AV.ept v.cells 0) none = _
 rw [getL_eq, h]; rfl
theorem ia_lst_map {α : Type} {f : α -> AV} {xs : List α} (h : i < xs.length) : idxAddr (.slice e) E (.lst sz (xs.map f)) i = bc (Nat.beq sz (sizeT E e)) (some (.ept (f xs[i]).cells 0)) none := by
 rw [ia_lst (v := f xs[i])]
 rw [List.getElem?_map, List.getElem?_eq_getElem h]; rfl
theorem src_lst : srcCells E H e (.lst sz l) = bc (Nat.beq sz (sizeT E e)) (some (l.length, catL l)) none := by
 show bc (Nat.beq sz (sizeT E e)) (some (lenL l, catL l)) none = _
 rw [lenL_eq]
theorem nilChk_e {cs : List AV} {o : Nat} : nilChk (.ept cs o) = some (.ept cs o) := rfl
theorem one_lst : oneC (.lst sz l) = true := rfl
theorem one_ept {cs : List AV} {o : Nat} : oneC (.ept cs o) = true := rfl
theorem cells_lst : (AV.lst sz l).cells = [.lst sz l] := rfl
theorem fpStep_lst {cs : List AV} {o : Nat} {r : List AV -> Option (List AV)} : fpStep (.lst sz l) cs r (o, 1) = (setE [.lst sz l] o cs).obind r := rfl
theorem storeN_lst {b o : Nat} : storeN H 1 (.ptr b o) (.lst sz l) = (putCells H b o [.lst sz l]).omap fun H => (.undef, H) := rfl
theorem asSlice_l : asSlice (.lst sz l) = none := rfl
theorem bin_lst {fl : Option (Bool × Nat)} {op : BinOp} {y : AV} : binAV (.slice e) fl op (.lst sz l) y = eqOp op (eqAV (.slice e) fl (.lst sz l) y) := rfl
theorem eq_ln {fl : Option (Bool × Nat)} {x : AV} : eqAV (.slice e) fl (.lst sz (x :: l)) .nils = some false := rfl
theorem bin_ept {fl : Option (Bool × Nat)} {op : BinOp} {y : AV} {cs : List AV} {o : Nat} : binAV (.ptr e) fl op (.ept cs o) y = eqOp op (eqAV (.ptr e) fl (.ept cs o) y) := rfl
theorem eq_en {fl : Option (Bool × Nat)} {cs : List AV} {o : Nat} : eqAV (.ptr e) fl (.ept cs o) .nilp = some false := rfl
def cutL (sz : Nat) (l : List AV) (a b : Nat) : Option AV := if a ≤ b /\ b ≤ l.length then some (.lst sz ((l.take b).drop a)) else none
theorem sl_lst (a b : Nat) (hi : b ≤ l.length) (hlo : a ≤ b) {k k' : IntKind} (hs : sz = sizeT E e) : evSlice (.slice e) E (.lst sz l) (some (.int k (a : Int))) (some (.int k' (b : Int))) none = some (.lst sz ((l.take b).drop a)) := by
 show bc (Nat.beq sz (sizeT E e)) ((boundsN (lenL l) (lenL l) (some (.int k (a : Int))) (some (.int k' (b : Int))) none).omap fun r => AV.lst sz (dropL r.1 (takeL r.2.1 l))) none = _
 have : boundsN (lenL l) (lenL l) (some (.int k (a : Int))) (some (.int k' (b : Int))) none = some (a, b, lenL l) := by
  show (bc (Nat.ble b (lenL l)) (some b) none).obind (fun h => (bc (Nat.ble a h) (some a) none).omap fun l' => (l', h, lenL l)) = _
  rw [lenL_eq, ble_iff.2 hi]
  show (bc (Nat.ble a b) (some a) none).omap _ = _
  rw [ble_iff.2 hlo]; rfl
 rw [hs, Nat.beq_refl, this]
 show some (AV.lst _ (dropL a (takeL b l))) = _
 rw [dropL_eq, takeL_eq]
theorem sl_lst_lo (a : Nat) (hlo : a ≤ l.length) {k : IntKind} (hs : sz = sizeT E e) : evSlice (.slice e) E (.lst sz l) (some (.int k (a : Int))) none none = some (.lst sz (l.drop a)) := by
 show bc (Nat.beq sz (sizeT E e)) ((boundsN (lenL l) (lenL l) (some (.int k (a : Int))) none none).omap fun r => AV.lst sz (dropL r.1 (takeL r.2.1 l))) none = _
 have : boundsN (lenL l) (lenL l) (some (.int k (a : Int))) none none = some (a, lenL l, lenL l) := by
  show (bc (Nat.ble a (lenL l)) (some a) none).omap _ = _
  rw [lenL_eq, ble_iff.2 hlo]; rfl
 rw [hs, Nat.beq_refl, this]
 show some (AV.lst _ (dropL a (takeL (lenL l) l))) = _
 rw [dropL_eq, takeL_eq, lenL_eq, List.take_length]
theorem sl_lst_hi (b : Nat) (hi : b ≤ l.length) {k : IntKind} (hs : sz = sizeT E e) : evSlice (.slice e) E (.lst sz l) none (some (.int k (b : Int))) none = some (.lst sz (l.take b)) := by
 show bc (Nat.beq sz (sizeT E e)) ((boundsN (lenL l) (lenL l) none (some (.int k (b : Int))) none).omap fun r => AV.lst sz (dropL r.1 (takeL r.2.1 l))) none = _
 have : boundsN (lenL l) (lenL l) none (some (.int k (b : Int))) none = some (0, b, lenL l) := by
  show (bc (Nat.ble b (lenL l)) (some b) none).obind (fun h => (some 0).omap fun l' => (l', h, lenL l)) = _
  rw [lenL_eq, ble_iff.2 hi]; rfl
 rw [hs, Nat.beq_refl, this]
 show some (AV.lst _ (dropL 0 (takeL b l))) = _
 rw [dropL_eq, takeL_eq]; rfl
end
attribute [go_sem] len_lst src_lst nilChk_e one_lst one_ept cells_lst fpStep_lst storeN_lst asSlice_l bin_lst eq_ln bin_ept eq_en ko_r ko_n kouts_0 kouts_1 kouts_2
/-! Calls, draws. -/
theorem krange {E : Env} {fid : FuncId} {N M : Nat} {ps : List Tmp} {a b : Code} {s : St} {K : Ex -> St -> Prop} {fv : AV} : KRange E fid N M ps a b s K fv = callJ E fv [.yield s.H.next] (newBlk s.H (.loop fid s.T N M ps a b .ready none)).2 (KEnd s.T s.H.next K) := rfl
theorem draw_of {E : Env} {N M : Nat} {ops : List Oper} {s : St} {K : St -> Prop} (hS : okS (env2 E) ops = true) (hl : loose (env2 E) ops = []) (h : wpOps (env2 E) N M ops ops s K) : drawJ (env2 E) N M ops s K :=
 ⟨hS, by rw [hl]; exact h⟩
theorem draw_of2 {E : Env} {N M : Nat} {ops : List Oper} {s : St} {K : St -> Prop} {p : Nat × Nat} {l : List (Nat × Nat)} (hS : okS (env2 E) ops = true) (hl : loose (env2 E) ops = p :: l) (h : wpTr2 (env2 E) N M ops ops s [] fun tr => looseAll (env2 E) M ops tr (p :: l) /\ K (lastS tr s)) : drawJ (env2 E) N M ops s K :=
 ⟨hS, by rw [hl]; exact h⟩
theorem NT.refl (b : Nat) (H : Hp) : NT b H H := ⟨rfl, [], rfl, by simp⟩
theorem wcall2_true {P : Program} {wk : FuncId -> Bool} {f : FuncId} (hw : wk f = true) {H : Hp} {K : AV -> Hp -> Prop} (h : K (.bool true) H) : WCall2 (envV P wk) (.func f [] []) [] H K := by
 intro σ f1 as1 H1 r hf ha
 obtain ⟨x, y, hx, hy, rfl⟩ := hf.func
 rw [VRL.nil] at hx hy ha
 subst hx; subst hy; subst ha
 exact wcall_true hw ⟨σ, .bool true, H, Lf.refl _ _ _ _, r, VR.bool, h⟩
theorem zeroOk_of (P : Program) (wk : FuncId -> Bool) : ZeroOk (envV P wk) := by
 intro w σ H t z hz
 unfold zeroT at hz
 obtain ⟨i, hi, hz⟩ := obind_some hz
 obtain ⟨j, hj, hti⟩ := envOf_mem (P := P) hi
 unfold tiOf at hti
 obtain ⟨d, hd, rfl⟩ := Option.map_eq_some_iff.1 hti
 obtain ⟨a, ha, hf⟩ := Option.bind_eq_some_iff.1 (show (j.zero.bind (ofV 3)).bind (fitZ j.size) = some z from hz)
 obtain ⟨v, _, hv⟩ := Option.bind_eq_some_iff.1 ha
 unfold fitZ at hf
 split at hf
 ·
  cases hf; exact ofV_VR 3 v _ hv
 ·
  cases hf
end
end Go.Ev
namespace Go.Ev
noncomputable section
/-! Temporaries that code does not set stay as they are. -/
def dstL (l : List Oper) : List Nat := List.rec [] (fun o _ ih => match o.dst with | some d => d :: ih | none => ih) l
def dsts (c : Code) : List Nat :=
 Code.rec (motive := fun _ => List Nat) [] (fun _ ops _ => dstL ops.toList) (fun _ _ a b => a ++ b) (fun _ _ _ a b => a ++ b) (fun _ _ a => a) (fun _ a => a)
  (fun _ _ _ _ _ _ => []) (fun _ => []) (fun _ a => a) (fun _ => []) (fun _ => []) [] (fun _ => []) c
section
variable {E : Env} {fid : FuncId} {N : Nat}
def Kept (D : List Nat) (G G' : TL) : Prop := ∀ j, hasN j D = false -> G'.get j = G.get j
theorem Kept.refl (D : List Nat) (G : TL) : Kept D G G := fun _ _ => rfl
theorem hasN_mem {j : Nat} : ∀ {l : List Nat}, hasN j l = true ↔ j ∈ l
 | [] => by simp [hasN]
 | x :: l => by
  unfold hasN
  cases h : Nat.beq j x with
  | true => simp [Nat.eq_of_beq_eq_true h]
  | false =>
   have : j ≠ x := fun e => by subst e; rw [Nat.beq_refl] at h; cases h
   simp [this, hasN_mem (l := l)]
theorem hasN_app {j : Nat} {l r : List Nat} : hasN j (l ++ r) = (hasN j l || hasN j r) := by
 rw [Bool.eq_iff_iff]; simp [hasN_mem]
theorem Kept.mono {D D' : List Nat} {G G' : TL} (h : Kept D G G') (k : ∀ j, hasN j D' = false -> hasN j D = false) : Kept D' G G' := fun j hj => h j (k j hj)
theorem Kept.trans {D : List Nat} {G G' G'' : TL} (h : Kept D G G') (k : Kept D G' G'') : Kept D G G'' := fun j hj => (k j hj).trans (h j hj)
theorem put_kept {T : Tm} {d : Option Tmp} {v : AV} {T' : Tm} (h : putT N (FULL N) T d v = some T') : (∀ j, d ≠ some j -> T'.G.get j = T.G.get j) /\ T'.L = T.L := by
 cases d with
 | none => cases h; exact ⟨fun _ _ => rfl, rfl⟩
 | some t =>
  unfold putT putTC at h
  cases hb : Nat.blt t N with
  | false => simp only [hb] at h; cases h
  | true =>
   have hm : Nat.testBit (FULL N) t = true := full_bit ((blt_iff _ _).1 hb)
   simp only [hb, hm] at h
   cases h
   refine ⟨fun j hj => ?_, rfl⟩
   show (T.G.put v t).get j = _
   rw [TL.get_put, if_neg (by rintro rfl; exact hj rfl)]
def KK (D : List Nat) (s0 : St) (K : St -> Prop) (s : St) : Prop := K s /\ Kept D s0.T.G s.T.G /\ s.T.L = s0.T.L
theorem KPut_kept {T : Tm} {H : Hp} {d : Option Tmp} {K : St -> Prop} {v : AV} (h : KPut N (FULL N) T d K v H) {s0 : St} (hT : s0.T = T) : KPut N (FULL N) T d (fun s => K s /\ (∀ j, d ≠ some j -> s.T.G.get j = s0.T.G.get j) /\ s.T.L = s0.T.L) v H := by
 obtain ⟨T', h1, h2⟩ := h
 subst hT
 exact ⟨T', h1, h2, put_kept h1⟩
theorem wpOp_kept (hM : JMono E) {o : Oper} {s : St} {K : St -> Prop} (h : wpOp E N (FULL N) o s K) : wpOp E N (FULL N) o s fun s' => K s' /\ (∀ j, o.dst ≠ some j -> s'.T.G.get j = s.T.G.get j) /\ s'.T.L = s.T.L := by
 unfold wpOp at h ⊢
 split at h
 ·
  exact oP_mono h fun _ h => KPut_kept h rfl
 ·
  exact oP_mono h fun _ h => KPut_kept h rfl
 ·
  exact oP_mono h fun _ h => KPut_kept h rfl
 ·
  exact wpEff_mono hM h fun _ _ h => KPut_kept h rfl
theorem dst_kept {o : Oper} {l : List Oper} {G G' : TL} (h : ∀ j, o.dst ≠ some j -> G'.get j = G.get j) : Kept (dstL (o :: l)) G G' := by
 intro j hj
 refine h j fun hd => ?_
 have : dstL (o :: l) = j :: dstL l := by show (match o.dst with | some d => d :: dstL l | none => dstL l) = _; rw [hd]
 rw [this] at hj
 have := (hasN_mem (l := j :: dstL l)).2 List.mem_cons_self
 rw [this] at hj; cases hj
theorem tail_kept {o : Oper} {l : List Oper} {G G' : TL} (h : Kept (dstL l) G G') : Kept (dstL (o :: l)) G G' := by
 refine h.mono fun j hj => ?_
 have : dstL (o :: l) = (match o.dst with | some d => d :: dstL l | none => dstL l) := rfl
 rw [this] at hj
 cases hd : o.dst with
 | none => rw [hd] at hj; exact hj
 | some d =>
  rw [hd] at hj
  rw [Bool.eq_false_iff] at hj ⊢
  exact fun hm => hj (hasN_mem.2 (List.mem_cons_of_mem _ (hasN_mem.1 hm)))
theorem wpOps_kept (hM : JMono E) {all : List Oper} {K : St -> Prop} : ∀ {l : List Oper} {s : St}, wpOps E N (FULL N) all l s K -> wpOps E N (FULL N) all l s (KK (dstL l) s K) := by
 intro l
 induction l with
 | nil => intro s h; exact ⟨h, Kept.refl _ _, rfl⟩
 | cons o l ih =>
  intro s h
  have step : ∀ s' : St, (wpOps E N (FULL N) all l s' K /\ (∀ j, o.dst ≠ some j -> s'.T.G.get j = s.T.G.get j) /\ s'.T.L = s.T.L) -> wpOps E N (FULL N) all l s' (KK (dstL (o :: l)) s K) := by
   rintro s' ⟨h1, h2, h3⟩
   refine wpOps_mono hM (fun t ht => ?_) (ih h1)
   exact ⟨ht.1, (dst_kept h2).trans (tail_kept ht.2.1), ht.2.2.trans h3⟩
  unfold wpOps at h ⊢
  split at h
  ·
   exact wpOp_mono hM (wpOp_kept hM h) step
  ·
   obtain ⟨b, hb, h⟩ := h
   refine ⟨b, hb, ?_⟩
   cases b with
   | true => exact wpOp_mono hM (wpOp_kept hM (show wpOp E N (FULL N) o s _ from h)) step
   | false => exact KPut_mono (KPut_kept (show KPut N (FULL N) s.T o.dst (fun s' => wpOps E N (FULL N) all l s' K) .undef s.H from h) (s0 := s) rfl) step
theorem lastS_snoc (l : List St) (x d : St) : lastS (l ++ [x]) d = x := by
 induction l generalizing d with
 | nil => rfl
 | cons y l ih => exact ih y
theorem wpTr2_mono {M : Nat} (hM : JMono E) {all : List Oper} : ∀ {l : List Oper} {s : St} {acc : List St} {K K' : List St -> Prop}, (∀ t, K t -> K' t) -> wpTr2 E N M all l s acc K -> wpTr2 E N M all l s acc K' := by
 intro l
 induction l with
 | nil => intro s acc K K' k h; exact k _ h
 | cons o l ih =>
  intro s acc K K' k h
  refine oP_mono h fun b h => ?_
  cases b with
  | false => exact KPut_mono (show KPut N M s.T o.dst (fun s' => wpTr2 E N M all l s' (s :: acc) K) .undef s.H from h) fun s h => ih k h
  | true => exact wpOp_mono hM (show wpOp E N M o s (fun s' => wpTr2 E N M all l s' (s :: acc) K) from h) fun s h => ih k h
theorem endLoop_T {T : Tm} {H : Hp} {l : Nat} {r : Ex × St} (h : endLoopA T H l = some r) : r.2.T = T := by
 obtain ⟨x, hx, h⟩ := obind_some h
 cases x with
 | cells => cases h
 | dead => cases h
 | loop f T0 n m ps a b st pend =>
  cases st <;> cases pend <;> first
   | (cases h; done)
   | (cases h; rfl)
   | (rename_i c; obtain ⟨e, _, rfl⟩ := omap_some (show (exOf c).omap (fun e => (e, (⟨T, setBlk H l .dead⟩ : St))) = some r from h); rfl)
theorem wpTr2_kept (hM : JMono E) {all : List Oper} {K : List St -> Prop} {s0 : St} : ∀ {l : List Oper} {s : St} {acc : List St} {D : List Nat}, Kept D s0.T.G s.T.G -> s.T.L = s0.T.L -> (∀ j, hasN j (D ++ dstL l) = false -> hasN j D = false /\ hasN j (dstL l) = false) -> wpTr2 E N (FULL N) all l s acc K ->
 wpTr2 E N (FULL N) all l s acc fun tr => K tr /\ KK (D ++ dstL l) s0 (fun _ => True) (lastS tr s0) := by
 intro l
 induction l with
 | nil =>
  intro s acc D hk hL hD h
  refine ⟨h, ?_⟩
  rw [lastS_snoc]
  exact ⟨trivial, hk.mono fun j hj => (hD j hj).1, hL⟩
 | cons o l ih =>
  intro s acc D hk hL hD h
  obtain ⟨b, hb, h⟩ := h
  refine ⟨b, hb, ?_⟩
  have step : ∀ s' : St, (wpTr2 E N (FULL N) all l s' (s :: acc) K /\ (∀ j, o.dst ≠ some j -> s'.T.G.get j = s.T.G.get j) /\ s'.T.L = s.T.L) -> wpTr2 E N (FULL N) all l s' (s :: acc) fun tr => K tr /\ KK (D ++ dstL (o :: l)) s0 (fun _ => True) (lastS tr s0) := by
   rintro s' ⟨h1, h2, h3⟩
   have sub1 : ∀ j, hasN j (D ++ dstL (o :: l)) = false -> hasN j D = false /\ hasN j (dstL (o :: l)) = false := by
    intro j hj; rw [hasN_app, Bool.or_eq_false_iff] at hj; exact hj
   refine wpTr2_mono hM (fun t ht => ⟨ht.1, ht.2.1, ?_, ht.2.2.2⟩) (ih (D := D ++ dstL (o :: l)) ((hk.mono fun j hj => (sub1 j hj).1).trans ((dst_kept (l := l) h2).mono fun j hj => (sub1 j hj).2)) (h3.trans hL) (fun j hj => by rw [hasN_app, Bool.or_eq_false_iff] at hj; exact hj) h1)
   intro j hj
   refine ht.2.2.1 j ?_
   rw [hasN_app, Bool.or_eq_false_iff]
   refine ⟨hj, ?_⟩
   have := (sub1 j hj).2
   rw [Bool.eq_false_iff] at this ⊢
   intro hm
   refine this (hasN_mem.2 ?_)
   have hm := hasN_mem.1 hm
   show j ∈ (match o.dst with | some d => d :: dstL l | none => dstL l)
   cases o.dst with
   | none => exact hm
   | some d => exact List.mem_cons_of_mem _ hm
  cases b with
  | true => exact wpOp_mono hM (wpOp_kept hM (show wpOp E N (FULL N) o s _ from h)) step
  | false => exact KPut_mono (KPut_kept (show KPut N (FULL N) s.T o.dst (fun s' => wpTr2 E N (FULL N) all l s' (s :: acc) K) .undef s.H from h) (s0 := s) rfl) step
end
theorem wpC_kept {E1 : Env} {fid : FuncId} {N : Nat} (c : Code) : ∀ {G : TL} {H : Hp} {K : Ex -> St -> Prop}, wpC (env2 E1) fid N (FULL N) c ⟨⟨.nil, G⟩, H⟩ K -> wpC (env2 E1) fid N (FULL N) c ⟨⟨.nil, G⟩, H⟩ fun e s => K e s /\ Kept (dsts c) G s.T.G /\ s.T.L = .nil := by
 have hM := jmono_2 E1
 induction c with
 | skip => intro G H K h; exact ⟨h, Kept.refl _ _, rfl⟩
 | region id ops draw =>
  intro G H K h
  cases draw with
  | false => exact wpOps_mono hM (fun s k => ⟨k.1, k.2.1, k.2.2⟩) (wpOps_kept hM (K := KNorm K) h)
  | true =>
   obtain ⟨hS, h⟩ := (show okS (env2 E1) ops.toList = true /\ draw2 (env2 E1) N (FULL N) ops.toList ⟨⟨.nil, G⟩, H⟩ (KNorm K) (loose (env2 E1) ops.toList) from h)
   refine (show okS (env2 E1) ops.toList = true /\ draw2 (env2 E1) N (FULL N) ops.toList ⟨⟨.nil, G⟩, H⟩ (KNorm _) (loose (env2 E1) ops.toList) from ⟨hS, ?_⟩)
   cases hl : loose (env2 E1) ops.toList with
   | nil => rw [hl] at h; exact wpOps_mono hM (fun s k => ⟨k.1, k.2.1, k.2.2⟩) (wpOps_kept hM (K := KNorm K) h)
   | cons p l =>
    rw [hl] at h
    have := wpTr2_kept (s0 := ⟨⟨.nil, G⟩, H⟩) (D := []) hM (Kept.refl _ _) rfl (fun j hj => ⟨rfl, hj⟩) (show wpTr2 (env2 E1) N (FULL N) ops.toList ops.toList ⟨⟨.nil, G⟩, H⟩ [] (fun tr => looseAll (env2 E1) (FULL N) ops.toList tr (p :: l) /\ KNorm K (lastS tr ⟨⟨.nil, G⟩, H⟩)) from h)
    exact wpTr2_mono hM (fun t ht => ⟨ht.1.1, ht.1.2, ht.2.2.1, ht.2.2.2⟩) this
 | seq a b ia ib =>
  intro G H K h
  refine wpC_mono hM a (ia (K := KSeq (wpC (env2 E1) fid N (FULL N) b) K) h) ?_
  rintro e ⟨⟨L, G'⟩, H'⟩ ⟨h1, h2, h3⟩
  obtain rfl : L = .nil := h3
  have e1 : Kept (dsts (.seq a b)) G G' := h2.mono fun j hj => by
   have : hasN j (dsts a ++ dsts b) = false := hj
   rw [hasN_app, Bool.or_eq_false_iff] at this; exact this.1
  cases e with
  | normal =>
   refine wpC_mono hM b (ib h1) fun e s k => ⟨k.1, e1.trans (k.2.1.mono fun j hj => ?_), k.2.2⟩
   have : hasN j (dsts a ++ dsts b) = false := hj
   rw [hasN_app, Bool.or_eq_false_iff] at this; exact this.2
  | exit i => exact ⟨h1, e1, rfl⟩
  | ret => exact ⟨h1, e1, rfl⟩
 | cond c a b ia ib =>
  intro G H K h
  refine oP_mono h fun v h => oP_mono h fun t h => ?_
  have sa : ∀ j, hasN j (dsts (.cond c a b)) = false -> hasN j (dsts a) = false /\ hasN j (dsts b) = false := by
   intro j hj
   have : hasN j (dsts a ++ dsts b) = false := hj
   rw [hasN_app, Bool.or_eq_false_iff] at this; exact this
  cases t with
  | true => exact wpC_mono hM a (ia h) fun e s k => ⟨k.1, k.2.1.mono fun j hj => (sa j hj).1, k.2.2⟩
  | false => exact wpC_mono hM b (ib h) fun e s k => ⟨k.1, k.2.1.mono fun j hj => (sa j hj).2, k.2.2⟩
 | block id b ib =>
  intro G H K h
  refine wpC_mono hM b (ib (K := KBlk id K) h) fun e s k => ?_
  have e1 : (leaveBlk id e s).2 = s := by
   cases e with
   | normal => rfl
   | ret => rfl
   | exit i => show (bc (Nat.beq i id) (Ex.normal, s) (.exit i, s)).2 = s; cases Nat.beq i id <;> rfl
  exact ⟨k.1, by rw [e1]; exact k.2.1, by rw [e1]; exact k.2.2⟩
 | loop b ib =>
  intro G H K h
  obtain ⟨I, m, h0, hI⟩ := h
  refine ⟨fun n s => I n s /\ Kept (dsts b) G s.T.G /\ s.T.L = .nil, m, ⟨h0, Kept.refl _ _, rfl⟩, ?_⟩
  rintro n ⟨⟨L, G'⟩, H'⟩ ⟨h1, h2, h3⟩
  obtain rfl : L = .nil := h3
  refine wpC_mono hM b (ib (hI n _ h1)) ?_
  rintro e s ⟨k1, k2, k3⟩
  cases e with
  | normal => obtain ⟨m', hm, k1⟩ := k1; exact ⟨m', hm, k1, h2.trans k2, k3⟩
  | exit i => exact ⟨k1, h2.trans k2, k3⟩
  | ret => exact ⟨k1, h2.trans k2, k3⟩
 | rangeFunc f ps a b ia ib =>
  intro G H K h
  refine oP_mono h fun fv h => hM _ _ _ _ _ h fun v H' h => ?_
  obtain ⟨r, hr, hk⟩ := h
  refine ⟨r, hr, hk, ?_⟩
  have : r.2.T = ⟨.nil, G⟩ := endLoop_T hr
  rw [this]
  exact ⟨Kept.refl _ _, rfl⟩
 | exit i => intro G H K h; exact ⟨h, Kept.refl _ _, rfl⟩
 | scope b ib => intro G H K h; exact ib h
 | label l => intro G H K h; exact ⟨h, Kept.refl _ _, rfl⟩
 | goto l => intro G H K h; exact h.elim
 | ret => intro G H K h; exact ⟨h, Kept.refl _ _, rfl⟩
 | refuse why => intro G H K h; exact h.elim
def KRd (I : Nat -> TL -> Hp -> Prop) (m : Nat) (K : Ex -> St -> Prop) (e : Ex) (s : St) : Prop := match e with | .normal => ∃ m', m' < m /\ I m' s.T.G s.H | e => K e s
theorem krd_n {I : Nat -> TL -> Hp -> Prop} {m : Nat} {K : Ex -> St -> Prop} {s : St} : KRd I m K .normal s = ∃ m', m' < m /\ I m' s.T.G s.H := rfl
theorem krd_e {I : Nat -> TL -> Hp -> Prop} {m i : Nat} {K : Ex -> St -> Prop} {s : St} : KRd I m K (.exit i) s = K (.exit i) s := rfl
theorem krd_r {I : Nat -> TL -> Hp -> Prop} {m : Nat} {K : Ex -> St -> Prop} {s : St} : KRd I m K .ret s = K .ret s := rfl
def dstM (l : List Nat) : Nat := List.rec 0 (fun d _ n => Nat.lor (Nat.pow 2 d) n) l
theorem dstM_bit {j : Nat} : ∀ {l : List Nat}, Nat.testBit (dstM l) j = hasN j l
 | [] => by show Nat.testBit 0 j = false; exact Nat.zero_testBit j
 | d :: l => by
  show Nat.testBit (Nat.pow 2 d ||| dstM l) j = (match Nat.beq j d with | true => true | false => hasN j l)
  rw [Nat.testBit_or, dstM_bit, show Nat.pow 2 d = 2 ^ d from rfl, Nat.testBit_two_pow]
  cases h : Nat.beq j d with
  | true => have := Nat.eq_of_beq_eq_true h; subst this; simp
  | false =>
   have : ¬ d = j := fun e => by subst e; rw [Nat.beq_refl] at h; cases h
   simp [this]
theorem wloop2 {E1 : Env} {fid : FuncId} {N : Nat} {c : Code} {K : Ex -> St -> Prop} {G : TL} {H : Hp} (D : Nat) (hD : dstM (dsts c) = D) (I : Nat -> TL -> Hp -> Prop) (m : Nat) (h0 : I m G H)
 (hI : ∀ m G' H', (∀ j, Nat.testBit D j = false -> G'.get j = G.get j) -> I m G' H' -> wpC (env2 E1) fid N (FULL N) c ⟨⟨.nil, G'⟩, H'⟩ (KRd I m K)) : wpLoop (wpC (env2 E1) fid N (FULL N) c) ⟨⟨.nil, G⟩, H⟩ K := by
 subst hD
 refine ⟨fun n s => s.T.L = .nil /\ Kept (dsts c) G s.T.G /\ I n s.T.G s.H, m, ⟨rfl, Kept.refl _ _, h0⟩, ?_⟩
 rintro n ⟨⟨L, G'⟩, H'⟩ ⟨hL, hk, hI'⟩
 obtain rfl : L = .nil := hL
 refine wpC_mono (jmono_2 E1) c (wpC_kept c (hI n G' H' (fun j hj => hk j (by rw [dstM_bit] at hj; exact hj)) hI')) ?_
 rintro e s ⟨h1, h2, h3⟩
 cases e with
 | normal => obtain ⟨m', hm, h1⟩ := h1; exact ⟨m', hm, h3, hk.trans h2, h1⟩
 | exit i => exact h1
 | ret => exact h1
/-! Branches. -/
theorem kguard_d {E : Env} {N M : Nat} {o : Oper} {s : St} {K : St -> Prop} {p : Prop} [Decidable p] : KGuard E N M o s K (decide p) = ((p -> wpOp E N M o s K) /\ (¬ p -> KPut N M s.T o.dst K .undef s.H)) := by
 by_cases h : p
 ·
  rw [decide_eq_true h]; exact propext ⟨fun k => ⟨fun _ => k, fun n => absurd h n⟩, fun k => k.1 h⟩
 ·
  rw [decide_eq_false h]; exact propext ⟨fun k => ⟨fun n => absurd n h, fun _ => k⟩, fun k => k.2 h⟩
theorem kif_d {wa wb : WC} {s : St} {K : Ex -> St -> Prop} {p : Prop} [Decidable p] : KIf wa wb s K (decide p) = ((p -> wa s K) /\ (¬ p -> wb s K)) := by
 by_cases h : p
 ·
  rw [decide_eq_true h]; exact propext ⟨fun k => ⟨fun _ => k, fun n => absurd h n⟩, fun k => k.1 h⟩
 ·
  rw [decide_eq_false h]; exact propext ⟨fun k => ⟨fun n => absurd n h, fun _ => k⟩, fun k => k.2 h⟩
attribute [go_sem] krd_n krd_e krd_r
end
end Go.Ev
namespace Go.Ev
noncomputable section
section
variable {E : Env} {N M : Nat} {d : Option Tmp} {t : TypeId} {p : String} {a : Array Edge} {g : Option (Nat × Bool)} {s : St} {K : St -> Prop}
/-! Rules for operations whose types are known. -/
theorem copyArgs_def {H : Hp} {t t2 e : TypeId} {u x : AV} (h : kindOf E t = .slice e) : bltEff .copy E H [u, x] [t, t2] = (srcCells E H e x).obind fun p => copyTo E H e u p := by
 show copyArgs E H t u x = _
 unfold copyArgs
 rw [h]
def clearTo (E : Env) (H : Hp) (e : TypeId) (d : AV) : Option (AV × Hp) := (zeroT E e).obind fun z => oe (asSlice d) (bc (isNils d) (some (.undef, H)) none)
 fun q => bc (Nat.beq q.2.2.1 0) (some (.undef, H)) ((putCells H q.1 q.2.1 (repL q.2.2.1 z.cells)).omap fun H => (.undef, H))
theorem clearArgs_def {H : Hp} {t e : TypeId} {u : AV} (h : kindOf E t = .slice e) : bltEff .clear E H [u] [t] = clearTo E H e u := by
 show clearArgs E H t u = _
 unfold clearArgs
 rw [h]; rfl
theorem w_conv_bs {sr ds e : TypeId} {x : Operand} (h : kindOf E sr = .slice e) (hb : isByteK (kindOf E e) = true) (h' : kindOf E ds = .string) : wpOp E N M ⟨d, .convert sr ds x, t, p, a, g⟩ s K = oP ((evO M x s.T).obind (strOf s.H)) (KPutV N M s.T d s.H K) := by
 have hc : cls (.convert sr ds x) E = .read := by unfold cls; simp only [h]
 unfold wpOp; simp only [hc]; unfold evRead evReadC; simp only [h, hb, h']
theorem w_conv_own {sr e : TypeId} {x : Operand} (h : kindOf E sr = .slice e) (hb : isByteK (kindOf E e) = true) : wpOp E N M ⟨d, .convert sr sr x, t, p, a, g⟩ s K = oP ((evO M x s.T).obind (ownSlice e s.H)) (KPutV N M s.T d s.H K) := by
 have hc : cls (.convert sr sr x) E = .read := by unfold cls; simp only [h]
 unfold wpOp; simp only [hc]; unfold evRead evReadC; simp only [h, hb, Nat.beq_refl]
def strBytes (e : TypeId) (v : AV) : Option (Blk × (Nat -> AV)) := match v with
 | .str l => some (.cells (l.map fun c => .int .u8 (.ofNat c.toNat)) e false true, fun b => .slice b 0 l.length (.rest 0 1 l.length))
 | _ => none
theorem strBytes_s {e : TypeId} {l : List UInt8} : strBytes e (.str l) = some (.cells (l.map fun c => .int .u8 (.ofNat c.toNat)) e false true, fun b => .slice b 0 l.length (.rest 0 1 l.length)) := rfl
/-! Slices of our own that grow. -/
variable {H H' : Hp} {base e sz n m : Nat} {v : AV} {cs new : List AV}
def apH (E : Env) (H : Hp) (e : TypeId) (v : AV) (m : Nat) (new : List AV) : Hp := ((evAppend E H e v m new).map (·.2)).getD H
theorem Own.app (h : Own H base e sz v n cs) (hsz : sizeT E e = sz) (hpos : 0 < sz) (hg : grows E e = true) (hn : n + m ≤ 1048576) (hbase : base ≤ H.next) (hm : 0 < m) (hl : new.length = m * sz) (hf : flatL new = true) :
 evAppend E H e v m new = some (.slice H.next 0 (n + m) (.rest 0 sz (n + m)), apH E H e v m new) := by
 obtain ⟨H', h1, _⟩ := h.append hsz hpos hm hl hf (growOk_grows hg hn) hbase
 unfold apH
 rw [h1]; rfl
theorem Own.app_own (h : Own H base e sz v n cs) (hsz : sizeT E e = sz) (hpos : 0 < sz) (hg : grows E e = true) (hn : n + m ≤ 1048576) (hbase : base ≤ H.next) (hm : 0 < m) (hl : new.length = m * sz) (hf : flatL new = true) :
 Own (apH E H e v m new) base e sz (.slice H.next 0 (n + m) (.rest 0 sz (n + m))) (n + m) (cs ++ new) /\ Frb base H (apH E H e v m new) := by
 obtain ⟨H', h1, h2, h3, _⟩ := h.append hsz hpos hm hl hf (growOk_grows hg hn) hbase
 unfold apH
 rw [h1]; exact ⟨h2, h3⟩
end
attribute [go_sem] strBytes_s kif_d kguard_d Nat.add_zero Nat.zero_add
end
end Go.Ev
namespace Go.Ev
noncomputable section
/-! A slice that a function makes, element by element. -/
structure Acc (E : Env) (H0 H : Hp) (e sz : Nat) (v : AV) (l : List AV) : Prop where
 fr : Fr H0 H
 own : Own H H0.next e sz v l.length (catL l)
 el : ∀ x ∈ l, x.cells.length = sz
 hsz : sizeT E e = sz
 hpos : 0 < sz
 hg : grows E e = true
theorem catL_app (l r : List AV) : catL (l ++ r) = catL l ++ catL r := by rw [catL_eq, catL_eq, catL_eq, List.flatMap_append]
theorem catL_one (x : AV) : catL [x] = x.cells := by rw [catL_eq]; simp
theorem catL_set {sz : Nat} : ∀ {l : List AV} {i o : Nat} {x y : AV}, (∀ z ∈ l, z.cells.length = sz) -> (hi : i < l.length) -> o < sz -> y.cells = l[i].cells.set o x -> (catL l).set (i * sz + o) x = catL (l.set i y)
 | z :: l, 0, o, x, y, h, hi, ho, hy => by
  have hz := h z (by simp)
  have hy : y.cells = z.cells.set o x := hy
  show (appL z.cells (catL l)).set (0 * sz + o) x = appL y.cells (catL l)
  rw [appL_eq, appL_eq, hy, Nat.zero_mul, Nat.zero_add, List.set_append_left _ _ (by omega)]
 | z :: l, i + 1, o, x, y, h, hi, ho, hy => by
  have hz := h z (by simp)
  show (appL z.cells (catL l)).set ((i + 1) * sz + o) x = appL z.cells (catL (l.set i y))
  rw [appL_eq, appL_eq, List.set_append_right _ _ (by rw [hz, Nat.add_mul]; omega), hz]
  congr 1
  rw [<- catL_set (sz := sz) (fun w hw => h w (by simp [hw])) (by simpa using hi) ho (by simpa using hy)]
  congr 1
  rw [Nat.add_mul]; omega
def puH (E : Env) (H : Hp) (e : TypeId) (v : AV) (new : List AV) : Hp := apH E (newBlk H (.cells new e true true)).2 e v 1 new
def stH (H : Hp) (v : AV) (i : Nat) (x : AV) : Hp := (putCells H (sB v) (sO v + i) [x]).getD H
section
variable {E : Env} {H0 H : Hp} {e sz : Nat} {v : AV} {l : List AV}
theorem Acc.nil (h1 : sizeT E e = sz) (h2 : 0 < sz) (h3 : grows E e = true) : Acc E H0 H0 e sz .nils [] := ⟨Fr.refl _, Own.nil, by simp, h1, h2, h3⟩
theorem Acc.nil' (hf : Fr H0 H) (h1 : sizeT E e = sz) (h2 : 0 < sz) (h3 : grows E e = true) : Acc E H0 H e sz .nils [] := ⟨hf, Own.nil, by simp, h1, h2, h3⟩
theorem Acc.keep (h : Acc E H0 H e sz v l) {H' : Hp} (hf : Fr H H') : Acc E H0 H' e sz v l := ⟨h.fr.trans hf, h.own.keep hf, h.el, h.hsz, h.hpos, h.hg⟩
theorem Acc.push (h : Acc E H0 H e sz v l) (hn : l.length < 1048576) : ∀ new : List AV, new.length = sz -> flatL new = true -> evAppend E (newBlk H (.cells new e true true)).2 e v 1 new = some (.slice (H.next + 1) 0 (l.length + 1) (.rest 0 sz (l.length + 1)), puH E H e v new) := fun new hl hf =>
 (h.own.keep (Fr.alloc H _)).app h.hsz h.hpos h.hg hn (Nat.le_succ_of_le h.fr.nx) (by decide) (by rw [hl, Nat.one_mul]) hf
theorem Acc.pushed (h : Acc E H0 H e sz v l) (hn : l.length < 1048576) {new : List AV} (x : AV) (hx : x.cells = new) (hl : new.length = sz) (hf : flatL new = true) : Acc E H0 (puH E H e v new) e sz (.slice (H.next + 1) 0 (l.length + 1) (.rest 0 sz (l.length + 1))) (l ++ [x]) := by
 obtain ⟨h1, h2⟩ := (h.own.keep (Fr.alloc H (.cells new e true true))).app_own h.hsz h.hpos h.hg hn (Nat.le_succ_of_le h.fr.nx) (m := 1) (by decide) (by rw [hl, Nat.one_mul]) hf
 refine ⟨(h.fr.newT _).frb h2, ?_, fun y hy => ?_, h.hsz, h.hpos, h.hg⟩
 ·
  rw [catL_app, catL_one, hx, List.length_append]; exact h1
 ·
  rcases List.mem_append.1 hy with hy | hy
  ·
   exact h.el y hy
  ·
   rw [List.mem_singleton] at hy; subst hy; rw [hx]; exact hl
theorem Acc.many (h : Acc E H0 H e sz v l) {m : Nat} (hn : l.length + m ≤ 1048576) (hm : 0 < m) : ∀ new : List AV, new.length = m * sz -> flatL new = true -> evAppend E H e v m new = some (.slice H.next 0 (l.length + m) (.rest 0 sz (l.length + m)), apH E H e v m new) := fun _ hl hf =>
 h.own.app h.hsz h.hpos h.hg hn h.fr.nx hm hl hf
theorem Acc.manyed (h : Acc E H0 H e sz v l) {m : Nat} (hn : l.length + m ≤ 1048576) (hm : 0 < m) {new : List AV} (r : List AV) (hr : catL r = new) (hrl : r.length = m) (hre : ∀ x ∈ r, x.cells.length = sz) (hf : flatL new = true) : Acc E H0 (apH E H e v m new) e sz (.slice H.next 0 (l.length + m) (.rest 0 sz (l.length + m))) (l ++ r) := by
 have hl : new.length = m * sz := by rw [<- hr, (cat_seg hre).1, hrl]
 obtain ⟨h1, h2⟩ := h.own.app_own h.hsz h.hpos h.hg hn h.fr.nx hm hl hf
 refine ⟨h.fr.frb h2, ?_, fun y hy => ?_, h.hsz, h.hpos, h.hg⟩
 ·
  rw [catL_app, hr, List.length_append, hrl]; exact h1
 ·
  rcases List.mem_append.1 hy with hy | hy
  ·
   exact h.el y hy
  ·
   exact hre y hy
theorem Acc.manyB (h : Acc E H0 H e sz v l) (hb : growsB E e = true) {m : Nat} (hn : l.length + m ≤ 140737488351232) (hm : 0 < m) : ∀ new : List AV, new.length = m * sz -> flatL new = true -> evAppend E H e v m new = some (.slice H.next 0 (l.length + m) (.rest 0 sz (l.length + m)), apH E H e v m new) := fun new hl hf => by
 obtain ⟨H', h1, _⟩ := h.own.append h.hsz h.hpos hm hl hf (growOk_b hb hn) h.fr.nx
 unfold apH
 rw [h1]; rfl
theorem Acc.manyedB (h : Acc E H0 H e sz v l) (hb : growsB E e = true) {m : Nat} (hn : l.length + m ≤ 140737488351232) (hm : 0 < m) {new : List AV} (r : List AV) (hr : catL r = new) (hrl : r.length = m) (hre : ∀ x ∈ r, x.cells.length = sz) (hf : flatL new = true) : Acc E H0 (apH E H e v m new) e sz (.slice H.next 0 (l.length + m) (.rest 0 sz (l.length + m))) (l ++ r) := by
 have hl : new.length = m * sz := by rw [<- hr, (cat_seg hre).1, hrl]
 have h12 : Own (apH E H e v m new) H0.next e sz (.slice H.next 0 (l.length + m) (.rest 0 sz (l.length + m))) (l.length + m) (catL l ++ new) /\ Frb H0.next H (apH E H e v m new) := by
  obtain ⟨H', h1, h2, h3, _⟩ := h.own.append h.hsz h.hpos hm hl hf (growOk_b hb hn) h.fr.nx
  unfold apH
  rw [h1]; exact ⟨h2, h3⟩
 obtain ⟨h1, h2⟩ := h12
 refine ⟨h.fr.frb h2, ?_, fun y hy => ?_, h.hsz, h.hpos, h.hg⟩
 ·
  rw [catL_app, hr, List.length_append, hrl]; exact h1
 ·
  rcases List.mem_append.1 hy with hy | hy
  ·
   exact h.el y hy
  ·
   exact hre y hy
theorem Acc.len (h : Acc E H0 H e sz v l) {ty : TypeId} : lenAV (.slice ty) E v = some (.int .i64 (l.length : Int)) := h.own.isSl.len
theorem Acc.idx (h : Acc E H0 H e sz v l) {ty : TypeId} {i : Nat} (hi : i < l.length) : idxAddr (.slice ty) E v i = some (.ptr (sB v) (sO v + i * sizeT E ty)) := h.own.isSl.idx hi
theorem Acc.cells (h : Acc E H0 H e sz v l) {i : Nat} (hi : i < l.length) : cellsAt H (sB v) (sO v + i * sz) sz = some l[i].cells := by
 have h1 := h.own.cells (i := i * sz) (k := sz) (by rw [<- Nat.succ_mul]; exact Nat.mul_le_mul_right _ hi) (by omega)
 rw [h1, ((cat_seg h.el).2 i).1, List.drop_eq_getElem_cons hi]
 congr 1
 show (appL l[i].cells _).take sz = _
 rw [appL_eq, List.take_append_of_le_length (by rw [h.el _ (List.getElem_mem hi)]; exact Nat.le_refl _), List.take_of_length_le (by rw [h.el _ (List.getElem_mem hi)]; exact Nat.le_refl _)]
theorem Acc.cell (h : Acc E H0 H e sz v l) {i o : Nat} (hi : i < l.length) (ho : o < sz) : cellAt H (sB v) (sO v + i * sz + o) = l[i].cells[o]? := cellsAt_cell (h.cells hi) ho
theorem Acc.put (h : Acc E H0 H e sz v l) {i o : Nat} (hi : i < l.length) (ho : o < sz) {x : AV} (hx : oneC x = true) : putCells H (sB v) (sO v + i * sz + o) [x] = some (stH H v (i * sz + o) x) := by
 have hb : i * sz + o < l.length * sz := Nat.lt_of_lt_of_le (Nat.add_lt_add_left ho _) (by rw [<- Nat.succ_mul]; exact Nat.mul_le_mul_right _ hi)
 obtain ⟨H', h1, _⟩ := h.own.put hb hx
 unfold stH
 rw [h1, Nat.add_assoc, h1]; rfl
theorem Acc.putted (h : Acc E H0 H e sz v l) {i o : Nat} (hi : i < l.length) (ho : o < sz) {x : AV} (hx : oneC x = true) (y : AV) (hy : y.cells = l[i].cells.set o x) : Acc E H0 (stH H v (i * sz + o) x) e sz v (l.set i y) := by
 have hb : i * sz + o < l.length * sz := Nat.lt_of_lt_of_le (Nat.add_lt_add_left ho _) (by rw [<- Nat.succ_mul]; exact Nat.mul_le_mul_right _ hi)
 obtain ⟨H', h1, h2, h3, _⟩ := h.own.put hb hx
 have e1 : stH H v (i * sz + o) x = H' := by unfold stH; rw [h1]; rfl
 rw [e1]
 refine ⟨h.fr.frb h3, ?_, fun z hz => ?_, h.hsz, h.hpos, h.hg⟩
 ·
  rw [List.length_set, <- catL_set h.el hi ho hy]; exact h2
 ·
  rcases List.mem_or_eq_of_mem_set hz with hz | rfl
  ·
   exact h.el z hz
  ·
   rw [hy, List.length_set]; exact h.el _ (List.getElem_mem hi)
theorem Acc.out {K : AV -> Hp -> Prop} (h : Acc E H0 H e sz v l) (hwf : WF H0) {l' : List AV} (hfz : FZL H0 H l' l) (hk : K (.lst sz l') H0) : XO H0 K v H :=
 .inr (.inl ⟨h.fr, _, h.own.fz h.hpos hwf rfl rfl h.el hfz, hk⟩)
end
def scalB (v : AV) : Bool := match v with | .bool _ | .int .. | .str _ | .nilp | .nilf | .nili => true | _ => false
def plainV (v : AV) : Bool := match v with | .agg l => l.all scalB | v => scalB v
theorem FZ.scal {H0 H : Hp} {v : AV} (h : scalB v = true) : FZ H0 H v v := by
 cases v <;> first | (cases h; done) | (unfold FZ; simp only [VR]; done)
theorem FZ.plain {H0 H : Hp} {v : AV} (h : plainV v = true) : FZ H0 H v v := by
 cases v with
 | agg l =>
  have h := show l.all scalB = true from h
  have := FZL.map (H0 := H0) (H := H) (f := id) (g := id) (l := l) fun x hx => FZ.scal (List.all_eq_true.1 h x hx)
  exact FZ.agg (by simpa using this)
 | bool b => exact FZ.scal rfl
 | int k n => exact FZ.scal rfl
 | str s => exact FZ.scal rfl
 | nilp => exact FZ.scal rfl
 | nilf => exact FZ.scal rfl
 | nili => exact FZ.scal rfl
 | _ => cases h
theorem plain_map {α : Type} {f : α -> AV} {l : List α} (h : ∀ a, plainV (f a) = true) : ∀ x ∈ l.map f, plainV x = true := by
 intro x hx
 obtain ⟨a, _, rfl⟩ := List.mem_map.1 hx
 exact h a
theorem FZL.plain {H0 H : Hp} {l : List AV} (h : ∀ x ∈ l, plainV x = true) : FZL H0 H l l := by
 have := FZL.map (H0 := H0) (H := H) (f := id) (g := id) (l := l) fun x hx => FZ.plain (h x hx)
 simpa using this
theorem Acc.out_plain {E : Env} {H0 H : Hp} {e sz : Nat} {v : AV} {l : List AV} {K : AV -> Hp -> Prop} (h : Acc E H0 H e sz v l) (hwf : WF H0) (hp : ∀ x ∈ l, plainV x = true) (hk : K (.lst sz l) H0) : XO H0 K v H := h.out hwf (FZL.plain hp) hk
theorem catL_map {α : Type} {f : α -> AV} {g : α -> List AV} (h : ∀ a, (f a).cells = g a) : ∀ l : List α, catL (l.map f) = l.flatMap g
 | [] => rfl
 | a :: l => by
  show appL (f a).cells (catL (l.map f)) = _
  rw [appL_eq, h, catL_map h l, List.flatMap_cons]
end
end Go.Ev
namespace Go.Ev
theorem natI_sub1 {i : Nat} (h : 1 ≤ i) : natI ((i : Int) - 1) = some (i - 1) := by
 rw [natI_pos (by omega)]; congr 1; omega
theorem natI_subn {i j : Nat} (h : j ≤ i) : natI ((i : Int) - (j : Int)) = some (i - j) := by
 rw [natI_pos (by omega)]; congr 1; omega
theorem natI_add1 {i : Nat} : natI ((i : Int) + 1) = some (i + 1) := rfl
theorem natI_addn {i j : Nat} : natI ((i : Int) + (j : Int)) = some (i + j) := rfl
attribute [go_sem] cellsAt_zero natI_sub1 natI_subn natI_add1 natI_addn
attribute [go_sem 100] natI_pos
end Go.Ev
namespace Go.Ev
theorem decide_t {p : Prop} [Decidable p] (h : p) : decide p = true := decide_eq_true h
theorem decide_f {p : Prop} [Decidable p] (h : ¬ p) : decide p = false := decide_eq_false h
attribute [go_sem] decide_t decide_f
end Go.Ev
namespace Go.Ev
theorem ofP {p : Prop} (h : p) : p := h
theorem ofR {b c : Bool} (h : b = c) : b = c := h
theorem ofNt {a b : Nat} (h : a = b) : a = b := h
end Go.Ev
