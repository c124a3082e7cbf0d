/-
  The evaluator is right about regions whose order is open. No conditions.
-/
import Derived.Test.YtajekleknljggaaEvD
set_option linter.unusedVariables false
set_option linter.unusedSimpArgs false
namespace Go.Ev
variable {P : Program} {E : Env}
/-! Equal for the checker, equal. -/
theorem capEq_eq {c c' : Cap} (h : capEq c c' = true) : c = c' := by
 unfold capEq at h
 cases c with
 | ex a => cases c' with
  | ex a' => rw [Nat.eq_of_beq_eq_true h]
  | _ => cases h
 | rest a b d => cases c' with
  | rest a' b' d' =>
   obtain ⟨h1, h2⟩ := and_true' h
   obtain ⟨h2, h3⟩ := and_true' h2
   rw [Nat.eq_of_beq_eq_true h1, Nat.eq_of_beq_eq_true h2, Nat.eq_of_beq_eq_true h3]
  | _ => cases h
 | tail a b d z => cases c' with
  | tail a' b' d' z' =>
   obtain ⟨h1, h2⟩ := and_true' h
   obtain ⟨h2, h3⟩ := and_true' h2
   obtain ⟨h3, h4⟩ := and_true' h3
   rw [boolEq_eq, beq_iff_eq] at h4
   rw [Nat.eq_of_beq_eq_true h1, Nat.eq_of_beq_eq_true h2, Nat.eq_of_beq_eq_true h3, h4]
  | _ => cases h
mutual
theorem avEq_eq : ∀ (a b : AV), avEq a b = true -> a = b
 | .bool a, .bool b, h => by simp only [avEq, boolEq_eq, beq_iff_eq] at h; rw [h]
 | .int k a, .int k' b, h => by
  simp only [avEq] at h
  obtain ⟨h1, h2⟩ := and_true' h
  rw [ieq_eq, beq_iff_eq] at h2
  rw [kindEq_eq.1 h1, h2]
 | .str a, .str b, h => by simp only [avEq, strEq_eq, beq_iff_eq] at h; rw [h]
 | .nilp, .nilp, _ => rfl
 | .nils, .nils, _ => rfl
 | .nilf, .nilf, _ => rfl
 | .nili, .nili, _ => rfl
 | .ptr b o, .ptr b' o', h => by
  simp only [avEq] at h
  obtain ⟨h1, h2⟩ := and_true' h
  rw [Nat.eq_of_beq_eq_true h1, Nat.eq_of_beq_eq_true h2]
 | .slice b o n c, .slice b' o' n' c', h => by
  simp only [avEq] at h
  obtain ⟨h1, h2⟩ := and_true' h
  obtain ⟨h2, h3⟩ := and_true' h2
  obtain ⟨h3, h4⟩ := and_true' h3
  rw [Nat.eq_of_beq_eq_true h1, Nat.eq_of_beq_eq_true h2, Nat.eq_of_beq_eq_true h3, capEq_eq h4]
 | .func f a c, .func f' a' c', h => by
  simp only [avEq] at h
  obtain ⟨h1, h2⟩ := and_true' h
  obtain ⟨h2, h3⟩ := and_true' h2
  rw [Nat.eq_of_beq_eq_true h1, avEqL_eq a a' h2, avEqL_eq c c' h3]
 | .yield l, .yield l', h => by simp only [avEq] at h; rw [Nat.eq_of_beq_eq_true h]
 | .iface t v, .iface t' v', h => by
  simp only [avEq] at h
  obtain ⟨h1, h2⟩ := and_true' h
  rw [Nat.eq_of_beq_eq_true h1, avEq_eq v v' h2]
 | .agg l, .agg l', h => by simp only [avEq] at h; rw [avEqL_eq l l' h]
 | .tuple l, .tuple l', h => by simp only [avEq] at h; rw [avEqL_eq l l' h]
 | .lst n l, .lst n' l', h => by
  simp only [avEq] at h
  obtain ⟨h1, h2⟩ := and_true' h
  rw [Nat.eq_of_beq_eq_true h1, avEqL_eq l l' h2]
 | .ept l o, .ept l' o', h => by
  simp only [avEq] at h
  obtain ⟨h1, h2⟩ := and_true' h
  rw [avEqL_eq l l' h1, Nat.eq_of_beq_eq_true h2]
 | .esl a, .esl b, h => by simp only [avEq, decide_eq_true_eq] at h; rw [h]
 | .bool _, .int .., h | .bool _, .str _, h | .bool _, .nilp, h | .bool _, .ptr .., h | .bool _, .nils, h | .bool _, .slice .., h | .bool _, .func .., h | .bool _, .yield _, h | .bool _, .nilf, h | .bool _, .iface .., h | .bool _, .nili, h | .bool _, .agg _, h | .bool _, .tuple _, h => by simp [avEq] at h
 | .int .., .bool _, h | .int .., .str _, h | .int .., .nilp, h | .int .., .ptr .., h | .int .., .nils, h | .int .., .slice .., h | .int .., .func .., h | .int .., .yield _, h | .int .., .nilf, h | .int .., .iface .., h | .int .., .nili, h | .int .., .agg _, h | .int .., .tuple _, h => by simp [avEq] at h
 | .str _, .bool _, h | .str _, .int .., h | .str _, .nilp, h | .str _, .ptr .., h | .str _, .nils, h | .str _, .slice .., h | .str _, .func .., h | .str _, .yield _, h | .str _, .nilf, h | .str _, .iface .., h | .str _, .nili, h | .str _, .agg _, h | .str _, .tuple _, h => by simp [avEq] at h
 | .nilp, .bool _, h | .nilp, .int .., h | .nilp, .str _, h | .nilp, .ptr .., h | .nilp, .nils, h | .nilp, .slice .., h | .nilp, .func .., h | .nilp, .yield _, h | .nilp, .nilf, h | .nilp, .iface .., h | .nilp, .nili, h | .nilp, .agg _, h | .nilp, .tuple _, h => by simp [avEq] at h
 | .ptr .., .bool _, h | .ptr .., .int .., h | .ptr .., .str _, h | .ptr .., .nilp, h | .ptr .., .nils, h | .ptr .., .slice .., h | .ptr .., .func .., h | .ptr .., .yield _, h | .ptr .., .nilf, h | .ptr .., .iface .., h | .ptr .., .nili, h | .ptr .., .agg _, h | .ptr .., .tuple _, h => by simp [avEq] at h
 | .nils, .bool _, h | .nils, .int .., h | .nils, .str _, h | .nils, .nilp, h | .nils, .ptr .., h | .nils, .slice .., h | .nils, .func .., h | .nils, .yield _, h | .nils, .nilf, h | .nils, .iface .., h | .nils, .nili, h | .nils, .agg _, h | .nils, .tuple _, h => by simp [avEq] at h
 | .slice .., .bool _, h | .slice .., .int .., h | .slice .., .str _, h | .slice .., .nilp, h | .slice .., .ptr .., h | .slice .., .nils, h | .slice .., .func .., h | .slice .., .yield _, h | .slice .., .nilf, h | .slice .., .iface .., h | .slice .., .nili, h | .slice .., .agg _, h | .slice .., .tuple _, h => by simp [avEq] at h
 | .func .., .bool _, h | .func .., .int .., h | .func .., .str _, h | .func .., .nilp, h | .func .., .ptr .., h | .func .., .nils, h | .func .., .slice .., h | .func .., .yield _, h | .func .., .nilf, h | .func .., .iface .., h | .func .., .nili, h | .func .., .agg _, h | .func .., .tuple _, h => by simp [avEq] at h
 | .yield _, .bool _, h | .yield _, .int .., h | .yield _, .str _, h | .yield _, .nilp, h | .yield _, .ptr .., h | .yield _, .nils, h | .yield _, .slice .., h | .yield _, .func .., h | .yield _, .nilf, h | .yield _, .iface .., h | .yield _, .nili, h | .yield _, .agg _, h | .yield _, .tuple _, h => by simp [avEq] at h
 | .nilf, .bool _, h | .nilf, .int .., h | .nilf, .str _, h | .nilf, .nilp, h | .nilf, .ptr .., h | .nilf, .nils, h | .nilf, .slice .., h | .nilf, .func .., h | .nilf, .yield _, h | .nilf, .iface .., h | .nilf, .nili, h | .nilf, .agg _, h | .nilf, .tuple _, h => by simp [avEq] at h
 | .iface .., .bool _, h | .iface .., .int .., h | .iface .., .str _, h | .iface .., .nilp, h | .iface .., .ptr .., h | .iface .., .nils, h | .iface .., .slice .., h | .iface .., .func .., h | .iface .., .yield _, h | .iface .., .nilf, h | .iface .., .nili, h | .iface .., .agg _, h | .iface .., .tuple _, h => by simp [avEq] at h
 | .nili, .bool _, h | .nili, .int .., h | .nili, .str _, h | .nili, .nilp, h | .nili, .ptr .., h | .nili, .nils, h | .nili, .slice .., h | .nili, .func .., h | .nili, .yield _, h | .nili, .nilf, h | .nili, .iface .., h | .nili, .agg _, h | .nili, .tuple _, h => by simp [avEq] at h
 | .agg _, .bool _, h | .agg _, .int .., h | .agg _, .str _, h | .agg _, .nilp, h | .agg _, .ptr .., h | .agg _, .nils, h | .agg _, .slice .., h | .agg _, .func .., h | .agg _, .yield _, h | .agg _, .nilf, h | .agg _, .iface .., h | .agg _, .nili, h | .agg _, .tuple _, h => by simp [avEq] at h
 | .tuple _, .bool _, h | .tuple _, .int .., h | .tuple _, .str _, h | .tuple _, .nilp, h | .tuple _, .ptr .., h | .tuple _, .nils, h | .tuple _, .slice .., h | .tuple _, .func .., h | .tuple _, .yield _, h | .tuple _, .nilf, h | .tuple _, .iface .., h | .tuple _, .nili, h | .tuple _, .agg _, h => by simp [avEq] at h
theorem avEqL_eq : ∀ (l r : List AV), avEqL l r = true -> l = r
 | [], [], _ => rfl
 | x :: l, y :: r, h => by
  simp only [avEqL] at h
  obtain ⟨h1, h2⟩ := and_true' h
  rw [avEq_eq x y h1, avEqL_eq l r h2]
 | [], _ :: _, h => by simp [avEqL] at h
 | _ :: _, [], h => by simp [avEqL] at h
end
theorem optEq_some {x y : Option AV} {v : AV} (h : optEq x y = true) (hy : y = some v) : x = some v := by
 subst hy
 cases x with
 | none => cases h
 | some a => rw [avEq_eq a v h]
theorem blkSame_some {x y : Option Blk} {b : Blk} (h : blkSame x y = true) (hx : x = some b) : y = some b := by
 subst hx
 cases b with
 | cells l e ex w =>
  cases y with
  | none => cases h
  | some y =>
   cases y with
   | cells l' e' x' w' =>
    simp only [blkSame] at h
    obtain ⟨h1, h2⟩ := and_true' h
    obtain ⟨h2, h3⟩ := and_true' h2
    obtain ⟨h3, h4⟩ := and_true' h3
    rw [boolEq_eq, beq_iff_eq] at h2 h3
    rw [Nat.eq_of_beq_eq_true h1, h2, h3, avEqL_eq _ _ h4]
   | _ => cases h
 | _ => cases h
/-! Who stands ahead of whom. -/
theorem ancL_nil (acc : List Nat) : ancL [] acc = acc := rfl
theorem ancL_cons (o : Oper) (l : List Oper) (acc : List Nat) : ancL (o :: l) acc = ancL l (acc ++ [ancStep acc o.after.toList]) := rfl
theorem ancL_pre : ∀ (l : List Oper) (acc : List Nat), ∃ r, ancL l acc = acc ++ r /\ r.length = l.length
 | [], acc => ⟨[], by rw [ancL_nil]; simp, rfl⟩
 | o :: l, acc => by
  obtain ⟨r, h1, h2⟩ := ancL_pre l (acc ++ [ancStep acc o.after.toList])
  exact ⟨ancStep acc o.after.toList :: r, by rw [ancL_cons, h1]; simp, by simp [h2]⟩
theorem ancL_get : ∀ (l : List Oper) (acc : List Nat) (k : Nat) (o : Oper), l[k]? = some o -> (ancL l acc)[acc.length + k]? = some (ancStep ((ancL l acc).take (acc.length + k)) o.after.toList)
 | [], acc, k, o, h => by simp at h
 | x :: l, acc, 0, o, h => by
  simp at h; subst h
  obtain ⟨r, h1, h2⟩ := ancL_pre l (acc ++ [ancStep acc x.after.toList])
  rw [ancL_cons, h1]
  simp
 | x :: l, acc, k + 1, o, h => by
  have h' : l[k]? = some o := by simpa using h
  have := ancL_get l (acc ++ [ancStep acc x.after.toList]) k o h'
  rw [ancL_cons]
  have hl : (acc ++ [ancStep acc x.after.toList]).length + k = acc.length + (k + 1) := by simp; omega
  rw [hl] at this
  exact this
theorem ancStep_bit {acc : List Nat} {i : Nat} : ∀ {l : List Edge}, (ancStep acc l).testBit i = true -> ∃ e, e ∈ l /\ tight e = true /\ (i = e.on ∨ ((acc[e.on]?).getD 0).testBit i = true)
 | [], h => by simp [ancStep] at h
 | e :: l, h => by
  unfold ancStep at h
  cases ht : tight e with
  | true =>
   rw [ht] at h
   have h : (((2 ^ e.on) ||| ((acc[e.on]?).getD 0)) ||| ancStep acc l).testBit i = true := h
   rw [Nat.testBit_or, Nat.testBit_or, Bool.or_eq_true, Bool.or_eq_true, Nat.testBit_two_pow] at h
   rcases h with (h | h) | h
   ·
    exact ⟨e, by simp, ht, .inl (by simpa using (of_decide_eq_true h).symm)⟩
   ·
    exact ⟨e, by simp, ht, .inr h⟩
   ·
    obtain ⟨e', h1, h2, h3⟩ := ancStep_bit h
    exact ⟨e', by simp [h1], h2, h3⟩
  | false =>
   rw [ht] at h
   obtain ⟨e', h1, h2, h3⟩ := ancStep_bit h
   exact ⟨e', by simp [h1], h2, h3⟩
theorem allI_iff {p : Nat -> Oper -> Bool} : ∀ {l : List Oper} {k : Nat}, allI p k l = true -> ∀ j o, l[j]? = some o -> p (k + j) o = true
 | [], k, _, j, o, h => by simp at h
 | x :: l, k, hh, j, o, h => by
  unfold allI at hh
  cases hp : p k x with
  | false => rw [hp] at hh; cases hh
  | true =>
   rw [hp] at hh
   cases j with
   | zero => simp at h; subst h; exact hp
   | succ j =>
    have := allI_iff hh j o (by simpa using h)
    rw [show k + 1 + j = k + (j + 1) by omega] at this
    exact this
end Go.Ev
namespace Go.Ev
variable {P : Program} {E : Env}
/-! The temporaries that an operation looks at. -/
noncomputable def restr (M : Nat) (T : Tm) : List Tmp -> Tm
 | [] => ⟨.nil, .nil⟩
 | t :: l => match T.get M t with | some v => Tm.put M (restr M T l) v t | none => restr M T l
theorem restr_get (M : Nat) (T : Tm) : ∀ (l : List Tmp) (t : Tmp), (restr M T l).get M t = if t ∈ l then T.get M t else none
 | [], t => by
  show Tm.get M ⟨.nil, .nil⟩ t = _
  unfold Tm.get
  cases Nat.testBit M t <;> rfl
 | x :: l, t => by
  unfold restr
  cases hx : T.get M x with
  | some v =>
   simp only
   rw [Tm.get_put, restr_get M T l t]
   by_cases h : t = x
   ·
    subst h; simp [hx]
   ·
    simp [h]
  | none =>
   simp only
   rw [restr_get M T l t]
   by_cases h : t = x
   ·
    subst h; simp [hx]
   ·
    simp [h]
def Same (M : Nat) (T T' : Tm) (l : List Operand) : Prop := ∀ x ∈ l, evO M x T = evO M x T'
theorem mem_tmpsOf {t : Tmp} : ∀ {l : List Operand}, Operand.tmp t ∈ l -> t ∈ tmpsOf l
 | [], h => by cases h
 | x :: l, h => by
  rcases List.mem_cons.1 h with rfl | h
  ·
   simp [tmpsOf]
  ·
   have := mem_tmpsOf h
   cases x <;> simp [tmpsOf, this]
theorem same_restr {M : Nat} {T : Tm} {ts : List Tmp} {l : List Operand} (h : ∀ t ∈ tmpsOf l, t ∈ ts) : Same M T (restr M T ts) l := by
 intro x hx
 cases x with
 | tmp t => rw [evO_tmp, evO_tmp, restr_get, if_pos (h t (mem_tmpsOf hx))]
 | const v => rfl
 | global g => rfl
 | func f => rfl
theorem same_evOs {M : Nat} {T T' : Tm} : ∀ {l : List Operand}, Same M T T' l -> evOs M l T = evOs M l T'
 | [], _ => rfl
 | x :: l, h => by
  rw [evOs_cons, evOs_cons, h x (by simp), same_evOs (fun y hy => h y (by simp [hy]))]
theorem same_evOpt {M : Nat} {T T' : Tm} {o : Option Operand} (h : ∀ x, o = some x -> evO M x T = evO M x T') : evOpt M o T = evOpt M o T' := by
 cases o with
 | none => rfl
 | some x => unfold evOpt; simp only [h x rfl]
theorem same_fill {M : Nat} {place : Nat -> Option (Nat × Nat)} {T T' : Tm} : ∀ {ps : List (Nat × Operand)} (cs : List AV), (∀ p ∈ ps, evO M p.2 T = evO M p.2 T') -> fillParts M place T ps cs = fillParts M place T' ps cs
 | [], _, _ => rfl
 | p :: ps, cs, h => by
  rw [fillParts_cons, fillParts_cons, h p (by simp)]
  have : fillParts M place T ps = fillParts M place T' ps := funext fun cs => same_fill cs (fun q hq => h q (by simp [hq]))
  rw [this]
theorem evPure_same {M : Nat} {T T' : Tm} {o : Op} (h : Same M T T' o.operands.toList) : evPure M o E T = evPure M o E T' := by
 unfold evPure evPureC
 cases o with
 | move x => exact h x (by simp [Op.operands])
 | assign x => exact h x (by simp [Op.operands])
 | pick c a b =>
  show (evO M c T).obind _ = (evO M c T').obind _
  rw [h c (by simp [Op.operands]), h a (by simp [Op.operands]), h b (by simp [Op.operands])]
 | nilCheck x => show (evO M x T).obind _ = (evO M x T').obind _; rw [h x (by simp [Op.operands])]
 | binOp op t x y yt =>
  show ((evO M x T).obind fun x => (evO M y T).obind fun y => _) = ((evO M x T').obind fun x => (evO M y T').obind fun y => _)
  rw [h x (by simp [Op.operands]), h y (by simp [Op.operands])]
 | unOp op t x => show (evO M x T).obind _ = (evO M x T').obind _; rw [h x (by simp [Op.operands])]
 | convert s d x => show (evO M x T).obind _ = (evO M x T').obind _; rw [h x (by simp [Op.operands])]
 | makeFunc fn a c =>
  cases fn with
  | func f =>
   show ((evOs M a.toList T).obind fun a => (evOs M c.toList T).omap fun c => _) = ((evOs M a.toList T').obind fun a => (evOs M c.toList T').omap fun c => _)
   rw [same_evOs (l := a.toList) (fun x hx => h x (by simp [Op.operands] at hx ⊢; exact .inl hx)), same_evOs (l := c.toList) (fun x hx => h x (by simp [Op.operands] at hx ⊢; exact .inr hx))]
  | _ => rfl
 | makeInterface t x => show bc _ ((evO M x T).omap _) none = bc _ ((evO M x T').omap _) none; rw [h x (by simp [Op.operands])]
 | fieldAddr s x f =>
  show ((fieldOf (kindOf E s) f).obind fun p => bc _ ((evO M x T).obind _) none) = ((fieldOf (kindOf E s) f).obind fun p => bc _ ((evO M x T').obind _) none)
  rw [h x (by simp [Op.operands])]
 | field s x f =>
  show ((fieldOf (kindOf E s) f).obind fun p => (evO M x T).obind _) = ((fieldOf (kindOf E s) f).obind fun p => (evO M x T').obind _)
  rw [h x (by simp [Op.operands])]
 | indexAddr t x i =>
  show ((evO M x T).obind fun x => (evO M i T).obind fun i => _) = ((evO M x T').obind fun x => (evO M i T').obind fun i => _)
  rw [h x (by simp [Op.operands]), h i (by simp [Op.operands])]
 | index t x i =>
  show ((evO M x T).obind fun x => (evO M i T).obind fun i => _) = ((evO M x T').obind fun x => (evO M i T').obind fun i => _)
  rw [h x (by simp [Op.operands]), h i (by simp [Op.operands])]
 | slice t x lo hi mx =>
  show ((evO M x T).obind fun x => (evOpt M lo T).obind fun lo => (evOpt M hi T).obind fun hi => (evOpt M mx T).obind fun mx => _) = ((evO M x T').obind fun x => (evOpt M lo T').obind fun lo => (evOpt M hi T').obind fun hi => (evOpt M mx T').obind fun mx => _)
  rw [h x (by cases lo <;> cases hi <;> cases mx <;> simp [Op.operands]),
   same_evOpt (o := lo) (fun y hy => h y (by subst hy; cases hi <;> cases mx <;> simp [Op.operands])),
   same_evOpt (o := hi) (fun y hy => h y (by subst hy; cases lo <;> cases mx <;> simp [Op.operands])),
   same_evOpt (o := mx) (fun y hy => h y (by subst hy; cases lo <;> cases hi <;> simp [Op.operands]))]
 | sliceToArrayPointer t x =>
  have hx := h x (by simp [Op.operands])
  show (match kindOf E t with | .array n _ => (evO M x T).obind _ | _ => none) = (match kindOf E t with | .array n _ => (evO M x T').obind _ | _ => none)
  rw [hx]
 | extract x i => show (evO M x T).obind _ = (evO M x T').obind _; rw [h x (by simp [Op.operands])]
 | build t ps =>
  show bc _ ((zeroT E t).obind fun z => (fillParts M (buildK (kindOf E t) E) T ps.toList z.cells).omap AV.agg) none = bc _ ((zeroT E t).obind fun z => (fillParts M (buildK (kindOf E t) E) T' ps.toList z.cells).omap AV.agg) none
  have : ∀ cs, fillParts M (buildK (kindOf E t) E) T ps.toList cs = fillParts M (buildK (kindOf E t) E) T' ps.toList cs := fun cs => same_fill cs (fun p hp => h p.2 (by simp [Op.operands]; exact ⟨p.1, by simpa using hp⟩))
  simp only [this]
 | call c =>
  cases hc : c.callee with
  | builtin b =>
   show (match c.callee with | .builtin b => (evOs M c.args.toList T).obind _ | _ => none) = (match c.callee with | .builtin b => (evOs M c.args.toList T').obind _ | _ => none)
   rw [hc]
   simp only
   rw [same_evOs (l := c.args.toList) (fun x hx => h x (by simp [Op.operands, Call.operands, hc] at hx ⊢; exact hx))]
  | value f =>
   show (match c.callee with | .builtin b => (evOs M c.args.toList T).obind _ | _ => none) = (match c.callee with | .builtin b => (evOs M c.args.toList T').obind _ | _ => none)
   rw [hc]
  | invoke r n =>
   show (match c.callee with | .builtin b => (evOs M c.args.toList T).obind _ | _ => none) = (match c.callee with | .builtin b => (evOs M c.args.toList T').obind _ | _ => none)
   rw [hc]
 | _ => rfl
theorem evRead_same {M : Nat} {T T' : Tm} {o : Op} {H : Hp} (h : Same M T T' o.operands.toList) : evRead M o E T H = evRead M o E T' H := by
 unfold evRead evReadC
 cases o with
 | load t a => show (evO M a T).obind _ = (evO M a T').obind _; rw [h a (by simp [Op.operands])]
 | convert s d x =>
  have hx := h x (by simp [Op.operands])
  simp only [hx]
 | _ => rfl
theorem evAlloc_same {M : Nat} {T T' : Tm} {o : Op} (h : Same M T T' o.operands.toList) : evAlloc M o E T = evAlloc M o E T' := by
 unfold evAlloc evAllocC
 cases o with
 | alloc t => rfl
 | box t x => show (evO M x T).omap _ = (evO M x T').omap _; rw [h x (by simp [Op.operands])]
 | buildSlice t n ps =>
  have : ∀ e cs, fillParts M (fun i => some (Nat.mul i (sizeT E e), sizeT E e)) T ps.toList cs = fillParts M (fun i => some (Nat.mul i (sizeT E e), sizeT E e)) T' ps.toList cs := fun e cs => same_fill cs (fun p hp => h p.2 (by simp [Op.operands]; exact ⟨p.1, by simpa using hp⟩))
  simp only [this]
 | makeSlice t l c =>
  have hl := h l (by simp [Op.operands])
  have hc := h c (by simp [Op.operands])
  simp only [hl, hc]
 | convert s d x =>
  have hx := h x (by simp [Op.operands])
  simp only [hx]
 | _ => rfl
theorem evEff_same {M : Nat} {T T' : Tm} {o : Op} {H : Hp} {call : CallF} (h : Same M T T' o.operands.toList) : evEff M o E call T H = evEff M o E call T' H := by
 unfold evEff evEffC
 cases o with
 | store t a x =>
  have ha := h a (by simp [Op.operands])
  have hx := h x (by simp [Op.operands])
  simp only [ha, hx]
 | call c =>
  cases hc : c.callee with
  | builtin b =>
   have := same_evOs (M := M) (T := T) (T' := T') (l := c.args.toList) (fun x hx => h x (by simp [Op.operands, Call.operands, hc] at hx ⊢; exact hx))
   simp only [hc, this]
  | value f =>
   have h1 := same_evOs (M := M) (T := T) (T' := T') (l := c.args.toList) (fun x hx => h x (by simp [Op.operands, Call.operands, hc] at hx ⊢; first | exact .inl hx | exact .inr hx))
   have h2 := h f (by simp [Op.operands, Call.operands, hc])
   simp only [hc, h1, h2]
  | invoke r n => simp only [hc]
 | _ => rfl
/-! More memory, the same reading. -/
def Sub (H H' : Hp) : Prop := ∀ a x, H.m.get a = some x -> H'.m.get a = some x
theorem cellsAt_sub {H H' : Hp} (h : Sub H H') {b off n : Nat} {l : List AV} (k : cellsAt H b off n = some l) : cellsAt H' b off n = some l := by
 by_cases h0 : n = 0
 ·
  subst h0; exact k
 rw [cellsAt_pos h0] at k ⊢
 obtain ⟨x, hx, h1⟩ := obind_some k
 unfold cellsAt'
 rw [h b x hx]
 exact h1
theorem cellAt_sub {H H' : Hp} (h : Sub H H') {b off : Nat} {l : AV} (k : cellAt H b off = some l) : cellAt H' b off = some l := by
 obtain ⟨x, hx, h1⟩ := obind_some k
 unfold cellAt
 rw [h b x hx]
 exact h1
theorem evRead_sub {H H' : Hp} (h : Sub H H') {M : Nat} {T : Tm} {o : Op} {v : AV} (k : evRead M o E T H = some v) : evRead M o E T H' = some v := by
 cases o with
 | load t a =>
  obtain ⟨p, hp, k⟩ := obind_some (show ((evO M a T).obind fun v => oe (asPtr v) ((asEpt v).obind fun q => partAV E t q.1 q.2) fun q => loadAV E H t q.1 q.2) = some v from k)
  show ((evO M a T).obind fun v => oe (asPtr v) ((asEpt v).obind fun q => partAV E t q.1 q.2) fun q => loadAV E H' t q.1 q.2) = some v
  rw [hp]
  show oe (asPtr p) ((asEpt p).obind fun q => partAV E t q.1 q.2) (fun q => loadAV E H' t q.1 q.2) = some v
  cases hq : asPtr p with
  | none => rw [hq] at k; exact k
  | some q =>
  rw [hq, oe_some] at k
  rw [oe_some]
  show loadAV E H' t q.1 q.2 = some v
  unfold loadAV loadC at k ⊢
  cases hi : E.ty t with
  | none => rw [hi] at k; cases k
  | some i =>
   rw [hi] at k
   simp only at k ⊢
   cases hag : i.agg with
   | true =>
    rw [hag] at k
    obtain ⟨l, hl, rfl⟩ := omap_some (show (cellsAt H q.1 q.2 i.size).omap AV.agg = some v from k)
    show (cellsAt H' q.1 q.2 i.size).omap AV.agg = _
    rw [cellsAt_sub h hl]; rfl
   | false =>
    rw [hag] at k
    exact cellAt_sub h (show cellAt H q.1 q.2 = some v from k)
 | convert s d x =>
  replace k := show (match kindOf E s with
   | .slice e => match isByteK (kindOf E e) with
    | true => match kindOf E d with
     | .string => (evO M x T).obind (strOf H)
     | .slice _ => match Nat.beq s d with | true => (evO M x T).obind (ownSlice e H) | false => none
     | _ => none
    | false => none
   | _ => none) = some v from k
  show (match kindOf E s with
   | .slice e => match isByteK (kindOf E e) with
    | true => match kindOf E d with
     | .string => (evO M x T).obind (strOf H')
     | .slice _ => match Nat.beq s d with | true => (evO M x T).obind (ownSlice e H') | false => none
     | _ => none
    | false => none
   | _ => none) = some v
  have hstr : ∀ y v, strOf H y = some v -> strOf H' y = some v := by
   intro y v hy
   have hy := show oe (asSlice y) (bc (isNils y) (some (AV.str [])) ((asLst y).obind fun q => bc (Nat.beq q.1 1) ((bytesOfL (catL q.2)).omap .str) none)) (fun q => ((cellsAt H q.1 q.2.1 q.2.2.1).obind bytesOfL).omap .str) = some v from hy
   show oe (asSlice y) (bc (isNils y) (some (AV.str [])) ((asLst y).obind fun q => bc (Nat.beq q.1 1) ((bytesOfL (catL q.2)).omap .str) none)) (fun q => ((cellsAt H' q.1 q.2.1 q.2.2.1).obind bytesOfL).omap .str) = some v
   cases hq : asSlice y with
   | none => rw [hq] at hy; exact hy
   | some q =>
    rw [hq, oe_some] at hy
    rw [oe_some]
    obtain ⟨bs, hbs, rfl⟩ := omap_some hy
    obtain ⟨l, hl, hbs⟩ := obind_some hbs
    rw [cellsAt_sub h hl]
    show ((bytesOfL l).omap AV.str) = _
    rw [hbs]; rfl
  have hown : ∀ e y v, ownSlice e H y = some v -> ownSlice e H' y = some v := by
   intro e y v hy
   obtain ⟨q, hq, hy⟩ := obind_some hy
   obtain ⟨z, hz, hy⟩ := obind_some hy
   show (asSlice y).obind _ = _
   rw [hq]
   show (H'.m.get q.1).obind _ = _
   rw [h _ _ hz]
   exact hy
  cases hks : kindOf E s with
  | slice e =>
   simp only [hks] at k ⊢
   cases hb : isByteK (kindOf E e) with
   | true =>
    simp only [hb] at k ⊢
    cases hkd : kindOf E d with
    | string =>
     simp only [hkd] at k ⊢
     obtain ⟨y, hy, k⟩ := obind_some k
     rw [hy]; exact hstr y v k
    | slice e' =>
     simp only [hkd] at k ⊢
     cases hsd : Nat.beq s d with
     | true =>
      simp only [hsd] at k ⊢
      obtain ⟨y, hy, k⟩ := obind_some k
      rw [hy]; exact hown _ y v k
     | false => simp only [hsd] at k; cases k
    | _ => simp only [hkd] at k; cases k
   | false => simp only [hb] at k; cases k
  | _ => simp only [hks] at k; cases k
 | _ => cases k
theorem HRel.sub {s : Sg} {H H' : Hp} {w : World} (r : HRel E s H w) (h : Sub H' H) (hn : H'.next = H.next) : HRel E s H' w :=
 ⟨fun a x c ha hc => r.blk a x c (h a x ha) hc, fun a x a' x' c ha ho ha' ho' hc hc' => r.inj a x a' x' c (h a x ha) ho (h a' x' ha') ho' hc hc', r.lt, fun a ha => by
  rw [hn] at ha
  refine ⟨(r.fr a ha).1, ?_⟩
  cases hx : H'.m.get a with
  | none => rfl
  | some x => have := h a x hx; rw [(r.fr a ha).2] at this; cases this⟩
end Go.Ev
namespace Go.Ev
variable {P : Program} {E : Env}
inductive Went (E : Env) (call : CallF) (M : Nat) (L : List Oper) (id : Nat) (o : Oper) (A B : St) : AV -> Prop
 | idle : wantedA M L A.T o = some false -> B.H = A.H -> Went E call M L id o A B .undef
 | pure {v : AV} : wantedA M L A.T o = some true -> cls o.op E = .pure -> evPure M o.op E A.T = some v -> B.H = A.H -> Went E call M L id o A B v
 | read {v : AV} : wantedA M L A.T o = some true -> cls o.op E = .read -> evRead M o.op E A.T A.H = some v -> B.H = A.H -> Went E call M L id o A B v
 | alloc {x : Blk} {f : Nat -> AV} : wantedA M L A.T o = some true -> cls o.op E = .alloc -> evAlloc M o.op E A.T = some (x, f) -> A.H.m.get id = none -> B.H = setBlk A.H id x -> Went E call M L id o A B (f id)
 | eff {v : AV} : wantedA M L A.T o = some true -> cls o.op E = .eff -> evEff M o.op E call A.T A.H = some (v, B.H) -> Went E call M L id o A B v
theorem evOpD_went {call : CallF} {N M : Nat} {L : List Oper} {id : Nat} {o : Oper} {A B : St} (hw : wantedA M L A.T o = some true) (h : evOpD E call N M id o A = some B) : ∃ v, Went E call M L id o A B v /\ putT N M A.T o.dst v = some B.T := by
 unfold evOpD at h
 cases hc : cls o.op E with
 | pure =>
  rw [hc] at h
  have h := show evOp E call N M o A = some B from h
  unfold evOp evOpC at h
  rw [hc] at h
  obtain ⟨v, hv, h⟩ := obind_some h
  obtain ⟨T', hT', rfl⟩ := omap_some h
  exact ⟨v, .pure hw hc hv rfl, hT'⟩
 | read =>
  rw [hc] at h
  have h := show evOp E call N M o A = some B from h
  unfold evOp evOpC at h
  rw [hc] at h
  obtain ⟨v, hv, h⟩ := obind_some h
  obtain ⟨T', hT', rfl⟩ := omap_some h
  exact ⟨v, .read hw hc hv rfl, hT'⟩
 | alloc =>
  rw [hc] at h
  simp only at h
  split at h
  ·
   rename_i hid
   obtain ⟨p, hp, h⟩ := obind_some h
   obtain ⟨T', hT', rfl⟩ := omap_some h
   exact ⟨p.2 id, .alloc (x := p.1) (f := p.2) hw hc hp hid rfl, hT'⟩
  ·
   cases h
 | eff =>
  rw [hc] at h
  have h := show evOp E call N M o A = some B from h
  unfold evOp evOpC at h
  rw [hc] at h
  obtain ⟨p, hp, h⟩ := obind_some h
  obtain ⟨T', hT', rfl⟩ := omap_some h
  exact ⟨p.1, .eff hw hc hp, hT'⟩
theorem trace_cons (call : CallF) (N M : Nat) (all : List Oper) (o : Oper) (l : List Oper) (id : Nat) (s : St) : trace E call N M all (o :: l) id s = trStep E call N M all o (trace E call N M all l) id s := rfl
theorem lastS_cons (x : St) (l : List St) (d : St) : lastS (x :: l) d = lastS l x := rfl
theorem trace_ok {call : CallF} {N M : Nat} {all : List Oper} : ∀ (l : List Oper) (id : Nat) (s : St) (tr : List St) (d : St), trace E call N M all l id s = some tr ->
 tr.length = l.length + 1 /\ tr[0]? = some s /\ (∃ z, tr[l.length]? = some z /\ lastS tr d = z) /\
 ∀ j o, l[j]? = some o -> ∃ A B v, tr[j]? = some A /\ tr[j + 1]? = some B /\ Went E call M all (id + j) o A B v /\ putT N M A.T o.dst v = some B.T
 | [], id, s, tr, d, h => by
  cases h
  exact ⟨rfl, rfl, ⟨s, rfl, rfl⟩, fun j o h => by simp at h⟩
 | x :: l, id, s, tr, d, h => by
  rw [trace_cons] at h
  unfold trStep at h
  have key : ∀ s1 tr1, trace E call N M all l (id + 1) s1 = some tr1 -> tr = s :: tr1 -> (∃ v, Went E call M all id x s s1 v /\ putT N M s.T x.dst v = some s1.T) ->
   tr.length = (x :: l).length + 1 /\ tr[0]? = some s /\ (∃ z, tr[(x :: l).length]? = some z /\ lastS tr d = z) /\
   ∀ j o, (x :: l)[j]? = some o -> ∃ A B v, tr[j]? = some A /\ tr[j + 1]? = some B /\ Went E call M all (id + j) o A B v /\ putT N M A.T o.dst v = some B.T := by
   intro s1 tr1 h1 he hv
   subst he
   obtain ⟨h2, h3, ⟨z, h4, h5⟩, h6⟩ := trace_ok l (id + 1) s1 tr1 s h1
   refine ⟨by simp [h2], rfl, ⟨z, by simpa using h4, by rw [lastS_cons]; exact h5⟩, ?_⟩
   intro j o ho
   cases j with
   | zero =>
    simp at ho; subst ho
    obtain ⟨v, hv1, hv2⟩ := hv
    exact ⟨s, s1, v, rfl, by simpa using h3, hv1, hv2⟩
   | succ j =>
    obtain ⟨A, B, v, ha, hb, hw, hp⟩ := h6 j o (by simpa using ho)
    refine ⟨A, B, v, by simpa using ha, by simpa using hb, ?_, hp⟩
    rw [show id + (j + 1) = id + 1 + j by omega]; exact hw
  cases hw : wantedA M all s.T x with
  | none => rw [hw] at h; cases h
  | some b =>
   rw [hw] at h
   cases b with
   | true =>
    obtain ⟨s1, h1, h⟩ := obind_some h
    obtain ⟨tr1, h2, rfl⟩ := omap_some h
    exact key s1 tr1 h2 rfl (evOpD_went hw h1)
   | false =>
    obtain ⟨T1, h1, h⟩ := obind_some h
    obtain ⟨tr1, h2, rfl⟩ := omap_some h
    exact key ⟨T1, s.H⟩ tr1 h2 rfl ⟨.undef, .idle hw rfl, h1⟩
def AllocAt (E : Env) (M : Nat) (L : List Oper) (A : Nat -> St) (i : Nat) (x : Blk) (f : Nat -> AV) : Prop :=
 ∃ o, L[i]? = some o /\ wantedA M L (A i).T o = some true /\ cls o.op E = .alloc /\ evAlloc M o.op E (A i).T = some (x, f)
theorem AllocAt.room {M : Nat} {L : List Oper} {A : Nat -> St} {i : Nat} {x : Blk} {f : Nat -> AV} (h : AllocAt E M L A i x f) : roomOf E L = L.length := by
 obtain ⟨o, h1, _, h2, _⟩ := h
 have : L.any (isAlloc E) = true := List.any_eq_true.2 ⟨o, List.mem_of_getElem? h1, by unfold isAlloc; rw [h2]⟩
 unfold roomOf; rw [this]
theorem AllocAt.ltr {M : Nat} {L : List Oper} {A : Nat -> St} {i : Nat} {x : Blk} {f : Nat -> AV} (h : AllocAt E M L A i x f) : i < roomOf E L := by
 rw [h.room]; obtain ⟨o, h1, _⟩ := h
 exact (List.getElem?_eq_some_iff.1 h1).1
theorem AllocAt.uniq {M : Nat} {L : List Oper} {A : Nat -> St} {i : Nat} {x x' : Blk} {f f' : Nat -> AV} (h : AllocAt E M L A i x f) (h' : AllocAt E M L A i x' f') : x = x' /\ f = f' := by
 obtain ⟨o, h1, _, _, h2⟩ := h
 obtain ⟨o', h1', _, _, h2'⟩ := h'
 rw [h1] at h1'; cases h1'
 rw [h2] at h2'; cases h2'
 exact ⟨rfl, rfl⟩
structure Plan (E : Env) (call : CallF) (N M : Nat) (L : List Oper) (base : Nat) (A : Nat -> St) (Anc : Nat -> Nat -> Prop) : Prop where
 went : ∀ j o, L[j]? = some o -> ∃ v, Went E call M L (base + j) o (A j) (A (j + 1)) v /\ putT N M (A j).T o.dst v = some (A (j + 1)).T
 edge : ∀ j o e, L[j]? = some o -> e ∈ o.after.toList -> tight e = true -> e.on < j
 closed : ∀ (done : Nat -> Prop), (∀ j o e, done j -> L[j]? = some o -> e ∈ o.after.toList -> tight e = true -> done e.on) ->
  ∀ j o, L[j]? = some o -> (∀ e, e ∈ o.after.toList -> tight e = true -> done e.on) -> ∀ i, Anc i j -> done i
 lt : ∀ i j, Anc i j -> i < j
 ord : ∀ i j x y, i < j -> L[i]? = some x -> L[j]? = some y -> clash L x y = true ∨ (isEff E x = true /\ isEff E y = true) -> Anc i j
 rd : ∀ e j x y, L[e]? = some x -> L[j]? = some y -> isEff E x = true -> e ≠ j -> ¬ Anc e j -> ¬ Anc j e -> wantedA M L (A j).T y = some true -> cls y.op E = .read ->
  (e < j -> optEq (evRead M y.op E (A j).T (A e).H) (evRead M y.op E (A j).T (A j).H) = true) /\ (j < e -> optEq (evRead M y.op E (A j).T (A (e + 1)).H) (evRead M y.op E (A j).T (A j).H) = true)
 al : ∀ e j x y, L[e]? = some x -> L[j]? = some y -> isEff E x = true -> e ≠ j -> ¬ Anc e j -> ¬ Anc j e -> wantedA M L (A j).T y = some true -> cls y.op E = .alloc ->
  (e < j -> (A e).H.m.get (base + j) = none) /\ (j < e -> blkSame ((A e).H.m.get (base + j)) ((A (e + 1)).H.m.get (base + j)) = true)
theorem isEff_iff {o : Oper} : isEff E o = true ↔ cls o.op E = .eff := by
 unfold isEff
 cases cls o.op E <;> simp
section
variable {call : CallF} {N M : Nat} {L : List Oper} {base : Nat} {A : Nat -> St} {Anc : Nat -> Nat -> Prop}
theorem Plan.still (p : Plan E call N M L base A Anc) (q : Nat) : ∀ d, q + d ≤ L.length -> (∀ e x, q ≤ e -> e < q + d -> L[e]? = some x -> isEff E x = false) ->
 (A (q + d)).H.next = (A q).H.next /\ (∀ i x f, q ≤ i -> i < q + d -> AllocAt E M L A i x f -> (A (q + d)).H.m.get (base + i) = some x) /\
 (∀ a, (∀ i x f, q ≤ i -> i < q + d -> AllocAt E M L A i x f -> a ≠ base + i) -> (A (q + d)).H.m.get a = (A q).H.m.get a) /\ Sub (A q).H (A (q + d)).H
 | 0, _, _ => ⟨rfl, fun i x f h1 h2 _ => by omega, fun a _ => rfl, fun a x h => h⟩
 | d + 1, hn, he => by
  obtain ⟨h1, h2, h3, h4⟩ := p.still q d (by omega) (fun e x k1 k2 => he e x k1 (by omega))
  have hlt : q + d < L.length := by omega
  obtain ⟨v, hw, _⟩ := p.went (q + d) L[q + d] (List.getElem?_eq_getElem hlt)
  have hLo : L[q + d]? = some L[q + d] := List.getElem?_eq_getElem hlt
  rw [show q + (d + 1) = q + d + 1 by omega]
  have hsame : (∀ x f, ¬ AllocAt E M L A (q + d) x f) -> (A (q + d + 1)).H = (A (q + d)).H ->
   (A (q + d + 1)).H.next = (A q).H.next /\ (∀ i x f, q ≤ i -> i < q + d + 1 -> AllocAt E M L A i x f -> (A (q + d + 1)).H.m.get (base + i) = some x) /\
   (∀ a, (∀ i x f, q ≤ i -> i < q + d + 1 -> AllocAt E M L A i x f -> a ≠ base + i) -> (A (q + d + 1)).H.m.get a = (A q).H.m.get a) /\ Sub (A q).H (A (q + d + 1)).H := by
   intro hna hH
   rw [hH]
   refine ⟨h1, fun i x f k1 k2 k3 => ?_, fun a ha => h3 a (fun i x f k1 k2 k3 => ha i x f k1 (by omega) k3), h4⟩
   rcases Nat.lt_or_ge i (q + d) with k | k
   ·
    exact h2 i x f k1 k k3
   ·
    have : i = q + d := by omega
    subst this
    exact absurd k3 (hna x f)
  cases hw with
  | idle hwn hH =>
   refine hsame (fun x f ⟨o, k1, k2, _⟩ => ?_) hH
   rw [hLo] at k1; cases k1
   rw [hwn] at k2; cases k2
  | pure hwn hc _ hH =>
   refine hsame (fun x f ⟨o, k1, _, k2, _⟩ => ?_) hH
   rw [hLo] at k1; cases k1
   rw [hc] at k2; cases k2
  | read hwn hc _ hH =>
   refine hsame (fun x f ⟨o, k1, _, k2, _⟩ => ?_) hH
   rw [hLo] at k1; cases k1
   rw [hc] at k2; cases k2
  | eff hwn hc _ =>
   have := he (q + d) _ (by omega) (by omega) hLo
   rw [isEff_iff.2 hc] at this; cases this
  | @alloc x f hwn hc ha hfree hH =>
   have hal : AllocAt E M L A (q + d) x f := ⟨_, hLo, hwn, hc, ha⟩
   have hget : ∀ a, (A (q + d + 1)).H.m.get a = if a = base + (q + d) then some x else (A (q + d)).H.m.get a := fun a => by rw [hH]; exact Tr.get_set _ _ _ _
   refine ⟨by rw [hH]; exact h1, fun i x' f' k1 k2 k3 => ?_, fun a k => ?_, fun a y hy => ?_⟩
   ·
    rw [hget]
    by_cases hi : i = q + d
    ·
     subst hi
     rw [if_pos rfl, (hal.uniq k3).1]
    ·
     rw [if_neg (by omega)]
     exact h2 i x' f' k1 (by omega) k3
   ·
    rw [hget, if_neg (k _ x f (by omega) (by omega) hal)]
    exact h3 a (fun i x' f' k1 k2 k3 => k i x' f' k1 (by omega) k3)
   ·
    rw [hget]
    have h5 := h4 a y hy
    by_cases ha' : a = base + (q + d)
    ·
     subst ha'; rw [hfree] at h5; cases h5
    ·
     rw [if_neg ha']; exact h5
end
end Go.Ev
namespace Go.Ev
variable {P : Program} {E : Env}
theorem hasN_iff {t : Nat} : ∀ {l : List Nat}, t ∈ l -> hasN t l = true
 | [], h => by cases h
 | x :: l, h => by
  unfold hasN
  cases hb : Nat.beq t x with
  | true => rfl
  | false =>
   rcases List.mem_cons.1 h with rfl | h
   ·
    rw [Nat.beq_refl] at hb; cases hb
   ·
    exact hasN_iff h
theorem clash_look {L : List Oper} {x y : Oper} {d : Tmp} (h : x.dst = some d) (k : d ∈ looksOf L y) : clash L x y = true := by
 unfold clash; rw [h]; simp only [hasN_iff k, Bool.true_or]
theorem clash_look' {L : List Oper} {x y : Oper} {d : Tmp} (h : y.dst = some d) (k : d ∈ looksOf L x) : clash L x y = true := by
 unfold clash; rw [h]; simp only [hasN_iff k, Bool.or_true]
theorem clash_dst {L : List Oper} {x y : Oper} {d : Tmp} (h : x.dst = some d) (k : y.dst = some d) : clash L x y = true := by
 unfold clash; rw [h, k]; simp
theorem putT_get {N M : Nat} {T T' : Tm} {d : Option Tmp} {v : AV} (h : putT N M T d v = some T') (t : Tmp) : T'.get M t = if d = some t then some v else T.get M t := by
 unfold putT putTC at h
 cases d with
 | none => cases h; simp
 | some x =>
  simp only at h
  split at h
  ·
   have key : T' = Tm.put M T v x := by
    split at h
    ·
     rename_i hm; cases h; simp [Tm.put, hm]
    ·
     rename_i hm; cases h; simp [Tm.put, hm]
   rw [key, Tm.get_put]
   by_cases hx : t = x
   ·
    subst hx; simp
   ·
    rw [if_neg hx, if_neg (fun h => hx (Option.some.inj h).symm)]
  ·
   cases h
theorem putT_lt {N M : Nat} {T T' : Tm} {x : Tmp} {v : AV} (h : putT N M T (some x) v = some T') : x < N := by
 unfold putT putTC at h
 simp only at h
 split at h
 ·
  rename_i hb; exact (blt_iff _ _).1 hb
 ·
  cases h
section
variable {call : CallF} {N M : Nat} {L : List Oper} {base : Nat} {A : Nat -> St} {Anc : Nat -> Nat -> Prop}
theorem Plan.tget (p : Plan E call N M L base A Anc) (t : Tmp) : ∀ j, j ≤ L.length ->
 (∃ i o, i < j /\ L[i]? = some o /\ o.dst = some t /\ (∀ i' o', i < i' -> i' < j -> L[i']? = some o' -> o'.dst ≠ some t) /\ (A j).T.get M t = (A (i + 1)).T.get M t) ∨
 ((∀ i o, i < j -> L[i]? = some o -> o.dst ≠ some t) /\ (A j).T.get M t = (A 0).T.get M t)
 | 0, _ => .inr ⟨fun i o h => by omega, rfl⟩
 | j + 1, hj => by
  have hlt : j < L.length := by omega
  have hLo : L[j]? = some L[j] := List.getElem?_eq_getElem hlt
  obtain ⟨v, _, hp⟩ := p.went j _ hLo
  have hget := putT_get hp t
  by_cases hd : L[j].dst = some t
  ·
   exact .inl ⟨j, _, by omega, hLo, hd, fun i' o' h1 h2 => by omega, rfl⟩
  ·
   rw [if_neg hd] at hget
   rcases p.tget t j (by omega) with ⟨i, o, h1, h2, h3, h4, h5⟩ | ⟨h1, h2⟩
   ·
    refine .inl ⟨i, o, by omega, h2, h3, fun i' o' k1 k2 k3 => ?_, hget.trans h5⟩
    rcases Nat.lt_or_ge i' j with k | k
    ·
     exact h4 i' o' k1 k k3
    ·
     have : i' = j := by omega
     subst this
     rw [hLo] at k3; cases k3
     exact hd
   ·
    refine .inr ⟨fun i o k1 k2 => ?_, hget.trans h2⟩
    rcases Nat.lt_or_ge i j with k | k
    ·
     exact h1 i o k k2
    ·
     have : i = j := by omega
     subst this
     rw [hLo] at k2; cases k2
     exact hd
def Closed (L : List Oper) (done : Nat -> Prop) : Prop := ∀ j o e, done j -> L[j]? = some o -> e ∈ o.after.toList -> tight e = true -> done e.on
def Rdy (L : List Oper) (done : Nat -> Prop) (j : Nat) (o : Oper) : Prop := L[j]? = some o /\ ¬ done j /\ ∀ e, e ∈ o.after.toList -> tight e = true -> done e.on
def andDone (done : Nat -> Prop) (j : Nat) : Nat -> Prop := fun i => i = j ∨ done i
theorem Closed.and {done : Nat -> Prop} {j : Nat} {o : Oper} (h : Closed L done) (r : Rdy L done j o) : Closed L (andDone done j) := by
 intro i o' e hi ho he ht
 rcases hi with rfl | hi
 ·
  rw [r.1] at ho; cases ho
  exact .inr (r.2.2 e he ht)
 ·
  exact .inr (h i o' e hi ho he ht)
theorem Plan.first (p : Plan E call N M L base A Anc) {done : Nat -> Prop} (hc : Closed L done) {j : Nat} {o : Oper} (r : Rdy L done j o) {i : Nat} (h : Anc i j) : done i := p.closed done hc j o r.1 r.2.2 i h
theorem Plan.first' (p : Plan E call N M L base A Anc) {done : Nat -> Prop} (hc : Closed L done) {j : Nat} {o : Oper} (hj : L[j]? = some o) (hd : done j) {i : Nat} (h : Anc i j) : done i :=
 p.closed done hc j o hj (fun e he ht => hc j o e hd hj he ht) i h
structure TInv (M : Nat) (N : Nat) (L : List Oper) (A : Nat -> St) (done : Nat -> Prop) (s : Sg) (ct : Array Value) : Prop where
 size : ct.size = N
 t1 : ∀ t i o, L[i]? = some o -> done i -> o.dst = some t -> (∀ i' o', i < i' -> done i' -> L[i']? = some o' -> o'.dst ≠ some t) -> ∀ v, (A (i + 1)).T.get M t = some v -> conc s v = some (ct.getD t undef)
 t2 : ∀ t, (∀ i o, done i -> L[i]? = some o -> o.dst ≠ some t) -> ∀ v, (A 0).T.get M t = some v -> conc s v = some (ct.getD t undef)
theorem TInv.mono {done : Nat -> Prop} {s s' : Sg} {ct : Array Value} (h : TInv M N L A done s ct) (hle : s.Le s') : TInv M N L A done s' ct :=
 ⟨h.size, fun t i o h1 h2 h3 h4 v hv => conc_mono hle _ _ (h.t1 t i o h1 h2 h3 h4 v hv), fun t h1 v hv => conc_mono hle _ _ (h.t2 t h1 v hv)⟩
theorem TInv.looks (p : Plan E call N M L base A Anc) {done : Nat -> Prop} (hc : Closed L done) {s : Sg} {ct : Array Value} (h : TInv M N L A done s ct) {j : Nat} {o : Oper} (r : Rdy L done j o) :
 ∀ t ∈ looksOf L o, ∀ v, (A j).T.get M t = some v -> conc s v = some (ct.getD t undef) := by
 intro t ht v hv
 have hjn : j < L.length := (List.getElem?_eq_some_iff.1 r.1).1
 have later : ∀ i' o', j ≤ i' -> done i' -> L[i']? = some o' -> o'.dst ≠ some t := by
  intro i' o' h1 h2 h3 h4
  rcases Nat.lt_or_ge j i' with k | k
  ·
   exact r.2.1 (p.first' hc h3 h2 (p.ord j i' o o' k r.1 h3 (.inl (clash_look' h4 ht))))
  ·
   have : i' = j := by omega
   subst this; exact r.2.1 h2
 rcases p.tget t j (by omega) with ⟨i, oi, h1, h2, h3, h4, h5⟩ | ⟨h1, h2⟩
 ·
  have hdi : done i := p.first hc r (p.ord i j oi o h1 h2 r.1 (.inl (clash_look h3 ht)))
  refine h.t1 t i oi h2 hdi h3 (fun i' o' k1 k2 k3 => ?_) v (by rw [<- h5]; exact hv)
  rcases Nat.lt_or_ge i' j with k | k
  ·
   exact h4 i' o' k1 k k3
  ·
   exact later i' o' k k2 k3
 ·
  refine h.t2 t (fun i oi k1 k2 => ?_) v (by rw [<- h2]; exact hv)
  rcases Nat.lt_or_ge i j with k | k
  ·
   exact h1 i oi k k2
  ·
   exact later i oi k k1 k2
theorem TInv.restr (p : Plan E call N M L base A Anc) {done : Nat -> Prop} (hc : Closed L done) {s : Sg} {ct : Array Value} (h : TInv M N L A done s ct) {j : Nat} {o : Oper} (r : Rdy L done j o) :
 TRel s M (restr M (A j).T (looksOf L o)) ct := by
 intro t v hv
 rw [restr_get] at hv
 split at hv
 ·
  rename_i ht; exact h.looks p hc r t ht v hv
 ·
  cases hv
theorem TInv.put (p : Plan E call N M L base A Anc) {done : Nat -> Prop} (hc : Closed L done) {s : Sg} {ct : Array Value} (h : TInv M N L A done s ct) {j : Nat} {o : Oper} (r : Rdy L done j o) {v : AV} {c : Value}
 (hp : putT N M (A j).T o.dst v = some (A (j + 1)).T) (hv : conc s v = some c) : TInv M N L A (andDone done j) s (putD ct o.dst c) := by
 have hne : ∀ t, o.dst ≠ some t -> (putD ct o.dst c).getD t undef = ct.getD t undef := by
  intro t ht
  cases hd : o.dst with
  | none => rfl
  | some d =>
   rw [hd] at ht
   have : d ≠ t := fun e => ht (by rw [e])
   simp [putD, Array.getElem?_setIfInBounds_ne this]
 have heq : ∀ t, o.dst = some t -> (putD ct o.dst c).getD t undef = c := by
  intro t ht
  rw [ht] at hp ⊢
  have := putT_lt hp
  rw [<- h.size] at this
  simp [putD, this]
 refine ⟨by rw [putD_size]; exact h.size, ?_, ?_⟩
 ·
  intro t i oi hi hd ht hlast u hu
  by_cases hdt : o.dst = some t
  ·
   have hij : i = j := by
    rcases hd with rfl | hd
    ·
     rfl
    ·
     rcases Nat.lt_trichotomy i j with k | k | k
     ·
      exact absurd hdt (hlast j o k (.inl rfl) r.1)
     ·
      exact k
     ·
      exact absurd (p.first' hc hi hd (p.ord j i o oi k r.1 hi (.inl (clash_dst hdt ht)))) r.2.1
   subst hij
   rw [putT_get hp t, if_pos hdt] at hu
   cases hu
   rw [heq t hdt]; exact hv
  ·
   have hij : i ≠ j := fun e => by subst e; rw [r.1] at hi; cases hi; exact hdt ht
   rw [hne t hdt]
   exact h.t1 t i oi hi (hd.resolve_left hij) ht (fun i' o' k1 k2 k3 => hlast i' o' k1 (.inr k2) k3) u hu
 ·
  intro t hno u hu
  rw [hne t (hno j o (.inl rfl) r.1)]
  exact h.t2 t (fun i oi k1 k2 => hno i oi (.inr k1) k2) u hu
theorem TInv.all (p : Plan E call N M L base A Anc) {done : Nat -> Prop} {s : Sg} {ct : Array Value} (h : TInv M N L A done s ct) (hall : ∀ i, i < L.length -> done i) : TRel s M (A L.length).T ct := by
 intro t v hv
 rcases p.tget t L.length (Nat.le_refl _) with ⟨i, oi, h1, h2, h3, h4, h5⟩ | ⟨h1, h2⟩
 ·
  exact h.t1 t i oi h2 (hall i h1) h3 (fun i' o' k1 _ k3 => h4 i' o' k1 (List.getElem?_eq_some_iff.1 k3).1 k3) v (by rw [<- h5]; exact hv)
 ·
  exact h.t2 t (fun i oi _ k2 => h1 i oi (List.getElem?_eq_some_iff.1 k2).1 k2) v (by rw [<- h2]; exact hv)
theorem same_looks {T : Tm} {o : Oper} : Same M T (restr M T (looksOf L o)) o.op.operands.toList := by
 refine same_restr fun t ht => ?_
 unfold looksOf
 split
 ·
  split
  ·
   exact List.mem_cons_of_mem _ ht
  ·
   exact ht
 ·
  exact ht
theorem wantedA_restr {T : Tm} {o : Oper} : wantedA M L (restr M T (looksOf L o)) o = wantedA M L T o := by
 unfold wantedA
 cases hg : o.guard with
 | none => rfl
 | some g =>
  unfold wantedG wantedGC
  cases hd : (L[g.1]?).bind (·.dst) with
  | none => simp only [hd]
  | some d =>
   have hm : d ∈ looksOf L o := by
    unfold looksOf
    rw [hg]
    obtain ⟨g1, g2⟩ := g
    have hd' : (L[g1]?).obind (·.dst) = some d := by rw [obind_eq]; exact hd
    simp only [hd']
    exact List.mem_cons_self
   simp only [hd]
   rw [restr_get, if_pos hm]
end
end Go.Ev
namespace Go.Ev
variable {P : Program} {E : Env}
theorem evAlloc_own {M : Nat} {o : Op} {T : Tm} {x : Blk} {f : Nat -> AV} (h : evAlloc M o E T = some (x, f)) : isOwn x := by
 cases o with
 | alloc t =>
  obtain ⟨z, _, he⟩ := omap_some (show (zeroT E t).omap (fun z => (Blk.cells z.cells t true true, fun b => AV.ptr b 0)) = some (x, f) from h)
  cases he; rfl
 | box t a =>
  obtain ⟨z, _, he⟩ := omap_some (show (evO M a T).omap (fun v => (Blk.cells v.cells t true true, fun b => AV.ptr b 0)) = some (x, f) from h)
  cases he; rfl
 | buildSlice t n ps =>
  replace h := show (match kindOf E t with
   | .slice e => match Nat.ble (Nat.mul n (sizeT E e)) 16777216 with
    | true => (zeroT E e).obind fun z => (fillParts M (fun i => some (Nat.mul i (sizeT E e), sizeT E e)) T ps.toList (repL n z.cells)).omap fun l => (Blk.cells l e true true, fun b => AV.slice b 0 n (.ex n))
    | false => none
   | _ => none) = some (x, f) from h
  split at h
  ·
   split at h
   ·
    obtain ⟨z, _, h⟩ := obind_some h
    obtain ⟨l, _, he⟩ := omap_some h
    cases he; rfl
   ·
    cases h
  ·
   cases h
 | makeSlice t a b =>
  replace h := show (match kindOf E t with
   | .slice e => (zeroT E e).obind fun z => (evO M a T).obind fun l => (evO M b T).obind fun c => (natOf l).obind fun l => (natOf c).obind fun c =>
    match Nat.ble l c && (Nat.ble c 1048576 && Nat.ble (bytesT E e) 1048576) with
    | true => some (Blk.cells (repL c z.cells) e true true, fun b => AV.slice b 0 l (.ex c))
    | false => none
   | _ => none) = some (x, f) from h
  split at h
  ·
   obtain ⟨z, _, h⟩ := obind_some h
   obtain ⟨la, _, h⟩ := obind_some h
   obtain ⟨cb, _, h⟩ := obind_some h
   obtain ⟨l, _, h⟩ := obind_some h
   obtain ⟨c, _, h⟩ := obind_some h
   split at h
   ·
    cases h; rfl
   ·
    cases h
  ·
   cases h
 | convert src dst a =>
  replace h := show (match kindOf E src with
   | .string => match kindOf E dst with
    | .slice e => match isByteK (kindOf E e) && Nat.beq (sizeT E e) 1 with
     | true => (evO M a T).obind fun v => (match v with
      | .str l => some (Blk.cells (l.map fun c => AV.int .u8 (.ofNat c.toNat)) e false true, fun b => AV.slice b 0 l.length (.rest 0 (sizeT E e) l.length))
      | _ => none)
     | false => none
    | _ => none
   | _ => none) = some (x, f) from h
  split at h
  ·
   split at h
   ·
    split at h
    ·
     obtain ⟨v, _, h⟩ := obind_some h
     split at h
     ·
      cases h; rfl
     ·
      cases h
    ·
     cases h
   ·
    cases h
  ·
   cases h
 | _ => cases h
theorem Ext.lay {s0 s : Sg} {H0 Z : Hp} {w0 w : World} (x : Ext s0 H0 w0 s Z w) {id ka sz : Nat} {b : Blk} {o : Obj} (hid : H0.next ≤ id) : Ext s0 H0 w0 (addB s id w.heap.size ka sz) (setBlk Z id b) (pushW w o) := by
 have hget : ∀ a, (setBlk Z id b).m.get a = if a = id then some b else Z.m.get a := fun a => Tr.get_set _ _ _ _
 refine ⟨x.nx, fun a ha => ?_, Nat.le_trans x.size (by simp [pushW]), x.os, x.tape, x.output, fun c hc hn => ?_, fun a y c ha ho hc hlt => ?_, fun a y c ha ho hc hlt => ?_, fun c q hq => ?_⟩
 ·
  have : a ≠ id := by omega
  simpa [addB, this] using x.le a ha
 ·
  rw [pushW_old w o c (Nat.lt_of_lt_of_le hc x.size)]; exact x.keep c hc hn
 ·
  rw [hget] at ha
  by_cases h : a = id
  ·
   subst h
   simp only [addB_mu, Option.some.injEq] at hc
   have := x.size
   omega
  ·
   rw [if_neg h] at ha
   exact x.img a y c ha ho (by simpa [addB, h] using hc) hlt
 ·
  rw [hget] at ha
  by_cases h : a = id
  ·
   subst h
   simp only [addB_mu, Option.some.injEq] at hc
   have := x.size
   omega
  ·
   rw [if_neg h] at ha
   exact x.imgL a y c ha ho (by simpa [addB, h] using hc) hlt
 ·
  obtain ⟨q', hq'⟩ := x.loops c q hq
  exact ⟨q', (pushW_old w o c (Array.getElem?_eq_some_iff.1 hq').1).trans hq'⟩
section
variable {call : CallF} {N M : Nat} {L : List Oper} {base : Nat} {A : Nat -> St} {Anc : Nat -> Nat -> Prop}
structure HInv (E : Env) (M : Nat) (L : List Oper) (base : Nat) (A : Nat -> St) (done : Nat -> Prop) (s0 : Sg) (H0 : Hp) (w0 : World) (s : Sg) (w : World) (q : Nat) (Z : Hp) : Prop where
 h0 : H0.next ≤ base
 qn : q ≤ L.length
 qd : ∀ e x, e < q -> L[e]? = some x -> isEff E x = true -> done e
 qu : q < L.length -> ∃ x, L[q]? = some x /\ isEff E x = true /\ ¬ done q
 rel : HRel E s Z w
 ext : Ext s0 H0 w0 s Z w
 nx : Z.next = (A q).H.next
 big : base + roomOf E L ≤ Z.next
 early : ∀ i x f, q ≤ i -> done i -> AllocAt E M L A i x f -> Z.m.get (base + i) = some x
 rest : ∀ a, (∀ i x f, q ≤ i -> done i -> AllocAt E M L A i x f -> a ≠ base + i) -> Z.m.get a = (A q).H.m.get a
 pend : ∀ i x f, ¬ done i -> AllocAt E M L A i x f -> s.mu (base + i) = none
 lies : ∀ i x f, i < q -> ¬ done i -> AllocAt E M L A i x f -> (A q).H.m.get (base + i) = some x
theorem AllocAt.lt {i : Nat} {x : Blk} {f : Nat -> AV} (h : AllocAt E M L A i x f) : i < L.length := by
 obtain ⟨o, h1, _⟩ := h
 exact (List.getElem?_eq_some_iff.1 h1).1
theorem AllocAt.notEff {i : Nat} {x : Blk} {f : Nat -> AV} (h : AllocAt E M L A i x f) {o : Oper} (ho : L[i]? = some o) : isEff E o ≠ true := by
 obtain ⟨o', h1, _, h2, _⟩ := h
 rw [ho] at h1; cases h1
 intro he
 rw [isEff_iff.1 he] at h2; cases h2
variable {done : Nat -> Prop} {s0 s : Sg} {H0 Z : Hp} {w0 w : World} {q : Nat}
theorem HInv.free (p : Plan E call N M L base A Anc) (h : HInv E M L base A done s0 H0 w0 s w q Z) {i : Nat} {x : Blk} {f : Nat -> AV} (ha : AllocAt E M L A i x f) (hq : q ≤ i) (hn : ¬ Anc q i) : (A q).H.m.get (base + i) = none := by
 have hi := ha.lt
 obtain ⟨y, hy, he, _⟩ := h.qu (by omega)
 have hne : q ≠ i := fun e => by subst e; exact ha.notEff hy he
 obtain ⟨o, h1, h2, h3, _⟩ := ha
 exact (p.al q i y o hy h1 he hne hn (fun k => by have := p.lt _ _ k; omega) h2 h3).1 (by omega)
theorem HInv.freeDone (p : Plan E call N M L base A Anc) (hc : Closed L done) (h : HInv E M L base A done s0 H0 w0 s w q Z) {i : Nat} {x : Blk} {f : Nat -> AV} (ha : AllocAt E M L A i x f) (hq : q ≤ i) (hd : done i) : (A q).H.m.get (base + i) = none := by
 refine h.free p ha hq fun k => ?_
 obtain ⟨o, h1, _⟩ := ha
 have hi := (List.getElem?_eq_some_iff.1 h1).1
 obtain ⟨_, _, _, hnd⟩ := h.qu (by omega)
 exact hnd (p.first' hc h1 hd k)
theorem HInv.sub (p : Plan E call N M L base A Anc) (hc : Closed L done) (h : HInv E M L base A done s0 H0 w0 s w q Z) : Sub (A q).H Z := by
 intro a x ha
 rw [h.rest a, ha]
 rintro i y f hq hd hal rfl
 rw [h.freeDone p hc hal hq hd] at ha; cases ha
theorem HInv.pass (h : HInv E M L base A done s0 H0 w0 s w q Z) {j : Nat} {o : Oper} (hj : L[j]? = some o) (hne : isEff E o ≠ true) (hna : ∀ x f, ¬ AllocAt E M L A j x f) {w' : World} (r : HRel E s Z w') (x : Ext s Z w s Z w') :
 HInv E M L base A (andDone done j) s0 H0 w0 s w' q Z where
 h0 := h.h0
 qn := h.qn
 qd e y h1 h2 h3 := .inr (h.qd e y h1 h2 h3)
 qu hq := by
  obtain ⟨y, h1, h2, h3⟩ := h.qu hq
  refine ⟨y, h1, h2, ?_⟩
  rintro (rfl | k)
  ·
   rw [hj] at h1; cases h1; exact hne h2
  ·
   exact h3 k
 rel := r
 ext := h.ext.trans x
 nx := h.nx
 big := h.big
 early i y f h1 h2 h3 := by
  rcases h2 with rfl | h2
  ·
   exact absurd h3 (hna y f)
  ·
   exact h.early i y f h1 h2 h3
 rest a ha := h.rest a fun i y f h1 h2 h3 => ha i y f h1 (.inr h2) h3
 pend i y f h1 h2 := h.pend i y f (fun k => h1 (.inr k)) h2
 lies i y f h1 h2 h3 := h.lies i y f h1 (fun k => h2 (.inr k)) h3
theorem HInv.alloc (p : Plan E call N M L base A Anc) (hc : Closed L done) (h : HInv E M L base A done s0 H0 w0 s w q Z) {j : Nat} {o : Oper} (r : Rdy L done j o) {x : Blk} {f : Nat -> AV} (ha : AllocAt E M L A j x f) {w1 : World} (hw1 : w1 = w ∨ w1 = drewW w) {ob : Obj} {ka sz : Nat}
 (hb : BlkOk E (addB s (base + j) w.heap.size ka sz) (base + j) w.heap.size (pushW w1 ob) x) :
 HInv E M L base A (andDone done j) s0 H0 w0 (addB s (base + j) w.heap.size ka sz) (pushW w1 ob) q (setBlk Z (base + j) x) := by
 have hh : w1.heap = w.heap := by rcases hw1 with rfl | rfl <;> rfl
 have hx1 : Ext s Z w s Z w1 := by
  rcases hw1 with rfl | rfl
  ·
   exact Ext.refl _ _ _
  ·
   exact Ext.drew _ _ _
 have hj := ha.lt
 have hmu := h.pend j x f r.2.1 ha
 have hnot : ∀ i y g, q ≤ i -> done i -> AllocAt E M L A i y g -> base + j ≠ base + i := by
  intro i y g _ hd _ e
  have : i = j := by omega
  subst this; exact r.2.1 hd
 have hZ : ∀ y, Z.m.get (base + j) = some y -> y = x := by
  intro y hy
  rw [h.rest _ hnot] at hy
  rcases Nat.lt_or_ge j q with k | k
  ·
   rw [h.lies j x f k r.2.1 ha] at hy; cases hy; rfl
  ·
   obtain ⟨_, _, _, hnd⟩ := h.qu (by omega)
   rw [h.free p ha k (fun k2 => hnd (p.first hc r k2))] at hy; cases hy
 have hlay := (h.rel.congr hh).lay (id := base + j) (ka := ka) (sz := sz) (x := x) (o := ob) hmu hZ (show base + j < Z.next by have := h.big; rw [ha.room] at this; omega) (by rw [hh]; exact hb)
 rw [hh] at hlay
 have hget : ∀ a, (setBlk Z (base + j) x).m.get a = if a = base + j then some x else Z.m.get a := fun a => Tr.get_set _ _ _ _
 have hext := (h.ext.trans hx1).lay (id := base + j) (ka := ka) (sz := sz) (b := x) (o := ob) (by have := h.h0; omega)
 rw [hh] at hext
 refine ⟨h.h0, h.qn, fun e y h1 h2 h3 => .inr (h.qd e y h1 h2 h3), fun hq => ?_, hlay, hext, h.nx, h.big, fun i y g h1 h2 h3 => ?_, fun a hna => ?_, fun i y g h1 h2 => ?_, fun i y g h1 h2 h3 => h.lies i y g h1 (fun k => h2 (.inr k)) h3⟩
 ·
  obtain ⟨y, h1, h2, h3⟩ := h.qu hq
  refine ⟨y, h1, h2, ?_⟩
  rintro (rfl | k)
  ·
   exact ha.notEff h1 h2
  ·
   exact h3 k
 ·
  rw [hget]
  by_cases hij : i = j
  ·
   subst hij; rw [if_pos rfl, (ha.uniq h3).1]
  ·
   rw [if_neg (by omega)]
   exact h.early i y g h1 (h2.resolve_left hij) h3
 ·
  rw [hget]
  by_cases haj : a = base + j
  ·
   subst haj
   rw [if_pos rfl]
   rcases Nat.lt_or_ge j q with k | k
   ·
    exact (h.lies j x f k r.2.1 ha).symm
   ·
    exact absurd rfl (hna j x f k (.inl rfl) ha)
  ·
   rw [if_neg haj]
   exact h.rest a fun i y g h1 h2 h3 => hna i y g h1 (.inr h2) h3
 ·
  have hij : i ≠ j := fun e => h1 (.inl e)
  have := h.pend i y g (fun k => h1 (.inr k)) h2
  simpa [addB, hij] using this
theorem HInv.read (p : Plan E call N M L base A Anc) (hc : Closed L done) (h : HInv E M L base A done s0 H0 w0 s w q Z) {j : Nat} {o : Oper} (r : Rdy L done j o) {v : AV} (hw : wantedA M L (A j).T o = some true) (hcl : cls o.op E = .read)
 (hv : evRead M o.op E (A j).T (A j).H = some v) (hH : (A (j + 1)).H = (A j).H) : evRead M o.op E (A j).T (A q).H = some v := by
 have hj := (List.getElem?_eq_some_iff.1 r.1).1
 have hne : isEff E o ≠ true := fun k => by rw [isEff_iff.1 k] at hcl; cases hcl
 rcases Nat.lt_or_ge j q with k | k
 ·
  have key : ∀ d, j + 1 + d ≤ q -> evRead M o.op E (A j).T (A (j + 1 + d)).H = some v := by
   intro d
   induction d with
   | zero => intro _; rw [Nat.add_zero, hH]; exact hv
   | succ d ih =>
    intro hd
    have ih := ih (by omega)
    have hlt : j + 1 + d < L.length := by have := h.qn; omega
    have hLo : L[j + 1 + d]? = some L[j + 1 + d] := List.getElem?_eq_getElem hlt
    obtain ⟨u, hwent, _⟩ := p.went (j + 1 + d) _ hLo
    rw [show j + 1 + (d + 1) = j + 1 + d + 1 by omega]
    by_cases heff : isEff E L[j + 1 + d] = true
    ·
     have hdn := h.qd (j + 1 + d) _ (by omega) hLo heff
     exact optEq_some ((p.rd (j + 1 + d) j _ o hLo r.1 heff (by omega) (fun k2 => by have := p.lt _ _ k2; omega) (fun k2 => r.2.1 (p.first' hc hLo hdn k2)) hw hcl).2 (by omega)) hv
    ·
     cases hwent with
     | idle _ hHH => rw [hHH]; exact ih
     | pure _ _ _ hHH => rw [hHH]; exact ih
     | read _ _ _ hHH => rw [hHH]; exact ih
     | eff _ hcc _ => exact absurd (isEff_iff.2 hcc) heff
     | alloc _ _ _ hfr hHH =>
      refine evRead_sub (fun a y hy => ?_) ih
      rw [hHH]
      show ((setBlk _ _ _).m.get a) = _
      rw [show (setBlk (A (j + 1 + d)).H (base + (j + 1 + d)) _).m.get a = _ from Tr.get_set _ _ _ _, if_neg, hy]
      rintro rfl
      rw [hfr] at hy; cases hy
  have := key (q - (j + 1)) (by omega)
  rw [show j + 1 + (q - (j + 1)) = q by omega] at this
  exact this
 ·
  obtain ⟨y, hy, he, hnd⟩ := h.qu (by omega)
  have hqj : q ≠ j := fun e => by subst e; rw [r.1] at hy; cases hy; exact hne he
  exact optEq_some ((p.rd q j y o hy r.1 he hqj (fun k2 => hnd (p.first hc r k2)) (fun k2 => by have := p.lt _ _ k2; omega) hw hcl).1 (by omega)) hv
end
end Go.Ev
namespace Go.Ev
variable {P : Program} {E : Env}
section
variable {call : CallF} {N M : Nat} {L : List Oper} {base : Nat} {A : Nat -> St} {Anc : Nat -> Nat -> Prop}
variable {done : Nat -> Prop} {s0 s : Sg} {H0 Z : Hp} {w0 w : World} {q : Nat}
theorem nextEff (E : Env) (L : List Oper) : ∀ (d q : Nat), q + d = L.length -> ∃ q', q ≤ q' /\ q' ≤ L.length /\ (∀ e x, q ≤ e -> e < q' -> L[e]? = some x -> isEff E x = false) /\ (q' < L.length -> ∃ x, L[q']? = some x /\ isEff E x = true)
 | 0, q, h => ⟨q, Nat.le_refl _, by omega, fun e x h1 h2 => by omega, fun k => by omega⟩
 | d + 1, q, h => by
  have hlt : q < L.length := by omega
  have hLo : L[q]? = some L[q] := List.getElem?_eq_getElem hlt
  by_cases he : isEff E L[q] = true
  ·
   exact ⟨q, Nat.le_refl _, by omega, fun e x h1 h2 => by omega, fun _ => ⟨_, hLo, he⟩⟩
  ·
   obtain ⟨q', h1, h2, h3, h4⟩ := nextEff E L d (q + 1) (by omega)
   refine ⟨q', by omega, h2, fun e x k1 k2 k3 => ?_, h4⟩
   by_cases hq : e = q
   ·
    subst hq; rw [hLo] at k3; cases k3; simpa using he
   ·
    exact h3 e x (by omega) k2 k3
theorem layEarly (done : Nat -> Prop) (H : Hp) (q : Nat) : ∀ m, ∃ Z : Hp, Z.next = H.next /\ (∀ i x f, q ≤ i -> i < m -> done i -> AllocAt E M L A i x f -> Z.m.get (base + i) = some x) /\
 (∀ a, (∀ i x f, q ≤ i -> i < m -> done i -> AllocAt E M L A i x f -> a ≠ base + i) -> Z.m.get a = H.m.get a)
 | 0 => ⟨H, rfl, fun i x f h1 h2 => by omega, fun a _ => rfl⟩
 | m + 1 => by
  obtain ⟨Z, h1, h2, h3⟩ := layEarly done H q m
  by_cases hm : q ≤ m /\ done m /\ ∃ x f, AllocAt E M L A m x f
  ·
   obtain ⟨k1, k2, x, f, k3⟩ := hm
   have hget : ∀ a, (setBlk Z (base + m) x).m.get a = if a = base + m then some x else Z.m.get a := fun a => Tr.get_set _ _ _ _
   refine ⟨setBlk Z (base + m) x, h1, fun i y g j1 j2 j3 j4 => ?_, fun a ha => ?_⟩
   ·
    rw [hget]
    by_cases hi : i = m
    ·
     subst hi; rw [if_pos rfl, (k3.uniq j4).1]
    ·
     rw [if_neg (by omega)]; exact h2 i y g j1 (by omega) j3 j4
   ·
    rw [hget, if_neg (ha m x f k1 (by omega) k2 k3)]
    exact h3 a fun i y g j1 j2 j3 j4 => ha i y g j1 (by omega) j3 j4
  ·
   refine ⟨Z, h1, fun i y g j1 j2 j3 j4 => ?_, fun a ha => h3 a fun i y g j1 j2 j3 j4 => ha i y g j1 (by omega) j3 j4⟩
   rcases Nat.lt_or_ge i m with k | k
   ·
    exact h2 i y g j1 k j3 j4
   ·
    have : i = m := by omega
    subst this
    exact absurd ⟨j1, j3, y, g, j4⟩ hm
theorem HInv.isNext (p : Plan E call N M L base A Anc) (hc : Closed L done) (h : HInv E M L base A done s0 H0 w0 s w q Z) {j : Nat} {o : Oper} (r : Rdy L done j o) (he : isEff E o = true) : j = q := by
 have hj := (List.getElem?_eq_some_iff.1 r.1).1
 rcases Nat.lt_trichotomy j q with k | k | k
 ·
  exact absurd (h.qd j o k r.1 he) r.2.1
 ·
  exact k
 ·
  obtain ⟨y, hy, hey, hnd⟩ := h.qu (by omega)
  exact absurd (p.first hc r (p.ord q j y o k hy r.1 (.inr ⟨hey, he⟩))) hnd
theorem HInv.eff (p : Plan E call N M L base A Anc) (hc : Closed L done) (h : HInv E M L base A done s0 H0 w0 s w q Z) {o : Oper} (r : Rdy L done q o) (he : isEff E o = true) {s' : Sg} {w' : World}
 (r' : HRel E s' (A (q + 1)).H w') (x' : Ext s (A q).H w s' (A (q + 1)).H w') :
 ∃ q' Z', HInv E M L base A (andDone done q) s0 H0 w0 s' w' q' Z' := by
 have hq := (List.getElem?_eq_some_iff.1 r.1).1
 have hsub := h.sub p hc
 have hle : s.Le s' := x'.sg (h.rel.sub hsub h.nx.symm)
 obtain ⟨q', hq1, hq2, hne, hq3⟩ := nextEff E L (L.length - (q + 1)) (q + 1) (by omega)
 obtain ⟨Z', hZn, hZe, hZr⟩ := layEarly (E := E) (M := M) (L := L) (base := base) (A := A) done (A q').H q' L.length
 obtain ⟨st1, st2, st3, _⟩ := p.still (q + 1) (q' - (q + 1)) (by omega) (fun e x k1 k2 => hne e x k1 (by omega))
 rw [show q + 1 + (q' - (q + 1)) = q' by omega] at st1 st2 st3
 have hnot : ∀ x f, ¬ AllocAt E M L A q x f := fun x f k => k.notEff r.1 he
 have hmu : ∀ i, i < roomOf E L -> s'.mu (base + i) = s.mu (base + i) := fun i hi => (x'.le _ (by rw [<- h.nx]; have := h.big; omega)).1
 have cls' : ∀ a y, Z'.m.get a = some y -> (∃ i f, q < i /\ done i /\ AllocAt E M L A i y f /\ a = base + i) ∨ (s'.mu a = none /\ a < base + roomOf E L) ∨ (A (q + 1)).H.m.get a = some y := by
  intro a y hy
  by_cases h1 : ∃ i x f, q' ≤ i /\ done i /\ AllocAt E M L A i x f /\ a = base + i
  ·
   obtain ⟨i, x, f, k1, k2, k3, rfl⟩ := h1
   rw [hZe i x f k1 k3.lt k2 k3] at hy
   cases hy
   exact .inl ⟨i, f, by omega, k2, k3, rfl⟩
  ·
   have hy' : (A q').H.m.get a = some y := by
    rw [<- hZr a fun i x f k1 _ k2 k3 k4 => h1 ⟨i, x, f, k1, k2, k3, k4⟩]; exact hy
   by_cases h2 : ∃ i x f, q + 1 ≤ i /\ i < q' /\ AllocAt E M L A i x f /\ a = base + i
   ·
    obtain ⟨i, x, f, k1, k2, k3, rfl⟩ := h2
    rw [st2 i x f k1 (by omega) k3] at hy'
    cases hy'
    by_cases hd : done i
    ·
     exact .inl ⟨i, f, by omega, hd, k3, rfl⟩
    ·
     exact .inr (.inl ⟨by rw [hmu i k3.ltr]; exact h.pend i y f hd k3, by have := k3.ltr; omega⟩)
   ·
    rw [st3 a fun i x f k1 k2 k3 k4 => h2 ⟨i, x, f, k1, by omega, k3, k4⟩] at hy'
    exact .inr (.inr hy')
 have earlyZ : ∀ i y f, q < i -> done i -> AllocAt E M L A i y f -> Z.m.get (base + i) = some y := fun i y f k1 k2 k3 => h.early i y f (by omega) k2 k3
 have own : ∀ i y f, AllocAt E M L A i y f -> isOwn y := fun i y f k => by
  obtain ⟨_, _, _, _, k4⟩ := k
  exact evAlloc_own k4
 have noImg : ∀ i y f c, q < i -> done i -> AllocAt E M L A i y f -> s.mu (base + i) = some c -> ∀ a0 x0, (A q).H.m.get a0 = some x0 -> isLive x0 -> s.mu a0 ≠ some c := by
  intro i y f c k1 k2 k3 k4 a0 x0 g1 g2 g3
  have := h.rel.inj (base + i) y a0 x0 c (earlyZ i y f k1 k2 k3) (own i y f k3) (hsub a0 x0 g1) g2 k4 g3
  subst this
  rw [h.freeDone p hc k3 (by omega) k2] at g1; cases g1
 have rel' : HRel E s' Z' w' := by
  refine ⟨fun a y c ha hcm => ?_, fun a y a' y' c ha ho ha' ho' hcm hcm' => ?_, r'.lt, fun a ha => ?_⟩
  ·
   rcases cls' a y ha with ⟨i, f, k1, k2, k3, rfl⟩ | ⟨k, _⟩ | k
   ·
    have hcs := hcm
    rw [hmu i k3.ltr] at hcs
    have hlt := h.rel.lt _ _ hcs
    have hkeep := x'.keep c hlt fun a0 x0 g1 g2 => noImg i y f c k1 k2 k3 hcs a0 x0 g1 (isLive_of_own g2)
    obtain ⟨_, e1, e2⟩ := x'.le (base + i) (by rw [<- h.nx]; have := h.big; have := k3.ltr; omega)
    have hb := h.rel.blk _ _ _ (earlyZ i y f k1 k2 k3) hcs
    cases y with
    | cells l e ex wr =>
     obtain ⟨arr, fz, g1, g2, g3, g4, g5, g6, g7⟩ := hb
     exact ⟨arr, fz, hkeep.trans g1, g2.mono hle, g3, g4, g5, by rw [e1, e2]; exact g6, g7⟩
    | loop =>
     obtain ⟨ct, D, g1, g2, g3⟩ := hb
     exact ⟨ct, D, hkeep.trans g1, g2.mono hle, g3⟩
    | dead => trivial
   ·
    rw [k] at hcm; cases hcm
   ·
    exact r'.blk a y c k hcm
  ·
   rcases cls' a y ha with ⟨i, f, k1, k2, k3, rfl⟩ | ⟨k, _⟩ | k
   ·
    have hcs := hcm
    rw [hmu i k3.ltr] at hcs
    rcases cls' a' y' ha' with ⟨i', f', j1, j2, j3, rfl⟩ | ⟨j, _⟩ | j
    ·
     have hcs' := hcm'
     rw [hmu i' j3.ltr] at hcs'
     exact h.rel.inj _ _ _ _ c (earlyZ i y f k1 k2 k3) ho (earlyZ i' y' f' j1 j2 j3) ho' hcs hcs'
    ·
     rw [j] at hcm'; cases hcm'
    ·
     obtain ⟨a0, x0, g1, g2, g3⟩ := x'.imgL a' y' c j ho' hcm' (h.rel.lt _ _ hcs)
     exact absurd g3 (noImg i y f c k1 k2 k3 hcs a0 x0 g1 g2)
   ·
    rw [k] at hcm; cases hcm
   ·
    rcases cls' a' y' ha' with ⟨i', f', j1, j2, j3, rfl⟩ | ⟨j, _⟩ | j
    ·
     have hcs' := hcm'
     rw [hmu i' j3.ltr] at hcs'
     obtain ⟨a0, x0, g1, g2, g3⟩ := x'.img a y c k ho hcm (h.rel.lt _ _ hcs')
     exact absurd g3 (noImg i' y' f' c j1 j2 j3 hcs' a0 x0 g1 (isLive_of_own g2))
    ·
     rw [j] at hcm'; cases hcm'
    ·
     exact r'.inj a y a' y' c k ho j ho' hcm hcm'
  ·
   rw [hZn, st1] at ha
   refine ⟨(r'.fr a ha).1, ?_⟩
   have hbig : base + roomOf E L ≤ (A (q + 1)).H.next := Nat.le_trans h.big (by rw [h.nx]; exact x'.nx)
   cases hz : Z'.m.get a with
   | none => rfl
   | some y =>
    rcases cls' a y hz with ⟨i, f, k1, k2, k3, rfl⟩ | ⟨_, k⟩ | k
    ·
     have := k3.ltr; omega
    ·
     omega
    ·
     rw [(r'.fr a ha).2] at k; cases k
 have ext' : Ext s Z w s' Z' w' := by
  refine ⟨by rw [hZn, st1, h.nx]; exact x'.nx, fun a ha => x'.le a (by rw [<- h.nx]; exact ha), x'.size, x'.os, x'.tape, x'.output, fun c hc' hn => x'.keep c hc' fun a y g1 g2 => hn a y (hsub a y g1) g2, fun a y c ha ho hcm hlt => ?_, fun a y c ha ho hcm hlt => ?_, x'.loops⟩
  ·
   rcases cls' a y ha with ⟨i, f, k1, k2, k3, rfl⟩ | ⟨k, _⟩ | k
   ·
    exact ⟨_, y, earlyZ i y f k1 k2 k3, ho, by rw [<- hmu i k3.ltr]; exact hcm⟩
   ·
    rw [k] at hcm; cases hcm
   ·
    obtain ⟨a0, x0, g1, g2, g3⟩ := x'.img a y c k ho hcm hlt
    exact ⟨a0, x0, hsub a0 x0 g1, g2, g3⟩
  ·
   rcases cls' a y ha with ⟨i, f, k1, k2, k3, rfl⟩ | ⟨k, _⟩ | k
   ·
    exact ⟨_, y, earlyZ i y f k1 k2 k3, ho, by rw [<- hmu i k3.ltr]; exact hcm⟩
   ·
    rw [k] at hcm; cases hcm
   ·
    obtain ⟨a0, x0, g1, g2, g3⟩ := x'.imgL a y c k ho hcm hlt
    exact ⟨a0, x0, hsub a0 x0 g1, g2, g3⟩
 refine ⟨q', Z', h.h0, hq2, fun e y h1 h2 h3 => ?_, fun hlt => ?_, rel', h.ext.trans ext', hZn, ?_, fun i y f h1 h2 h3 => ?_, fun a ha => ?_, fun i y f h1 h2 => ?_, fun i y f h1 h2 h3 => ?_⟩
 ·
  rcases Nat.lt_trichotomy e q with k | k | k
  ·
   exact .inr (h.qd e y k h2 h3)
  ·
   exact .inl k
  ·
   rw [hne e y (by omega) h1 h2] at h3; cases h3
 ·
  obtain ⟨y, g1, g2⟩ := hq3 hlt
  refine ⟨y, g1, g2, ?_⟩
  rintro (k | k)
  ·
   omega
  ·
   exact r.2.1 (p.first' hc g1 k (p.ord q q' o y (by omega) r.1 g1 (.inr ⟨he, g2⟩)))
 ·
  rw [hZn, st1]; exact Nat.le_trans h.big (by rw [h.nx]; exact x'.nx)
 ·
  rcases h2 with rfl | h2
  ·
   omega
  ·
   exact hZe i y f h1 h3.lt h2 h3
 ·
  exact hZr a fun i y f k1 _ k2 k3 => ha i y f k1 (.inr k2) k3
 ·
  rw [hmu i h2.ltr]
  exact h.pend i y f (fun k => h1 (.inr k)) h2
 ·
  have hnd : ¬ done i := fun k => h2 (.inr k)
  rcases Nat.lt_trichotomy i q with k | k | k
  ·
   rw [st3 _ fun i' y' f' k1 _ _ => by omega]
   have hal := h3
   obtain ⟨oi, g1, g2, g3, _⟩ := hal
   exact blkSame_some ((p.al q i o oi r.1 g1 he (by omega) (fun k2 => by have := p.lt _ _ k2; omega) (fun k2 => hnd (p.first hc r k2)) g2 g3).2 k) (h.lies i y f k hnd h3)
  ·
   subst k; exact absurd h3 (hnot y f)
  ·
   exact st2 i y f (by omega) (by omega) h3
end
end Go.Ev
namespace Go.Ev
variable {P : Program} {E : Env}
section
variable {call : CallF} {N M : Nat} {ops : Array Oper} {base : Nat} {A : Nat -> St} {Anc : Nat -> Nat -> Prop}
variable {done : Nat -> Prop} {s0 s : Sg} {H0 Z : Hp} {w0 w : World} {q : Nat} {ct : Array Value}
theorem draw_step (hE : EnvTy E P) (hcall : CallOk P E call) (p : Plan E call N M ops.toList base A Anc) (hc : Closed ops.toList done) (ht : TInv M N ops.toList A done s ct) (h : HInv E M ops.toList base A done s0 H0 w0 s w q Z)
 {j : Nat} {o : Oper} (r : Rdy ops.toList done j o) {b : Frame} (hb : b.mode = .run) (D : List Deferred) (k : List Item) (cs : List Frame) (rest : List Nat) :
 ∃ s' w' ct' q' Z', Steps P (lone (fAt b ct D (.inRegion ops (j :: rest) :: k)) cs w) (lone (fAt b ct' D (.inRegion ops rest :: k)) cs w') /\
  TInv M N ops.toList A (andDone done j) s' ct' /\ HInv E M ops.toList base A (andDone done j) s0 H0 w0 s' w' q' Z' := by
 obtain ⟨v, hwent, hp⟩ := p.went j o r.1
 have ho : ops[j]? = some o := by rw [<- Array.getElem?_toList]; exact r.1
 have hTr := ht.restr p hc r
 have hsame := same_looks (L := ops.toList) (M := M) (T := (A j).T) (o := o)
 have hwr : ∀ bb, wantedA M ops.toList (A j).T o = some bb -> Region.wanted o (yielded ops ct) = bb := fun bb hw => wantedA_ok hTr (by rw [wantedA_restr]; exact hw)
 have notAlloc : cls o.op E ≠ .alloc -> ∀ x f, ¬ AllocAt E M ops.toList A j x f := fun hn x f ⟨o', k1, _, k2, _⟩ => by
  rw [r.1] at k1; cases k1; exact hn k2
 cases hwent with
 | idle hw hH =>
  have hst := st_unwanted (P := P) (b := b) (ct := ct) (D := D) (k := k) (cs := cs) (w := w) (rest := rest) hb ho (hwr false hw)
  have hna : ∀ x f, ¬ AllocAt E M ops.toList A j x f := fun x f ⟨o', k1, k2, _⟩ => by
   rw [r.1] at k1; cases k1; rw [hw] at k2; cases k2
  by_cases he : isEff E o = true
  ·
   have hjq := h.isNext p hc r he
   subst hjq
   obtain ⟨q', Z', h'⟩ := h.eff p hc r he (s' := s) (w' := w) (by rw [hH]; exact h.rel.sub (h.sub p hc) h.nx.symm) (by rw [hH]; exact Ext.refl _ _ _)
   exact ⟨s, w, _, q', Z', .one hst, ht.put p hc r hp (undef_conc s), h'⟩
  ·
   exact ⟨s, w, _, q, Z, .one hst, ht.put p hc r hp (undef_conc s), h.pass r.1 he hna h.rel (Ext.refl _ _ _)⟩
 | pure hw hcl hv hH =>
  rw [evPure_same hsame] at hv
  obtain ⟨c, hcv, hrun⟩ := evPure_ok (P := P) hE hTr hv hcl w
  have hdo := Doing.of_leaves (x := ⟨b, D, k, cs, ops, j, rest⟩) ⟨hb, ho, hwr true hw⟩ hrun (.inl rfl) (fun x hx => by rw [hx] at hv; cases hv)
  exact ⟨s, w, _, q, Z, hdo, ht.put p hc r hp hcv, h.pass r.1 (fun k => by rw [isEff_iff.1 k] at hcl; cases hcl) (notAlloc (by rw [hcl]; simp)) h.rel (Ext.refl _ _ _)⟩
 | read hw hcl hv hH =>
  have hvq := h.read p hc r hw hcl hv hH
  have hvZ := evRead_sub (h.sub p hc) hvq
  rw [evRead_same hsame] at hvZ
  obtain ⟨w', c, hrun, hcv, r', x'⟩ := evRead_ok hE h.rel hTr hvZ
  have hdo := Doing.of_leaves (x := ⟨b, D, k, cs, ops, j, rest⟩) ⟨hb, ho, hwr true hw⟩ hrun (.inl rfl) (fun x hx => by rw [hx] at hvZ; cases hvZ)
  exact ⟨s, w', _, q, Z, hdo, ht.put p hc r hp hcv, h.pass r.1 (fun k => by rw [isEff_iff.1 k] at hcl; cases hcl) (notAlloc (by rw [hcl]; simp)) r' x'⟩
 | @alloc x f hw hcl hv hfree hH =>
  have hal : AllocAt E M ops.toList A j x f := ⟨o, r.1, hw, hcl, hv⟩
  rw [evAlloc_same hsame] at hv
  obtain ⟨ka, sz, obj, w1, c, hw1, hrun, hmk⟩ := evAlloc_ok (P := P) hE (w := w) hTr hv
  have hmu := h.pend j x f r.2.1 hal
  have hh : w1.heap = w.heap := by rcases hw1 with rfl | rfl <;> rfl
  obtain ⟨hcv, hbk⟩ := hmk s (Sg.Le.refl s) (base + j) (pushW w1 obj) (by rw [<- hh]; exact pushW_new w1 obj) hmu
  have hdo := Doing.of_leaves (x := ⟨b, D, k, cs, ops, j, rest⟩) ⟨hb, ho, hwr true hw⟩ hrun (.inl rfl) (fun y hy => by rw [hy] at hv; cases hv)
  exact ⟨_, _, _, q, _, hdo, (ht.mono (addB_le hmu)).put p hc r hp hcv, h.alloc p hc r hal hw1 hbk⟩
 | eff hw hcl hv =>
  have he : isEff E o = true := isEff_iff.2 hcl
  have hjq := h.isNext p hc r he
  subst hjq
  rw [evEff_same hsame] at hv
  have r0 := h.rel.sub (h.sub p hc) h.nx.symm
  obtain ⟨s', w', c, hdo, hcv, r', x'⟩ := evEff_ok hE hcall r0 hTr (x := ⟨b, D, k, cs, ops, j, rest⟩) ⟨hb, ho, hwr true hw⟩ hv
  obtain ⟨q', Z', h'⟩ := h.eff p hc r he r' x'
  exact ⟨s', w', _, q', Z', hdo, (ht.mono (x'.sg r0)).put p hc r hp hcv, h'⟩
/-! The listing. -/
def left (listed : Array Bool) : Nat -> Nat
 | 0 => 0
 | n + 1 => left listed n + (if listed.getD n true then 0 else 1)
theorem left_le (listed : Array Bool) : ∀ n, left listed n ≤ n
 | 0 => Nat.le_refl _
 | n + 1 => by
  have := left_le listed n
  unfold left
  split <;> omega
theorem left_zero {listed : Array Bool} : ∀ {n : Nat}, left listed n = 0 -> ∀ i, i < n -> listed.getD i true = true
 | 0, _, i, h => by omega
 | n + 1, h, i, hi => by
  unfold left at h
  by_cases hl : listed.getD n true = true
  ·
   rw [if_pos hl] at h
   by_cases hin : i = n
   ·
    subst hin; exact hl
   ·
    exact left_zero (n := n) (by omega) i (by omega)
  ·
   rw [if_neg hl] at h; omega
theorem left_same {listed : Array Bool} {i : Nat} : ∀ {n : Nat}, n ≤ i -> left (listed.setIfInBounds i true) n = left listed n
 | 0, _ => rfl
 | n + 1, h => by
  unfold left
  rw [left_same (n := n) (by omega), getD_set_ne true (by omega)]
theorem left_set {listed : Array Bool} {i : Nat} (hi : listed.getD i true = false) : ∀ {n : Nat}, i < n -> left (listed.setIfInBounds i true) n + 1 = left listed n
 | 0, h => by omega
 | n + 1, h => by
  unfold left
  by_cases hin : i = n
  ·
   subst hin
   have hlt : i < listed.size := by
    rcases Nat.lt_or_ge i listed.size with k | k
    ·
     exact k
    ·
     simp [Array.getElem?_eq_none k] at hi
   have h1 : (listed.setIfInBounds i true).getD i true = true := by simp [hlt]
   rw [left_same (Nat.le_refl _), if_pos h1, if_neg (by rw [hi]; simp)]
  ·
   rw [getD_set_ne true hin]
   have := left_set hi (n := n) (by omega)
   omega
theorem tight_binds (e : Edge) : Region.binds .any e = tight e := by
 unfold Region.binds tight
 cases e.ground <;> rfl
end
end Go.Ev
namespace Go.Ev
variable {P : Program} {E : Env}
theorem Ext.subH {s0 s : Sg} {H0 H Z : Hp} {w0 w : World} (x : Ext s0 H0 w0 s Z w) (h : Sub H Z) (hn : H.next = Z.next) : Ext s0 H0 w0 s H w where
 nx := by rw [hn]; exact x.nx
 le := x.le
 size := x.size
 os := x.os
 tape := x.tape
 output := x.output
 keep := x.keep
 img a y c ha ho hc hlt := x.img a y c (h a y ha) ho hc hlt
 imgL a y c ha ho hc hlt := x.imgL a y c (h a y ha) ho hc hlt
 loops := x.loops
def dn (listed : Array Bool) : Nat -> Prop := fun i => listed.getD i false = true
theorem dn_set {listed : Array Bool} {j : Nat} (hj : j < listed.size) : andDone (dn listed) j = dn (listed.setIfInBounds j true) := by
 funext i
 apply propext
 unfold andDone dn
 by_cases hi : i = j
 ·
  subst hi; simp [hj]
 ·
  simp [hi, Array.getElem?_setIfInBounds_ne (Ne.symm hi)]
theorem getD_tf {listed : Array Bool} {i : Nat} (h : i < listed.size) : listed.getD i true = listed.getD i false := by simp [h]
section
variable {call : CallF} {N M : Nat} {ops : Array Oper} {base : Nat} {A : Nat -> St} {Anc : Nat -> Nat -> Prop}
variable {s0 : Sg} {H0 : Hp} {w0 : World}
theorem draw_list (hE : EnvTy E P) (hcall : CallOk P E call) (p : Plan E call N M ops.toList base A Anc) {b : Frame} (hb : b.mode = .run) (D : List Deferred) (k : List Item) (cs : List Frame) :
 ∀ (fuel t : Nat) (listed : Array Bool) (s : Sg) (w : World) (ct : Array Value) (q : Nat) (Z : Hp), listed.size = ops.size -> Closed ops.toList (dn listed) -> TInv M N ops.toList A (dn listed) s ct -> HInv E M ops.toList base A (dn listed) s0 H0 w0 s w q Z ->
  left listed ops.size ≤ fuel ->
  ∃ s' w' ct', Steps P (lone (fAt b ct D (.inRegion ops (Region.linearise.go .any ops fuel t listed []) :: k)) cs w) (lone (fAt b ct' D k) cs w') /\ HRel E s' (A ops.toList.length).H w' /\ Ext s0 H0 w0 s' (A ops.toList.length).H w' /\
   TRel s' M (A ops.toList.length).T ct' /\ ct'.size = N := by
 have hend : ∀ (listed : Array Bool) (s : Sg) (w : World) (ct : Array Value) (q : Nat) (Z : Hp), listed.size = ops.size -> Closed ops.toList (dn listed) -> TInv M N ops.toList A (dn listed) s ct -> HInv E M ops.toList base A (dn listed) s0 H0 w0 s w q Z ->
  left listed ops.size = 0 -> ∃ s' w' ct', Steps P (lone (fAt b ct D (.inRegion ops [] :: k)) cs w) (lone (fAt b ct' D k) cs w') /\ HRel E s' (A ops.toList.length).H w' /\ Ext s0 H0 w0 s' (A ops.toList.length).H w' /\
   TRel s' M (A ops.toList.length).T ct' /\ ct'.size = N := by
  intro listed s w ct q Z hsz hc ht h h0
  have hall : ∀ i, i < ops.toList.length -> dn listed i := fun i hi => by
   have hi' : i < ops.size := by simpa using hi
   have := left_zero h0 i hi'
   rw [getD_tf (by omega)] at this
   exact this
  have hq : q = ops.toList.length := by
   rcases Nat.lt_or_ge q ops.toList.length with k | k
   ·
    obtain ⟨_, _, _, hn⟩ := h.qu k
    exact absurd (hall q k) hn
   ·
    have := h.qn; omega
  subst hq
  have hsub := h.sub p hc
  exact ⟨s, w, ct, .one (st_regionEnd hb), h.rel.sub hsub h.nx.symm, h.ext.subH hsub h.nx.symm, ht.all p hall, ht.size⟩
 intro fuel
 induction fuel with
 | zero =>
  intro t listed s w ct q Z hsz hc ht h hl
  exact hend listed s w ct q Z hsz hc ht h (by omega)
 | succ fuel ih =>
  intro t listed s w ct q Z hsz hc ht h hl
  simp only [Region.linearise.go]
  change ∃ s' w' ct', Steps P (lone (fAt b ct D (.inRegion ops (match (Region.ready .any ops listed)[t % (Region.ready .any ops listed).length]? with
   | some i => Region.linearise.go .any ops fuel (t / (Region.ready .any ops listed).length) (listed.setIfInBounds i true) [i]
   | none => [].reverse) :: k)) cs w) _ /\ _
  cases hi : (Region.ready .any ops listed)[t % (Region.ready .any ops listed).length]? with
  | none =>
   have hnil : Region.ready .any ops listed = [] := by
    cases hr : Region.ready .any ops listed with
    | nil => rfl
    | cons x xs =>
     rw [hr] at hi
     have hlt : t % (x :: xs).length < (x :: xs).length := Nat.mod_lt _ (by simp)
     simp at hi
     simp at hlt
     omega
   refine hend listed s w ct q Z hsz hc ht h ?_
   have hall : ∀ i, i < ops.size -> listed.getD i true = true := by
    intro i
    induction i using Nat.strongRecOn with
    | _ i hrec =>
     intro hlt
     cases hg : listed.getD i true with
     | true => rfl
     | false =>
      have hmem : i ∈ Region.ready .any ops listed := by
       rw [mem_ready]
       refine ⟨hg, ops[i], Array.getElem?_eq_getElem hlt, fun e he hbd => ?_⟩
       rw [tight_binds] at hbd
       have hlt' := p.edge i ops[i] e (by rw [Array.getElem?_toList]; exact Array.getElem?_eq_getElem hlt) (Array.mem_toList_iff.2 he) hbd
       have := hrec e.on hlt' (by omega)
       rw [getD_tf (by omega)] at this
       exact this
      rw [hnil] at hmem; cases hmem
   have hz : ∀ n, n ≤ ops.size -> left listed n = 0 := by
    intro n
    induction n with
    | zero => intro _; rfl
    | succ n ihn =>
     intro hn
     unfold left
     rw [ihn (by omega), if_pos (hall n (by omega))]
   exact hz _ (Nat.le_refl _)
  | some i =>
   simp only []
   rw [linearise_go_acc, List.reverse_singleton, List.singleton_append]
   obtain ⟨hun, o, ho, hed⟩ := mem_ready.1 (List.mem_of_getElem? hi)
   have hlt : i < ops.size := (Array.getElem?_eq_some_iff.1 ho).1
   have hr : Rdy ops.toList (dn listed) i o := by
    refine ⟨by rw [Array.getElem?_toList]; exact ho, fun hd => ?_, fun e he htt => hed e (Array.mem_toList_iff.1 he) (by rw [tight_binds]; exact htt)⟩
    rw [getD_tf (by omega)] at hun
    unfold dn at hd
    rw [hun] at hd; cases hd
   obtain ⟨s1, w1, ct1, q1, Z1, hst, ht1, h1⟩ := draw_step hE hcall p hc ht h hr hb D k cs (Region.linearise.go .any ops fuel (t / (Region.ready .any ops listed).length) (listed.setIfInBounds i true) [])
   rw [dn_set (by omega)] at ht1 h1
   have hc1 := hc.and hr
   rw [dn_set (by omega)] at hc1
   have hleft := left_set hun (n := ops.size) hlt
   obtain ⟨s2, w2, ct2, hst2, r2, x2, T2, N2⟩ := ih (t / (Region.ready .any ops listed).length) (listed.setIfInBounds i true) s1 w1 ct1 q1 Z1 (by simpa using hsz) hc1 ht1 h1 (by omega)
   exact ⟨s2, w2, ct2, Steps.trans hst hst2, r2, x2, T2, N2⟩
end
end Go.Ev
namespace Go.Ev
variable {P : Program} {E : Env}
theorem plan_of {call : CallF} {N M : Nat} {L : List Oper} {S : St} {tr : List St} (hS : okS E L = true) (ht : trace E call N M L L S.H.next ⟨S.T, ⟨S.H.m, S.H.next + roomOf E L, S.H.log⟩⟩ = some tr) (hD : okD E M L S.H.next tr = true) :
 Plan E call N M L S.H.next (fun j => (tr[j]?).getD S) (fun i j => bitAt (ancL L []) j i = true) /\ (tr[0]?).getD S = ⟨S.T, ⟨S.H.m, S.H.next + roomOf E L, S.H.log⟩⟩ /\ lastS tr S = (tr[L.length]?).getD S := by
 obtain ⟨hlen, hz, ⟨z, hl1, hl2⟩, hw⟩ := trace_ok L _ _ tr S ht
 have hS' := fun j y (hy : L[j]? = some y) => allI_iff (show allI _ 0 L = true from hS) j y hy
 have edge : ∀ j o e, L[j]? = some o -> e ∈ o.after.toList -> tight e = true -> e.on < j := by
  intro j o e ho he htt
  obtain ⟨h1, _⟩ := and_true' (hS' j o ho)
  obtain ⟨h1, _⟩ := and_true' h1
  have h2 := List.all_eq_true.1 h1 e he
  unfold plainEdge at h2
  rw [htt] at h2
  have := (blt_iff _ _).1 h2
  omega
 have anc : ∀ i j o, L[j]? = some o -> bitAt (ancL L []) j i = true -> ∃ e, e ∈ o.after.toList /\ tight e = true /\ (i = e.on ∨ bitAt (ancL L []) e.on i = true) := by
  intro i j o ho hb
  have h1 := ancL_get L [] j o ho
  simp only [List.length_nil, Nat.zero_add] at h1
  unfold bitAt at hb
  rw [h1] at hb
  obtain ⟨e, he, htt, hor⟩ := ancStep_bit hb
  refine ⟨e, he, htt, hor.imp id fun k => ?_⟩
  have hlt := edge j o e ho he htt
  unfold bitAt
  rw [List.getElem?_take, if_pos hlt] at k
  exact k
 have inL : ∀ i j, bitAt (ancL L []) j i = true -> j < L.length := by
  intro i j hb
  rcases Nat.lt_or_ge j L.length with k | k
  ·
   exact k
  ·
   obtain ⟨r, h1, h2⟩ := ancL_pre L []
   have : (ancL L []).length = L.length := by rw [h1]; simpa using h2
   unfold bitAt at hb
   rw [List.getElem?_eq_none (by omega)] at hb
   simp at hb
 refine ⟨⟨?_, edge, ?_, ?_, ?_, ?_, ?_⟩, by rw [hz]; rfl, by rw [hl1, hl2]; rfl⟩
 ·
  intro j o ho
  obtain ⟨A, B, v, ha, hb, h1, h2⟩ := hw j o ho
  refine ⟨v, ?_, ?_⟩
  ·
   show Went E call M L _ o ((tr[j]?).getD S) ((tr[j + 1]?).getD S) v
   rw [ha, hb]; exact h1
  ·
   show putT N M ((tr[j]?).getD S).T o.dst v = some ((tr[j + 1]?).getD S).T
   rw [ha, hb]; exact h2
 ·
  intro done hcl j
  induction j using Nat.strongRecOn with
  | _ j ih =>
   intro o ho hed i hb
   obtain ⟨e, he, htt, hor⟩ := anc i j o ho hb
   rcases hor with rfl | hor
   ·
    exact hed e he htt
   ·
    have hlt := edge j o e ho he htt
    have hlt2 := inL i e.on hor
    exact ih e.on hlt L[e.on] (List.getElem?_eq_getElem hlt2) (fun e' he' ht' => hcl e.on _ e' (hed e he htt) (List.getElem?_eq_getElem hlt2) he' ht') i hor
 ·
  intro i j
  induction j using Nat.strongRecOn with
  | _ j ih =>
   intro hb
   have hlt := inL i j hb
   have ho : L[j]? = some L[j] := List.getElem?_eq_getElem hlt
   obtain ⟨e, he, htt, hor⟩ := anc i j _ ho hb
   have hej := edge j _ e ho he htt
   rcases hor with rfl | hor
   ·
    exact hej
   ·
    exact Nat.lt_trans (ih e.on hej hor) hej
 ·
  intro i j x y hij hx hy hor
  obtain ⟨_, h1⟩ := and_true' (hS' j y hy)
  have h2 := allI_iff h1 i x hx
  simp only [Nat.zero_add] at h2
  have hb : Nat.blt i j = true := (blt_iff _ _).2 hij
  rw [hb] at h2
  have hcl : (clash L x y || (isEff E x && isEff E y)) = true := by
   rcases hor with k | ⟨k1, k2⟩
   ·
    rw [k]; rfl
   ·
    rw [k1, k2]; simp
  rw [hcl] at h2
  exact h2
 all_goals
  intro e j x y hx hy hex hne hn1 hn2 hwn hcl
  have h1 := allI_iff (show allI _ 0 L = true from hD) e x hx
  simp only [Nat.zero_add] at h1
  rw [hex] at h1
  have h2 := allI_iff h1 j y hy
  simp only [Nat.zero_add] at h2
  have hb : (Nat.beq e j || (bitAt (ancL L []) j e || bitAt (ancL L []) e j)) = false := by
   have a1 : Nat.beq e j = false := by
    cases hbb : Nat.beq e j with
    | false => rfl
    | true => exact absurd (Nat.eq_of_beq_eq_true hbb) hne
   have a2 : bitAt (ancL L []) j e = false := by simpa using hn1
   have a3 : bitAt (ancL L []) e j = false := by simpa using hn2
   rw [a1, a2, a3]; rfl
  rw [hb] at h2
  obtain ⟨Aj, Bj, vj, ha, _, _, _⟩ := hw j y hy
  obtain ⟨Ae, Be, ve, hae, hbe, _, _⟩ := hw e x hx
  have h2 := show okPair E M L S.H.next tr e j y = true from h2
  unfold okPair at h2
  rw [hcl, ha, hae, hbe] at h2
  simp only at h2 hwn
  rw [ha] at hwn
  have hwn : wantedA M L Aj.T y = some true := hwn
  rw [hwn] at h2
  simp only [ha, hae, hbe, Option.getD_some]
  simp only at h2
  refine ⟨fun k => ?_, fun k => ?_⟩
 ·
  have : Nat.blt e j = true := (blt_iff _ _).2 k
  rw [this] at h2; exact h2
 ·
  have : Nat.blt e j = false := by
   cases hbb : Nat.blt e j with
   | false => rfl
   | true => have := (blt_iff _ _).1 hbb; omega
  rw [this] at h2; exact h2
 ·
  have : Nat.blt j e = false := by
   cases hbb : Nat.blt j e with
   | false => rfl
   | true => have := (blt_iff _ _).1 hbb; omega
  rw [this] at h2
  simp only at h2
  cases hg : Ae.H.m.get (S.H.next + j) with
  | none => rfl
  | some u => rw [hg] at h2; cases h2
 ·
  have : Nat.blt j e = true := (blt_iff _ _).2 k
  rw [this] at h2; exact h2
end Go.Ev
namespace Go.Ev
variable {P : Program} {E : Env}
theorem drawsOk (hE : EnvOk E P) : DrawsOk P E := by
 intro call hcall N M id ops b D k cs s S S' w ct hb r hT hN h
 unfold evDraw at h
 cases hS : okS E ops.toList with
 | false => rw [hS] at h; cases h
 | true =>
  rw [hS] at h
  obtain ⟨tr, ht, h⟩ := obind_some h
  cases hD : okD E M ops.toList S.H.next tr with
  | false => simp only [hD] at h; cases h
  | true =>
   simp only [hD] at h
   cases h
   obtain ⟨p, hz, hl⟩ := plan_of (N := N) hS ht hD
   obtain ⟨t, hst⟩ := st_draw (P := P) (b := b) (ct := ct) (D := D) (k := k) (cs := cs) (w := w) hb hE.mixed (id := id) (ops := ops)
   obtain ⟨q, _, hq2, hq3, hq4⟩ := nextEff E ops.toList ops.toList.length 0 (by omega)
   have hdn : ∀ i, ¬ dn (Array.replicate ops.size false) i := by
    intro i hi
    unfold dn at hi
    by_cases hlt : i < ops.size <;> simp [hlt] at hi
   have hcl : Closed ops.toList (dn (Array.replicate ops.size false)) := fun j o e hj => absurd hj (hdn j)
   have hA0 : (tr[0]?).getD S = ⟨S.T, ⟨S.H.m, S.H.next + roomOf E ops.toList, S.H.log⟩⟩ := hz
   have hti : TInv M N ops.toList (fun j => (tr[j]?).getD S) (dn (Array.replicate ops.size false)) s ct := by
    refine ⟨hN, fun t i o _ h2 => absurd h2 (hdn i), fun t _ v hv => ?_⟩
    rw [hA0] at hv
    exact hT t v hv
   obtain ⟨st1, st2, st3, st4⟩ := p.still 0 q (by omega) (fun e x k1 k2 => hq3 e x k1 (by omega))
   rw [Nat.zero_add] at st1 st2 st3 st4
   rw [hA0] at st1 st3 st4
   have hnone : ∀ i, S.H.m.get (S.H.next + i) = none := fun i => (r.fr (S.H.next + i) (by omega)).2
   have hmu : ∀ i, s.mu (S.H.next + i) = none := fun i => (r.fr (S.H.next + i) (by omega)).1
   have hge : ∀ a, S.H.next + roomOf E ops.toList ≤ a -> s.mu a = none /\ S.H.m.get a = none := fun a ha => r.fr a (by omega)
   have hcase : ∀ a y, ((tr[q]?).getD S).H.m.get a = some y -> (∃ i, a = S.H.next + i /\ i < roomOf E ops.toList) ∨ S.H.m.get a = some y := by
    intro a y hy
    by_cases h1 : ∃ i x f, 0 ≤ i /\ i < q /\ AllocAt E M ops.toList (fun j => (tr[j]?).getD S) i x f /\ a = S.H.next + i
    ·
     obtain ⟨i, x, f, _, k1, k2, k3⟩ := h1
     exact .inl ⟨i, k3, by rw [k2.room]; omega⟩
    ·
     refine .inr ?_
     have := st3 a fun i x f k1 k2 k3 k4 => h1 ⟨i, x, f, k1, k2, k3, k4⟩
     rw [<- hy]; exact this.symm
   have hrel : HRel E s ((tr[q]?).getD S).H (drewW w) := by
    have r0 := r.congr (w' := drewW w) rfl
    refine ⟨fun a y c ha hc => ?_, fun a y a' y' c ha ho ha' ho' hc hc' => ?_, r0.lt, fun a ha => ?_⟩
    ·
     rcases hcase a y ha with ⟨i, rfl, _⟩ | k1
     ·
      rw [hmu i] at hc; cases hc
     ·
      exact r0.blk a y c k1 hc
    ·
     rcases hcase a y ha with ⟨i, rfl, _⟩ | k1
     ·
      rw [hmu i] at hc; cases hc
     ·
      rcases hcase a' y' ha' with ⟨i, rfl, _⟩ | k2
      ·
       rw [hmu i] at hc'; cases hc'
      ·
       exact r0.inj a y a' y' c k1 ho k2 ho' hc hc'
    ·
     have ha' : S.H.next + roomOf E ops.toList ≤ a := by rw [st1] at ha; exact ha
     refine ⟨(hge a ha').1, ?_⟩
     cases hg : ((tr[q]?).getD S).H.m.get a with
     | none => rfl
     | some y =>
      rcases hcase a y hg with ⟨i, k1, k2⟩ | k1
      ·
       omega
      ·
       rw [(hge a ha').2] at k1; cases k1
   have hext : Ext s S.H w s ((tr[q]?).getD S).H (drewW w) := by
    refine ⟨by rw [st1]; exact Nat.le_add_right _ _, fun _ _ => ⟨rfl, rfl, rfl⟩, Nat.le_refl _, rfl, rfl, rfl, fun _ _ _ => rfl, fun a y c ha ho hc _ => ?_, fun a y c ha ho hc _ => ?_, fun _ q' hq' => ⟨q', hq'⟩⟩
    all_goals
     rcases hcase a y ha with ⟨i, rfl, _⟩ | k1
     ·
      rw [hmu i] at hc; cases hc
     ·
      exact ⟨a, y, k1, ho, hc⟩
   have hh : HInv E M ops.toList S.H.next (fun j => (tr[j]?).getD S) (dn (Array.replicate ops.size false)) s S.H w s (drewW w) q ((tr[q]?).getD S).H := by
    refine ⟨Nat.le_refl _, hq2, fun e x k1 k2 k3 => ?_, fun hlt => ?_, hrel, hext, rfl, by rw [st1]; exact Nat.le_refl _, fun i x f _ k2 => absurd k2 (hdn i), fun a _ => rfl, fun i x f _ _ => hmu i, fun i x f k1 _ k3 => st2 i x f (Nat.zero_le _) k1 k3⟩
    ·
     rw [hq3 e x (Nat.zero_le _) k1 k2] at k3; cases k3
    ·
     obtain ⟨x, k1, k2⟩ := hq4 hlt
     exact ⟨x, k1, k2, hdn q⟩
   obtain ⟨s', w', ct', hsteps, r', x', T', N'⟩ := draw_list hE.types hcall p hb D k cs ops.size t (Array.replicate ops.size false) s (drewW w) ct q _ (by simp) hcl hti hh (left_le _ _)
   refine ⟨s', w', ct', .head hst hsteps, ?_, ?_, ?_, N'⟩
   ·
    rw [hl]; exact r'
   ·
    rw [hl]; exact x'
   ·
    rw [hl]; exact T'
theorem appOk (hE : EnvOk E P) (k : Nat) : CallOk P E (app E k) := app_ok hE (drawsOk hE) k
end Go.Ev
