/-
  Contracts in the place of code; slices by what they hold. No conditions.
-/
import Derived.Test.YtajekleknljggaaEvF
set_option linter.unusedVariables false
set_option linter.unusedSimpArgs false
namespace Go.Ev
noncomputable section
/-! A function's contract, proved of the evaluator, stands for its code from then on. -/
end
end Go.Ev
namespace Go.Ev
noncomputable section
/-! A function that tells a plain value and leaves all that was there as it was: what it made is forgotten. -/
def Old (H K : Hp) : Prop := ∀ c, c < H.next -> K.m.get c = H.m.get c
def Wfh (H : Hp) : Prop := ∀ c, H.next ≤ c -> H.m.get c = none
def flatV (v : AV) : Bool := match v with | .bool _ => true | .int _ _ => true | .str _ => true | .nilp => true | .nils => true | .nilf => true | .nili => true | _ => false
theorem flatV_conc {s s' : Sg} {v : AV} {c : Value} (hv : flatV v = true) (h : conc s v = some c) : conc s' v = some c := by
 cases v <;> first | (cases hv; done) | exact h
theorem concL_eq {s s' : Sg} (hle : s.Le s') {l : List AV} {vs vs' : List Value} (h : concL s l = some vs) (h' : concL s' l = some vs') : vs' = vs := by
 rw [concL_mono hle _ _ h] at h'; exact (Option.some.inj h').symm
theorem conc_eq {s s' : Sg} (hle : s.Le s') {v : AV} {c c' : Value} (h : conc s v = some c) (h' : conc s' v = some c') : c' = c := by
 rw [conc_mono hle _ _ h] at h'; exact (Option.some.inj h').symm
theorem BlkOk.back {E : Env} {s s' : Sg} (hle : s.Le s') {a c : Nat} {w w' : World} {x : Blk} (hk : s'.ka a = s.ka a) (hz : s'.sz a = s.sz a) (h : BlkOk E s a c w x) (h' : BlkOk E s' a c w' x) : BlkOk E s a c w' x := by
 cases x with
 | cells l e x wr =>
  obtain ⟨arr, fz, h1, h2, h3, h4, h5, h6, h7⟩ := h
  obtain ⟨arr', fz', k1, k2, k3, k4, k5, k6, k7⟩ := h'
  refine ⟨arr', fz', k1, ?_, k3, k4, k5, fun hx => by rw [<- hk, <- hz]; exact k6 hx, k7⟩
  cases wr with
  | true =>
   have e := concL_eq hle (show concL s l = some _ from h2) (show concL s' l = some _ from k2)
   show concL s l = some _
   rw [e]; exact h2
  | false =>
   refine ⟨k2.1, fun i v hv ho => ?_⟩
   obtain ⟨u, hu, hc⟩ := h2.2 i v hv ho
   obtain ⟨u', hu', hc'⟩ := k2.2 i v hv ho
   obtain rfl := conc_eq hle hc hc'
   exact ⟨_, hu', hc⟩
 | loop f T N M ps asg body st pd =>
  obtain ⟨ct, D, h1, h2, h3⟩ := h
  obtain ⟨ct', D', k1, k2, k3⟩ := h'
  refine ⟨ct', D', k1, fun i v hv => ?_, k3⟩
  rw [conc_eq hle (h2 i v hv) (k2 i v hv)]
  exact h2 i v hv
 | dead => trivial
theorem le_of_ext {E : Env} {s s' : Sg} {H H' : Hp} {w w' : World} (r : HRel E s H w) (x : Ext s H w s' H' w') : s.Le s' := fun a c h => by
 have hlt : a < H.next := by
  rcases Nat.lt_or_ge a H.next with h1 | h1
  ·
   exact h1
  ·
   rw [(r.fr a h1).1] at h; cases h
 obtain ⟨h1, h2, h3⟩ := x.le a hlt
 exact ⟨by rw [h1]; exact h, h2, h3⟩
end
end Go.Ev
namespace Go.Ev
noncomputable section
/-! Slices by what they hold: how an evaluator's state with such values stands for one without. -/
abbrev Mp := Nat -> Option Nat
def Fz (σ : Mp) (H : Hp) (c : Nat) : Prop := (∀ b, σ b ≠ some c) /\ c < H.next /\ (H.m.get c).isSome = true
def capSz (k : Cap) (sz : Nat) : Prop := match k with | .rest _ s _ => s = sz | .ex _ => True | .tail .. => True
def noCap (k : Cap) : Prop := match k with | .ex c => c = 0 | .tail _ _ _ z => z = true | .rest .. => False
def capLe (k : Cap) (n : Nat) : Prop := match k with | .ex c => n ≤ c | .rest _ _ lb => n ≤ lb | .tail .. => False
mutual
def VR (w : Bool) (σ : Mp) (H : Hp) : AV -> AV -> Prop
 | .bool b, a => a = .bool b
 | .int k n, a => a = .int k n
 | .str s, a => a = .str s
 | .nilp, a => a = .nilp
 | .ptr b o, a => ∃ c, σ b = some c /\ a = .ptr c o
 | .nils, a => a = .nils
 | .slice b o n k, a => ∃ c, σ b = some c /\ a = .slice c o n k
 | .func f x y, a => ∃ x' y', VRL w σ H x x' /\ VRL w σ H y y' /\ a = .func f x' y'
 | .yield l, a => ∃ c, σ l = some c /\ a = .yield c
 | .nilf, a => a = .nilf
 | .iface t v, a => ∃ v', VR w σ H v v' /\ a = .iface t v'
 | .nili, a => a = .nili
 | .agg l, a => ∃ l', VRL w σ H l l' /\ a = .agg l'
 | .tuple l, a => ∃ l', VRL w σ H l l' /\ a = .tuple l'
 | .lst sz l, a => (w = true /\ ∃ l', a = .lst sz l' /\ VRL w σ H l l') ∨ (l = [] /\ (a = .nils ∨ (∃ c o k, a = .slice c o 0 k /\ capSz k sz /\ (sz = 0 -> noCap k)) ∨ ∃ ad, a = .esl ad)) ∨
  (l ≠ [] /\ 0 < sz /\ ∃ c o k l', a = .slice c o l.length k /\ Fz σ H c /\ capSz k sz /\ capLe k l.length /\ VRL w σ H l l' /\ (∀ x ∈ l', x.cells.length = sz) /\ cellsAt H c o (l.length * sz) = some (catL l'))
 | .esl ad, a => a = .esl ad
 | .ept cs off, a => (w = true /\ ∃ cs', a = .ept cs' off /\ VRL w σ H cs cs') ∨ ∃ c o cs', a = .ptr c (o + off) /\ Fz σ H c /\ VRL w σ H cs cs' /\ cellsAt H c o cs.length = some cs'
def VRL (w : Bool) (σ : Mp) (H : Hp) : List AV -> List AV -> Prop
 | [], r => r = []
 | x :: l, r => ∃ y r', VR w σ H x y /\ VRL w σ H l r' /\ r = y :: r'
end
structure Kp (σ : Mp) (H : Hp) (σ' : Mp) (H' : Hp) : Prop where
 le : ∀ b c, σ b = some c -> σ' b = some c
 next : H.next ≤ H'.next
 fz : ∀ c, Fz σ H c -> (∀ b, σ' b ≠ some c) /\ H'.m.get c = H.m.get c
theorem Kp.refl (σ : Mp) (H : Hp) : Kp σ H σ H := ⟨fun _ _ h => h, Nat.le_refl _, fun _ h => ⟨h.1, rfl⟩⟩
theorem Kp.fz' {σ σ' : Mp} {H H' : Hp} (h : Kp σ H σ' H') {c : Nat} (hc : Fz σ H c) : Fz σ' H' c :=
 ⟨(h.fz c hc).1, Nat.lt_of_lt_of_le hc.2.1 h.next, by rw [(h.fz c hc).2]; exact hc.2.2⟩
theorem Kp.trans {σ σ' σ'' : Mp} {H H' H'' : Hp} (h : Kp σ H σ' H') (k : Kp σ' H' σ'' H'') : Kp σ H σ'' H'' :=
 ⟨fun b c hb => k.le _ _ (h.le _ _ hb), Nat.le_trans h.next k.next, fun c hc => ⟨(k.fz c (h.fz' hc)).1, (k.fz c (h.fz' hc)).2.trans (h.fz c hc).2⟩⟩
structure Lf (n : Nat) (σ : Mp) (H2 H1 : Hp) (σ' : Mp) (H2' H1' : Hp) : Prop where
 kp : Kp σ H1 σ' H1'
 lg : ∃ l, H2'.log = l ++ H2.log /\ ∀ b c, σ b = some c -> b ∉ l -> H1'.m.get c = H1.m.get c
 hole : ∀ c, c < n -> H1.m.get c = none -> H1'.m.get c = none
theorem Lf.refl (n : Nat) (σ : Mp) (H2 H1 : Hp) : Lf n σ H2 H1 σ H2 H1 := ⟨Kp.refl _ _, ⟨[], rfl, fun _ _ _ _ => rfl⟩, fun _ _ h => h⟩
theorem Lf.trans {n : Nat} {σ σ' σ'' : Mp} {H2 H1 H2' H1' H2'' H1'' : Hp} (h : Lf n σ H2 H1 σ' H2' H1') (k : Lf n σ' H2' H1' σ'' H2'' H1'') : Lf n σ H2 H1 σ'' H2'' H1'' := by
 obtain ⟨l, h1, h2⟩ := h.lg
 obtain ⟨l', h3, h4⟩ := k.lg
 refine ⟨h.kp.trans k.kp, ⟨l' ++ l, by rw [h3, h1, List.append_assoc], fun b c hb hn => ?_⟩, fun c hc h0 => k.hole c hc (h.hole c hc h0)⟩
 rw [List.mem_append, not_or] at hn
 exact (h4 b c (h.kp.le _ _ hb) hn.1).trans (h2 b c hb hn.2)
theorem Lf.mono {n n' : Nat} {σ σ' : Mp} {H2 H1 H2' H1' : Hp} (h : Lf n σ H2 H1 σ' H2' H1') (hn : n' ≤ n) : Lf n' σ H2 H1 σ' H2' H1' := ⟨h.kp, h.lg, fun c hc => h.hole c (Nat.lt_of_lt_of_le hc hn)⟩
theorem Lf.then {σ σ' σ'' : Mp} {H2 H1 H2' H1' H2'' H1'' : Hp} (h : Lf H1.next σ H2 H1 σ' H2' H1') (k : Lf H1'.next σ' H2' H1' σ'' H2'' H1'') : Lf H1.next σ H2 H1 σ'' H2'' H1'' := h.trans (k.mono h.kp.next)
structure Lg (n : Nat) (σ : Mp) (H2 H1 : Hp) (σ' : Mp) (H2' H1' : Hp) : Prop extends Lf n σ H2 H1 σ' H2' H1' where
 nu : ∀ c, (∀ b, σ' b ≠ some c) -> (H1'.m.get c).isSome = true -> (H1.m.get c).isSome = true
theorem Lg.refl (n : Nat) (σ : Mp) (H2 H1 : Hp) : Lg n σ H2 H1 σ H2 H1 := ⟨Lf.refl _ _ _ _, fun _ _ h => h⟩
theorem Lg.trans {n : Nat} {σ σ' σ'' : Mp} {H2 H1 H2' H1' H2'' H1'' : Hp} (h : Lg n σ H2 H1 σ' H2' H1') (k : Lg n σ' H2' H1' σ'' H2'' H1'') : Lg n σ H2 H1 σ'' H2'' H1'' :=
 ⟨h.toLf.trans k.toLf, fun c hc hs => h.nu c (fun b hb => hc b (k.kp.le _ _ hb)) (k.nu c hc hs)⟩
theorem cellsAt_get {H H' : Hp} {c : Nat} (h : H'.m.get c = H.m.get c) (o n : Nat) : cellsAt H' c o n = cellsAt H c o n := by rw [cellsAt_def, cellsAt_def, h]
theorem cellAt_get {H H' : Hp} {c : Nat} (h : H'.m.get c = H.m.get c) (o : Nat) : cellAt H' c o = cellAt H c o := by rw [cellAt_def, cellAt_def, h]
mutual
theorem VR.mono {w : Bool} {σ σ' : Mp} {H H' : Hp} (h : Kp σ H σ' H') : ∀ (v a : AV), VR w σ H v a -> VR w σ' H' v a
 | .bool _, _, k => k
 | .int _ _, _, k => k
 | .str _, _, k => k
 | .nilp, _, k => k
 | .ptr _ _, _, k => by simp only [VR] at k ⊢; obtain ⟨c, h1, h2⟩ := k; exact ⟨c, h.le _ _ h1, h2⟩
 | .nils, _, k => k
 | .esl _, _, k => by simp only [VR] at k ⊢; exact k
 | .slice _ _ _ _, _, k => by simp only [VR] at k ⊢; obtain ⟨c, h1, h2⟩ := k; exact ⟨c, h.le _ _ h1, h2⟩
 | .func _ x y, _, k => by simp only [VR] at k ⊢; obtain ⟨x', y', h1, h2, h3⟩ := k; exact ⟨x', y', VRL.mono h x x' h1, VRL.mono h y y' h2, h3⟩
 | .yield _, _, k => by simp only [VR] at k ⊢; obtain ⟨c, h1, h2⟩ := k; exact ⟨c, h.le _ _ h1, h2⟩
 | .nilf, _, k => k
 | .iface _ v, _, k => by simp only [VR] at k ⊢; obtain ⟨v', h1, h2⟩ := k; exact ⟨v', VR.mono h v v' h1, h2⟩
 | .nili, _, k => k
 | .agg l, _, k => by simp only [VR] at k ⊢; obtain ⟨l', h1, h2⟩ := k; exact ⟨l', VRL.mono h l l' h1, h2⟩
 | .tuple l, _, k => by simp only [VR] at k ⊢; obtain ⟨l', h1, h2⟩ := k; exact ⟨l', VRL.mono h l l' h1, h2⟩
 | .lst sz l, _, k => by
  simp only [VR] at k ⊢
  rcases k with ⟨h1, l', h2, h3⟩ | h1 | ⟨h1, h2, c, o, k, l', h3, h4, h5, h6, h7, h8, h9⟩
  ·
   exact .inl ⟨h1, l', h2, VRL.mono h l l' h3⟩
  ·
   exact .inr (.inl h1)
  ·
   exact .inr (.inr ⟨h1, h2, c, o, k, l', h3, h.fz' h4, h5, h6, VRL.mono h l l' h7, h8, by rw [cellsAt_get (h.fz c h4).2]; exact h9⟩)
 | .ept cs off, _, k => by
  simp only [VR] at k ⊢
  rcases k with ⟨h1, l', h2, h3⟩ | ⟨c, o, cs', h1, h2, h3, h4⟩
  ·
   exact .inl ⟨h1, l', h2, VRL.mono h cs l' h3⟩
  ·
   exact .inr ⟨c, o, cs', h1, h.fz' h2, VRL.mono h cs cs' h3, by rw [cellsAt_get (h.fz c h2).2]; exact h4⟩
theorem VRL.mono {w : Bool} {σ σ' : Mp} {H H' : Hp} (h : Kp σ H σ' H') : ∀ (l r : List AV), VRL w σ H l r -> VRL w σ' H' l r
 | [], _, k => k
 | x :: l, _, k => by simp only [VRL] at k ⊢; obtain ⟨y, r', h1, h2, h3⟩ := k; exact ⟨y, r', VR.mono h x y h1, VRL.mono h l r' h2, h3⟩
end
section
variable {w : Bool} {σ : Mp} {H : Hp} {v a : AV} {l l' r r' : List AV}
theorem VRL.nil : VRL w σ H [] l ↔ l = [] := by simp only [VRL]
theorem VRL.cons {x : AV} : VRL w σ H (x :: l) r ↔ ∃ y r', VR w σ H x y /\ VRL w σ H l r' /\ r = y :: r' := by simp only [VRL]
theorem VRL.len : ∀ {l r : List AV}, VRL w σ H l r -> r.length = l.length
 | [], _, h => by rw [VRL.nil] at h; subst h; rfl
 | x :: l, _, h => by obtain ⟨y, r', _, h2, rfl⟩ := VRL.cons.1 h; simp [VRL.len h2]
theorem VRL.get : ∀ {l r : List AV} {i : Nat} {v : AV}, VRL w σ H l r -> l[i]? = some v -> ∃ a, r[i]? = some a /\ VR w σ H v a
 | [], _, _, _, _, h => by simp at h
 | x :: l, _, i, v, h, hv => by
  obtain ⟨y, r', h1, h2, rfl⟩ := VRL.cons.1 h
  cases i with
  | zero => simp at hv; subst hv; exact ⟨y, rfl, h1⟩
  | succ i => simp at hv; obtain ⟨a, ha, h3⟩ := VRL.get h2 hv; exact ⟨a, by simpa using ha, h3⟩
theorem VRL.app : ∀ {l r m n : List AV}, VRL w σ H l r -> VRL w σ H m n -> VRL w σ H (l ++ m) (r ++ n)
 | [], _, _, _, h, k => by rw [VRL.nil] at h; subst h; exact k
 | x :: l, _, _, _, h, k => by
  obtain ⟨y, r', h1, h2, rfl⟩ := VRL.cons.1 h
  exact VRL.cons.2 ⟨y, _, h1, VRL.app h2 k, rfl⟩
theorem VRL.split : ∀ {l m r : List AV}, VRL w σ H (l ++ m) r -> ∃ x y, VRL w σ H l x /\ VRL w σ H m y /\ r = x ++ y
 | [], m, r, h => ⟨[], r, VRL.nil.2 rfl, h, rfl⟩
 | a :: l, m, r, h => by
  obtain ⟨y, r', h1, h2, rfl⟩ := VRL.cons.1 (show VRL w σ H (a :: (l ++ m)) r from h)
  obtain ⟨x, z, h3, h4, rfl⟩ := VRL.split h2
  exact ⟨y :: x, z, VRL.cons.2 ⟨y, x, h1, h3, rfl⟩, h4, rfl⟩
theorem VRL.drop : ∀ {l r : List AV} (n : Nat), VRL w σ H l r -> VRL w σ H (l.drop n) (r.drop n)
 | [], _, n, h => by rw [VRL.nil] at h; subst h; simp [VRL.nil]
 | x :: l, _, 0, h => h
 | x :: l, _, n + 1, h => by obtain ⟨y, r', _, h2, rfl⟩ := VRL.cons.1 h; exact VRL.drop n h2
theorem VRL.take : ∀ {l r : List AV} (n : Nat), VRL w σ H l r -> VRL w σ H (l.take n) (r.take n)
 | [], _, n, h => by rw [VRL.nil] at h; subst h; simp [VRL.nil]
 | x :: l, _, 0, h => by simp [VRL.nil]
 | x :: l, _, n + 1, h => by obtain ⟨y, r', h1, h2, rfl⟩ := VRL.cons.1 h; exact VRL.cons.2 ⟨y, _, h1, VRL.take n h2, rfl⟩
theorem VRL.one (h : VR w σ H v a) : VRL w σ H [v] [a] := VRL.cons.2 ⟨a, [], h, VRL.nil.2 rfl, rfl⟩
theorem VRL.rep (h : VRL w σ H l r) : ∀ n, VRL w σ H (repL n l) (repL n r)
 | 0 => VRL.nil.2 rfl
 | n + 1 => by
  show VRL w σ H (appL l (repL n l)) (appL r (repL n r))
  rw [appL_eq, appL_eq]; exact VRL.app h (VRL.rep h n)
theorem VR.asInt (h : VR w σ H v a) : asIntV a = asIntV v := by
 cases v <;> simp only [VR] at h <;> (try subst h) <;> try rfl
 all_goals first
  | (obtain ⟨_, _, rfl⟩ := h; rfl)
  | (obtain ⟨_, _, _, _, rfl⟩ := h; rfl)
  | (rcases h with ⟨_, _, rfl, _⟩ | ⟨_, rfl | ⟨_, _, _, rfl, _⟩ | ⟨_, rfl⟩⟩ | ⟨_, _, _, _, _, _, rfl, _⟩ <;> rfl)
  | (rcases h with ⟨_, _, rfl, _⟩ | ⟨_, _, _, rfl, _⟩ <;> rfl)
theorem VR.asBool (h : VR w σ H v a) : asBoolV a = asBoolV v := by
 cases v <;> simp only [VR] at h <;> (try subst h) <;> try rfl
 all_goals first
  | (obtain ⟨_, _, rfl⟩ := h; rfl)
  | (obtain ⟨_, _, _, _, rfl⟩ := h; rfl)
  | (rcases h with ⟨_, _, rfl, _⟩ | ⟨_, rfl | ⟨_, _, _, rfl, _⟩ | ⟨_, rfl⟩⟩ | ⟨_, _, _, _, _, _, rfl, _⟩ <;> rfl)
  | (rcases h with ⟨_, _, rfl, _⟩ | ⟨_, _, _, rfl, _⟩ <;> rfl)
theorem VR.asStr (h : VR w σ H v a) : asStrV a = asStrV v := by
 cases v <;> simp only [VR] at h <;> (try subst h) <;> try rfl
 all_goals first
  | (obtain ⟨_, _, rfl⟩ := h; rfl)
  | (obtain ⟨_, _, _, _, rfl⟩ := h; rfl)
  | (rcases h with ⟨_, _, rfl, _⟩ | ⟨_, rfl | ⟨_, _, _, rfl, _⟩ | ⟨_, rfl⟩⟩ | ⟨_, _, _, _, _, _, rfl, _⟩ <;> rfl)
  | (rcases h with ⟨_, _, rfl, _⟩ | ⟨_, _, _, rfl, _⟩ <;> rfl)
theorem VR.oneC (h : VR w σ H v a) : oneC a = oneC v := by
 cases v <;> simp only [VR] at h <;> (try subst h) <;> try rfl
 all_goals first
  | (obtain ⟨_, _, rfl⟩ := h; rfl)
  | (obtain ⟨_, _, _, _, rfl⟩ := h; rfl)
  | (rcases h with ⟨_, _, rfl, _⟩ | ⟨_, rfl | ⟨_, _, _, rfl, _⟩ | ⟨_, rfl⟩⟩ | ⟨_, _, _, _, _, _, rfl, _⟩ <;> rfl)
  | (rcases h with ⟨_, _, rfl, _⟩ | ⟨_, _, _, rfl, _⟩ <;> rfl)
theorem VR.cells (h : VR w σ H v a) : VRL w σ H v.cells a.cells := by
 have one : ∀ v : AV, asAggV v = none -> v.cells = [v] := by intro v h; unfold AV.cells; rw [h]; rfl
 have key : ∀ v a : AV, VR w σ H v a -> asAggV v = none -> asAggV a = none -> VRL w σ H v.cells a.cells := by
  intro v a h h1 h2; rw [one v h1, one a h2]; exact VRL.one h
 have h0 := h
 cases v <;> simp only [VR] at h
 case agg l => obtain ⟨l', h1, rfl⟩ := h; exact h1
 case lst => rcases h with ⟨_, _, rfl, _⟩ | ⟨_, rfl | ⟨_, _, _, rfl, _⟩ | ⟨_, rfl⟩⟩ | ⟨_, _, _, _, _, _, rfl, _⟩ <;> exact key _ _ h0 rfl rfl
 case ept => rcases h with ⟨_, _, rfl, _⟩ | ⟨_, _, _, rfl, _⟩ <;> exact key _ _ h0 rfl rfl
 all_goals first
  | (subst h; exact key _ _ h0 rfl rfl)
  | (obtain ⟨_, _, rfl⟩ := h; exact key _ _ h0 rfl rfl)
  | (obtain ⟨_, _, _, _, rfl⟩ := h; exact key _ _ h0 rfl rfl)
theorem VR.lst0_mk {sz : Nat} (h : a = .nils ∨ (∃ c o k, a = .slice c o 0 k /\ capSz k sz /\ (sz = 0 -> noCap k)) ∨ ∃ ad, a = .esl ad) : VR w σ H (.lst sz []) a := by
 unfold VR; exact .inr (.inl ⟨rfl, h⟩)
theorem VR.lstw_mk {sz : Nat} (hw : w = true) (h : VRL w σ H l l') : VR w σ H (.lst sz l) (.lst sz l') := by
 unfold VR; exact .inl ⟨hw, l', rfl, h⟩
theorem VR.lst1_mk {sz c o : Nat} {k : Cap} (hl : l ≠ []) (hz : 0 < sz) (h1 : Fz σ H c) (h2 : capSz k sz) (h3 : capLe k l.length) (h4 : VRL w σ H l l') (h5 : ∀ x ∈ l', x.cells.length = sz) (h6 : cellsAt H c o (l.length * sz) = some (catL l')) :
 VR w σ H (.lst sz l) (.slice c o l.length k) := by
 unfold VR; exact .inr (.inr ⟨hl, hz, c, o, k, l', rfl, h1, h2, h3, h4, h5, h6⟩)
theorem VR.eptw_mk {off : Nat} (hw : w = true) (h : VRL w σ H l l') : VR w σ H (.ept l off) (.ept l' off) := by
 unfold VR; exact .inl ⟨hw, l', rfl, h⟩
theorem VR.ept_mk {off c o : Nat} (h1 : Fz σ H c) (h2 : VRL w σ H l l') (h3 : cellsAt H c o l.length = some l') : VR w σ H (.ept l off) (.ptr c (o + off)) := by
 unfold VR; exact .inr ⟨c, o, l', rfl, h1, h2, h3⟩
theorem VR.ptr_mk {b o c : Nat} (h : σ b = some c) : VR w σ H (.ptr b o) (.ptr c o) := by unfold VR; exact ⟨c, h, rfl⟩
theorem VR.slice_mk {b o n c : Nat} {k : Cap} (h : σ b = some c) : VR w σ H (.slice b o n k) (.slice c o n k) := by unfold VR; exact ⟨c, h, rfl⟩
theorem VR.agg_mk (h : VRL w σ H l l') : VR w σ H (.agg l) (.agg l') := by unfold VR; exact ⟨l', h, rfl⟩
theorem VR.tuple_mk (h : VRL w σ H l l') : VR w σ H (.tuple l) (.tuple l') := by unfold VR; exact ⟨l', h, rfl⟩
theorem VR.nils_mk : VR w σ H .nils .nils := by unfold VR; rfl
theorem VR.ptr {b o : Nat} (h : VR w σ H (.ptr b o) a) : ∃ c, σ b = some c /\ a = .ptr c o := by simpa only [VR] using h
theorem VR.slice {b o n : Nat} {k : Cap} (h : VR w σ H (.slice b o n k) a) : ∃ c, σ b = some c /\ a = .slice c o n k := by simpa only [VR] using h
theorem VR.agg (h : VR w σ H (.agg l) a) : ∃ l', VRL w σ H l l' /\ a = .agg l' := by simpa only [VR] using h
theorem VR.tuple (h : VR w σ H (.tuple l) a) : ∃ l', VRL w σ H l l' /\ a = .tuple l' := by simpa only [VR] using h
theorem VR.func {f : FuncId} (h : VR w σ H (.func f l r) a) : ∃ x y, VRL w σ H l x /\ VRL w σ H r y /\ a = .func f x y := by simpa only [VR] using h
theorem VR.yield {n : Nat} (h : VR w σ H (.yield n) a) : ∃ c, σ n = some c /\ a = .yield c := by simpa only [VR] using h
theorem VR.nils (h : VR w σ H .nils a) : a = .nils := by simpa only [VR] using h
theorem VR.esl {ad : Addr} (h : VR w σ H (.esl ad) a) : a = .esl ad := by simpa only [VR] using h
theorem VR.esl_mk {ad : Addr} : VR w σ H (.esl ad) (.esl ad) := by unfold VR; rfl
theorem VR.int {k : IntKind} {n : Int} : VR w σ H (.int k n) (.int k n) := by simp only [VR]
theorem VR.bool {b : Bool} : VR w σ H (.bool b) (.bool b) := by simp only [VR]
theorem VR.str {s : List UInt8} : VR w σ H (.str s) (.str s) := by simp only [VR]
theorem VR.undef : VR w σ H .undef .undef := by simp only [AV.undef, VR]; exact ⟨[], VRL.nil.2 rfl, rfl⟩
end
theorem catL_eq : ∀ l : List AV, catL l = l.flatMap AV.cells
 | [] => rfl
 | x :: l => by
  show appL x.cells (catL l) = _
  rw [appL_eq, catL_eq l, List.flatMap_cons]
def TR (w : Bool) (σ : Mp) (H : Hp) (M : Nat) (T T' : Tm) : Prop := ∀ i v, T.get M i = some v -> ∃ a, T'.get M i = some a /\ VR w σ H v a
def BR (w : Bool) (σ : Mp) (H : Hp) : Blk -> Blk -> Prop
 | .cells l e x wr, y => ∃ l', y = .cells l' e x wr /\ VRL w σ H l l'
 | .loop f T n m ps a b st p, y => ∃ T', y = .loop f T' n m ps a b st p /\ TR w σ H m T T'
 | .dead, _ => True
structure HR (w : Bool) (σ : Mp) (H2 H1 : Hp) : Prop where
 blk : ∀ b x, H2.m.get b = some x -> ∃ c y, σ b = some c /\ H1.m.get c = some y /\ BR w σ H1 x y
 inj : ∀ b b' c, σ b = some c -> σ b' = some c -> b = b'
 lt : ∀ b c, σ b = some c -> c < H1.next
 dom : ∀ b c, σ b = some c -> b < H2.next
 fr2 : ∀ b, H2.next ≤ b -> H2.m.get b = none
 fr1 : ∀ c, H1.next ≤ c -> H1.m.get c = none
 ex : ∀ b c, σ b = some c -> ∃ y, H1.m.get c = some y
 ex2 : ∀ b c, σ b = some c -> ∃ x, H2.m.get b = some x
theorem TR.mono {w : Bool} {σ σ' : Mp} {H H' : Hp} {M : Nat} {T T' : Tm} (h : Kp σ H σ' H') (k : TR w σ H M T T') : TR w σ' H' M T T' := fun i v hv => by
 obtain ⟨a, h1, h2⟩ := k i v hv
 exact ⟨a, h1, VR.mono h _ _ h2⟩
theorem BR.mono {w : Bool} {σ σ' : Mp} {H H' : Hp} (h : Kp σ H σ' H') : ∀ {x y : Blk}, BR w σ H x y -> BR w σ' H' x y
 | .cells .., _, ⟨l', h1, h2⟩ => ⟨l', h1, VRL.mono h _ _ h2⟩
 | .loop .., _, ⟨T', h1, h2⟩ => ⟨T', h1, TR.mono h h2⟩
 | .dead, _, _ => trivial
end
end Go.Ev
namespace Go.Ev
noncomputable section
section
variable {w : Bool} {σ : Mp} {H : Hp} {M : Nat} {T T' : Tm} {E : Env}
/-! Operands. -/
theorem ofL_VR {f : Value -> Option AV} (hf : ∀ v a, f v = some a -> VR w σ H a a) : ∀ (l : List Value) (r : List AV), Ev.ofL f l = some r -> VRL w σ H r r
 | [], r, h => by simp [Ev.ofL] at h; subst h; exact VRL.nil.2 rfl
 | x :: l, r, h => by
  simp only [Ev.ofL, Option.bind_eq_some_iff, Option.map_eq_some_iff] at h
  obtain ⟨y, hy, r', hr, rfl⟩ := h
  exact VRL.cons.2 ⟨y, r', hf _ _ hy, ofL_VR hf l r' hr, rfl⟩
theorem ofV_VR : ∀ (d : Nat) (v : Value) (a : AV), ofV d v = some a -> VR w σ H a a := by
 intro d
 induction d with
 | zero =>
  intro v a h
  unfold ofV at h
  split at h <;> first | (cases h <;> simp only [VR]; done) | (simp at *; done)
 | succ d ih =>
  intro v a h
  unfold ofV at h
  split at h
  case h_8 =>
   rename_i he
   obtain rfl := Nat.succ.inj he
   simp only [Option.bind_eq_some_iff, Option.map_eq_some_iff] at h
   obtain ⟨x', hx, y', hy, rfl⟩ := h
   simp only [VR]
   exact ⟨_, _, ofL_VR ih _ _ hx, ofL_VR ih _ _ hy, rfl⟩
  case h_9 =>
   rename_i he
   obtain rfl := Nat.succ.inj he
   simp only [Option.map_eq_some_iff] at h
   obtain ⟨x', hx, rfl⟩ := h
   simp only [VR]
   exact ⟨_, ofL_VR ih _ _ hx, rfl⟩
  case h_10 =>
   rename_i he
   obtain rfl := Nat.succ.inj he
   simp only [Option.map_eq_some_iff] at h
   obtain ⟨x', hx, rfl⟩ := h
   simp only [VR]
   exact ⟨_, ofL_VR ih _ _ hx, rfl⟩
  all_goals (cases h <;> simp only [VR]; done)
theorem evO_R (k : TR w σ H M T T') {o : Operand} {v : AV} (h : evO M o T = some v) : ∃ a, evO M o T' = some a /\ VR w σ H v a := by
 cases o with
 | tmp t => rw [evO_tmp] at h ⊢; exact k t v h
 | const c => exact ⟨v, h, ofV_VR 3 c v h⟩
 | global g => cases h
 | func f => cases h; exact ⟨_, rfl, by simp only [VR]; exact ⟨[], [], VRL.nil.2 rfl, VRL.nil.2 rfl, rfl⟩⟩
theorem evOs_R (k : TR w σ H M T T') : ∀ {l : List Operand} {r : List AV}, evOs M l T = some r -> ∃ s, evOs M l T' = some s /\ VRL w σ H r s
 | [], r, h => by cases h; exact ⟨[], rfl, VRL.nil.2 rfl⟩
 | o :: l, r, h => by
  rw [evOs_cons] at h ⊢
  simp only [Option.bind_eq_some_iff, Option.map_eq_some_iff] at h
  obtain ⟨y, hy, r', hr, rfl⟩ := h
  obtain ⟨a, ha, h1⟩ := evO_R k hy
  obtain ⟨s, hs, h2⟩ := evOs_R k hr
  exact ⟨a :: s, by rw [ha]; show (evOs M l T').map _ = _; rw [hs]; rfl, VRL.cons.2 ⟨a, s, h1, h2, rfl⟩⟩
def OR (w : Bool) (σ : Mp) (H : Hp) : Option AV -> Option AV -> Prop
 | none, y => y = none
 | some x, y => ∃ a, y = some a /\ VR w σ H x a
theorem evOpt_R (k : TR w σ H M T T') {o : Option Operand} {v : Option AV} (h : evOpt M o T = some v) : ∃ a, evOpt M o T' = some a /\ OR w σ H v a := by
 cases o with
 | none => cases h; exact ⟨none, rfl, rfl⟩
 | some o =>
  obtain ⟨x, hx, rfl⟩ := omap_some (show (evO M o T).omap some = some v from h)
  obtain ⟨a, ha, h1⟩ := evO_R k hx
  exact ⟨some a, by show (evO M o T').omap some = _; rw [ha]; rfl, a, rfl, h1⟩
theorem natOf_R {v a : AV} (h : VR w σ H v a) : natOf a = natOf v := by unfold natOf; rw [h.asInt]
theorem boundN_R {x y : Option AV} (h : OR w σ H x y) (d m : Nat) : boundN y d m = boundN x d m := by
 cases x with
 | none => cases (show y = none from h); rfl
 | some x =>
  obtain ⟨a, rfl, h1⟩ := (show ∃ a, y = some a /\ VR w σ H x a from h)
  unfold boundN; simp only; rw [natOf_R h1]
theorem boundsN_R {lo hi mx lo' hi' mx' : Option AV} (h1 : OR w σ H lo lo') (h2 : OR w σ H hi hi') (h3 : OR w σ H mx mx') (n c : Nat) : boundsN n c lo' hi' mx' = boundsN n c lo hi mx := by
 cases mx with
 | none =>
  cases (show mx' = none from h3)
  unfold boundsN; simp only [boundN_R h1, boundN_R h2]
 | some x =>
  obtain ⟨a, rfl, _⟩ := (show ∃ a, mx' = some a /\ VR w σ H x a from h3)
  cases hi with
  | none => cases (show hi' = none from h2); rfl
  | some y =>
   obtain ⟨b, rfl, _⟩ := (show ∃ a, hi' = some a /\ VR w σ H y a from h2)
   unfold boundsN; simp only [boundN_R h1, boundN_R h2, boundN_R h3]
/-! Lists of cells. -/
theorem getL_R {l r : List AV} {i : Nat} {v : AV} (k : VRL w σ H l r) (h : getL l i = some v) : ∃ a, getL r i = some a /\ VR w σ H v a := by
 rw [getL_eq] at h ⊢; exact VRL.get k h
theorem takeE_R {l r x : List AV} {n : Nat} (k : VRL w σ H l r) (h : takeE n l = some x) : ∃ y, takeE n r = some y /\ VRL w σ H x y := by
 obtain ⟨h1, rfl⟩ := takeE_some h
 exact ⟨r.take n, by rw [takeE_eq, if_pos (by rw [k.len]; exact h1)], VRL.take n k⟩
theorem dropL_R {l r : List AV} (k : VRL w σ H l r) (n : Nat) : VRL w σ H (dropL n l) (dropL n r) := by rw [dropL_eq, dropL_eq]; exact VRL.drop n k
theorem takeL_R {l r : List AV} (k : VRL w σ H l r) (n : Nat) : VRL w σ H (takeL n l) (takeL n r) := by rw [takeL_eq, takeL_eq]; exact VRL.take n k
theorem setE_R {l r x y z : List AV} {n : Nat} (k : VRL w σ H l r) (k2 : VRL w σ H x y) (h : setE x n l = some z) : ∃ u, setE y n r = some u /\ VRL w σ H z u := by
 rw [setE_eq] at h ⊢
 split at h
 ·
  cases h
  rename_i hc
  refine ⟨_, if_pos (by rw [k.len, k2.len]; exact hc), ?_⟩
  rw [k2.len]
  exact VRL.app (VRL.take _ k) (VRL.app k2 (VRL.drop _ k))
 ·
  cases h
theorem lenL_R {l r : List AV} (k : VRL w σ H l r) : lenL r = lenL l := by rw [lenL_eq, lenL_eq, k.len]
theorem flatL_R : ∀ {l r : List AV}, VRL w σ H l r -> flatL r = flatL l
 | [], _, h => by rw [VRL.nil] at h; subst h; rfl
 | x :: l, _, h => by
  obtain ⟨y, r', h1, h2, rfl⟩ := VRL.cons.1 h
  rw [flatL_cons, flatL_cons, h1.oneC, flatL_R h2]
theorem catL_R : ∀ {l r : List AV}, VRL w σ H l r -> VRL w σ H (catL l) (catL r)
 | [], _, h => by rw [VRL.nil] at h; subst h; exact VRL.nil.2 rfl
 | x :: l, _, h => by
  obtain ⟨y, r', h1, h2, rfl⟩ := VRL.cons.1 h
  show VRL w σ H (appL x.cells (catL l)) (appL y.cells (catL r'))
  rw [appL_eq, appL_eq]
  exact VRL.app h1.cells (catL_R h2)
theorem bytesOfL_R : ∀ {l r : List AV}, VRL w σ H l r -> bytesOfL r = bytesOfL l
 | [], _, h => by rw [VRL.nil] at h; subst h; rfl
 | x :: l, _, h => by
  obtain ⟨y, r', h1, h2, rfl⟩ := VRL.cons.1 h
  rw [bytesOfL_cons, bytesOfL_cons, h1.asInt, bytesOfL_R h2]
theorem partAV_R {l r : List AV} {t : TypeId} {o : Nat} {v : AV} (k : VRL w σ H l r) (h : partAV E t l o = some v) : ∃ a, partAV E t r o = some a /\ VR w σ H v a := by
 unfold partAV at h ⊢
 cases hi : E.ty t with
 | none => rw [hi] at h; cases h
 | some i =>
  rw [hi] at h
  simp only at h ⊢
  cases hag : i.agg with
  | true =>
   rw [hag] at h
   obtain ⟨x, hx, rfl⟩ := omap_some (show (takeE i.size (dropL o l)).omap AV.agg = some v from h)
   obtain ⟨y, hy, h1⟩ := takeE_R (dropL_R k o) hx
   exact ⟨.agg y, by show (takeE i.size (dropL o r)).omap AV.agg = _; rw [hy]; rfl, by simp only [VR]; exact ⟨y, h1, rfl⟩⟩
  | false =>
   rw [hag] at h
   exact getL_R k h
/-! Comparisons. -/
theorem scalarEq_R {bl : Bool} {x y x' y' : AV} (h : VR w σ H x x') (k : VR w σ H y y') : scalarEq bl x' y' = scalarEq bl x y := by
 cases bl with
 | true => show (asBoolV x').obind _ = (asBoolV x).obind _; rw [h.asBool, k.asBool]
 | false => show (asIntV x').obind _ = (asIntV x).obind _; rw [h.asInt, k.asInt]
theorem cellsEq_R {bl : Bool} : ∀ {l r l' r' : List AV}, VRL w σ H l l' -> VRL w σ H r r' -> cellsEq bl l' r' = cellsEq bl l r
 | [], r, l', r', h, k => by
  rw [VRL.nil] at h; subst h
  cases r with
  | nil => rw [VRL.nil] at k; subst k; rfl
  | cons x r => obtain ⟨y, r1, _, _, rfl⟩ := VRL.cons.1 k; rfl
 | x :: l, r, l', r', h, k => by
  obtain ⟨x', l1, h1, h2, rfl⟩ := VRL.cons.1 h
  cases r with
  | nil => rw [VRL.nil] at k; subst k; rfl
  | cons y r =>
   obtain ⟨y', r1, k1, k2, rfl⟩ := VRL.cons.1 k
   show (scalarEq bl x' y').obind (fun a => (cellsEq bl l1 r1).omap fun b => a && b) = (scalarEq bl x y).obind (fun a => (cellsEq bl l r).omap fun b => a && b)
   rw [scalarEq_R h1 k1, cellsEq_R h2 k2]
theorem isPtr_R {v a : AV} (h : VR w σ H v a) (k : isPtrV v = true) : isPtrV a = true /\ isNilV a = isNilV v := by
 cases v <;> simp only [VR] at h <;> first
  | (cases k; done)
  | (subst h; exact ⟨rfl, rfl⟩)
  | (obtain ⟨_, _, rfl⟩ := h; exact ⟨rfl, rfl⟩)
  | (rcases h with ⟨_, _, rfl, _⟩ | ⟨_, _, _, rfl, _⟩ <;> exact ⟨rfl, rfl⟩)
theorem isSlice_R {v a : AV} (h : VR w σ H v a) (k : isSliceV v = true) : isSliceV a = true /\ isNilV a = isNilV v := by
 cases v <;> simp only [VR] at h
 case lst sz l =>
  cases l with
  | nil => cases k
  | cons x l =>
   rcases h with ⟨_, l', rfl, h⟩ | ⟨h, _⟩ | ⟨_, _, _, _, _, _, rfl, _⟩
   ·
    obtain ⟨_, _, _, _, rfl⟩ := VRL.cons.1 h; exact ⟨rfl, rfl⟩
   ·
    cases h
   ·
    exact ⟨rfl, rfl⟩
 all_goals first
  | (cases k; done)
  | (subst h; exact ⟨rfl, rfl⟩)
  | (obtain ⟨_, _, rfl⟩ := h; exact ⟨rfl, rfl⟩)
theorem isFunc_R {v a : AV} (h : VR w σ H v a) (k : isFuncV v = true) : isFuncV a = true /\ isNilV a = isNilV v := by
 cases v <;> simp only [VR] at h <;> first
  | (cases k; done)
  | (subst h; exact ⟨rfl, rfl⟩)
  | (obtain ⟨_, _, _, _, rfl⟩ := h; exact ⟨rfl, rfl⟩)
theorem eqNil_R {x y x' y' : AV} (h1 : isNilV x' = isNilV x) (h2 : isNilV y' = isNilV y) : eqNil x' y' = eqNil x y := by unfold eqNil; rw [h1, h2]
theorem eqAV_R {k : TK} {fl : Option (Bool × Nat)} {x y x' y' : AV} {b : Bool} (hx : VR w σ H x x') (hy : VR w σ H y y') (h : eqAV k fl x y = some b) : eqAV k fl x' y' = some b := by
 have agg : ∀ {b : Bool}, eqAgg fl x y = some b -> eqAgg fl x' y' = some b := by
  intro b h
  cases fl with
  | none => cases h
  | some p =>
   obtain ⟨l, hl, h⟩ := obind_some (show ((asAggV x).obind fun l => (asAggV y).obind fun r => bc (Nat.beq (lenL l) p.2) (cellsEq p.1 l r) none) = some b from h)
   obtain ⟨r, hr, h⟩ := obind_some h
   obtain rfl := asAggV_some hl
   obtain rfl := asAggV_some hr
   obtain ⟨l', hl', rfl⟩ := hx.agg
   obtain ⟨r', hr', rfl⟩ := hy.agg
   show bc (Nat.beq (lenL l') p.2) (cellsEq p.1 l' r') none = _
   rw [lenL_R hl', cellsEq_R hl' hr']; exact h
 cases k with
 | ptr e =>
  obtain ⟨h1, h2⟩ := bc_some (show bc (isPtrV x && isPtrV y) (eqNil x y) none = some b from h)
  rw [Bool.and_eq_true] at h1
  have a1 := isPtr_R hx h1.1
  have a2 := isPtr_R hy h1.2
  show bc (isPtrV x' && isPtrV y') (eqNil x' y') none = _
  rw [a1.1, a2.1, eqNil_R a1.2 a2.2]; exact h2
 | slice e =>
  obtain ⟨h1, h2⟩ := bc_some (show bc (isSliceV x && isSliceV y) (eqNil x y) none = some b from h)
  rw [Bool.and_eq_true] at h1
  have a1 := isSlice_R hx h1.1
  have a2 := isSlice_R hy h1.2
  show bc (isSliceV x' && isSliceV y') (eqNil x' y') none = _
  rw [a1.1, a2.1, eqNil_R a1.2 a2.2]; exact h2
 | func =>
  obtain ⟨h1, h2⟩ := bc_some (show bc (isFuncV x && isFuncV y) (eqNil x y) none = some b from h)
  rw [Bool.and_eq_true] at h1
  have a1 := isFunc_R hx h1.1
  have a2 := isFunc_R hy h1.2
  show bc (isFuncV x' && isFuncV y') (eqNil x' y') none = _
  rw [a1.1, a2.1, eqNil_R a1.2 a2.2]; exact h2
 | bool =>
  show (asBoolV x').obind (fun a => (asBoolV y').omap fun b => boolEq a b) = _
  rw [hx.asBool, hy.asBool]; exact h
 | struct fs => exact agg h
 | array n e => exact agg h
 | _ => cases h
theorem sc_R {v a : AV} (h : VR w σ H v a) (k : (asIntV v).isSome = true ∨ (asBoolV v).isSome = true ∨ (asStrV v).isSome = true) : a = v := by
 cases v <;> first
  | (simpa only [VR] using h)
  | (rcases k with k | k | k <;> cases k)
theorem binAV_R {k : TK} {fl : Option (Bool × Nat)} {op : BinOp} {x y x' y' v : AV} (hx : VR w σ H x x') (hy : VR w σ H y y') (h : binAV k fl op x y = some v) : ∃ a, binAV k fl op x' y' = some a /\ VR w σ H v a := by
 unfold binAV at h ⊢
 rw [hx.asInt]
 cases hi : asIntV x with
 | some p =>
  rw [hi, oe_some] at h
  rw [oe_some]
  have e : binInt op p.1 p.2 y' = binInt op p.1 p.2 y := by
   unfold binInt binIntC
   cases isShift op <;> simp only <;> rw [hy.asInt]
  rw [e]
  refine ⟨v, h, ?_⟩
  unfold binInt binIntC at h
  cases hs : isShift op with
  | true =>
   rw [hs] at h
   obtain ⟨q, _, h⟩ := obind_some (show ((asIntV y).obind fun q => shiftI op p.1 p.2 q.2) = some v from h)
   obtain ⟨n, _, h⟩ := obind_some (show ((natI q.2).obind fun n => shiftBy op p.1 p.2 (minN n (bitsn p.1))) = some v from h)
   cases op <;> first | (cases h; done) | (cases h; exact VR.int)
  | false =>
   rw [hs] at h
   obtain ⟨q, _, h⟩ := obind_some (show ((asIntV y).obind fun q => bc (kindEq p.1 q.1) (intBin op p.1 p.2 q.2) none) = some v from h)
   obtain ⟨_, h⟩ := bc_some h
   cases op <;> first
    | (cases h; done)
    | (cases h; exact VR.int)
    | (cases h; exact VR.bool)
    | (unfold intBin intBinC at h; simp only at h; split at h <;> first | (cases h; done) | (cases h; exact VR.int))
 | none =>
  rw [hi, oe_none] at h
  rw [oe_none]
  rw [hx.asStr]
  cases hs : asStrV x with
  | some l =>
   rw [hs, oe_some] at h
   rw [oe_some, hy.asStr]
   refine ⟨v, h, ?_⟩
   obtain ⟨r, _, h⟩ := obind_some h
   cases op <;> first
    | (cases h; done)
    | (cases h; exact VR.bool)
    | (unfold strOp strOpC at h; simp only at h; split at h <;> first | (cases h; done) | (cases h; exact VR.str))
  | none =>
   rw [hs, oe_none] at h
   rw [oe_none]
   have : ∃ b, eqAV k fl x y = some b := by
    cases hq : eqAV k fl x y with
    | some b => exact ⟨b, rfl⟩
    | none => rw [hq] at h; cases op <;> cases h
   obtain ⟨b, hb⟩ := this
   rw [eqAV_R hx hy hb]
   rw [hb] at h
   refine ⟨v, h, ?_⟩
   cases op <;> first | (cases h; done) | (cases h; exact VR.bool)
theorem unAV_R {op : UnOp} {x x' v : AV} (hx : VR w σ H x x') (h : unAV op x = some v) : ∃ a, unAV op x' = some a /\ VR w σ H v a := by
 refine ⟨v, ?_, ?_⟩
 ·
  rw [<- h]
  cases op <;> first
   | rfl
   | (show (asIntV x').omap _ = (asIntV x).omap _; rw [hx.asInt])
   | (show (asBoolV x').omap _ = (asBoolV x).omap _; rw [hx.asBool])
 ·
  cases op <;> first
   | (cases h; done)
   | (obtain ⟨p, _, rfl⟩ := omap_some (show (asIntV x).omap _ = some v from h); exact VR.int)
   | (obtain ⟨p, _, rfl⟩ := omap_some (show (asBoolV x).omap _ = some v from h); exact VR.bool)
theorem convI_R {ks kd : TK} {x x' v : AV} (hx : VR w σ H x x') (h : convI ks kd x = some v) : ∃ a, convI ks kd x' = some a /\ VR w σ H v a := by
 unfold convI convIC at h ⊢
 split at h
 ·
  split at h
  ·
   obtain ⟨p, hp, rfl⟩ := omap_some h
   exact ⟨_, by show (asIntV x').omap _ = _; rw [hx.asInt, hp]; rfl, VR.int⟩
  ·
   cases h
 ·
  split at h
  ·
   obtain ⟨p, hp, rfl⟩ := omap_some h
   exact ⟨_, by show (asStrV x').omap _ = _; rw [hx.asStr, hp]; rfl, VR.str⟩
  ·
   cases h
 ·
  cases h
theorem mmL_R {f : Int -> Int -> Int} {k : IntKind} : ∀ {l r : List AV}, VRL w σ H l r -> mmL f k r = mmL f k l
 | [], _, h => by rw [VRL.nil] at h; subst h; rfl
 | x :: l, _, h => by
  obtain ⟨y, r', h1, h2, rfl⟩ := VRL.cons.1 h
  funext a
  show ((asIntV y).obind fun p => bc (kindEq k p.1) (mmL f k r' (f a p.2)) none) = ((asIntV x).obind fun p => bc (kindEq k p.1) (mmL f k l (f a p.2)) none)
  rw [h1.asInt, mmL_R h2]
theorem mmL_int {f : Int -> Int -> Int} {k : IntKind} : ∀ {l : List AV} {a : Int} {v : AV}, mmL f k l a = some v -> ∃ n, v = .int k n
 | [], a, v, h => by cases h; exact ⟨a, rfl⟩
 | x :: l, a, v, h => by
  obtain ⟨p, _, h⟩ := obind_some (show ((asIntV x).obind fun p => bc (kindEq k p.1) (mmL f k l (f a p.2)) none) = some v from h)
  obtain ⟨_, h⟩ := bc_some h
  exact mmL_int h
theorem mmAV_R {f : Int -> Int -> Int} {l r : List AV} {v : AV} (k : VRL w σ H l r) (h : mmAV f l = some v) : ∃ a, mmAV f r = some a /\ VR w σ H v a := by
 cases l with
 | nil => cases h
 | cons x l =>
  obtain ⟨y, r', h1, h2, rfl⟩ := VRL.cons.1 k
  obtain ⟨p, hp, h⟩ := obind_some (show ((asIntV x).obind fun p => mmL f p.1 l p.2) = some v from h)
  refine ⟨v, ?_, ?_⟩
  ·
   show ((asIntV y).obind fun p => mmL f p.1 r' p.2) = _
   rw [h1.asInt, hp]; show mmL f p.1 r' p.2 = _; rw [mmL_R h2]; exact h
  ·
   obtain ⟨n, rfl⟩ := mmL_int h; exact VR.int
end
end
end Go.Ev
namespace Go.Ev
noncomputable section
section
variable {w : Bool} {σ : Mp} {H : Hp} {M : Nat} {T T' : Tm} {E : Env}
theorem VR.lst0 {sz : Nat} {a : AV} (h : VR w σ H (.lst sz []) a) : (w = true /\ a = .lst sz []) ∨ a = .nils ∨ (∃ c o k, a = .slice c o 0 k /\ capSz k sz /\ (sz = 0 -> noCap k)) ∨ ∃ ad, a = .esl ad := by
 simp only [VR] at h
 rcases h with ⟨h1, l', rfl, h⟩ | ⟨_, h⟩ | ⟨h, _⟩
 ·
  rw [VRL.nil] at h; subst h; exact .inl ⟨h1, rfl⟩
 ·
  exact .inr h
 ·
  exact absurd rfl h
theorem VR.lst1 {sz : Nat} {l : List AV} {a : AV} (h : VR w σ H (.lst sz l) a) (hl : l ≠ []) : (w = true /\ ∃ l', a = .lst sz l' /\ VRL w σ H l l') ∨
 ∃ c o k l', a = .slice c o l.length k /\ 0 < sz /\ Fz σ H c /\ capSz k sz /\ capLe k l.length /\ VRL w σ H l l' /\ (∀ x ∈ l', x.cells.length = sz) /\ cellsAt H c o (l.length * sz) = some (catL l') := by
 simp only [VR] at h
 rcases h with h | ⟨h, _⟩ | ⟨_, h2, c, o, k, l', h3, h4⟩
 ·
  exact .inl h
 ·
  exact absurd h hl
 ·
  exact .inr ⟨c, o, k, l', h3, h2, h4⟩
theorem VR.ept {cs : List AV} {off : Nat} {a : AV} (h : VR w σ H (.ept cs off) a) : (w = true /\ ∃ cs', a = .ept cs' off /\ VRL w σ H cs cs') ∨ ∃ c o cs', a = .ptr c (o + off) /\ Fz σ H c /\ VRL w σ H cs cs' /\ cellsAt H c o cs.length = some cs' := by
 simpa only [VR] using h
theorem nilChk_R {x x' v : AV} (hx : VR w σ H x x') (h : nilChk x = some v) : ∃ a, nilChk x' = some a /\ VR w σ H v a := by
 have : v = x /\ ((∃ b o, x = .ptr b o) ∨ (∃ f a c, x = .func f a c) ∨ ∃ l o, x = .ept l o) := by
  cases x <;> first | (cases h; done) | (cases h; exact ⟨rfl, by simp⟩)
 obtain ⟨rfl, h1⟩ := this
 rcases h1 with ⟨b, o, rfl⟩ | ⟨f, a, c, rfl⟩ | ⟨l, o, rfl⟩
 ·
  obtain ⟨c, _, rfl⟩ := hx.ptr; exact ⟨_, rfl, hx⟩
 ·
  obtain ⟨_, _, _, _, rfl⟩ := hx.func; exact ⟨_, rfl, hx⟩
 ·
  rcases hx.ept with ⟨_, _, rfl, _⟩ | ⟨_, _, _, rfl, _⟩ <;> exact ⟨_, rfl, hx⟩
theorem ptrAdd_R {x x' v : AV} {n : Nat} (hx : VR w σ H x x') (h : ptrAdd x n = some v) : ∃ a, ptrAdd x' n = some a /\ VR w σ H v a := by
 have : (∃ b o, x = .ptr b o /\ v = .ptr b (o + n)) ∨ ∃ l o, x = .ept l o /\ v = .ept l (o + n) := by
  cases x <;> first | (cases h; done) | (cases h; simp)
 rcases this with ⟨b, o, rfl, rfl⟩ | ⟨l, o, rfl, rfl⟩
 ·
  obtain ⟨c, hc, rfl⟩ := hx.ptr; exact ⟨_, rfl, by simp only [VR]; exact ⟨c, hc, rfl⟩⟩
 ·
  rcases hx.ept with ⟨h1, cs, rfl, h2⟩ | ⟨c, o2, cs, rfl, h2⟩
  ·
   exact ⟨_, rfl, by simp only [VR]; exact .inl ⟨h1, cs, rfl, h2⟩⟩
  ·
   exact ⟨_, rfl, by simp only [VR]; exact .inr ⟨c, o2, cs, by show AV.ptr c (o2 + o + n) = _; rw [Nat.add_assoc], h2⟩⟩
theorem cat_seg {l : List AV} {sz : Nat} (h : ∀ x ∈ l, x.cells.length = sz) : (catL l).length = l.length * sz /\ ∀ n, (catL l).drop (n * sz) = catL (l.drop n) /\ (catL l).take (n * sz) = catL (l.take n) := by
 rw [catL_eq]
 constructor
 ·
  induction l with
  | nil => simp
  | cons x l ih =>
   rw [List.flatMap_cons, List.length_append, h x (by simp), ih fun y hy => h y (by simp [hy]), List.length_cons, Nat.add_mul]; omega
 ·
  intro n
  rw [catL_eq, catL_eq]
  induction l generalizing n with
  | nil => simp
  | cons x l ih =>
   have ih := ih (fun y hy => h y (by simp [hy]))
   have hx := h x (by simp)
   cases n with
   | zero => simp
   | succ n =>
    have e : (n + 1) * sz = sz + n * sz := by rw [Nat.add_mul]; omega
    rw [List.flatMap_cons, e]
    constructor
    ·
     rw [List.drop_append, List.drop_of_length_le (by omega), List.nil_append, hx, List.drop_succ_cons, <- (ih n).1]; congr 1; omega
    ·
     rw [List.take_append, List.take_of_length_le (by omega), hx, List.take_succ_cons, List.flatMap_cons, <- (ih n).2]; congr 2; omega
theorem cellsAt_part {c o n i k : Nat} {cs : List AV} (h : cellsAt H c o n = some cs) (hi : i + k ≤ n) : cellsAt H c (o + i) k = some ((cs.drop i).take k) := by
 by_cases h0 : k = 0
 ·
  subst h0; rw [cellsAt_zero]; simp
 rw [cellsAt_pos (by omega)] at h
 rw [cellsAt_pos h0]
 obtain ⟨y, hy, h1⟩ := obind_some h
 obtain ⟨q, hq, h2⟩ := obind_some h1
 obtain ⟨l', h3, h4⟩ := obind_some h2
 obtain ⟨rfl, hfl⟩ := chkL_some h4
 rw [dropL_eq] at h3
 obtain ⟨hle, rfl⟩ := takeE_some h3
 rw [List.length_drop] at hle
 unfold cellsAt'
 rw [hy]
 show (asCells y).obind _ = _
 rw [hq]
 show (takeE k (dropL (o + i) q.1)).obind (chkL q.2.2.2) = _
 rw [dropL_eq, takeE_eq, if_pos (by rw [List.length_drop]; omega)]
 have e : ((q.1.drop (o + i)).take k) = (((q.1.drop o).take n).drop i).take k := by
  rw [List.drop_take, List.take_take, List.drop_drop]; congr 1; omega
 rw [e]
 show chkL _ _ = _
 cases hw : q.2.2.2 with
 | true => rfl
 | false =>
  show bc (flatL _) _ none = _
  have : ∀ {l : List AV} n, flatL l = true -> flatL (l.drop n) = true := by
   intro l n h
   induction l generalizing n with
   | nil => simp; rfl
   | cons x l ih =>
    cases n with
    | zero => exact h
    | succ n =>
     rw [flatL_cons] at h
     cases hx : oneC x with
     | true => rw [hx] at h; exact ih n h
     | false => rw [hx] at h; cases h
  rw [flatL_take (this i (hfl hw)) k]; rfl
theorem lstAt_R {x x' v : AV} {i : Nat} {e : TypeId} (hx : VR w σ H x x') (h : lstAt (sizeT E e) x i = some v) : ∃ a, idxAddr (.slice e) E x' i = some a /\ VR w σ H v a := by
 obtain ⟨⟨sz, l⟩, hq, h⟩ := obind_some h
 obtain rfl := asLst_some hq
 obtain ⟨hsz, h⟩ := bc_some h
 obtain ⟨y, hy, rfl⟩ := omap_some h
 have hsz : sz = sizeT E e := Nat.eq_of_beq_eq_true hsz
 simp only at hy hx
 rw [getL_eq] at hy
 have hlt : i < l.length := (List.getElem?_eq_some_iff.1 hy).1
 rcases hx.lst1 (by intro h; rw [h] at hlt; simp at hlt) with ⟨h1, l', rfl, h2⟩ | ⟨c, o, k, l', rfl, hpos, h1, _, _, h2, h3, h4⟩
 ·
  obtain ⟨a, ha, h3⟩ := VRL.get h2 hy
  refine ⟨.ept a.cells 0, ?_, VR.eptw_mk h1 h3.cells⟩
  show bc (Nat.beq sz (sizeT E e)) ((getL l' i).omap fun v => AV.ept v.cells 0) none = _
  rw [hsz, Nat.beq_refl, getL_eq, ha]; rfl
 ·
  obtain ⟨a, ha, h5⟩ := VRL.get h2 hy
  have hl2 := h2.len
  refine ⟨.ptr c (o + i * sizeT E e), ia_slice hlt, ?_⟩
  simp only [VR]
  refine .inr ⟨c, o + i * sizeT E e, a.cells, by rw [Nat.add_zero], h1, h5.cells, ?_⟩
  have hcl : a.cells.length = sz := h3 a (List.mem_of_getElem? ha)
  have hyl : y.cells.length = sz := by rw [<- h5.cells.len]; exact hcl
  rw [hyl, <- hsz]
  have hseg := cat_seg h3
  have := cellsAt_part (i := i * sz) (k := sz) h4 (by rw [<- Nat.succ_mul]; exact Nat.mul_le_mul_right _ hlt)
  rw [this, (hseg.2 i).1]
  congr 1
  have hlt' : i < l'.length := by omega
  rw [List.drop_eq_getElem_cons hlt']
  have e : l'[i] = a := by rw [List.getElem?_eq_getElem hlt'] at ha; exact Option.some.inj ha
  rw [e, show catL (a :: l'.drop (i + 1)) = appL a.cells (catL (l'.drop (i + 1))) from rfl, appL_eq, List.take_append_of_le_length (by omega), List.take_of_length_le (by omega)]
theorem idxAddr_R {k : TK} {x x' v : AV} {i : Nat} (hx : VR w σ H x x') (h : idxAddr k E x i = some v) : ∃ a, idxAddr k E x' i = some a /\ VR w σ H v a := by
 cases k with
 | array n e =>
  obtain ⟨h1, h2⟩ := bc_some (show bc (Nat.blt i n) (ptrAdd x (Nat.mul i (sizeT E e))) none = some v from h)
  obtain ⟨a, ha, h3⟩ := ptrAdd_R hx h2
  exact ⟨a, by show bc (Nat.blt i n) (ptrAdd x' (Nat.mul i (sizeT E e))) none = _; rw [h1, ha]; rfl, h3⟩
 | slice e =>
  cases hq : asSlice x with
  | some q =>
   obtain rfl := asSlice_some hq
   obtain ⟨c, hc, rfl⟩ := hx.slice
   obtain ⟨h1, h2⟩ := bc_some (show bc (Nat.blt i q.2.2.1) (some (AV.ptr q.1 (Nat.add q.2.1 (Nat.mul i (sizeT E e))))) none = some v from h)
   cases h2
   exact ⟨_, by show bc (Nat.blt i q.2.2.1) (some (AV.ptr c (Nat.add q.2.1 (Nat.mul i (sizeT E e))))) none = _; rw [h1]; rfl, by simp only [VR]; exact ⟨c, hc, rfl⟩⟩
  | none =>
   replace h := show oe (asSlice x) (lstAt (sizeT E e) x i) (fun q => bc (Nat.blt i q.2.2.1) (some (AV.ptr q.1 (Nat.add q.2.1 (Nat.mul i (sizeT E e))))) none) = some v from h
   rw [hq, oe_none] at h
   exact lstAt_R hx h
 | _ => cases h
theorem slCap_R {k : Cap} {es b c off len : Nat} {lo hi mx lo' hi' mx' : Option AV} {v : AV} (h1 : OR w σ H lo lo') (h2 : OR w σ H hi hi') (h3 : OR w σ H mx mx') (hb : σ b = some c) (h : slCap k es b off len lo hi mx = some v) :
 ∃ a, slCap k es c off len lo' hi' mx' = some a /\ VR w σ H v a := by
 cases k with
 | ex n =>
  obtain ⟨r, hr, rfl⟩ := omap_some (show (boundsN len n lo hi mx).omap _ = some v from h)
  refine ⟨.slice c (addrAt r.2.2 r.1 off es) (Nat.sub r.2.1 r.1) (.ex (Nat.sub r.2.2 r.1)), ?_, VR.slice_mk hb⟩
  show (boundsN len n lo' hi' mx').omap _ = _
  rw [boundsN_R h1 h2 h3, hr]; rfl
 | rest eo sz lb =>
  obtain ⟨hs, h⟩ := bc_some (show bc (Nat.beq sz es) _ none = some v from h)
  obtain ⟨r, hr, h⟩ := obind_some h
  have key : ∀ (F : Nat -> AV), (∀ c b, σ b = some c -> VR w σ H (F b) (F c)) -> ∃ a, some (F c) = some a /\ VR w σ H (F b) a := fun F hF => ⟨_, rfl, hF c b hb⟩
  have goal : ∀ G : Option AV, (∃ F : Nat -> AV, (∀ c b, σ b = some c -> VR w σ H (F b) (F c)) /\ v = F b /\ G = some (F c)) ->
   bc (Nat.beq sz es) ((boundsN len lb lo' hi' mx').obind fun r => oe mx' (bc (Nat.blt r.1 lb || Nat.beq r.1 0) (some (.slice c (Nat.add off (Nat.mul r.1 sz)) (Nat.sub r.2.1 r.1) (.rest (Nat.add eo r.1) sz (Nat.sub lb r.1)))) (some (.slice c off 0 (.tail eo r.1 sz false))))
    (fun _ => some (.slice c (addrAt r.2.2 r.1 off sz) (Nat.sub r.2.1 r.1) (.ex (Nat.sub r.2.2 r.1))))) none = G -> ∃ a, slCap (.rest eo sz lb) es c off len lo' hi' mx' = some a /\ VR w σ H v a := by
   rintro G ⟨F, hF, rfl, rfl⟩ hG
   exact ⟨F c, hG, hF c b hb⟩
  refine goal _ ?_ rfl
  rw [hs, boundsN_R h1 h2 h3, hr]
  show ∃ F : Nat -> AV, _ /\ _ /\ oe mx' _ _ = some (F c)
  cases mx with
  | none =>
   cases (show mx' = none from h3)
   rw [oe_none] at h
   cases hb' : Nat.blt r.1 lb || Nat.beq r.1 0 with
   | true =>
    rw [hb'] at h; cases h
    exact ⟨fun b => .slice b (Nat.add off (Nat.mul r.1 sz)) (Nat.sub r.2.1 r.1) (.rest (Nat.add eo r.1) sz (Nat.sub lb r.1)), fun c b hb => VR.slice_mk hb, rfl, by rw [oe_none]; rfl⟩
   | false =>
    rw [hb'] at h; cases h
    exact ⟨fun b => .slice b off 0 (.tail eo r.1 sz false), fun c b hb => VR.slice_mk hb, rfl, by rw [oe_none]; rfl⟩
  | some m =>
   obtain ⟨m', rfl, _⟩ := (show ∃ a, mx' = some a /\ VR w σ H m a from h3)
   cases h
   exact ⟨fun b => .slice b (addrAt r.2.2 r.1 off sz) (Nat.sub r.2.1 r.1) (.ex (Nat.sub r.2.2 r.1)), fun c b hb => VR.slice_mk hb, rfl, rfl⟩
 | tail eo k sz z =>
  obtain ⟨hs, h⟩ := bc_some (show bc (Nat.beq len 0) ((boundsN 0 0 lo hi mx).omap fun _ => AV.slice b off 0 (.tail eo k sz (oe mx z fun _ => true))) none = some v from h)
  obtain ⟨r, hr, rfl⟩ := omap_some h
  have hm : oe mx' z (fun _ => true) = oe mx z (fun _ => true) := by
   cases mx with
   | none => cases (show mx' = none from h3); rfl
   | some m => obtain ⟨m', rfl, _⟩ := (show ∃ a, mx' = some a /\ VR w σ H m a from h3); rfl
  refine ⟨.slice c off 0 (.tail eo k sz (oe mx z fun _ => true)), ?_, VR.slice_mk hb⟩
  show bc (Nat.beq len 0) ((boundsN 0 0 lo' hi' mx').omap fun _ => AV.slice c off 0 (.tail eo k sz (oe mx' z fun _ => true))) none = _
  rw [hs, boundsN_R h1 h2 h3, hr, hm]; rfl
theorem boundN_le {x : Option AV} {d y n : Nat} (h : boundN x d y = some n) (hd : d ≤ y) : n ≤ y := by
 cases x with
 | none => cases h; exact hd
 | some a =>
  obtain ⟨i, _, h⟩ := obind_some (show (natOf a).obind (fun i => bc (Nat.ble i y) (some i) none) = some n from h)
  obtain ⟨h1, h⟩ := bc_some h
  cases h; exact ble_iff.1 h1
theorem boundN_grow {x : Option AV} {d y y' n : Nat} (h : boundN x d y = some n) (hy : y ≤ y') : boundN x d y' = some n := by
 cases x with
 | none => exact h
 | some a =>
  obtain ⟨i, hi, h⟩ := obind_some (show (natOf a).obind (fun i => bc (Nat.ble i y) (some i) none) = some n from h)
  obtain ⟨h1, h⟩ := bc_some h
  cases h
  show (natOf a).obind (fun i => bc (Nat.ble i y') (some i) none) = _
  rw [hi]
  show bc (Nat.ble n y') (some n) none = _
  rw [ble_iff.2 (Nat.le_trans (ble_iff.1 h1) hy)]; rfl
theorem boundsN_grow {lo hi : Option AV} {n c a b m : Nat} (h : boundsN n n lo hi none = some (a, b, m)) (hc : n ≤ c) : boundsN n c lo hi none = some (a, b, c) /\ a ≤ b /\ b ≤ n := by
 obtain ⟨x, hx, h⟩ := obind_some (show (boundN hi n n).obind (fun h => (boundN lo 0 h).omap fun l => (l, h, n)) = some (a, b, m) from h)
 obtain ⟨y, hy, h⟩ := omap_some h
 cases h
 refine ⟨?_, boundN_le hy (Nat.zero_le _), boundN_le hx (Nat.le_refl _)⟩
 show (boundN hi n c).obind (fun h => (boundN lo 0 h).omap fun l => (l, h, c)) = _
 rw [boundN_grow hx hc]
 show (boundN lo 0 b).omap _ = _
 rw [hy]; rfl
theorem boundsM_grow {lo hi : Option AV} {x : AV} {n c a b m : Nat} (h : boundsN n c lo hi (some x) = some (a, b, m)) : (∀ n' d, c ≤ d -> boundsN n' d lo hi (some x) = some (a, b, m)) /\ a ≤ b /\ b ≤ m /\ m ≤ c := by
 cases hi with
 | none => cases h
 | some hv =>
  obtain ⟨x1, hx1, h⟩ := obind_some (show (boundN (some x) c c).obind (fun m => (boundN (some hv) n m).obind fun h => (boundN lo 0 h).omap fun l => (l, h, m)) = some (a, b, m) from h)
  obtain ⟨x2, hx2, h⟩ := obind_some h
  obtain ⟨x3, hx3, h⟩ := omap_some h
  cases h
  have k1 := boundN_le hx1 (Nat.le_refl _)
  have k2 : b ≤ m := boundN_le (x := some hv) (d := 0) hx2 (Nat.zero_le _)
  refine ⟨fun n' d hd => ?_, boundN_le hx3 (Nat.zero_le _), k2, k1⟩
  show (boundN (some x) d d).obind (fun m => (boundN (some hv) n' m).obind fun h => (boundN lo 0 h).omap fun l => (l, h, m)) = _
  rw [show boundN (some x) d d = some m from boundN_grow (d := c) hx1 hd]
  show (boundN (some hv) n' m).obind _ = _
  rw [show boundN (some hv) n' m = some b from hx2]
  show (boundN lo 0 b).omap _ = _
  rw [hx3]; rfl
theorem lst_part {sz c o a b : Nat} {l l' : List AV} (h1 : Fz σ H c) (h2 : VRL w σ H l l') (h3 : ∀ x ∈ l', x.cells.length = sz) (h4 : cellsAt H c o (l.length * sz) = some (catL l')) (hab : a ≤ b) (hb : b ≤ l.length) :
 VRL w σ H ((l.take b).drop a) ((l'.take b).drop a) /\ (∀ x ∈ (l'.take b).drop a, x.cells.length = sz) /\ cellsAt H c (o + a * sz) (((l.take b).drop a).length * sz) = some (catL ((l'.take b).drop a)) := by
 refine ⟨VRL.drop _ (VRL.take _ h2), fun x hx => h3 x (List.mem_of_mem_take (List.mem_of_mem_drop hx)), ?_⟩
 have hlen : ((l.take b).drop a).length = b - a := by simp; omega
 rw [hlen, cellsAt_part (i := a * sz) (k := (b - a) * sz) h4 (by rw [<- Nat.add_mul]; exact Nat.mul_le_mul_right _ (by omega))]
 have hs := cat_seg h3
 have hs2 := cat_seg (l := l'.drop a) (fun x hx => h3 x (List.mem_of_mem_drop hx))
 rw [(hs.2 a).1, (hs2.2 (b - a)).2, List.drop_take]
theorem lstSlice_R {x x' v : AV} {e : TypeId} {lo hi mx lo' hi' mx' : Option AV} (hx : VR w σ H x x') (h1 : OR w σ H lo lo') (h2 : OR w σ H hi hi') (h3 : OR w σ H mx mx') (h : lstSlice (sizeT E e) x lo hi mx = some v) :
 ∃ a, evSlice (.slice e) E x' lo' hi' mx' = some a /\ VR w σ H v a := by
 obtain ⟨⟨sz, l⟩, hq, h⟩ := obind_some h
 obtain rfl := asLst_some hq
 obtain ⟨hsz0, h⟩ := bc_some h
 have hsz : sz = sizeT E e := Nat.eq_of_beq_eq_true hsz0
 clear hsz0
 simp only at h hx hsz
 have toL : ∀ l', evSlice (.slice e) E (.lst sz l') lo' hi' mx' = lstCut sz l' lo' hi' mx' := by
  intro l'
  show bc (Nat.beq sz (sizeT E e)) (lstCut sz l' lo' hi' mx') none = _
  rw [hsz, Nat.beq_refl]; rfl
 unfold lstCut at h
 cases mx with
 | some m =>
  obtain ⟨m', rfl, hm⟩ := (show ∃ a, mx' = some a /\ VR w σ H m a from h3)
  cases hr0 : boundsN 0 0 lo hi (some m) with
  | none =>
   have h : lstCut3 sz l lo hi m = some v := by
    have h : oe (boundsN 0 0 lo hi (some m)) (lstCut3 sz l lo hi m) (fun _ => some (AV.lst 0 [])) = some v := h
    rwa [hr0] at h
   obtain ⟨⟨p, q, m0⟩, hr, rfl⟩ := omap_some h
   rw [lenL_eq] at hr
   obtain ⟨hb, hab, hbm, hml⟩ := boundsM_grow hr
   have hb' : ∀ n' d, l.length ≤ d -> boundsN n' d lo' hi' (some m') = some (p, q, m0) := fun n' d hd => by rw [boundsN_R h1 h2 h3]; exact hb n' d hd
   have hbl : q ≤ l.length := by omega
   rw [dropL_eq, takeL_eq]
   cases l with
   | nil => rw [show ([] : List AV).length = 0 from rfl, hr0] at hr; cases hr
   | cons y l =>
    rcases hx.lst1 (by simp) with ⟨hw, l', rfl, h5⟩ | ⟨c, o, k, l', rfl, hpos, h5, h6, h7, h8, h9, h10⟩
    ·
     rw [toL]
     refine ⟨.lst sz ((l'.take q).drop p), ?_, VR.lstw_mk hw (VRL.drop _ (VRL.take _ h5))⟩
     show oe (boundsN 0 0 lo' hi' (some m')) (lstCut3 sz l' lo' hi' m') (fun _ => some (AV.lst 0 [])) = _
     rw [boundsN_R h1 h2 h3, hr0]
     show (boundsN (lenL l') (lenL l') lo' hi' (some m')).omap _ = _
     rw [lenL_R h5, lenL_eq, hb' _ _ (Nat.le_refl _)]
     show some (AV.lst sz (dropL p (takeL q l'))) = _
     rw [dropL_eq, takeL_eq]
    ·
     obtain ⟨g1, g2, g3⟩ := lst_part h5 h8 h9 h10 hab hbl
     have hlen : (((y :: l).take q).drop p).length = q - p := by rw [List.length_drop, List.length_take, Nat.min_eq_left hbl]
     have ho : ∀ s, p < q -> addrAt m0 p o s = o + p * s := fun s hpq => by
      unfold addrAt
      rw [show Nat.beq m0 p = false from by rw [beq_dec]; simp; omega]; rfl
     have fin : VR w σ H (.lst sz (((y :: l).take q).drop p)) (.slice c (addrAt m0 p o sz) (q - p) (.ex (m0 - p))) := by
      by_cases hpq : p < q
      ·
       rw [ho _ hpq, <- hlen]
       refine VR.lst1_mk (fun h => ?_) hpos h5 trivial (show _ ≤ m0 - p by rw [hlen]; omega) g1 g2 g3
       have := congrArg List.length h
       rw [hlen] at this; simp at this; omega
      ·
       have e0 : ((y :: l).take q).drop p = [] := List.eq_nil_of_length_eq_zero (by rw [hlen]; omega)
       rw [e0, show q - p = 0 by omega]
       exact VR.lst0_mk (.inr (.inl ⟨_, _, _, rfl, trivial, fun h => by omega⟩))
     refine ⟨_, ?_, fin⟩
     cases k with
     | ex n =>
      show (boundsN (y :: l).length n lo' hi' (some m')).omap _ = _
      rw [hb' _ n h7, hsz]; rfl
     | rest eo s lb =>
      have hs : s = sz := h6
      subst hs
      show bc (Nat.beq s (sizeT E e)) ((boundsN (y :: l).length lb lo' hi' (some m')).obind _) none = _
      rw [<- hsz, Nat.beq_refl, hb' _ lb h7]; rfl
     | tail => cases h7
  | some r0 =>
  obtain ⟨p, q, m0⟩ := r0
  have hr := hr0
  have hv : v = .lst 0 [] := by
   have h : oe (boundsN 0 0 lo hi (some m)) (lstCut3 sz l lo hi m) (fun _ => some (AV.lst 0 [])) = some v := h
   rw [hr0] at h
   cases h; rfl
  subst hv
  have hz : ∀ n c, boundsN n c lo' hi' (some m') = some (0, 0, 0) := by
   intro n c
   rw [boundsN_R h1 h2 h3]
   cases hi with
   | none => cases hr
   | some hv =>
    obtain ⟨x1, hx1, hr⟩ := obind_some (show (boundN (some m) 0 0).obind (fun m => (boundN (some hv) 0 m).obind fun h => (boundN lo 0 h).omap fun l => (l, h, m)) = some (p, q, m0) from hr)
    obtain ⟨x2, hx2, hr⟩ := obind_some hr
    obtain ⟨x3, hx3, hr⟩ := omap_some hr
    have e1 : x1 = 0 := Nat.le_zero.1 (boundN_le hx1 (Nat.le_refl _))
    subst e1
    have e2 : x2 = 0 := Nat.le_zero.1 (boundN_le hx2 (Nat.le_refl _))
    subst e2
    have e3 : x3 = 0 := Nat.le_zero.1 (boundN_le hx3 (Nat.le_refl _))
    subst e3
    show (boundN (some m) c c).obind (fun m => (boundN (some hv) n m).obind fun h => (boundN lo 0 h).omap fun l => (l, h, m)) = _
    have g1 : boundN (some m) c c = some 0 := boundN_grow (d := c) (y := 0) hx1 (Nat.zero_le _)
    have g2 : boundN (some hv) n 0 = some 0 := hx2
    rw [g1]; show (boundN (some hv) n 0).obind _ = _
    rw [g2]; show (boundN lo 0 0).omap _ = _
    rw [hx3]; rfl
  have res : ∀ c o, VR w σ H (.lst 0 []) (.slice c o 0 (.ex 0)) := fun c o => VR.lst0_mk (.inr (.inl ⟨c, o, _, rfl, trivial, fun _ => rfl⟩))
  have resn : VR w σ H (.lst 0 []) .nils := VR.lst0_mk (.inl rfl)
  have ofSl : ∀ c o k, capSz k sz -> (∀ a b c d, k ≠ .tail a b c d) -> ∀ n, ∃ a, evSlice (.slice e) E (.slice c o n k) lo' hi' (some m') = some a /\ VR w σ H (.lst 0 []) a := by
   intro c o k hk ht n
   cases k with
   | ex n' =>
    refine ⟨.slice c (addrAt 0 0 o (sizeT E e)) 0 (.ex 0), ?_, res _ _⟩
    show (boundsN n n' lo' hi' (some m')).omap _ = _
    rw [hz]; rfl
   | rest eo s lb =>
    have hk : s = sz := hk
    refine ⟨.slice c (addrAt 0 0 o s) 0 (.ex 0), ?_, res _ _⟩
    show bc (Nat.beq s (sizeT E e)) ((boundsN n lb lo' hi' (some m')).obind _) none = _
    rw [hk, hsz, Nat.beq_refl, hz]; rfl
   | tail => exact absurd rfl (ht _ _ _ _)
  cases l with
  | nil =>
   rcases hx.lst0 with ⟨_, rfl⟩ | rfl | ⟨c, o, k, rfl, hk, hk0⟩ | ⟨ad, rfl⟩
   rotate_right
   ·
    refine ⟨.esl ad, ?_, VR.lst0_mk (.inr (.inr ⟨ad, rfl⟩))⟩
    show (boundsN 0 0 lo' hi' (some m')).omap _ = _
    rw [hz]; rfl
   ·
    rw [toL]
    refine ⟨.lst 0 [], by show oe (boundsN 0 0 lo' hi' (some m')) _ (fun _ => some (AV.lst 0 [])) = _; rw [hz]; rfl, ?_⟩
    exact VR.lstw_mk (by assumption) (VRL.nil.2 rfl)
   ·
    refine ⟨.nils, ?_, resn⟩
    show (boundsN 0 0 lo' hi' (some m')).omap _ = _
    rw [hz]; rfl
   ·
    cases k with
    | tail eo k0 s z =>
     refine ⟨.slice c o 0 (.tail eo k0 s true), ?_, ?_⟩
     ·
      show bc (Nat.beq 0 0) ((boundsN 0 0 lo' hi' (some m')).omap _) none = _
      rw [hz]; rfl
     ·
      exact VR.lst0_mk (.inr (.inl ⟨c, o, _, rfl, trivial, fun _ => rfl⟩))
    | ex n => exact ofSl c o _ hk (by simp) 0
    | rest => exact ofSl c o _ hk (by simp) 0
  | cons y l =>
   rcases hx.lst1 (by simp) with ⟨hw, l', rfl, h5⟩ | ⟨c, o, k, l', rfl, hpos, h5, h6, h7, _⟩
   ·
    rw [toL]
    refine ⟨.lst 0 [], by show oe (boundsN 0 0 lo' hi' (some m')) _ (fun _ => some (AV.lst 0 [])) = _; rw [hz]; rfl, ?_⟩
    exact VR.lstw_mk hw (VRL.nil.2 rfl)
   ·
    exact ofSl c o k h6 (by rintro a b c d rfl; exact h7) _
 | none =>
  cases (show mx' = none from h3)
  obtain ⟨⟨p, q, m0⟩, hr, rfl⟩ := omap_some (show (boundsN (lenL l) (lenL l) lo hi none).omap _ = some v from h)
  rw [lenL_eq] at hr
  obtain ⟨_, hab, hbl⟩ := boundsN_grow hr (Nat.le_refl _)
  rw [dropL_eq, takeL_eq]
  have cutL : ∀ l', VRL w σ H l l' -> w = true -> ∃ a, lstCut sz l' lo' hi' none = some a /\ VR w σ H (.lst sz ((l.take q).drop p)) a := by
   intro l' hl hw
   refine ⟨.lst sz ((l'.take q).drop p), ?_, VR.lstw_mk hw (VRL.drop _ (VRL.take _ hl))⟩
   show (boundsN (lenL l') (lenL l') lo' hi' none).omap _ = _
   rw [lenL_R hl, lenL_eq, boundsN_R h1 h2 h3, hr]
   show some (AV.lst sz (dropL p (takeL q l'))) = _
   rw [dropL_eq, takeL_eq]
  have emp : ∀ c o k, capSz k sz -> (sz = 0 -> False) -> VR w σ H (.lst sz []) (.slice c o 0 k) := fun c o k hk h0 => VR.lst0_mk (.inr (.inl ⟨c, o, k, rfl, hk, fun h => (h0 h).elim⟩))
  cases l with
  | nil =>
   have hq0 : q = 0 := by simpa using hbl
   subst hq0
   obtain rfl : p = 0 := by omega
   simp only [List.take_nil, List.drop_nil]
   simp only [List.length_nil] at hr
   have hb : ∀ c, boundsN 0 c lo' hi' none = some (0, 0, c) := fun c => by rw [boundsN_R h1 h2 h3]; exact (boundsN_grow hr (Nat.zero_le _)).1
   rcases hx.lst0 with ⟨hw, rfl⟩ | rfl | ⟨c, o, k, rfl, hk, hk0⟩ | ⟨ad, rfl⟩
   rotate_right
   ·
    exact ⟨.esl ad, by show (boundsN 0 0 lo' hi' none).omap _ = _; rw [hb]; rfl, hx⟩
   ·
    rw [toL]; exact cutL [] (VRL.nil.2 rfl) hw
   ·
    exact ⟨.nils, by show (boundsN 0 0 lo' hi' none).omap _ = _; rw [hb]; rfl, hx⟩
   ·
    cases k with
    | ex n =>
     exact ⟨.slice c (addrAt n 0 o (sizeT E e)) 0 (.ex n), by show (boundsN 0 n lo' hi' none).omap _ = _; rw [hb]; rfl, VR.lst0_mk (.inr (.inl ⟨_, _, _, rfl, trivial, hk0⟩))⟩
    | rest eo s lb =>
     refine ⟨.slice c (o + 0 * s) 0 (.rest (eo + 0) s lb), ?_, ?_⟩
     ·
      show bc (Nat.beq s (sizeT E e)) ((boundsN 0 lb lo' hi' none).obind _) none = _
      have hs : s = sizeT E e := (show s = sz from hk).trans hsz
      subst hs
      rw [Nat.beq_refl, hb]
      show bc (Nat.blt 0 lb || true) _ _ = _
      rw [Bool.or_true]; rfl
     ·
      exact VR.lst0_mk (.inr (.inl ⟨_, _, _, rfl, hk, fun h => (hk0 h).elim⟩))
    | tail eo k0 s z =>
     refine ⟨.slice c o 0 (.tail eo k0 s z), ?_, ?_⟩
     ·
      show bc (Nat.beq 0 0) ((boundsN 0 0 lo' hi' none).omap _) none = _
      rw [hb]; rfl
     ·
      exact VR.lst0_mk (.inr (.inl ⟨_, _, _, rfl, hk, hk0⟩))
  | cons y l =>
   rcases hx.lst1 (by simp) with ⟨hw, l', rfl, h5⟩ | ⟨c, o, k, l', rfl, hpos, h5, h6, h7, h8, h9, h10⟩
   ·
    rw [toL]; exact cutL l' h5 hw
   ·
    have hb : ∀ c, (y :: l).length ≤ c -> boundsN (y :: l).length c lo' hi' none = some (p, q, c) := fun c hc => by rw [boundsN_R h1 h2 h3]; exact (boundsN_grow hr hc).1
    obtain ⟨g1, g2, g3⟩ := lst_part h5 h8 h9 h10 hab hbl
    have hlen : (((y :: l).take q).drop p).length = q - p := by rw [List.length_drop, List.length_take, Nat.min_eq_left hbl]
    have fin : ∀ o' k', capSz k' sz -> (p < q -> o' = o + p * sz /\ capLe k' (q - p)) -> VR w σ H (.lst sz (((y :: l).take q).drop p)) (.slice c o' (q - p) k') := by
     intro o' k' hk' hoo
     by_cases hpq : p < q
     ·
      obtain ⟨rfl, hk2⟩ := hoo hpq
      rw [<- hlen] at hk2 ⊢
      refine VR.lst1_mk (fun h => ?_) hpos h5 hk' hk2 g1 g2 g3
      have := congrArg List.length h
      rw [hlen] at this; simp at this; omega
     ·
      have e0 : ((y :: l).take q).drop p = [] := List.eq_nil_of_length_eq_zero (by rw [hlen]; omega)
      rw [e0, show q - p = 0 by omega]
      exact emp c o' k' hk' (by omega)
    cases k with
    | ex n =>
     have hn : (y :: l).length ≤ n := h7
     refine ⟨.slice c (addrAt n p o (sizeT E e)) (q - p) (.ex (n - p)), by show (boundsN (y :: l).length n lo' hi' none).omap _ = _; rw [hb n hn]; rfl, fin _ _ trivial fun hpq => ⟨?_, show q - p ≤ n - p by omega⟩⟩
     unfold addrAt
     rw [show Nat.beq n p = false from by rw [beq_dec]; simp; omega, hsz]; rfl
    | rest eo s lb =>
     have hn : (y :: l).length ≤ lb := h7
     have hs : s = sz := h6
     have hres : evSlice (.slice e) E (.slice c o (y :: l).length (.rest eo s lb)) lo' hi' none = bc (Nat.blt p lb || Nat.beq p 0) (some (AV.slice c (Nat.add o (Nat.mul p s)) (Nat.sub q p) (.rest (Nat.add eo p) s (Nat.sub lb p)))) (some (.slice c o 0 (.tail eo p s false))) := by
      show bc (Nat.beq s (sizeT E e)) ((boundsN (y :: l).length lb lo' hi' none).obind _) none = _
      have hs' : s = sizeT E e := hs.trans hsz
      subst hs'
      rw [Nat.beq_refl, hb lb hn]; rfl
     rw [hres]
     cases hc : Nat.blt p lb || Nat.beq p 0 with
     | true => exact ⟨_, rfl, fin _ _ hs fun hpq => ⟨by rw [<- hs]; rfl, show q - p ≤ lb - p by omega⟩⟩
     | false =>
      rw [Bool.or_eq_false_iff] at hc
      have hp : ¬ p < lb := fun h => by rw [(blt_iff _ _).2 h] at hc; cases hc.1
      refine ⟨_, rfl, ?_⟩
      have : q - p = 0 := by omega
      have := fin o (.tail eo p s false) trivial fun hpq => by omega
      rwa [show q - p = 0 by omega] at this
    | tail => cases h7
end
end
end Go.Ev
namespace Go.Ev
noncomputable section
section
variable {w : Bool} {σ : Mp} {H : Hp} {M : Nat} {T T' : Tm} {E : Env}
theorem oneC_cells {x : AV} (h : oneC x = true) : x.cells = [x] := by cases x <;> first | rfl | cases h
theorem flatL_cat : ∀ {l : List AV}, flatL l = true -> catL l = l /\ ∀ x ∈ l, x.cells.length = 1
 | [], _ => ⟨rfl, by simp⟩
 | x :: l, h => by
  rw [flatL_cons] at h
  cases hx : oneC x with
  | false => rw [hx] at h; cases h
  | true =>
   rw [hx] at h
   obtain ⟨h1, h2⟩ := flatL_cat (show flatL l = true from h)
   refine ⟨?_, fun y hy => ?_⟩
   ·
    show appL x.cells (catL l) = _
    rw [h1, oneC_cells hx]; rfl
   ·
    rcases List.mem_cons.1 hy with rfl | hy
    ·
     rw [oneC_cells hx]; rfl
    ·
     exact h2 y hy
theorem boundsN_zero {lo hi : Option AV} {m : AV} {r : Nat × Nat × Nat} (hr : boundsN 0 0 lo hi (some m) = some r) (n c : Nat) : boundsN n c lo hi (some m) = some (0, 0, 0) := by
 cases hi with
 | none => cases hr
 | some hv =>
  obtain ⟨x1, hx1, hr⟩ := obind_some (show (boundN (some m) 0 0).obind (fun m => (boundN (some hv) 0 m).obind fun h => (boundN lo 0 h).omap fun l => (l, h, m)) = some r from hr)
  obtain ⟨x2, hx2, hr⟩ := obind_some hr
  obtain ⟨x3, hx3, hr⟩ := omap_some hr
  have e1 : x1 = 0 := Nat.le_zero.1 (boundN_le hx1 (Nat.le_refl _))
  subst e1
  have e2 : x2 = 0 := Nat.le_zero.1 (boundN_le hx2 (Nat.le_refl _))
  subst e2
  have e3 : x3 = 0 := Nat.le_zero.1 (boundN_le hx3 (Nat.le_refl _))
  subst e3
  show (boundN (some m) c c).obind (fun m => (boundN (some hv) n m).obind fun h => (boundN lo 0 h).omap fun l => (l, h, m)) = _
  have g1 : boundN (some m) c c = some 0 := boundN_grow (d := c) (y := 0) hx1 (Nat.zero_le _)
  have g2 : boundN (some hv) n 0 = some 0 := hx2
  rw [g1]; show (boundN (some hv) n 0).obind _ = _
  rw [g2]; show (boundN lo 0 0).omap _ = _
  rw [hx3]; rfl
theorem ept_win {c o off n : Nat} {cs cs' : List AV} (hfz : Fz σ H c) (hcs : VRL w σ H cs cs') (hcell : cellsAt H c o cs.length = some cs') (hf : flatL cs = true) (hle : n ≤ cs.length - off) :
 VRL w σ H ((cs.drop off).take n) ((cs'.drop off).take n) /\ cellsAt H c (o + off) (((cs.drop off).take n).length * 1) = some (catL ((cs'.drop off).take n)) /\ ∀ x ∈ (cs'.drop off).take n, x.cells.length = 1 := by
 have hll : ((cs.drop off).take n).length = n := by simp; omega
 have hwin := VRL.take n (VRL.drop off hcs)
 have hfl' : flatL ((cs'.drop off).take n) = true := by
  rw [flatL_R hwin]
  have : ∀ {l : List AV} n, flatL l = true -> flatL (l.drop n) = true := by
   intro l n h
   induction l generalizing n with
   | nil => simp; rfl
   | cons x l ih =>
    cases n with
    | zero => exact h
    | succ n =>
     rw [flatL_cons] at h
     cases hx : oneC x with
     | true => rw [hx] at h; exact ih n h
     | false => rw [hx] at h; cases h
  exact flatL_take (this off hf) n
 obtain ⟨g1, g2⟩ := flatL_cat hfl'
 have hcell2 : cellsAt H c (o + off) (((cs.drop off).take n).length * 1) = some (catL ((cs'.drop off).take n)) := by
  rw [hll, Nat.mul_one, g1]
  by_cases h0 : n = 0
  ·
   subst h0; rw [cellsAt_zero]; simp
  ·
   exact cellsAt_part hcell (by omega)
 exact ⟨hwin, hcell2, g2⟩
theorem eptSlice_R {x x' v : AV} {n : Nat} {e : TypeId} {lo hi mx lo' hi' mx' : Option AV} (hx : VR w σ H x x') (h1 : OR w σ H lo lo') (h2 : OR w σ H hi hi') (h3 : OR w σ H mx mx') (h : eptSlice x n (sizeT E e) lo hi mx = some v) :
 ∃ a, evSlice (.array n e) E x' lo' hi' mx' = some a /\ VR w σ H v a := by
 obtain ⟨⟨cs, off⟩, hq, h⟩ := obind_some h
 obtain rfl := asEpt_some hq
 simp only at h hx
 obtain ⟨hc, h⟩ := bc_some h
 rw [Bool.and_eq_true] at hc
 obtain ⟨hs, hf⟩ := hc
 have hs1 : sizeT E e = 1 := Nat.eq_of_beq_eq_true hs
 obtain ⟨l, hl, h⟩ := obind_some h
 rw [dropL_eq] at hl
 obtain ⟨hle0, rfl⟩ := takeE_some hl
 have hle : n ≤ cs.length - off := by simpa using hle0
 clear hle0
 have hll : ((cs.drop off).take n).length = n := by simp; omega
 unfold lstCut at h
 rcases hx.ept with ⟨hw, cs', rfl, hcs⟩ | ⟨c, o, cs', rfl, hfz, hcs, hcell⟩
 ·
  -- both known
  have hcut : ∀ {a}, lstCut 1 ((cs'.drop off).take n) lo' hi' mx' = some a -> evSlice (.array n e) E (.ept cs' off) lo' hi' mx' = some a := by
   intro a ha
   show bc (Nat.beq (sizeT E e) 1 && flatL cs') ((takeE n (dropL off cs')).obind fun l => lstCut 1 l lo' hi' mx') none = _
   rw [hs, flatL_R hcs, hf, dropL_eq, takeE_eq, if_pos (by rw [List.length_drop, hcs.len]; omega)]
   exact ha
  have hln : lenL ((cs'.drop off).take n) = n := by rw [lenL_eq]; simp; rw [hcs.len]; omega
  cases mx with
  | some m =>
   obtain ⟨m', rfl, hm⟩ := (show ∃ a, mx' = some a /\ VR w σ H m a from h3)
   cases hr : boundsN 0 0 lo hi (some m) with
   | some r =>
    have h : oe (boundsN 0 0 lo hi (some m)) (lstCut3 1 ((cs.drop off).take n) lo hi m) (fun _ => some (AV.lst 0 [])) = some v := h
    rw [hr] at h
    cases h
    refine ⟨.lst 0 [], hcut ?_, VR.lstw_mk hw (VRL.nil.2 rfl)⟩
    show oe (boundsN 0 0 lo' hi' (some m')) _ (fun _ => some (AV.lst 0 [])) = _
    rw [boundsN_R h1 h2 h3, hr]; rfl
   | none =>
    have h : oe (boundsN 0 0 lo hi (some m)) (lstCut3 1 ((cs.drop off).take n) lo hi m) (fun _ => some (AV.lst 0 [])) = some v := h
    rw [hr] at h
    obtain ⟨⟨p, q, m0⟩, hr2, rfl⟩ := omap_some (show (boundsN (lenL ((cs.drop off).take n)) (lenL ((cs.drop off).take n)) lo hi (some m)).omap _ = some v from h)
    refine ⟨.lst 1 ((((cs'.drop off).take n).take q).drop p), hcut ?_, ?_⟩
    ·
     show oe (boundsN 0 0 lo' hi' (some m')) (lstCut3 1 ((cs'.drop off).take n) lo' hi' m') (fun _ => some (AV.lst 0 [])) = _
     rw [boundsN_R h1 h2 h3, hr]
     show (boundsN (lenL ((cs'.drop off).take n)) (lenL ((cs'.drop off).take n)) lo' hi' (some m')).omap _ = _
     rw [lenL_eq, hll] at hr2
     rw [hln, boundsN_R h1 h2 h3, hr2]
     show some (AV.lst 1 (dropL p (takeL q _))) = _
     rw [dropL_eq, takeL_eq]
    ·
     rw [dropL_eq, takeL_eq]
     exact VR.lstw_mk hw (VRL.drop _ (VRL.take _ (VRL.take _ (VRL.drop _ hcs))))
  | none =>
   cases (show mx' = none from h3)
   obtain ⟨⟨p, q, m0⟩, hr, rfl⟩ := omap_some (show (boundsN (lenL ((cs.drop off).take n)) (lenL ((cs.drop off).take n)) lo hi none).omap _ = some v from h)
   rw [lenL_eq, hll] at hr
   refine ⟨.lst 1 ((((cs'.drop off).take n).take q).drop p), hcut ?_, ?_⟩
   ·
    show (boundsN (lenL ((cs'.drop off).take n)) (lenL ((cs'.drop off).take n)) lo' hi' none).omap _ = _
    rw [hln, boundsN_R h1 h2 h3, hr]
    show some (AV.lst 1 (dropL p (takeL q _))) = _
    rw [dropL_eq, takeL_eq]
   ·
    rw [dropL_eq, takeL_eq]
    exact VR.lstw_mk hw (VRL.drop _ (VRL.take _ (VRL.take _ (VRL.drop _ hcs))))
 ·
  cases mx with
  | some m =>
   obtain ⟨m', rfl, hm⟩ := (show ∃ a, mx' = some a /\ VR w σ H m a from h3)
   cases hr : boundsN 0 0 lo hi (some m) with
   | some r =>
    have h : oe (boundsN 0 0 lo hi (some m)) (lstCut3 1 ((cs.drop off).take n) lo hi m) (fun _ => some (AV.lst 0 [])) = some v := h
    rw [hr] at h
    cases h
    refine ⟨.slice c (addrAt 0 0 (o + off) (sizeT E e)) 0 (.ex 0), ?_, VR.lst0_mk (.inr (.inl ⟨_, _, _, rfl, trivial, fun _ => rfl⟩))⟩
    show (boundsN n n lo' hi' (some m')).omap _ = _
    rw [boundsN_R h1 h2 h3, boundsN_zero hr]; rfl
   | none =>
    have h : oe (boundsN 0 0 lo hi (some m)) (lstCut3 1 ((cs.drop off).take n) lo hi m) (fun _ => some (AV.lst 0 [])) = some v := h
    rw [hr] at h
    obtain ⟨⟨p, q, m0⟩, hr2, rfl⟩ := omap_some (show (boundsN (lenL ((cs.drop off).take n)) (lenL ((cs.drop off).take n)) lo hi (some m)).omap _ = some v from h)
    rw [lenL_eq, hll] at hr2
    obtain ⟨hb, hab, hbm, hml⟩ := boundsM_grow hr2
    refine ⟨.slice c (addrAt m0 p (o + off) (sizeT E e)) (q - p) (.ex (m0 - p)), ?_, ?_⟩
    ·
     show (boundsN n n lo' hi' (some m')).omap _ = _
     rw [boundsN_R h1 h2 h3, hb n n (Nat.le_refl _)]; rfl
    ·
     rw [dropL_eq, takeL_eq]
     obtain ⟨hwin, hcell2, g2⟩ := ept_win hfz hcs hcell hf hle
     obtain ⟨k1, k2, k3⟩ := lst_part hfz hwin g2 hcell2 hab (by rw [hll]; omega)
     have hlen : ((((cs.drop off).take n).take q).drop p).length = q - p := by rw [List.length_drop, List.length_take, hll, Nat.min_eq_left (by omega)]
     by_cases hpq : p < q
     ·
      have ho : addrAt m0 p (o + off) (sizeT E e) = o + off + p * 1 := by
       unfold addrAt
       rw [show Nat.beq m0 p = false from by rw [beq_dec]; simp; omega, hs1]; rfl
      rw [ho, <- hlen]
      refine VR.lst1_mk (fun h => ?_) Nat.one_pos hfz trivial (show _ ≤ m0 - p by rw [hlen]; omega) k1 k2 k3
      have := congrArg List.length h
      rw [hlen] at this; simp at this; omega
     ·
      have e0 : ((((cs.drop off).take n).take q).drop p) = [] := List.eq_nil_of_length_eq_zero (by rw [hlen]; omega)
      rw [e0, show q - p = 0 by omega]
      exact VR.lst0_mk (.inr (.inl ⟨_, _, _, rfl, trivial, fun h => by cases h⟩))
  | none =>
   cases (show mx' = none from h3)
   obtain ⟨⟨p, q, m0⟩, hr, rfl⟩ := omap_some (show (boundsN (lenL ((cs.drop off).take n)) (lenL ((cs.drop off).take n)) lo hi none).omap _ = some v from h)
   rw [lenL_eq, hll] at hr
   obtain ⟨hb, hab, hbl⟩ := boundsN_grow hr (Nat.le_refl _)
   refine ⟨.slice c (addrAt n p (o + off) (sizeT E e)) (q - p) (.ex (n - p)), ?_, ?_⟩
   ·
    show (boundsN n n lo' hi' none).omap _ = _
    rw [boundsN_R h1 h2 h3, hb]; rfl
   ·
    rw [dropL_eq, takeL_eq]
    obtain ⟨hwin, hcell2, g2⟩ := ept_win hfz hcs hcell hf hle
    obtain ⟨k1, k2, k3⟩ := lst_part hfz hwin g2 hcell2 hab (by rw [hll]; exact hbl)
    have hlen : ((((cs.drop off).take n).take q).drop p).length = q - p := by rw [List.length_drop, List.length_take, hll, Nat.min_eq_left hbl]
    by_cases hpq : p < q
    ·
     have ho : addrAt n p (o + off) (sizeT E e) = o + off + p * 1 := by
      unfold addrAt
      rw [show Nat.beq n p = false from by rw [beq_dec]; simp; omega, hs1]; rfl
     rw [ho, <- hlen]
     refine VR.lst1_mk (fun h => ?_) Nat.one_pos hfz trivial (show _ ≤ n - p by rw [hlen]; omega) k1 k2 k3
     have := congrArg List.length h
     rw [hlen] at this; simp at this; omega
    ·
     have e0 : (((cs.drop off).take n).take q).drop p = [] := List.eq_nil_of_length_eq_zero (by rw [hlen]; omega)
     rw [e0, show q - p = 0 by omega]
     exact VR.lst0_mk (.inr (.inl ⟨_, _, _, rfl, trivial, fun h => by cases h⟩))
theorem evSlice_R {k : TK} {x x' v : AV} {lo hi mx lo' hi' mx' : Option AV} (hx : VR w σ H x x') (h1 : OR w σ H lo lo') (h2 : OR w σ H hi hi') (h3 : OR w σ H mx mx') (h : evSlice k E x lo hi mx = some v) :
 ∃ a, evSlice k E x' lo' hi' mx' = some a /\ VR w σ H v a := by
 cases k with
 | string =>
  obtain ⟨s, hs, h⟩ := obind_some (show ((asStrV x).obind fun s => match mx with
   | none => (boundsN s.length s.length lo hi none).omap fun r => AV.str ((s.take r.2.1).drop r.1)
   | some _ => none) = some v from h)
  cases mx with
  | some m => cases h
  | none =>
   cases (show mx' = none from h3)
   obtain ⟨r, hr, rfl⟩ := omap_some (show (boundsN s.length s.length lo hi none).omap _ = some v from h)
   refine ⟨_, ?_, VR.str⟩
   show ((asStrV x').obind fun s => (boundsN s.length s.length lo' hi' none).omap fun r => AV.str ((s.take r.2.1).drop r.1)) = _
   rw [hx.asStr, hs]
   show (boundsN s.length s.length lo' hi' none).omap _ = _
   rw [boundsN_R h1 h2 h3, hr]; rfl
 | slice e =>
  cases hq : asSlice x with
  | some q =>
   obtain rfl := asSlice_some hq
   obtain ⟨c, hc, rfl⟩ := hx.slice
   exact slCap_R h1 h2 h3 hc h
  | none =>
   replace h := show oe (asSlice x) (bc (isNils x) ((boundsN 0 0 lo hi mx).omap fun _ => x) (lstSlice (sizeT E e) x lo hi mx)) (fun q => slCap q.2.2.2 (sizeT E e) q.1 q.2.1 q.2.2.1 lo hi mx) = some v from h
   rw [hq, oe_none] at h
   cases hn : isNils x with
   | true =>
    rw [hn] at h
    rcases isNils_true hn with rfl | ⟨ad, rfl⟩
    ·
     obtain rfl := hx.nils
     obtain ⟨r, hr, rfl⟩ := omap_some (show (boundsN 0 0 lo hi mx).omap _ = some v from h)
     refine ⟨.nils, ?_, VR.nils_mk⟩
     show (boundsN 0 0 lo' hi' mx').omap _ = _
     rw [boundsN_R h1 h2 h3, hr]; rfl
    ·
     obtain rfl := hx.esl
     obtain ⟨r, hr, rfl⟩ := omap_some (show (boundsN 0 0 lo hi mx).omap _ = some v from h)
     refine ⟨.esl ad, ?_, VR.esl_mk⟩
     show (boundsN 0 0 lo' hi' mx').omap _ = _
     rw [boundsN_R h1 h2 h3, hr]; rfl
   | false =>
    rw [hn] at h
    exact lstSlice_R hx h1 h2 h3 h
 | array n e =>
  replace h := show (oe (asPtr x) (eptSlice x n (sizeT E e) lo hi mx) fun q => (boundsN n n lo hi mx).omap fun r => AV.slice q.1 (addrAt r.2.2 r.1 q.2 (sizeT E e)) (Nat.sub r.2.1 r.1) (.ex (Nat.sub r.2.2 r.1))) = some v from h
  cases hq : asPtr x with
  | some q =>
   rw [hq, oe_some] at h
   obtain rfl := asPtr_some hq
   obtain ⟨c, hc, rfl⟩ := hx.ptr
   obtain ⟨r, hr, rfl⟩ := omap_some h
   refine ⟨.slice c (addrAt r.2.2 r.1 q.2 (sizeT E e)) (Nat.sub r.2.1 r.1) (.ex (Nat.sub r.2.2 r.1)), ?_, VR.slice_mk hc⟩
   show (boundsN n n lo' hi' mx').omap _ = _
   rw [boundsN_R h1 h2 h3, hr]; rfl
  | none =>
   rw [hq, oe_none] at h
   exact eptSlice_R hx h1 h2 h3 h
 | _ => cases h
theorem s2aV_R {n : Nat} {x x' v : AV} (hx : VR w σ H x x') (h : s2aV n x = some v) : ∃ a, s2aV n x' = some a /\ VR w σ H v a := by
 unfold s2aV at h
 cases hq : asSlice x with
 | some q =>
  rw [hq, oe_some] at h
  obtain rfl := asSlice_some hq
  obtain ⟨c, hc, rfl⟩ := hx.slice
  cases ht : capT q.2.2.2 with
  | true => rw [ht] at h; cases h
  | false =>
   rw [ht] at h
   replace h := show bc (Nat.blt q.2.2.1 n) none (some (AV.ptr q.1 q.2.1)) = some v from h
   cases hl : Nat.blt q.2.2.1 n with
   | true => rw [hl] at h; cases h
   | false =>
    rw [hl] at h; cases h
    refine ⟨.ptr c q.2.1, ?_, VR.ptr_mk hc⟩
    show bc (capT q.2.2.2) none (bc (Nat.blt q.2.2.1 n) none (some (AV.ptr c q.2.1))) = _
    rw [ht, hl]; rfl
 | none =>
  rw [hq, oe_none] at h
  obtain ⟨⟨sz, l⟩, hl, h⟩ := obind_some h
  obtain rfl := asLst_some hl
  simp only at h hx
  obtain ⟨hc, h⟩ := bc_some h
  obtain ⟨r, hr, rfl⟩ := omap_some h
  have hc0 := hc
  rw [Bool.and_eq_true, Bool.and_eq_true] at hc
  obtain ⟨h1, h2, h3⟩ := hc
  obtain rfl : sz = 1 := Nat.eq_of_beq_eq_true h1
  rw [blt_iff] at h2
  obtain ⟨hle0, rfl⟩ := takeE_some hr
  have hle : n ≤ l.length := hle0
  clear hle0
  rcases hx.lst1 (by intro h; rw [h] at hle; simp at hle; omega) with ⟨hw, l', rfl, hl'⟩ | ⟨c, o, k, l', rfl, _, hfz, _, hk, hl', hel, hcell⟩
  ·
   refine ⟨.ept (l'.take n) 0, ?_, VR.eptw_mk hw (VRL.take n hl')⟩
   show bc (Nat.beq 1 1 && (Nat.blt 0 n && flatL l')) ((takeE n l').omap fun l => AV.ept l 0) none = _
   rw [flatL_R hl', hc0, takeE_eq, if_pos (by rw [hl'.len]; exact hle)]; rfl
  ·
   have hf' : flatL l' = true := by rw [flatL_R hl']; exact h3
   obtain ⟨g1, _⟩ := flatL_cat hf'
   rw [Nat.mul_one, g1] at hcell
   refine ⟨.ptr c (o + 0), ?_, VR.ept_mk hfz (VRL.take n hl') ?_⟩
   ·
    have ht : capT k = false := by cases k <;> first | rfl | exact hk.elim
    show bc (capT k) none (bc (Nat.blt l.length n) none (some (AV.ptr c o))) = _
    rw [ht, show Nat.blt l.length n = false from Bool.eq_false_iff.2 fun h => by rw [blt_iff] at h; omega]; rfl
   ·
    have := cellsAt_part (i := 0) (k := n) hcell (by omega)
    rw [show (l.take n).length = n by simp; omega]
    simpa using this
theorem lenAV_R {k : TK} {x x' v : AV} (hx : VR w σ H x x') (h : lenAV k E x = some v) : lenAV k E x' = some v /\ VR w σ H v v := by
 cases k with
 | string =>
  obtain ⟨s, hs, rfl⟩ := omap_some (show (asStrV x).omap _ = some v from h)
  exact ⟨by show (asStrV x').omap _ = _; rw [hx.asStr, hs]; rfl, VR.int⟩
 | array n e => cases h; exact ⟨rfl, VR.int⟩
 | ptr a =>
  replace h := show (match kindOf E a with | .array n _ => some (AV.int .i64 (.ofNat n)) | _ => none) = some v from h
  refine ⟨h, ?_⟩
  split at h
  ·
   cases h; exact VR.int
  ·
   cases h
 | slice e =>
  replace h := show oe (asSlice x) (bc (isNils x) (some (AV.int .i64 (.ofNat 0))) ((asLst x).omap fun q => .int .i64 (.ofNat (lenL q.2)))) (fun q => some (.int .i64 (.ofNat q.2.2.1))) = some v from h
  cases hq : asSlice x with
  | some q =>
   rw [hq] at h; cases h
   obtain rfl := asSlice_some hq
   obtain ⟨c, hc, rfl⟩ := hx.slice
   exact ⟨rfl, VR.int⟩
  | none =>
   rw [hq, oe_none] at h
   cases hn : isNils x with
   | true =>
    rw [hn] at h; cases h
    rcases isNils_true hn with rfl | ⟨ad, rfl⟩
    ·
     obtain rfl := hx.nils
     exact ⟨rfl, VR.int⟩
    ·
     obtain rfl := hx.esl
     exact ⟨rfl, VR.int⟩
   | false =>
    rw [hn] at h
    obtain ⟨⟨sz, l⟩, hl, rfl⟩ := omap_some (show (asLst x).omap _ = some v from h)
    obtain rfl := asLst_some hl
    refine ⟨?_, VR.int⟩
    cases l with
    | nil => rcases hx.lst0 with ⟨_, rfl⟩ | rfl | ⟨c, o, k, rfl, _⟩ | ⟨ad, rfl⟩ <;> rfl
    | cons y l =>
     rcases hx.lst1 (by simp) with ⟨_, l', rfl, hl'⟩ | ⟨c, o, k, l', rfl, _⟩
     ·
      show some (AV.int .i64 (.ofNat (lenL l'))) = _
      rw [lenL_R hl']
     ·
      show some (AV.int .i64 (.ofNat (y :: l).length)) = some (AV.int .i64 (.ofNat (lenL (y :: l))))
      rw [lenL_eq]
 | _ => cases h
theorem capAV_R {k : TK} {x x' v : AV} (hx : VR w σ H x x') (h : capAV k x = some v) : capAV k x' = some v /\ VR w σ H v v := by
 cases k with
 | slice e =>
  replace h := show oe (asSlice x) (bc (isNils x) (some (AV.int .i64 (.ofNat 0))) none) (fun q => capX q.2.2.2) = some v from h
  cases hq : asSlice x with
  | some q =>
   rw [hq, oe_some] at h
   obtain rfl := asSlice_some hq
   obtain ⟨c, hc, rfl⟩ := hx.slice
   refine ⟨h, ?_⟩
   unfold capX at h
   split at h
   ·
    cases h; exact VR.int
   ·
    cases h
  | none =>
   rw [hq, oe_none] at h
   obtain ⟨hn, h⟩ := bc_some h
   cases h
   rcases isNils_true hn with rfl | ⟨ad, rfl⟩
   ·
    obtain rfl := hx.nils
    exact ⟨rfl, VR.int⟩
   ·
    obtain rfl := hx.esl
    exact ⟨rfl, VR.int⟩
 | _ => cases h
theorem idxVal_R {k : TK} {x x' v : AV} {i : Nat} (hx : VR w σ H x x') (h : idxVal k E x i = some v) : ∃ a, idxVal k E x' i = some a /\ VR w σ H v a := by
 cases k with
 | string =>
  obtain ⟨s, hs, h⟩ := obind_some (show ((asStrV x).obind fun s => (s[i]?).omap fun c => AV.int .u8 (.ofNat c.toNat)) = some v from h)
  obtain ⟨c, hc, rfl⟩ := omap_some h
  refine ⟨_, ?_, VR.int⟩
  show ((asStrV x').obind fun s => (s[i]?).omap fun c => AV.int .u8 (.ofNat c.toNat)) = _
  rw [hx.asStr, hs]; show (s[i]?).omap _ = _; rw [hc]; rfl
 | array n e =>
  obtain ⟨l, hl, h⟩ := obind_some (show ((asAggV x).obind fun cs => bc (Nat.blt i n) (partAV E e cs (Nat.mul i (sizeT E e))) none) = some v from h)
  obtain rfl := asAggV_some hl
  obtain ⟨l', hl', rfl⟩ := hx.agg
  obtain ⟨h1, h2⟩ := bc_some h
  obtain ⟨a, ha, h3⟩ := partAV_R hl' h2
  exact ⟨a, by show bc (Nat.blt i n) (partAV E e l' (Nat.mul i (sizeT E e))) none = _; rw [h1, ha]; rfl, h3⟩
 | _ => cases h
theorem fillParts_R {pl : Nat -> Option (Nat × Nat)} (k : TR w σ H M T T') : ∀ {ps : List (Nat × Operand)} {l r x : List AV}, VRL w σ H l r -> fillParts M pl T ps l = some x -> ∃ y, fillParts M pl T' ps r = some y /\ VRL w σ H x y
 | [], l, r, x, h, hx => by cases hx; exact ⟨r, rfl, h⟩
 | (i, p) :: ps, l, r, x, h, hx => by
  rw [fp_cons] at hx ⊢
  obtain ⟨q, hq, hx⟩ := obind_some hx
  obtain ⟨v, hv, hx⟩ := obind_some hx
  obtain ⟨h1, hx⟩ := bc_some (show bc (Nat.beq (lenL v.cells) q.2) ((setE v.cells q.1 l).obind _) none = some x from hx)
  obtain ⟨z, hz, hx⟩ := obind_some hx
  obtain ⟨a, ha, hva⟩ := evO_R k hv
  obtain ⟨u, hu, hzu⟩ := setE_R h hva.cells hz
  obtain ⟨y, hy, hxy⟩ := fillParts_R k hzu hx
  refine ⟨y, ?_, hxy⟩
  rw [hq]; show (evO M p T').obind _ = _
  rw [ha]; show bc (Nat.beq (lenL a.cells) q.2) ((setE a.cells q.1 r).obind _) none = _
  rw [lenL_R hva.cells, h1, hu]
  exact hy
def oneArg (E : Env) (F : TK -> AV -> Option AV) (as : List AV) (ts : List TypeId) : Option AV := match as with
 | x :: r => (match r with | [] => (match ts with | t :: _ => F (kindOf E t) x | [] => none) | _ :: _ => none)
 | [] => none
def ZeroOk (E : Env) : Prop := ∀ w σ H t z, zeroT E t = some z -> VR w σ H z z
theorem evPure_R (hZ : ZeroOk E) (k : TR w σ H M T T') {o : Op} {v : AV} (h : evPure M o E T = some v) : ∃ a, evPure M o E T' = some a /\ VR w σ H v a := by
 cases o with
 | move x => exact evO_R k h
 | assign x => exact evO_R k h
 | pick c x y =>
  obtain ⟨u, hu, h⟩ := obind_some (show ((evO M c T).obind fun v => (asBoolV v).obind fun t => bc t (evO M x T) (evO M y T)) = some v from h)
  obtain ⟨t, ht, h⟩ := obind_some h
  obtain ⟨u', hu', hr⟩ := evO_R k hu
  show ∃ a, ((evO M c T').obind fun v => (asBoolV v).obind fun t => bc t (evO M x T') (evO M y T')) = some a /\ _
  rw [hu']
  show ∃ a, ((asBoolV u').obind fun t => bc t (evO M x T') (evO M y T')) = some a /\ _
  rw [hr.asBool, ht]
  cases t with
  | true => exact evO_R k h
  | false => exact evO_R k h
 | nilCheck x =>
  obtain ⟨u, hu, h⟩ := obind_some (show (evO M x T).obind nilChk = some v from h)
  obtain ⟨u', hu', hr⟩ := evO_R k hu
  obtain ⟨a, ha, hv⟩ := nilChk_R hr h
  exact ⟨a, by show (evO M x T').obind nilChk = _; rw [hu']; exact ha, hv⟩
 | binOp op t x y yt =>
  obtain ⟨u, hu, h⟩ := obind_some (show ((evO M x T).obind fun x => (evO M y T).obind fun y => binAV (kindOf E t) (E.flat t) op x y) = some v from h)
  obtain ⟨z, hz, h⟩ := obind_some h
  obtain ⟨u', hu', hr⟩ := evO_R k hu
  obtain ⟨z', hz', hs⟩ := evO_R k hz
  obtain ⟨a, ha, hv⟩ := binAV_R hr hs h
  exact ⟨a, by show ((evO M x T').obind fun x => (evO M y T').obind fun y => binAV (kindOf E t) (E.flat t) op x y) = _; rw [hu']; show (evO M y T').obind _ = _; rw [hz']; exact ha, hv⟩
 | unOp op t x =>
  obtain ⟨u, hu, h⟩ := obind_some (show (evO M x T).obind (unAV op) = some v from h)
  obtain ⟨u', hu', hr⟩ := evO_R k hu
  obtain ⟨a, ha, hv⟩ := unAV_R hr h
  exact ⟨a, by show (evO M x T').obind (unAV op) = _; rw [hu']; exact ha, hv⟩
 | convert s d x =>
  obtain ⟨u, hu, h⟩ := obind_some (show (evO M x T).obind (convI (kindOf E s) (kindOf E d)) = some v from h)
  obtain ⟨u', hu', hr⟩ := evO_R k hu
  obtain ⟨a, ha, hv⟩ := convI_R hr h
  exact ⟨a, by show (evO M x T').obind (convI (kindOf E s) (kindOf E d)) = _; rw [hu']; exact ha, hv⟩
 | makeFunc fn x y =>
  cases fn with
  | func f =>
   obtain ⟨u, hu, h⟩ := obind_some (show ((evOs M x.toList T).obind fun a => (evOs M y.toList T).omap fun c => AV.func f a c) = some v from h)
   obtain ⟨z, hz, rfl⟩ := omap_some h
   obtain ⟨u', hu', hr⟩ := evOs_R k hu
   obtain ⟨z', hz', hs⟩ := evOs_R k hz
   refine ⟨.func f u' z', ?_, by simp only [VR]; exact ⟨u', z', hr, hs, rfl⟩⟩
   show ((evOs M x.toList T').obind fun a => (evOs M y.toList T').omap fun c => AV.func f a c) = _
   rw [hu']; show (evOs M y.toList T').omap _ = _; rw [hz']; rfl
  | _ => cases h
 | makeInterface t x =>
  obtain ⟨h1, h⟩ := bc_some (show bc (ifaceOk (kindOf E t)) ((evO M x T).omap (AV.iface t ·)) none = some v from h)
  obtain ⟨u, hu, rfl⟩ := omap_some h
  obtain ⟨u', hu', hr⟩ := evO_R k hu
  refine ⟨.iface t u', ?_, by simp only [VR]; exact ⟨u', hr, rfl⟩⟩
  show bc (ifaceOk (kindOf E t)) ((evO M x T').omap (AV.iface t ·)) none = _
  rw [h1, hu']; rfl
 | fieldAddr s x f =>
  obtain ⟨p, hp, h⟩ := obind_some (show ((fieldOf (kindOf E s) f).obind fun p => bc (Nat.blt 0 (sizeT E p.2)) ((evO M x T).obind fun v => ptrAdd v p.1) none) = some v from h)
  obtain ⟨h1, h⟩ := bc_some h
  obtain ⟨u, hu, h⟩ := obind_some h
  obtain ⟨u', hu', hr⟩ := evO_R k hu
  obtain ⟨a, ha, hv⟩ := ptrAdd_R hr h
  refine ⟨a, ?_, hv⟩
  show ((fieldOf (kindOf E s) f).obind fun p => bc (Nat.blt 0 (sizeT E p.2)) ((evO M x T').obind fun v => ptrAdd v p.1) none) = _
  rw [hp]; show bc (Nat.blt 0 (sizeT E p.2)) ((evO M x T').obind fun v => ptrAdd v p.1) none = _
  rw [h1, hu']; exact ha
 | field s x f =>
  obtain ⟨p, hp, h⟩ := obind_some (show ((fieldOf (kindOf E s) f).obind fun p => (evO M x T).obind fun v => (asAggV v).obind fun cs => partAV E p.2 cs p.1) = some v from h)
  obtain ⟨u, hu, h⟩ := obind_some h
  obtain ⟨l, hl, h⟩ := obind_some h
  obtain rfl := asAggV_some hl
  obtain ⟨u', hu', hr⟩ := evO_R k hu
  obtain ⟨l', hl', rfl⟩ := hr.agg
  obtain ⟨a, ha, hv⟩ := partAV_R hl' h
  refine ⟨a, ?_, hv⟩
  show ((fieldOf (kindOf E s) f).obind fun p => (evO M x T').obind fun v => (asAggV v).obind fun cs => partAV E p.2 cs p.1) = _
  rw [hp]; show ((evO M x T').obind fun v => (asAggV v).obind fun cs => partAV E p.2 cs p.1) = _
  rw [hu']; exact ha
 | indexAddr t x i =>
  obtain ⟨u, hu, h⟩ := obind_some (show ((evO M x T).obind fun x => (evO M i T).obind fun i => (natOf i).obind fun i => idxAddr (kindOf E t) E x i) = some v from h)
  obtain ⟨z, hz, h⟩ := obind_some h
  obtain ⟨n, hn, h⟩ := obind_some h
  obtain ⟨u', hu', hr⟩ := evO_R k hu
  obtain ⟨z', hz', hs⟩ := evO_R k hz
  obtain ⟨a, ha, hv⟩ := idxAddr_R hr h
  refine ⟨a, ?_, hv⟩
  show ((evO M x T').obind fun x => (evO M i T').obind fun i => (natOf i).obind fun i => idxAddr (kindOf E t) E x i) = _
  rw [hu']; show ((evO M i T').obind fun i => (natOf i).obind fun i => idxAddr (kindOf E t) E u' i) = _
  rw [hz']; show ((natOf z').obind fun i => idxAddr (kindOf E t) E u' i) = _
  rw [natOf_R hs, hn]; exact ha
 | index t x i =>
  obtain ⟨u, hu, h⟩ := obind_some (show ((evO M x T).obind fun x => (evO M i T).obind fun i => (natOf i).obind fun i => idxVal (kindOf E t) E x i) = some v from h)
  obtain ⟨z, hz, h⟩ := obind_some h
  obtain ⟨n, hn, h⟩ := obind_some h
  obtain ⟨u', hu', hr⟩ := evO_R k hu
  obtain ⟨z', hz', hs⟩ := evO_R k hz
  obtain ⟨a, ha, hv⟩ := idxVal_R hr h
  refine ⟨a, ?_, hv⟩
  show ((evO M x T').obind fun x => (evO M i T').obind fun i => (natOf i).obind fun i => idxVal (kindOf E t) E x i) = _
  rw [hu']; show ((evO M i T').obind fun i => (natOf i).obind fun i => idxVal (kindOf E t) E u' i) = _
  rw [hz']; show ((natOf z').obind fun i => idxVal (kindOf E t) E u' i) = _
  rw [natOf_R hs, hn]; exact ha
 | slice t x lo hi mx =>
  obtain ⟨u, hu, h⟩ := obind_some (show ((evO M x T).obind fun x => (evOpt M lo T).obind fun lo => (evOpt M hi T).obind fun hi => (evOpt M mx T).obind fun mx => evSlice (kindOf E t) E x lo hi mx) = some v from h)
  obtain ⟨l, hl, h⟩ := obind_some h
  obtain ⟨hh, hhh, h⟩ := obind_some h
  obtain ⟨m, hm, h⟩ := obind_some h
  obtain ⟨u', hu', hr⟩ := evO_R k hu
  obtain ⟨l', hl', r1⟩ := evOpt_R k hl
  obtain ⟨hh', hhh', r2⟩ := evOpt_R k hhh
  obtain ⟨m', hm', r3⟩ := evOpt_R k hm
  obtain ⟨a, ha, hv⟩ := evSlice_R hr r1 r2 r3 h
  refine ⟨a, ?_, hv⟩
  show ((evO M x T').obind fun x => (evOpt M lo T').obind fun lo => (evOpt M hi T').obind fun hi => (evOpt M mx T').obind fun mx => evSlice (kindOf E t) E x lo hi mx) = _
  rw [hu', hl', hhh', hm']; exact ha
 | sliceToArrayPointer t x =>
  replace h := show (match kindOf E t with | .array n _ => (evO M x T).obind (s2aV n) | _ => none) = some v from h
  show ∃ a, (match kindOf E t with | .array n _ => (evO M x T').obind (s2aV n) | _ => none) = some a /\ _
  cases hk : kindOf E t with
  | array n e =>
   rw [hk] at h
   obtain ⟨u, hu, h⟩ := obind_some (show (evO M x T).obind (s2aV n) = some v from h)
   obtain ⟨u', hu', hr⟩ := evO_R k hu
   obtain ⟨a, ha, hv⟩ := s2aV_R hr h
   exact ⟨a, by show (evO M x T').obind (s2aV n) = _; rw [hu']; exact ha, hv⟩
  | _ => rw [hk] at h; cases h
 | extract x i =>
  obtain ⟨u, hu, h⟩ := obind_some (show ((evO M x T).obind fun v => (asTupleV v).obind fun l => getL l i) = some v from h)
  obtain ⟨l, hl, h⟩ := obind_some h
  obtain rfl := asTupleV_some hl
  obtain ⟨u', hu', hr⟩ := evO_R k hu
  obtain ⟨l', hl', rfl⟩ := hr.tuple
  obtain ⟨a, ha, hv⟩ := getL_R hl' h
  exact ⟨a, by show ((evO M x T').obind fun v => (asTupleV v).obind fun l => getL l i) = _; rw [hu']; exact ha, hv⟩
 | build t ps =>
  obtain ⟨h1, h⟩ := bc_some (show bc (isAggK (kindOf E t)) ((zeroT E t).obind fun z => (fillParts M (buildK (kindOf E t) E) T ps.toList z.cells).omap AV.agg) none = some v from h)
  obtain ⟨z, hz, h⟩ := obind_some h
  obtain ⟨r, hr, rfl⟩ := omap_some h
  obtain ⟨y, hy, hv⟩ := fillParts_R k (hZ w σ H t z hz).cells hr
  refine ⟨.agg y, ?_, VR.agg_mk hv⟩
  show bc (isAggK (kindOf E t)) ((zeroT E t).obind fun z => (fillParts M (buildK (kindOf E t) E) T' ps.toList z.cells).omap AV.agg) none = _
  rw [h1, hz]; show (fillParts M (buildK (kindOf E t) E) T' ps.toList z.cells).omap AV.agg = _
  rw [hy]; rfl
 | call c =>
  replace h := show (match c.callee with | .builtin b => (evOs M c.args.toList T).obind fun as => bltArgs b E as c.argTypes.toList | _ => none) = some v from h
  show ∃ a, (match c.callee with | .builtin b => (evOs M c.args.toList T').obind fun as => bltArgs b E as c.argTypes.toList | _ => none) = some a /\ _
  split at h
  ·
   rename_i b hb
   obtain ⟨as, has, h⟩ := obind_some h
   obtain ⟨as', has', hr⟩ := evOs_R k has
   have fin : ∀ {v}, bltArgs b E as c.argTypes.toList = some v -> ∃ a, bltArgs b E as' c.argTypes.toList = some a /\ VR w σ H v a := by
    intro v h
    have one : ∀ (F : TK -> AV -> Option AV), oneArg E F as c.argTypes.toList = some v -> (∀ {k x x' v}, VR w σ H x x' -> F k x = some v -> F k x' = some v /\ VR w σ H v v) ->
     ∃ a, oneArg E F as' c.argTypes.toList = some a /\ VR w σ H v a := by
     intro F h hF
     cases as with
     | nil => cases h
     | cons x r =>
      cases r with
      | cons => cases h
      | nil =>
       obtain ⟨x', r', hx, hr', rfl⟩ := VRL.cons.1 hr
       rw [VRL.nil] at hr'; subst hr'
       unfold oneArg at h ⊢
       simp only at h ⊢
       cases hts : c.argTypes.toList with
       | nil => rw [hts] at h; cases h
       | cons t ts =>
        rw [hts] at h
        obtain ⟨h1, h2⟩ := hF hx h
        exact ⟨v, h1, h2⟩
    cases b with
    | len => exact one (fun k x => lenAV k E x) h (fun hx h => lenAV_R hx h)
    | cap => exact one (fun k x => capAV k x) h (fun hx h => capAV_R hx h)
    | min => exact mmAV_R hr h
    | max => exact mmAV_R hr h
    | _ => cases h
   obtain ⟨a, ha, hv⟩ := fin h
   exact ⟨a, by rw [has']; exact ha, hv⟩
  ·
   cases h
 | _ => cases h
end
end
end Go.Ev
namespace Go.Ev
noncomputable section
section
variable {w : Bool} {σ : Mp} {H2 H1 : Hp} {M : Nat} {T T' : Tm} {E : Env}
theorem HR.cells {b c off n : Nat} {l : List AV} (r : HR w σ H2 H1) (hb : σ b = some c) (h : cellsAt H2 b off n = some l) : ∃ l', cellsAt H1 c off n = some l' /\ VRL w σ H1 l l' := by
 by_cases h0 : n = 0
 ·
  subst h0; cases h; exact ⟨[], rfl, VRL.nil.2 rfl⟩
 rw [cellsAt_pos h0] at h ⊢
 obtain ⟨x, hx, h⟩ := obind_some h
 obtain ⟨q, hq, h⟩ := obind_some h
 obtain ⟨l0, h2, h3⟩ := obind_some h
 obtain rfl := asCells_some hq
 obtain ⟨c', y, hc, hy, hr⟩ := r.blk b _ hx
 rw [hb] at hc; cases hc
 obtain ⟨l', rfl, hl'⟩ := hr
 obtain ⟨y, hy2, hr2⟩ := takeE_R (dropL_R hl' off) h2
 refine ⟨y, ?_, ?_⟩
 ·
  unfold cellsAt'
  rw [hy]
  show (takeE n (dropL off l')).obind (chkL q.2.2.2) = _
  rw [hy2]
  show chkL q.2.2.2 y = _
  obtain ⟨rfl, hf⟩ := chkL_some h3
  cases hw : q.2.2.2 with
  | true => rfl
  | false => show bc (flatL y) (some y) none = _; rw [flatL_R hr2, hf hw]; rfl
 ·
  obtain ⟨rfl, _⟩ := chkL_some h3
  exact hr2
theorem HR.cell {b c off : Nat} {v : AV} (r : HR w σ H2 H1) (hb : σ b = some c) (h : cellAt H2 b off = some v) : ∃ a, cellAt H1 c off = some a /\ VR w σ H1 v a := by
 obtain ⟨x, hx, h⟩ := obind_some h
 obtain ⟨q, hq, h⟩ := obind_some h
 obtain ⟨v0, h2, h3⟩ := obind_some h
 obtain rfl := asCells_some hq
 obtain ⟨c', y, hc, hy, hr⟩ := r.blk b _ hx
 rw [hb] at hc; cases hc
 obtain ⟨l', rfl, hl'⟩ := hr
 obtain ⟨a, ha, hr2⟩ := getL_R hl' h2
 have h3' : v0 = v /\ (q.2.2.2 = false -> oneC v0 = true) := by
  cases hw : q.2.2.2 with
  | true => rw [hw] at h3; cases h3; exact ⟨rfl, fun h => by cases h⟩
  | false =>
   rw [hw] at h3
   obtain ⟨h4, h5⟩ := bc_some (show bc (oneC v0) (some v0) none = some v from h3)
   cases h5; exact ⟨rfl, fun _ => h4⟩
 obtain ⟨rfl, hone⟩ := h3'
 refine ⟨a, ?_, hr2⟩
 unfold cellAt
 rw [hy]
 show (getL l' off).obind (chk1 q.2.2.2) = _
 rw [ha]
 show chk1 q.2.2.2 a = _
 cases hw : q.2.2.2 with
 | true => rfl
 | false => show bc (oneC a) (some a) none = _; rw [hr2.oneC, hone hw]; rfl
theorem HR.load {t : TypeId} {b c off : Nat} {v : AV} (r : HR w σ H2 H1) (hb : σ b = some c) (h : loadAV E H2 t b off = some v) : ∃ a, loadAV E H1 t c off = some a /\ VR w σ H1 v a := by
 unfold loadAV loadC at h ⊢
 cases hi : E.ty t with
 | none => rw [hi] at h; cases h
 | some i =>
  rw [hi] at h
  simp only at h ⊢
  cases hag : i.agg with
  | true =>
   rw [hag] at h
   obtain ⟨l, hl, rfl⟩ := omap_some (show (cellsAt H2 b off i.size).omap AV.agg = some v from h)
   obtain ⟨l', hl', h1⟩ := r.cells hb hl
   exact ⟨.agg l', by show (cellsAt H1 c off i.size).omap AV.agg = _; rw [hl']; rfl, VR.agg_mk h1⟩
  | false =>
   rw [hag] at h
   exact r.cell hb h
theorem partAV_load {t : TypeId} {c o off : Nat} {cs l' : List AV} {v : AV} (hcs : VRL w σ H1 cs l') (hcell : cellsAt H1 c o cs.length = some l') (h : partAV E t cs off = some v) : ∃ a, loadAV E H1 t c (o + off) = some a /\ VR w σ H1 v a := by
 unfold partAV at h
 unfold loadAV loadC
 cases hi : E.ty t with
 | none => rw [hi] at h; cases h
 | some i =>
  rw [hi] at h
  simp only at h ⊢
  cases hag : i.agg with
  | true =>
   rw [hag] at h
   obtain ⟨x, hx, rfl⟩ := omap_some (show (takeE i.size (dropL off cs)).omap AV.agg = some v from h)
   rw [dropL_eq] at hx
   obtain ⟨hle, rfl⟩ := takeE_some hx
   refine ⟨.agg ((l'.drop off).take i.size), ?_, VR.agg_mk (VRL.take _ (VRL.drop _ hcs))⟩
   show (cellsAt H1 c (o + off) i.size).omap AV.agg = _
   by_cases h0 : i.size = 0
   ·
    rw [h0, cellsAt_zero]; simp [Option.omap]
   ·
    rw [cellsAt_part hcell (by rw [List.length_drop] at hle; omega)]; rfl
  | false =>
   rw [hag] at h
   obtain ⟨a, ha, h1⟩ := getL_R hcs h
   rw [getL_eq] at ha
   refine ⟨a, ?_, h1⟩
   show cellAt H1 c (o + off) = _
   rw [cellsAt_cell hcell (by rw [<- hcs.len]; exact (List.getElem?_eq_some_iff.1 ha).1)]; exact ha
theorem evRead_R (r : HR w σ H2 H1) (k : TR w σ H1 M T T') {o : Op} {v : AV} (h : evRead M o E T H2 = some v) : ∃ a, evRead M o E T' H1 = some a /\ VR w σ H1 v a := by
 cases o with
 | load t x =>
  obtain ⟨u, hu, h⟩ := obind_some (show ((evO M x T).obind fun v => oe (asPtr v) ((asEpt v).obind fun q => partAV E t q.1 q.2) fun q => loadAV E H2 t q.1 q.2) = some v from h)
  obtain ⟨u', hu', hr⟩ := evO_R k hu
  show ∃ a, ((evO M x T').obind fun v => oe (asPtr v) ((asEpt v).obind fun q => partAV E t q.1 q.2) fun q => loadAV E H1 t q.1 q.2) = some a /\ _
  rw [hu']
  show ∃ a, (oe (asPtr u') ((asEpt u').obind fun q => partAV E t q.1 q.2) fun q => loadAV E H1 t q.1 q.2) = some a /\ _
  cases hq : asPtr u with
  | some q =>
   rw [hq, oe_some] at h
   obtain rfl := asPtr_some hq
   obtain ⟨c, hc, rfl⟩ := hr.ptr
   exact r.load hc h
  | none =>
   rw [hq, oe_none] at h
   obtain ⟨⟨cs, off⟩, hl, h⟩ := obind_some h
   obtain rfl := asEpt_some hl
   rcases hr.ept with ⟨_, cs', rfl, h1⟩ | ⟨c, o, cs', rfl, _, h1, h2⟩
   ·
    exact partAV_R h1 h
   ·
    exact partAV_load h1 h2 h
 | convert s d x =>
  replace h := show (match kindOf E s with
   | .slice e => match isByteK (kindOf E e) with
    | true => match kindOf E d with
     | .string => (evO M x T).obind (strOf H2)
     | .slice _ => match Nat.beq s d with | true => (evO M x T).obind (ownSlice e H2) | false => none
     | _ => none
    | false => none
   | _ => none) = some v from h
  show ∃ a, (match kindOf E s with
   | .slice e => match isByteK (kindOf E e) with
    | true => match kindOf E d with
     | .string => (evO M x T').obind (strOf H1)
     | .slice _ => match Nat.beq s d with | true => (evO M x T').obind (ownSlice e H1) | false => none
     | _ => none
    | false => none
   | _ => none) = some a /\ _
  have hstr : ∀ {y y' v}, VR w σ H1 y y' -> strOf H2 y = some v -> strOf H1 y' = some v /\ VR w σ H1 v v := by
   intro y y' v hr h
   replace h := show oe (asSlice y) (bc (isNils y) (some (AV.str [])) ((asLst y).obind fun q => bc (Nat.beq q.1 1) ((bytesOfL (catL q.2)).omap .str) none)) (fun q => ((cellsAt H2 q.1 q.2.1 q.2.2.1).obind bytesOfL).omap .str) = some v from h
   cases hq : asSlice y with
   | some q =>
    rw [hq, oe_some] at h
    obtain rfl := asSlice_some hq
    obtain ⟨c, hc, rfl⟩ := hr.slice
    obtain ⟨bs, hbs, rfl⟩ := omap_some h
    obtain ⟨l, hl, hbs⟩ := obind_some hbs
    obtain ⟨l', hl', hr2⟩ := r.cells hc hl
    refine ⟨?_, VR.str⟩
    show ((cellsAt H1 c q.2.1 q.2.2.1).obind bytesOfL).omap AV.str = _
    rw [hl']; show (bytesOfL l').omap AV.str = _
    rw [bytesOfL_R hr2, hbs]; rfl
   | none =>
    rw [hq, oe_none] at h
    cases hn : isNils y with
    | true =>
     rw [hn] at h; cases h
     rcases isNils_true hn with rfl | ⟨ad, rfl⟩
     ·
      obtain rfl := hr.nils
      exact ⟨rfl, VR.str⟩
     ·
      obtain rfl := hr.esl
      exact ⟨rfl, VR.str⟩
    | false =>
     rw [hn] at h
     obtain ⟨⟨sz, l⟩, hl, h⟩ := obind_some (show ((asLst y).obind fun q => bc (Nat.beq q.1 1) ((bytesOfL (catL q.2)).omap AV.str) none) = some v from h)
     obtain rfl := asLst_some hl
     obtain ⟨hs, h⟩ := bc_some h
     obtain rfl : sz = 1 := Nat.eq_of_beq_eq_true hs
     obtain ⟨bs, hbs, rfl⟩ := omap_some h
     refine ⟨?_, VR.str⟩
     cases l with
     | nil =>
      have : bs = [] := by
       have hbs : some [] = some bs := hbs
       cases hbs; rfl
      subst this
      rcases hr.lst0 with ⟨_, rfl⟩ | rfl | ⟨c, o, k, rfl, _⟩ | ⟨ad, rfl⟩ <;> rfl
     | cons z l =>
      rcases hr.lst1 (by simp) with ⟨_, l', rfl, hl'⟩ | ⟨c, o, k, l', rfl, _, _, _, _, hl', _, hcell⟩
      ·
       show (bytesOfL (catL l')).omap AV.str = _
       rw [bytesOfL_R (catL_R hl')]
       have hbs : bytesOfL (catL (z :: l)) = some bs := hbs
       rw [hbs]; rfl
      ·
       show ((cellsAt H1 c o (z :: l).length).obind bytesOfL).omap AV.str = _
       rw [Nat.mul_one] at hcell
       rw [hcell]
       show (bytesOfL (catL l')).omap AV.str = _
       rw [bytesOfL_R (catL_R hl')]
       have hbs : bytesOfL (catL (z :: l)) = some bs := hbs
       rw [hbs]; rfl
  have hown : ∀ {e y y' v}, VR w σ H1 y y' -> ownSlice e H2 y = some v -> ∃ a, ownSlice e H1 y' = some a /\ VR w σ H1 v a := by
   intro e y y' v hr h
   obtain ⟨q, hq, h⟩ := obind_some h
   obtain ⟨x, hx, h⟩ := obind_some h
   obtain ⟨p, hp, h⟩ := obind_some h
   obtain ⟨ho, h⟩ := bc_some h
   cases h
   obtain rfl := asSlice_some hq
   obtain rfl := asCells_some hp
   obtain ⟨c, hc, rfl⟩ := hr.slice
   obtain ⟨c', z, hc', hz, hr2⟩ := r.blk _ _ hx
   rw [hc] at hc'; cases hc'
   obtain ⟨l', rfl, _⟩ := hr2
   refine ⟨_, ?_, hr⟩
   show (H1.m.get c).obind _ = _
   rw [hz]
   show bc (p.2.2.2 && Nat.beq p.2.1 e) _ none = _
   rw [ho]; rfl
  split at h
  ·
   rename_i e hk
   split at h
   ·
    rename_i hb
    split at h
    ·
     rename_i hd
     obtain ⟨u, hu, h⟩ := obind_some h
     obtain ⟨u', hu', hr⟩ := evO_R k hu
     obtain ⟨h1, h2⟩ := hstr hr h
     exact ⟨v, by rw [hu']; exact h1, h2⟩
    ·
     rename_i hd
     split at h
     ·
      rename_i hsd
      obtain ⟨u, hu, h⟩ := obind_some h
      obtain ⟨u', hu', hr⟩ := evO_R k hu
      obtain ⟨a, h1, h2⟩ := hown hr h
      exact ⟨a, by rw [hu']; exact h1, h2⟩
     ·
      cases h
    ·
     cases h
   ·
    cases h
  ·
   cases h
 | _ => cases h
theorem evAlloc_R (hZ : ZeroOk E) (k : TR w σ H1 M T T') {o : Op} {p : Blk × (Nat -> AV)} (h : evAlloc M o E T = some p) :
 ∃ q, evAlloc M o E T' = some q /\ BR w σ H1 p.1 q.1 /\ ∀ σ' H' b c, σ' b = some c -> VR w σ' H' (p.2 b) (q.2 c) := by
 cases o with
 | alloc t =>
  obtain ⟨z, hz, rfl⟩ := omap_some (show ((zeroT E t).omap fun z => (Blk.cells z.cells t true true, fun b => AV.ptr b 0)) = some p from h)
  refine ⟨(.cells z.cells t true true, fun b => .ptr b 0), ?_, ⟨_, rfl, (hZ w σ H1 t z hz).cells⟩, fun _ _ _ _ hb => VR.ptr_mk hb⟩
  show (zeroT E t).omap _ = _
  rw [hz]; rfl
 | box t x =>
  obtain ⟨u, hu, rfl⟩ := omap_some (show ((evO M x T).omap fun v => (Blk.cells v.cells t true true, fun b => AV.ptr b 0)) = some p from h)
  obtain ⟨u', hu', hr⟩ := evO_R k hu
  refine ⟨(.cells u'.cells t true true, fun b => .ptr b 0), ?_, ⟨_, rfl, hr.cells⟩, fun _ _ _ _ hb => VR.ptr_mk hb⟩
  show (evO M x T').omap _ = _
  rw [hu']; rfl
 | buildSlice t n ps =>
  replace h := show (match kindOf E t with
   | .slice e => match Nat.ble (Nat.mul n (sizeT E e)) 16777216 with
    | true => (zeroT E e).obind fun z => (fillParts M (fun i => some (Nat.mul i (sizeT E e), sizeT E e)) T ps.toList (repL n z.cells)).omap fun l => (Blk.cells l e true true, fun b => AV.slice b 0 n (.ex n))
    | false => none
   | _ => none) = some p from h
  show ∃ q, (match kindOf E t with
   | .slice e => match Nat.ble (Nat.mul n (sizeT E e)) 16777216 with
    | true => (zeroT E e).obind fun z => (fillParts M (fun i => some (Nat.mul i (sizeT E e), sizeT E e)) T' ps.toList (repL n z.cells)).omap fun l => (Blk.cells l e true true, fun b => AV.slice b 0 n (.ex n))
    | false => none
   | _ => none) = some q /\ _
  split at h
  ·
   rename_i e hk
   split at h
   ·
    rename_i hb
    obtain ⟨z, hz, h⟩ := obind_some h
    obtain ⟨l, hl, rfl⟩ := omap_some h
    obtain ⟨y, hy, hr⟩ := fillParts_R k (VRL.rep (hZ w σ H1 e z hz).cells n) hl
    simp only [hb]
    refine ⟨(.cells y e true true, fun b => .slice b 0 n (.ex n)), ?_, ⟨_, rfl, hr⟩, fun _ _ _ _ hb => VR.slice_mk hb⟩
    rw [hz]; show (fillParts M _ T' ps.toList (repL n z.cells)).omap _ = _
    rw [hy]; rfl
   ·
    cases h
  ·
   cases h
 | makeSlice t x y =>
  replace h := show (match kindOf E t with
   | .slice e => (zeroT E e).obind fun z => (evO M x T).obind fun l => (evO M y T).obind fun c => (natOf l).obind fun l => (natOf c).obind fun c =>
    match Nat.ble l c && (Nat.ble c 1048576 && Nat.ble (bytesT E e) 1048576) with
    | true => some (Blk.cells (repL c z.cells) e true true, fun b => AV.slice b 0 l (.ex c))
    | false => none
   | _ => none) = some p from h
  show ∃ q, (match kindOf E t with
   | .slice e => (zeroT E e).obind fun z => (evO M x T').obind fun l => (evO M y T').obind fun c => (natOf l).obind fun l => (natOf c).obind fun c =>
    match Nat.ble l c && (Nat.ble c 1048576 && Nat.ble (bytesT E e) 1048576) with
    | true => some (Blk.cells (repL c z.cells) e true true, fun b => AV.slice b 0 l (.ex c))
    | false => none
   | _ => none) = some q /\ _
  split at h
  ·
   rename_i e hk
   obtain ⟨z, hz, h⟩ := obind_some h
   obtain ⟨u, hu, h⟩ := obind_some h
   obtain ⟨s, hs, h⟩ := obind_some h
   obtain ⟨n, hn, h⟩ := obind_some h
   obtain ⟨m, hm, h⟩ := obind_some h
   obtain ⟨u', hu', r1⟩ := evO_R k hu
   obtain ⟨s', hs', r2⟩ := evO_R k hs
   split at h
   ·
    rename_i hb
    cases h
    refine ⟨(.cells (repL m z.cells) e true true, fun b => .slice b 0 n (.ex m)), ?_, ⟨_, rfl, VRL.rep (hZ w σ H1 e z hz).cells m⟩, fun _ _ _ _ hb => VR.slice_mk hb⟩
    simp only [hz, hu', hs', obind_some', natOf_R r1, natOf_R r2, hn, hm, hb]
   ·
    cases h
  ·
   cases h
 | convert s d x =>
  replace h := show (match kindOf E s with
   | .string => match kindOf E d with
    | .slice e => match isByteK (kindOf E e) && Nat.beq (sizeT E e) 1 with
     | true => (evO M x T).obind fun v => match v with
      | .str l => some (Blk.cells (l.map fun c => .int .u8 (.ofNat c.toNat)) e false true, fun b => AV.slice b 0 l.length (.rest 0 (sizeT E e) l.length))
      | _ => none
     | false => none
    | _ => none
   | _ => none) = some p from h
  show ∃ q, (match kindOf E s with
   | .string => match kindOf E d with
    | .slice e => match isByteK (kindOf E e) && Nat.beq (sizeT E e) 1 with
     | true => (evO M x T').obind fun v => match v with
      | .str l => some (Blk.cells (l.map fun c => .int .u8 (.ofNat c.toNat)) e false true, fun b => AV.slice b 0 l.length (.rest 0 (sizeT E e) l.length))
      | _ => none
     | false => none
    | _ => none
   | _ => none) = some q /\ _
  split at h
  ·
   split at h
   ·
    rename_i e hk
    split at h
    ·
     rename_i hb
     obtain ⟨u, hu, h⟩ := obind_some h
     split at h
     ·
      cases h
      obtain ⟨u', hu', r1⟩ := evO_R k hu
      obtain rfl := sc_R r1 (.inr (.inr rfl))
      rename_i l
      refine ⟨(.cells (l.map fun c => .int .u8 (.ofNat c.toNat)) e false true, fun b => .slice b 0 l.length (.rest 0 (sizeT E e) l.length)), by simp only [hb, hu', obind_some'], ⟨_, rfl, ?_⟩, fun _ _ _ _ hb => VR.slice_mk hb⟩
      have : ∀ l : List UInt8, VRL w σ H1 (l.map fun c => AV.int .u8 (.ofNat c.toNat)) (l.map fun c => AV.int .u8 (.ofNat c.toNat)) := by
       intro l
       induction l with
       | nil => exact VRL.nil.2 rfl
       | cons c l ih => exact VRL.cons.2 ⟨_, _, VR.int, ih, rfl⟩
      exact this l
     ·
      cases h
    ·
     cases h
   ·
    cases h
  ·
   cases h
 | _ => cases h
/-! Memory turned. -/
def Mp.add (σ : Mp) (b c : Nat) : Mp := fun a => if a = b then some c else σ a
theorem HR.newAt {x y : Blk} {c n : Nat} {H1' : Hp} (hn : n ≤ c) (r : HR w σ H2 H1) (hb : BR w σ H1 x y) (h0 : H1.m.get c = none) (h1 : ∀ b, σ b ≠ some c) (hm : H1'.m = H1.m.set y c) (h2 : H1.next ≤ H1'.next) (h3 : c < H1'.next) :
 HR w (σ.add H2.next c) (newBlk H2 x).2 H1' /\ Lg n σ H2 H1 (σ.add H2.next c) (newBlk H2 x).2 H1' := by
 have hn' := hn
 have hn : σ H2.next = none := by
  cases h : σ H2.next with
  | none => rfl
  | some c => exact absurd (r.dom _ _ h) (Nat.lt_irrefl _)
 have hget : ∀ a, H1'.m.get a = if a = c then some y else H1.m.get a := fun a => by rw [hm]; exact Tr.get_set _ _ _ _
 have hle : ∀ b c', σ b = some c' -> (σ.add H2.next c) b = some c' := by
  intro b c' h
  unfold Mp.add
  rw [if_neg (by rintro rfl; rw [hn] at h; cases h)]; exact h
 have kp : Kp σ H1 (σ.add H2.next c) H1' := by
  refine ⟨hle, h2, fun d hd => ?_⟩
  have hdc : d ≠ c := by rintro rfl; have := hd.2.2; rw [h0] at this; cases this
  refine ⟨fun b hb => ?_, by rw [hget, if_neg hdc]⟩
  unfold Mp.add at hb
  split at hb
  ·
   cases hb; exact hdc rfl
  ·
   exact hd.1 b hb
 refine ⟨⟨?_, ?_, ?_, ?_, ?_, ?_, ?_, ?_⟩, ⟨kp, ⟨[H2.next], rfl, fun b d hb _ => by rw [hget, if_neg (by rintro rfl; exact h1 b hb)]⟩, fun d hd h => by rw [hget, if_neg (by omega)]; exact h⟩, fun d hd hs => by rw [hget, if_neg (by rintro rfl; exact hd H2.next (by simp [Mp.add]))] at hs; exact hs⟩
 ·
  intro b z hz
  rw [new_get] at hz
  split at hz
  ·
   rename_i he; subst he
   cases hz
   exact ⟨c, y, by simp [Mp.add], by rw [hget, if_pos rfl], hb.mono kp⟩
  ·
   rename_i he
   obtain ⟨d, u, hd, hu, hr⟩ := r.blk b z hz
   refine ⟨d, u, hle _ _ hd, ?_, hr.mono kp⟩
   rw [hget, if_neg (by rintro rfl; exact h1 b hd)]; exact hu
 ·
  intro b b' d hb hb'
  unfold Mp.add at hb hb'
  split at hb <;> split at hb'
  ·
   omega
  ·
   cases hb; exact absurd hb' (h1 _)
  ·
   cases hb'; exact absurd hb (h1 _)
  ·
   exact r.inj _ _ _ hb hb'
 ·
  intro b d hb
  unfold Mp.add at hb
  split at hb
  ·
   cases hb; exact h3
  ·
   exact Nat.lt_of_lt_of_le (r.lt _ _ hb) h2
 ·
  intro b d hb
  rw [new_next]
  unfold Mp.add at hb
  split at hb
  ·
   omega
  ·
   have := r.dom _ _ hb; omega
 ·
  intro b hb
  rw [new_next] at hb
  rw [new_get, if_neg (by omega)]
  exact r.fr2 b (by omega)
 ·
  intro d hd
  have hd : H1'.next ≤ d := hd
  rw [hget, if_neg (by omega)]
  exact r.fr1 d (by omega)
 ·
  intro b d hb
  rw [hget]
  split
  ·
   exact ⟨y, rfl⟩
  ·
   unfold Mp.add at hb
   split at hb
   ·
    cases hb; rename_i h; exact absurd rfl h
   ·
    exact r.ex _ _ hb
 ·
  intro b d hb
  rw [new_get]
  split
  ·
   exact ⟨x, rfl⟩
  ·
   rename_i hne
   unfold Mp.add at hb
   rw [if_neg hne] at hb
   exact r.ex2 _ _ hb
theorem HR.new {x y : Blk} (r : HR w σ H2 H1) (hb : BR w σ H1 x y) : HR w (σ.add H2.next H1.next) (newBlk H2 x).2 (newBlk H1 y).2 /\ Lg H1.next σ H2 H1 (σ.add H2.next H1.next) (newBlk H2 x).2 (newBlk H1 y).2 :=
 HR.newAt (Nat.le_refl _) r hb (r.fr1 _ (Nat.le_refl _)) (fun b h => Nat.lt_irrefl _ (r.lt _ _ h)) rfl (Nat.le_succ _) (Nat.lt_succ_self _)
theorem HR.set {x y z : Blk} {b c n : Nat} (r : HR w σ H2 H1) (hz : H2.m.get b = some z) (hb : σ b = some c) (h : BR w σ H1 x y) : HR w σ (setBlk H2 b x) (setBlk H1 c y) /\ Lg n σ H2 H1 σ (setBlk H2 b x) (setBlk H1 c y) := by
 have kp : Kp σ H1 σ (setBlk H1 c y) := by
  refine ⟨fun _ _ h => h, Nat.le_refl _, fun d hd => ⟨hd.1, ?_⟩⟩
  rw [set_get, if_neg (by rintro rfl; exact hd.1 b hb)]
 refine ⟨⟨?_, r.inj, r.lt, r.dom, ?_, ?_, fun a d hd => ?_, fun a d hd => ?_⟩, ⟨kp, ⟨[b], rfl, fun a d hd hn => by rw [set_get, if_neg (by rintro rfl; exact hn (by rw [r.inj _ _ _ hd hb]; simp))]⟩, fun d _ h => by
  obtain ⟨c', _, hc', hy', _⟩ := r.blk b z hz
  rw [hb] at hc'; cases hc'
  rw [set_get, if_neg (by rintro rfl; rw [h] at hy'; cases hy')]; exact h⟩, fun d hd hs => by rw [set_get, if_neg (by rintro rfl; exact hd b hb)] at hs; exact hs⟩
 ·
  intro a u hu
  rw [set_get] at hu
  split at hu
  ·
   rename_i he; subst he
   cases hu
   exact ⟨c, y, hb, by rw [set_get, if_pos rfl], h.mono kp⟩
  ·
   rename_i he
   obtain ⟨d, v, hd, hv, hr⟩ := r.blk a u hu
   refine ⟨d, v, hd, ?_, hr.mono kp⟩
   rw [set_get, if_neg (by rintro rfl; exact he (r.inj _ _ _ hd hb))]; exact hv
 ·
  intro a ha
  have hlt := r.dom _ _ hb
  have ha : H2.next ≤ a := ha
  rw [set_get, if_neg (by omega)]
  exact r.fr2 a ha
 ·
  intro a ha
  have hlt := r.lt _ _ hb
  have ha : H1.next ≤ a := ha
  rw [set_get, if_neg (by omega)]
  exact r.fr1 a ha
 ·
  rw [set_get]
  split
  ·
   exact ⟨y, rfl⟩
  ·
   exact r.ex _ _ hd
 ·
  rw [set_get]
  split
  ·
   exact ⟨x, rfl⟩
  ·
   exact r.ex2 _ _ hd
def EfR (w : Bool) (σ : Mp) (H2 H1 : Hp) (p q : AV × Hp) : Prop := ∃ σ', Lg H1.next σ H2 H1 σ' p.2 q.2 /\ HR w σ' p.2 q.2 /\ VR w σ' q.2 p.1 q.1
theorem putCells_R {b c off : Nat} {new new' : List AV} {H' : Hp} (r : HR w σ H2 H1) (hb : σ b = some c) (hn : VRL w σ H1 new new') (h : putCells H2 b off new = some H') :
 ∃ H'', putCells H1 c off new' = some H'' /\ HR w σ H' H'' /\ Lg H1.next σ H2 H1 σ H' H'' := by
 obtain ⟨x, hx, h⟩ := obind_some h
 obtain ⟨q, hq, h⟩ := obind_some h
 obtain rfl := asCells_some hq
 obtain ⟨h1, h⟩ := bc_some (show bc q.2.2.2 (bc (flatL new) ((setE new off q.1).omap fun l' => setBlk H2 b (.cells l' q.2.1 q.2.2.1 true)) none) none = some H' from h)
 obtain ⟨h2, h⟩ := bc_some h
 obtain ⟨l, hl, rfl⟩ := omap_some h
 obtain ⟨c', y, hc, hy, hr⟩ := r.blk b _ hx
 rw [hb] at hc; cases hc
 obtain ⟨l', rfl, hl'⟩ := hr
 obtain ⟨u, hu, hlu⟩ := setE_R hl' hn hl
 obtain ⟨r', k'⟩ := r.set (n := H1.next) (x := .cells l q.2.1 q.2.2.1 true) (y := .cells u q.2.1 q.2.2.1 true) hx hb ⟨u, rfl, hlu⟩
 refine ⟨_, ?_, r', k'⟩
 unfold putCells
 rw [hy]
 show bc q.2.2.2 (bc (flatL new') ((setE new' off l').omap fun l' => setBlk H1 c (.cells l' q.2.1 q.2.2.1 true)) none) none = _
 rw [h1, flatL_R hn, h2, hu]; rfl
theorem storeV_R {t : TypeId} {p x p' x' : AV} {q : AV × Hp} (r : HR w σ H2 H1) (hp : VR w σ H1 p p') (hx : VR w σ H1 x x') (h : storeV E H2 t p x = some q) : ∃ q', storeV E H1 t p' x' = some q' /\ EfR w σ H2 H1 q q' := by
 obtain ⟨i, hi, h⟩ := obind_some h
 obtain ⟨a, ha, h⟩ := obind_some h
 obtain ⟨h1, h⟩ := bc_some h
 obtain ⟨H', hH, rfl⟩ := omap_some h
 obtain rfl := asPtr_some ha
 obtain ⟨c, hc, rfl⟩ := hp.ptr
 obtain ⟨H'', h2, r', k'⟩ := putCells_R r hc hx.cells hH
 refine ⟨(.undef, H''), ?_, σ, k', r', VR.undef⟩
 unfold storeV
 rw [hi]
 show bc (Nat.beq (lenL x'.cells) i.size) ((putCells H1 c a.2 x'.cells).omap fun H => (AV.undef, H)) none = _
 rw [lenL_R hx.cells, h1, h2]; rfl
theorem srcCells_R {e : TypeId} {x x' : AV} {p : Nat × List AV} (r : HR w σ H2 H1) (hx : VR w σ H1 x x') (h : srcCells E H2 e x = some p) : ∃ l', srcCells E H1 e x' = some (p.1, l') /\ VRL w σ H1 p.2 l' := by
 replace h := show oe (asSlice x) (oe (asStrV x) (bc (isNils x) (some (0, [])) ((asLst x).obind fun q => bc (Nat.beq q.1 (sizeT E e)) (some (lenL q.2, catL q.2)) none)) fun s => bc (Nat.beq (sizeT E e) 1) (some (s.length, s.map fun c => .int .u8 (.ofNat c.toNat))) none)
  (fun q => (cellsAt H2 q.1 q.2.1 (Nat.mul q.2.2.1 (sizeT E e))).omap fun l => (q.2.2.1, l)) = some p from h
 cases hq : asSlice x with
 | some q =>
  rw [hq, oe_some] at h
  obtain rfl := asSlice_some hq
  obtain ⟨c, hc, rfl⟩ := hx.slice
  obtain ⟨l, hl, rfl⟩ := omap_some h
  obtain ⟨l', hl', hr⟩ := r.cells hc hl
  refine ⟨l', ?_, hr⟩
  show (cellsAt H1 c q.2.1 (Nat.mul q.2.2.1 (sizeT E e))).omap _ = _
  rw [hl']; rfl
 | none =>
  rw [hq, oe_none] at h
  cases hs : asStrV x with
  | some s =>
   rw [hs, oe_some] at h
   obtain rfl := asStrV_some hs
   obtain rfl := sc_R hx (.inr (.inr rfl))
   obtain ⟨h1, h⟩ := bc_some h
   cases h
   refine ⟨s.map fun c => .int .u8 (.ofNat c.toNat), ?_, ?_⟩
   ·
    show bc (Nat.beq (sizeT E e) 1) (some (s.length, s.map fun c => AV.int .u8 (.ofNat c.toNat))) none = _
    rw [h1]; rfl
   ·
    have : ∀ l : List UInt8, VRL w σ H1 (l.map fun c => AV.int .u8 (.ofNat c.toNat)) (l.map fun c => AV.int .u8 (.ofNat c.toNat)) := by
     intro l
     induction l with
     | nil => exact VRL.nil.2 rfl
     | cons c l ih => exact VRL.cons.2 ⟨_, _, VR.int, ih, rfl⟩
    exact this s
  | none =>
   rw [hs, oe_none] at h
   cases hn : isNils x with
   | true =>
    rw [hn] at h; cases h
    rcases isNils_true hn with rfl | ⟨ad, rfl⟩
    ·
     obtain rfl := hx.nils
     exact ⟨[], rfl, VRL.nil.2 rfl⟩
    ·
     obtain rfl := hx.esl
     exact ⟨[], rfl, VRL.nil.2 rfl⟩
   | false =>
    rw [hn] at h
    obtain ⟨⟨sz, l⟩, hl, h⟩ := obind_some (show ((asLst x).obind fun q => bc (Nat.beq q.1 (sizeT E e)) (some (lenL q.2, catL q.2)) none) = some p from h)
    obtain rfl := asLst_some hl
    obtain ⟨h1, h⟩ := bc_some h
    cases h
    have hsz : sz = sizeT E e := Nat.eq_of_beq_eq_true h1
    simp only at hx ⊢
    have toL : ∀ {l'}, VRL w σ H1 l l' -> srcCells E H1 e (.lst sz l') = some (lenL l, catL l') := by
     intro l' hl'
     show bc (Nat.beq sz (sizeT E e)) (some (lenL l', catL l')) none = _
     rw [hsz, Nat.beq_refl, lenL_R hl']; rfl
    cases l with
    | nil =>
     rcases hx.lst0 with ⟨_, rfl⟩ | rfl | ⟨c, o, k, rfl, _⟩ | ⟨ad, rfl⟩
     rotate_right
     ·
      exact ⟨[], rfl, VRL.nil.2 rfl⟩
     ·
      exact ⟨[], toL (VRL.nil.2 rfl), VRL.nil.2 rfl⟩
     ·
      exact ⟨[], rfl, VRL.nil.2 rfl⟩
     ·
      refine ⟨[], ?_, VRL.nil.2 rfl⟩
      rw [src_slice, Nat.zero_mul, cellsAt_zero]; rfl
    | cons y l =>
     rcases hx.lst1 (by simp) with ⟨_, l', rfl, hl'⟩ | ⟨c, o, k, l', rfl, _, _, _, _, hl', _, hcell⟩
     ·
      exact ⟨catL l', toL hl', catL_R hl'⟩
     ·
      refine ⟨catL l', ?_, catL_R hl'⟩
      rw [src_slice, <- hsz, hcell, lenL_eq]; rfl
theorem growTo_R {e : TypeId} {need : Nat} {l l' : List AV} {q : AV × Hp} (r : HR w σ H2 H1) (hl : VRL w σ H1 l l') (h : growTo E H2 e need l = some q) : ∃ q', growTo E H1 e need l' = some q' /\ EfR w σ H2 H1 q q' /\
 (∃ σ', q'.2 = (newBlk H1 (.cells l' e false true)).2 /\ q.2 = (newBlk H2 (.cells l e false true)).2 /\ σ' = σ.add H2.next H1.next /\ Lg H1.next σ H2 H1 σ' q.2 q'.2 /\ HR w σ' q.2 q'.2 /\ VR w σ' q'.2 q.1 q'.1 /\ q'.1 = .slice H1.next 0 need (.rest 0 (sizeT E e) need) /\ q.1 = .slice H2.next 0 need (.rest 0 (sizeT E e) need)) := by
 obtain ⟨h1, h⟩ := bc_some h
 cases h
 obtain ⟨r', k'⟩ := r.new (x := .cells l e false true) (y := .cells l' e false true) ⟨l', rfl, hl⟩
 have hv : VR w (σ.add H2.next H1.next) (newBlk H1 (.cells l' e false true)).2 (.slice H2.next 0 need (.rest 0 (sizeT E e) need)) (.slice H1.next 0 need (.rest 0 (sizeT E e) need)) := VR.slice_mk (by simp [Mp.add])
 refine ⟨(.slice H1.next 0 need (.rest 0 (sizeT E e) need), (newBlk H1 (.cells l' e false true)).2), ?_, ⟨_, k', r', hv⟩, _, rfl, rfl, rfl, k', r', hv, rfl, rfl⟩
 show bc (growOk E e need) _ none = _
 rw [h1]; rfl
theorem appCap_R {k : Cap} {e : TypeId} {b c off len n : Nat} {new new' : List AV} {q : AV × Hp} (r : HR w σ H2 H1) (hb : σ b = some c) (hn : VRL w σ H1 new new') (h : appCap k E H2 e b off len n new = some q) :
 ∃ q', appCap k E H1 e c off len n new' = some q' /\ EfR w σ H2 H1 q q' := by
 cases k with
 | ex cp =>
  replace h := show bc (Nat.ble (Nat.add len n) cp) ((putCells H2 b (Nat.add off (Nat.mul len (sizeT E e))) new).omap fun H' => (AV.slice b off (Nat.add len n) (.ex cp), H'))
   ((cellsAt H2 b off (Nat.mul len (sizeT E e))).obind fun old => growTo E H2 e (Nat.add len n) (appL old new)) = some q from h
  show ∃ q', bc (Nat.ble (Nat.add len n) cp) ((putCells H1 c (Nat.add off (Nat.mul len (sizeT E e))) new').omap fun H' => (AV.slice c off (Nat.add len n) (.ex cp), H'))
   ((cellsAt H1 c off (Nat.mul len (sizeT E e))).obind fun old => growTo E H1 e (Nat.add len n) (appL old new')) = some q' /\ _
  cases hc : Nat.ble (Nat.add len n) cp with
  | true =>
   rw [hc] at h
   obtain ⟨H', hp, rfl⟩ := omap_some (show (putCells H2 b (Nat.add off (Nat.mul len (sizeT E e))) new).omap _ = some q from h)
   obtain ⟨H'', h2, r', k'⟩ := putCells_R r hb hn hp
   exact ⟨(.slice c off (Nat.add len n) (.ex cp), H''), by show (putCells H1 c _ new').omap _ = _; rw [h2]; rfl, σ, k', r', VR.slice_mk hb⟩
  | false =>
   rw [hc] at h
   obtain ⟨old, ho, h⟩ := obind_some (show (cellsAt H2 b off (Nat.mul len (sizeT E e))).obind _ = some q from h)
   obtain ⟨old', ho', hr⟩ := r.cells hb ho
   rw [appL_eq] at h
   obtain ⟨q', hq', hf, _⟩ := growTo_R r (VRL.app hr hn) h
   refine ⟨q', ?_, hf⟩
   show (cellsAt H1 c off (Nat.mul len (sizeT E e))).obind _ = _
   rw [ho']; show growTo E H1 e (Nat.add len n) (appL old' new') = _
   rw [appL_eq]; exact hq'
 | rest eo sz lb =>
  obtain ⟨p, hp, h⟩ := obind_some (show ((H2.m.get b).obind ownRow).obind _ = some q from h)
  obtain ⟨h1, h⟩ := bc_some (show bc (Nat.beq e p.2 && (Nat.blt 0 (sizeT E e) && Nat.beq sz (sizeT E e))) _ none = some q from h)
  obtain ⟨x, hx, hp⟩ := obind_some hp
  obtain ⟨y, hy, hp⟩ := obind_some (show (asCells x).obind _ = some p from hp)
  obtain rfl := asCells_some hy
  have hpp : y.2.2.1 = false /\ y.2.2.2 = true /\ p = (y.1, y.2.1) := by
   cases h3 : y.2.2.1 with
   | true => rw [h3] at hp; cases hp
   | false =>
    rw [h3] at hp
    obtain ⟨h4, hp⟩ := bc_some (show bc y.2.2.2 (some (y.1, y.2.1)) none = some p from hp)
    cases hp; exact ⟨rfl, h4, rfl⟩
  obtain ⟨hy1, hy2, rfl⟩ := hpp
  obtain ⟨c', z, hc, hz, hrz⟩ := r.blk b _ hx
  rw [hb] at hc; cases hc
  obtain ⟨l', rfl, hl'⟩ := hrz
  have hrow : ((H1.m.get c).obind ownRow) = some (l', y.2.1) := by
   rw [hz]
   show bc y.2.2.1 none (bc y.2.2.2 (some (l', y.2.1)) none) = _
   rw [hy1, hy2]; rfl
  have red : ∀ q', (bc (Nat.ble (Nat.add off (Nat.mul (Nat.add len n) (sizeT E e))) (lenL l'))
   ((putCells H1 c (Nat.add off (Nat.mul len (sizeT E e))) new').omap fun H' => (AV.slice c off (Nat.add len n) (.rest eo sz (bc (Nat.ble lb (Nat.add len n)) (Nat.add len n) lb)), H'))
   (bc (Nat.beq off 0 && flatL new') ((cellsAt H1 c off (Nat.mul len (sizeT E e))).obind fun old => (growTo E H1 e (Nat.add len n) (appL old new')).omap fun p => (p.1, setBlk p.2 c .dead)) none)) = some q' ->
   appCap (.rest eo sz lb) E H1 e c off len n new' = some q' := by
   intro q' hq'
   show ((H1.m.get c).obind ownRow).obind _ = _
   rw [hrow]
   show bc (Nat.beq e y.2.1 && (Nat.blt 0 (sizeT E e) && Nat.beq sz (sizeT E e))) _ none = _
   rw [h1]; exact hq'
  have hll : lenL l' = lenL y.1 := lenL_R hl'
  cases hc : Nat.ble (Nat.add off (Nat.mul (Nat.add len n) (sizeT E e))) (lenL y.1) with
  | true =>
   simp only at h
   rw [hc] at h
   obtain ⟨H', hp, rfl⟩ := omap_some (show (putCells H2 b (Nat.add off (Nat.mul len (sizeT E e))) new).omap _ = some q from h)
   obtain ⟨H'', h2, r', k'⟩ := putCells_R r hb hn hp
   refine ⟨(.slice c off (Nat.add len n) (.rest eo sz (bc (Nat.ble lb (Nat.add len n)) (Nat.add len n) lb)), H''), red _ ?_, σ, k', r', VR.slice_mk hb⟩
   rw [hll, hc, h2]; rfl
  | false =>
   simp only at h
   rw [hc] at h
   obtain ⟨h3, h⟩ := bc_some (show bc (Nat.beq off 0 && flatL new) _ none = some q from h)
   obtain ⟨old, ho, h⟩ := obind_some h
   obtain ⟨p, hp, rfl⟩ := omap_some h
   obtain ⟨old', ho', hr⟩ := r.cells hb ho
   rw [appL_eq] at hp
   obtain ⟨p', hp', _, σ', e1, e2, e3, k', r', hv, e4, e5⟩ := growTo_R r (VRL.app hr hn) hp
   have hbn : b ≠ H2.next := Nat.ne_of_lt (r.dom _ _ hb)
   have hb' : σ' b = some c := k'.kp.le _ _ hb
   have hold : p.2.m.get b = some (.cells y.1 y.2.1 y.2.2.1 y.2.2.2) := by rw [e2, new_get, if_neg hbn]; exact hx
   obtain ⟨r2, k2⟩ := r'.set (n := H1.next) (x := .dead) (y := .dead) hold hb' trivial
   refine ⟨(p'.1, setBlk p'.2 c .dead), red _ ?_, σ', k'.trans k2, r2, VR.mono k2.kp _ _ hv⟩
   rw [hll, hc, flatL_R hn, h3, ho']
   show (growTo E H1 e (Nat.add len n) (appL old' new')).omap _ = _
   rw [appL_eq, hp']; rfl
 | tail eo l sz z =>
  obtain ⟨h1, h⟩ := bc_some (show bc (z && Nat.beq len 0) (growTo E H2 e n new) none = some q from h)
  obtain ⟨q', hq', hf, _⟩ := growTo_R r hn h
  exact ⟨q', by show bc (z && Nat.beq len 0) (growTo E H1 e n new') none = _; rw [h1]; exact hq', hf⟩
theorem evAppend_R {e : TypeId} {s s' : AV} {n : Nat} {new new' : List AV} {q : AV × Hp} (r : HR w σ H2 H1) (hs : VR w σ H1 s s') (hn : VRL w σ H1 new new') (h : evAppend E H2 e s n new = some q) :
 ∃ q', evAppend E H1 e s' n new' = some q' /\ EfR w σ H2 H1 q q' := by
 replace h := show bc (Nat.beq n 0) (bc (isSliceV s || isNils s) (some (s, H2)) ((asLst s).omap fun _ => (s, H2)))
  (oe (asSlice s) (bc (isNils s) (growTo E H2 e n new) ((asLst s).obind fun q => bc (Nat.beq q.1 0) (growTo E H2 e n new) none)) fun q => appCap q.2.2.2 E H2 e q.1 q.2.1 q.2.2.1 n new) = some q from h
 show ∃ q', bc (Nat.beq n 0) (bc (isSliceV s' || isNils s') (some (s', H1)) ((asLst s').omap fun _ => (s', H1)))
  (oe (asSlice s') (bc (isNils s') (growTo E H1 e n new') ((asLst s').obind fun q => bc (Nat.beq q.1 0) (growTo E H1 e n new') none)) fun q => appCap q.2.2.2 E H1 e q.1 q.2.1 q.2.2.1 n new') = some q' /\ _
 cases h0 : Nat.beq n 0 with
 | true =>
  rw [h0] at h
  have same : q = (s, H2) := by
   cases hi : (isSliceV s || isNils s) with
   | true => rw [hi] at h; cases h; rfl
   | false =>
    rw [hi] at h
    obtain ⟨p, _, rfl⟩ := omap_some (show (asLst s).omap (fun _ => (s, H2)) = some q from h)
    rfl
  subst same
  refine ⟨(s', H1), ?_, σ, Lg.refl _ _ _ _, r, hs⟩
  cases hi : (isSliceV s || isNils s) with
  | true =>
   rcases (Bool.or_eq_true _ _).mp hi with hi | hi
   ·
    rw [(isSlice_R hs hi).1]; rfl
   ·
    rcases isNils_true hi with rfl | ⟨ad, rfl⟩
    ·
     obtain rfl := hs.nils; rfl
    ·
     obtain rfl := hs.esl; rfl
  | false =>
   rw [hi] at h
   obtain ⟨p, hp, _⟩ := omap_some (show (asLst s).omap (fun _ => (s, H2)) = some (s, H2) from h)
   obtain rfl := asLst_some hp
   have : ∀ x, isSliceV x = true ∨ (∃ sz l, x = .lst sz l) -> bc (isSliceV x || isNils x) (some (x, H1)) ((asLst x).omap fun _ => (x, H1)) = some (x, H1) := by
    rintro x (h | ⟨sz, l, rfl⟩)
    ·
     rw [h]; rfl
    ·
     cases l <;> rfl
   refine this s' ?_
   by_cases hl : p.2 = []
   ·
    rw [hl] at hs
    rcases hs.lst0 with ⟨_, rfl⟩ | rfl | ⟨c, o, k, rfl, _⟩ | ⟨ad, rfl⟩
    ·
     exact .inr ⟨_, _, rfl⟩
    ·
     exact .inl rfl
    ·
     exact .inl rfl
    ·
     exact .inl rfl
   ·
    rcases hs.lst1 hl with ⟨_, l', rfl, _⟩ | ⟨c, o, k, l', rfl, _⟩
    ·
     exact .inr ⟨_, _, rfl⟩
    ·
     exact .inl rfl
 | false =>
  rw [h0] at h
  cases hq : asSlice s with
  | some p =>
   rw [hq] at h
   obtain rfl := asSlice_some hq
   obtain ⟨c, hc, rfl⟩ := hs.slice
   exact appCap_R r hc hn h
  | none =>
   rw [hq] at h
   cases hi : isNils s with
   | true =>
    rw [hi] at h
    rcases isNils_true hi with rfl | ⟨ad, rfl⟩
    ·
     obtain rfl := hs.nils
     obtain ⟨q', hq', hf, _⟩ := growTo_R r hn h
     exact ⟨q', hq', hf⟩
    ·
     obtain rfl := hs.esl
     obtain ⟨q', hq', hf, _⟩ := growTo_R r hn h
     exact ⟨q', hq', hf⟩
   | false =>
    rw [hi] at h
    obtain ⟨⟨sz, l⟩, hl, h⟩ := obind_some (show ((asLst s).obind fun q => bc (Nat.beq q.1 0) (growTo E H2 e n new) none) = some q from h)
    obtain rfl := asLst_some hl
    obtain ⟨h1, h⟩ := bc_some h
    have h1 : sz = 0 := Nat.eq_of_beq_eq_true h1
    subst h1
    obtain ⟨q', hq', hf, _⟩ := growTo_R r hn h
    simp only at hs
    have hn0 : n ≠ 0 := fun h => by subst h; cases h0
    have toL : ∀ l', oe (asSlice (.lst 0 l')) (bc (isNils (.lst 0 l')) (growTo E H1 e n new') ((asLst (.lst 0 l')).obind fun q => bc (Nat.beq q.1 0) (growTo E H1 e n new') none)) (fun q => appCap q.2.2.2 E H1 e q.1 q.2.1 q.2.2.1 n new') = some q' := fun l' => hq'
    by_cases hl : l = []
    ·
     subst hl
     rcases hs.lst0 with ⟨_, rfl⟩ | rfl | ⟨c, o, k, rfl, _, hk⟩ | ⟨ad, rfl⟩
     rotate_right
     ·
      exact ⟨q', hq', hf⟩
     ·
      exact ⟨q', toL [], hf⟩
     ·
      exact ⟨q', hq', hf⟩
     ·
      refine ⟨q', ?_, hf⟩
      cases k with
      | ex cp =>
       have hcp : cp = 0 := hk rfl
       subst hcp
       show bc (Nat.ble (Nat.add 0 n) 0) _ ((cellsAt H1 c o (Nat.mul 0 (sizeT E e))).obind fun old => growTo E H1 e (Nat.add 0 n) (appL old new')) = _
       rw [show Nat.ble (Nat.add 0 n) 0 = false from Bool.eq_false_iff.2 fun h => by have := ble_iff.1 h; simp at this; omega]
       rw [show Nat.mul 0 (sizeT E e) = 0 from Nat.zero_mul _, cellsAt_zero]
       show growTo E H1 e (Nat.add 0 n) new' = _
       rw [show Nat.add 0 n = n from Nat.zero_add n]; exact hq'
      | rest => exact (hk rfl).elim
      | tail eo l sz z =>
       have hz : z = true := hk rfl
       subst hz
       exact hq'
    ·
     rcases hs.lst1 hl with ⟨_, l', rfl, _⟩ | ⟨_, _, _, _, _, h, _⟩
     ·
      exact ⟨q', toL l', hf⟩
     ·
      exact absurd h (Nat.lt_irrefl _)
theorem bltEff_R (hZ : ZeroOk E) {bl : Builtin} {as as' : List AV} {ts : List TypeId} {q : AV × Hp} (r : HR w σ H2 H1) (ha : VRL w σ H1 as as') (h : bltEff bl E H2 as ts = some q) : ∃ q', bltEff bl E H1 as' ts = some q' /\ EfR w σ H2 H1 q q' := by
 cases bl with
 | append =>
  cases as with
  | nil => cases h
  | cons s as =>
  cases as with
  | nil => cases h
  | cons x as =>
  cases as with
  | cons => cases h
  | nil =>
  cases ts with
  | nil => cases h
  | cons t ts =>
  obtain ⟨s', r1, hs, hr1, rfl⟩ := VRL.cons.1 ha
  obtain ⟨x', r2, hx, hr2, rfl⟩ := VRL.cons.1 hr1
  rw [VRL.nil] at hr2; subst hr2
  replace h := show appArgs E H2 t ts s x = some q from h
  show ∃ q', appArgs E H1 t ts s' x' = some q' /\ _
  unfold appArgs at h ⊢
  cases hk : kindOf E t with
  | slice e =>
   simp only [hk] at h ⊢
   cases ts with
   | nil => cases h
   | cons t2 ts =>
    simp only at h ⊢
    have src : ((srcCells E H2 e x).obind fun p => evAppend E H2 e s p.1 p.2) = some q -> ∃ q', ((srcCells E H1 e x').obind fun p => evAppend E H1 e s' p.1 p.2) = some q' /\ EfR w σ H2 H1 q q' := by
     intro h
     obtain ⟨p, hp, h⟩ := obind_some h
     obtain ⟨l', hl', hr⟩ := srcCells_R r hx hp
     obtain ⟨q', hq', hf⟩ := evAppend_R r hs hr h
     exact ⟨q', by rw [hl']; exact hq', hf⟩
    cases hk2 : kindOf E t2 with
    | int k =>
     simp only [hk2] at h ⊢
     obtain ⟨n, hn, h⟩ := obind_some h
     obtain ⟨z, hz, h⟩ := obind_some h
     split at h
     ·
      rename_i hc
      obtain ⟨q', hq', hf⟩ := evAppend_R r hs (VRL.rep (hZ w σ H1 e z hz).cells n) h
      refine ⟨q', ?_, hf⟩
      rw [natOf_R hx, hn]; show (zeroT E e).obind _ = _
      rw [hz]; show (match _ with | true => _ | false => _) = _
      rw [hc]; exact hq'
     ·
      cases h
    | other => simp only [hk2] at h; cases h
    | _ => simp only [hk2] at h ⊢; exact src h
  | _ => simp only [hk] at h; cases h
 | copy =>
  cases as with
  | nil => cases h
  | cons s as =>
  cases as with
  | nil => cases h
  | cons x as =>
  cases as with
  | cons => cases h
  | nil =>
  cases ts with
  | nil => cases h
  | cons t ts =>
  obtain ⟨s', r1, hs, hr1, rfl⟩ := VRL.cons.1 ha
  obtain ⟨x', r2, hx, hr2, rfl⟩ := VRL.cons.1 hr1
  rw [VRL.nil] at hr2; subst hr2
  replace h := show copyArgs E H2 t s x = some q from h
  show ∃ q', copyArgs E H1 t s' x' = some q' /\ _
  unfold copyArgs at h ⊢
  cases hk : kindOf E t with
  | slice e =>
   simp only [hk] at h ⊢
   obtain ⟨p, hp, h9⟩ := obind_some h
   clear h
   obtain ⟨l', hl', hr⟩ := srcCells_R r hx hp
   rw [hl']
   show ∃ q', copyTo E H1 e s' (p.1, l') = some q' /\ _
   unfold copyTo at h9 ⊢
   have h := h9
   clear h9
   cases hq : asSlice s with
   | some y =>
    rw [hq, oe_some] at h
    obtain rfl := asSlice_some hq
    obtain ⟨c, hc, rfl⟩ := hs.slice
    show ∃ q', bc (Nat.beq y.2.2.1 0) _ ((putCells H1 c y.2.1 (takeL (Nat.mul (minN p.1 y.2.2.1) (sizeT E e)) l')).omap fun H => (AV.int .i64 (.ofNat (minN p.1 y.2.2.1)), H)) = some q' /\ _
    cases h0 : Nat.beq y.2.2.1 0 with
    | true => rw [h0] at h; cases h; exact ⟨_, rfl, σ, Lg.refl _ _ _ _, r, VR.int⟩
    | false =>
     rw [h0] at h
     obtain ⟨H', hH, rfl⟩ := omap_some (show (putCells H2 y.1 y.2.1 _).omap _ = some q from h)
     obtain ⟨H'', h2, r', k'⟩ := putCells_R r hc (takeL_R hr _) hH
     exact ⟨_, by show (putCells H1 c y.2.1 _).omap _ = _; rw [h2]; rfl, σ, k', r', VR.int⟩
   | none =>
    rw [hq, oe_none] at h
    obtain ⟨hn, h⟩ := bc_some h
    cases h
    rcases isNils_true hn with rfl | ⟨ad, rfl⟩
    ·
     obtain rfl := hs.nils
     exact ⟨_, rfl, σ, Lg.refl _ _ _ _, r, VR.int⟩
    ·
     obtain rfl := hs.esl
     exact ⟨_, rfl, σ, Lg.refl _ _ _ _, r, VR.int⟩
  | _ => simp only [hk] at h; cases h
 | clear =>
  cases as with
  | nil => cases h
  | cons s as =>
  cases as with
  | cons => cases h
  | nil =>
  cases ts with
  | nil => cases h
  | cons t ts =>
  obtain ⟨s', r1, hs, hr1, rfl⟩ := VRL.cons.1 ha
  rw [VRL.nil] at hr1; subst hr1
  replace h := show clearArgs E H2 t s = some q from h
  show ∃ q', clearArgs E H1 t s' = some q' /\ _
  unfold clearArgs at h ⊢
  cases hk : kindOf E t with
  | slice e =>
   simp only [hk] at h ⊢
   obtain ⟨z, hz, h9⟩ := obind_some h
   clear h
   have h := h9
   clear h9
   rw [hz]
   show ∃ q', (oe (asSlice s') (bc (isNils s') (some (AV.undef, H1)) none) fun q => bc (Nat.beq q.2.2.1 0) (some (.undef, H1)) ((putCells H1 q.1 q.2.1 (repL q.2.2.1 z.cells)).omap fun H => (.undef, H))) = some q' /\ _
   cases hq : asSlice s with
   | some y =>
    rw [hq, oe_some] at h
    obtain rfl := asSlice_some hq
    obtain ⟨c, hc, rfl⟩ := hs.slice
    show ∃ q', bc (Nat.beq y.2.2.1 0) _ ((putCells H1 c y.2.1 (repL y.2.2.1 z.cells)).omap fun H => (AV.undef, H)) = some q' /\ _
    cases h0 : Nat.beq y.2.2.1 0 with
    | true => rw [h0] at h; cases h; exact ⟨_, rfl, σ, Lg.refl _ _ _ _, r, VR.undef⟩
    | false =>
     rw [h0] at h
     obtain ⟨H', hH, rfl⟩ := omap_some (show (putCells H2 y.1 y.2.1 _).omap _ = some q from h)
     obtain ⟨H'', h2, r', k'⟩ := putCells_R r hc (VRL.rep (hZ w σ H1 e z hz).cells _) hH
     exact ⟨_, by show (putCells H1 c y.2.1 _).omap _ = _; rw [h2]; rfl, σ, k', r', VR.undef⟩
   | none =>
    rw [hq, oe_none] at h
    obtain ⟨hn, h⟩ := bc_some h
    cases h
    rcases isNils_true hn with rfl | ⟨ad, rfl⟩
    ·
     obtain rfl := hs.nils
     exact ⟨_, rfl, σ, Lg.refl _ _ _ _, r, VR.undef⟩
    ·
     obtain rfl := hs.esl
     exact ⟨_, rfl, σ, Lg.refl _ _ _ _, r, VR.undef⟩
  | _ => simp only [hk] at h; cases h
 | _ => cases h
end
end
end Go.Ev
