/-
  Runs, bytes, sums, streams: what the program computes. No conditions.
-/
import Derived.Test.YtajekleknljggaaTy
set_option linter.unusedVariables false
set_option linter.unusedSimpArgs false
namespace Go.Ev
noncomputable section
/-! Copies; where what one made lies behind a write elsewhere. -/
section
variable {E : Env} {H : Hp} {e sz m b : Nat}
theorem Own.one {v : AV} {n : Nat} {base : Nat} {cs : List AV} (h : Own H base e sz v n cs) : oneC v = true := by
 rcases h.2 with ⟨rfl, _⟩ | ⟨b, x, _, _, rfl, _⟩ <;> rfl
theorem Own.move {v : AV} {n base e' : Nat} {cs : List AV} {H' : Hp} (h : Own H base e sz v n cs) (hn : H.next ≤ H'.next) (he : Nat.beq e e' = false) (hm : ∀ c y, H.m.get c = some y -> notE e' y = true -> c < H.next -> H'.m.get c = some y) : Own H' base e sz v n cs := by
 refine ⟨h.1, h.2.imp id ?_⟩
 rintro ⟨b, x, h1, h2, h3, h4⟩
 exact ⟨b, x, h1, Nat.lt_of_lt_of_le h2 hn, h3, hm b _ h4 (by show (!(Nat.beq e e')) = true; rw [he]; rfl) h2⟩
end
end
end Go.Ev
namespace Go.Ev
noncomputable section
/-! Values that name no memory that may turn, slices within slices among them: what a function that only reads is told of them. -/
def NoB (v : AV) : Prop := ∀ (σ : Mp) (H1 : Hp) (a : AV), VR false σ H1 v a -> VR false noMp H1 v a
theorem NoB.plain {v : AV} (h : plainV v = true) : NoB v := fun σ H1 a ha => by
 rw [VR.plain h] at ha ⊢; exact ha
theorem NoB.vrl {l : List AV} (h : ∀ x ∈ l, NoB x) : ∀ {σ : Mp} {H1 : Hp} {r : List AV}, VRL false σ H1 l r -> VRL false noMp H1 l r := by
 induction l with
 | nil => intro σ H1 r hr; rw [VRL.nil] at hr; subst hr; exact VRL.nil.2 rfl
 | cons x l ih =>
  intro σ H1 r hr
  obtain ⟨y, r', h1, h2, rfl⟩ := VRL.cons.1 hr
  exact VRL.cons.2 ⟨_, _, h x (by simp) _ _ _ h1, ih (fun z hz => h z (by simp [hz])) h2, rfl⟩
theorem fz_no {σ : Mp} {H : Hp} {c : Nat} (h : Fz σ H c) : Fz noMp H c := ⟨fun b hb => (nomatch hb), h.2.1, h.2.2⟩
theorem NoB.agg {l : List AV} (h : ∀ x ∈ l, NoB x) : NoB (.agg l) := fun σ H1 a ha => by
 obtain ⟨l', h1, rfl⟩ := ha.agg
 exact VR.agg_mk (NoB.vrl h h1)
theorem NoB.lst {sz : Nat} {l : List AV} (hpos : 0 < sz) (h : ∀ x ∈ l, NoB x) : NoB (.lst sz l) := fun σ H1 a ha => by
 by_cases hl : l = []
 ·
  subst hl
  rcases ha.lst0 with ⟨hw, _⟩ | h | h | h
  ·
   cases hw
  ·
   exact VR.lst0_mk (.inl h)
  ·
   exact VR.lst0_mk (.inr (.inl h))
  ·
   exact VR.lst0_mk (.inr (.inr h))
 ·
  rcases ha.lst1 hl with ⟨hw, _⟩ | ⟨c, o, k, l', rfl, h0, h1, h2, h3, h4, h5, h6⟩
  ·
   cases hw
  ·
   exact VR.lst1_mk hl h0 (fz_no h1) h2 h3 (NoB.vrl h h4) h5 h6
theorem NoB.map {α : Type} {f : α -> AV} {l : List α} (h : ∀ a, NoB (f a)) : ∀ x ∈ l.map f, NoB x := by
 intro x hx
 obtain ⟨a, _, rfl⟩ := List.mem_map.1 hx
 exact h a
section
variable {E : Env} {H : Hp}
theorem vrl_map {α : Type} {f g : α -> AV} {xs : List α} (h : ∀ x ∈ xs, ∀ (σ : Mp) (H1 : Hp) (a : AV), VR false σ H1 (f x) a -> VR false noMp H1 (g x) a) : ∀ {σ : Mp} {H1 : Hp} {r : List AV}, VRL false σ H1 (xs.map f) r -> VRL false noMp H1 (xs.map g) r := by
 induction xs with
 | nil => intro σ H1 r hr; rw [List.map_nil, VRL.nil] at hr; subst hr; exact VRL.nil.2 rfl
 | cons x xs ih =>
  intro σ H1 r hr
  obtain ⟨y, r', h1, h2, rfl⟩ := VRL.cons.1 hr
  exact VRL.cons.2 ⟨_, _, h x (by simp) _ _ _ h1, ih (fun z hz => h z (by simp [hz])) h2, rfl⟩
theorem Acc.readG {α : Type} {f g : α -> AV} {xs : List α} {H0 : Hp} {e sz : Nat} {v : AV} (h : Acc E H0 H e sz v (xs.map f)) (hp : ∀ x ∈ xs, ∀ (σ : Mp) (H1 : Hp) (a : AV), VR false σ H1 (f x) a -> VR false noMp H1 (g x) a) {σ : Mp} {H1 : Hp} {a : AV} (r : HR false σ H H1) (ha : VR false σ H1 v a) :
 VR false noMp H1 (.lst sz (xs.map g)) a := by
 rcases h.own.2 with ⟨rfl, hl⟩ | ⟨b, x, _, _, rfl, hb⟩
 ·
  obtain rfl := ha.nils
  have : xs = [] := List.eq_nil_of_length_eq_zero (by simpa using hl)
  subst this
  exact VR.lst0_mk (.inl rfl)
 ·
  have hcs := (cat_seg h.el).1
  obtain ⟨c, hcb, rfl⟩ := ha.slice
  have hsz : capSz (if x then Cap.ex (xs.map f).length else Cap.rest 0 sz (xs.map f).length) sz := by cases x <;> first | trivial | rfl
  by_cases hl : xs = []
  ·
   subst hl
   exact VR.lst0_mk (.inr (.inl ⟨c, 0, _, rfl, hsz, fun h' => absurd h.hpos (by omega)⟩))
  ·
   have hm : cellsAt H b 0 ((xs.map f).length * sz) = some (catL (xs.map f)) := by
    rw [(kn hb).2.2.1 0 _]
    have h0 : (xs.map f).length * sz ≠ 0 := Nat.ne_of_gt (Nat.mul_pos (by rw [List.length_map]; exact List.length_pos_iff.2 hl) h.hpos)
    rw [beqF h0]
    show takeE _ (dropL 0 _) = _
    rw [dropL_eq, takeE_eq, List.drop_zero, if_pos (by rw [hcs]; exact Nat.le_refl _), List.take_of_length_le (by rw [hcs]; exact Nat.le_refl _)]
   obtain ⟨cs', h1, h2⟩ := r.cells hcb hm
   obtain ⟨l', h3, rfl⟩ := regroup h2
   obtain ⟨y, hy⟩ := r.ex b c hcb
   have hle : capLe (if x then Cap.ex (xs.map f).length else Cap.rest 0 sz (xs.map f).length) (xs.map g).length := by
    rw [List.length_map, List.length_map]; cases x <;> exact Nat.le_refl _
   have e1 : (xs.map f).length = (xs.map g).length := by rw [List.length_map, List.length_map]
   have := VR.lst1_mk (σ := noMp) (w := false) (H := H1) (o := 0) (sz := sz) (l := xs.map g) (by simpa using hl) h.hpos ⟨fun b h => (nomatch h), r.lt _ _ hcb, by rw [hy]; rfl⟩ hsz hle (vrl_map hp h3) (cells_len_R h3 h.el) (by rw [<- e1]; exact h1)
   rw [<- e1] at this
   exact this
theorem Acc.otherN {H0 : Hp} {e sz c : Nat} {v : AV} {l : List AV} {z : Blk} (h : Acc E H0 H e sz v l) (hn : v = .nils ∨ c ≠ sB v) (hlo : H0.next ≤ c) : Acc E H0 (setBlk H c z) e sz v l := by
 refine ⟨h.fr.set hlo _, ⟨h.own.1, h.own.2.imp id ?_⟩, h.el, h.hsz, h.hpos, h.hg⟩
 rintro ⟨b, x, h1, h2, rfl, h4⟩
 refine ⟨b, x, h1, h2, rfl, ?_⟩
 rw [set_get, if_neg]
 ·
  exact h4
 ·
  rintro rfl
  rcases hn with hn | hn
  ·
   cases hn
  ·
   exact hn rfl
theorem Acc.sep {H0 : Hp} {e sz c : Nat} {v : AV} {l : List AV} (h : Acc E H0 H e sz v l) (hc : H.next ≤ c) : v = .nils ∨ c ≠ sB v := by
 rcases h.own.2 with ⟨rfl, _⟩ | ⟨b, x, _, hlt, rfl, _⟩
 ·
  exact .inl rfl
 ·
  exact .inr (Nat.ne_of_gt (Nat.lt_of_lt_of_le hlt hc))
theorem Acc.push_getN {H0 : Hp} {e sz : Nat} {v : AV} {l : List AV} (h : Acc E H0 H e sz v l) (hn : l.length < 1048576) {new : List AV} (hl : new.length = sz) (hf : flatL new = true) :
 (puH E H e v new).next = H.next + 2 /\ ∀ c, (v = .nils ∨ c ≠ sB v) -> c < H.next -> (puH E H e v new).m.get c = H.m.get c := by
 have h' : Acc E H0 (newBlk H (.cells new e true true)).2 e sz v l := h.keep (Fr.alloc H _)
 obtain ⟨H', h1, _, _, h4, h5⟩ := h'.own.append (m := 1) h'.hsz h'.hpos (by decide) (by rw [hl, Nat.one_mul]) hf (growOk_grows h'.hg hn) h'.fr.nx
 have e1 : puH E H e v new = H' := by unfold puH apH; rw [h1]; rfl
 rw [e1]
 refine ⟨h4, fun c hc hlt => ?_⟩
 rw [h5 c hc (Nat.lt_succ_of_lt hlt), get_new_n (Nat.ne_of_lt hlt)]
end
end
end Go.Ev
namespace Go.Ev
open Go.Proofs
noncomputable section
set_option maxRecDepth 100000
theorem fn82 : E1.fn 82 = some Try.f82 := by kernel_rfl
def eInt (n : Int) : AV := .int .i64 n
def eRun (p : Int × Int) : AV := .agg (e2 p)
/-! The runs of numbers, in plain words. -/
def goesOn (l : List Int) (i : Nat) : Prop := 0 < i /\ l.getD (i - 1) 0 < 4611686018427387904 /\ l.getD i 0 = l.getD (i - 1) 0 + 1
instance (l : List Int) (i : Nat) : Decidable (goesOn l i) := by unfold goesOn; infer_instance
def bump (acc : List (Int × Int)) : List (Int × Int) := acc.set (acc.length - 1) ((acc.getD (acc.length - 1) (0, 0)).1, (acc.getD (acc.length - 1) (0, 0)).2 + 1)
def ofN (l : List Int) : Nat -> List (Int × Int)
 | 0 => []
 | i + 1 => if goesOn l i then bump (ofN l i) else ofN l i ++ [(l.getD i 0, 1)]
theorem ofN_len (l : List Int) : ∀ i, (ofN l i).length ≤ i /\ (0 < i -> 0 < (ofN l i).length)
 | 0 => ⟨Nat.le_refl _, fun h => h⟩
 | i + 1 => by
  have ih := ofN_len l i
  unfold ofN
  split
  ·
   rename_i h
   have := ih.2 h.1
   unfold bump
   simp; omega
  ·
   simp; omega
theorem cells_eInt (n : Int) : (eInt n).cells = [.int .i64 n] := rfl
attribute [go_sem] cells_eInt Nat.mul_one Nat.one_mul Nat.zero_mul
theorem ofN_t {l : List Int} {i : Nat} (h : goesOn l i) : ofN l (i + 1) = bump (ofN l i) := if_pos h
theorem ofN_f {l : List Int} {i : Nat} (h : ¬ goesOn l i) : ofN l (i + 1) = ofN l i ++ [(l.getD i 0, 1)] := if_neg h
theorem ofN_count (l : List Int) : ∀ i, ∀ p ∈ ofN l i, 1 ≤ p.2 /\ p.2 ≤ i
 | 0, p, h => by simp [ofN] at h
 | i + 1, p, h => by
  have ih := ofN_count l i
  unfold ofN at h
  split at h
  ·
   rename_i hg
   have hl := (ofN_len l i).2 hg.1
   unfold bump at h
   obtain ⟨j, hj, rfl⟩ := List.getElem_of_mem h
   rw [List.getElem_set]
   split
   ·
    have h1 := ih _ (List.getElem_mem (show (ofN l i).length - 1 < (ofN l i).length by omega))
    rw [getD_lt (by omega)]
    simp only; omega
   ·
    have h1 := ih _ (List.getElem_mem (show j < (ofN l i).length by simpa using hj))
    omega
  ·
   rcases List.mem_append.1 h with h | h
   ·
    have := ih p h; omega
   ·
    simp only [List.mem_singleton] at h; subst h; simp only; omega
end
end Go.Ev
namespace Go.Ev
open Go.Proofs
noncomputable section
set_option maxRecDepth 100000
attribute [go_sem] Nat.mul_one Nat.one_mul Nat.zero_mul
theorem fn23 : E1.fn 23 = some Try.f23 := by kernel_rfl
theorem fn39 : E1.fn 39 = some Try.f39 := by kernel_rfl
theorem ty5gB : growsB EE 5 = true := by kernel_rfl
theorem clone23_e (H1 : Hp) (c o : Nat) (k : Cap) {K : AV -> Hp -> Prop} (hk : K (.slice H1.next 0 0 (.ex 0)) (newBlk H1 (.cells [] 5 true true)).2) : WCall E1 (.func 23 [] []) [.slice c o 0 k] H1 K := by
 refine enter (N := 8) rfl fn23 rfl rfl rfl rfl rfl ?_
 change wpC E1 _ _ _ _ _ _
 have k1 : kindOf E1 32 = .slice 5 := ty32k
 have k2 : ∀ {N M : Nat} {d : Option Tmp} {t : TypeId} {p : String} {a : Array Edge} {g : Option (Nat × Bool)} {s : St} {K : St -> Prop} {n : Nat} {ps : List (Nat × Operand)} (hn : n * sizeT E1 5 ≤ 16777216), wpOp E1 N M ⟨d, .buildSlice 32 n ps.toArray, t, p, a, g⟩ s K = oP ((zeroT E1 5).obind fun z => (fillParts M (fun i => some (Nat.mul i (sizeT E1 5), sizeT E1 5)) s.T ps (repL n z.cells)).omap fun l => (Blk.cells l 5 true true, fun b : Nat => AV.slice b 0 n (.ex n))) (KNew N M s.T d s.H K) := fun hn => w_buildSlice k1 hn
 have k3 : sizeT E1 5 = 1 := ty5s
 have k4 : zeroT E1 5 = some (.int .u8 0) := ty5z
 have k5 : ∀ {H : Hp} {u x : AV}, bltEff .append E1 H [u, x] [32, 32] = (srcCells E1 H 5 x).obind fun p => evAppend E1 H 5 u p.1 p.2 := appArgs_def ty32k ty32k
 have k6 : ∀ {H : Hp} {b : Nat}, evAppend E1 H 5 (.slice b 0 0 (.ex 0)) 0 [] = some (.slice b 0 0 (.ex 0), H) := rfl
 have k7 : ∀ {H : Hp} {b o : Nat}, cellsAt H b o 0 = some [] := cellsAt_zero
 simp (disch := (refine ofP ?_; decide)) only [go_sem, k1, k2, k3, k4, k5, k6, k7]
 exact hk
theorem clone23_l (H1 : Hp) (ad : Addr) {K : AV -> Hp -> Prop} (hk : K (.slice H1.next 0 0 (.ex 0)) (newBlk H1 (.cells [] 5 true true)).2) : WCall E1 (.func 23 [] []) [.esl ad] H1 K := by
 refine enter (N := 8) rfl fn23 rfl rfl rfl rfl rfl ?_
 change wpC E1 _ _ _ _ _ _
 have k1 : kindOf E1 32 = .slice 5 := ty32k
 have k2 : ∀ {N M : Nat} {d : Option Tmp} {t : TypeId} {p : String} {a : Array Edge} {g : Option (Nat × Bool)} {s : St} {K : St -> Prop} {n : Nat} {ps : List (Nat × Operand)} (hn : n * sizeT E1 5 ≤ 16777216), wpOp E1 N M ⟨d, .buildSlice 32 n ps.toArray, t, p, a, g⟩ s K = oP ((zeroT E1 5).obind fun z => (fillParts M (fun i => some (Nat.mul i (sizeT E1 5), sizeT E1 5)) s.T ps (repL n z.cells)).omap fun l => (Blk.cells l 5 true true, fun b : Nat => AV.slice b 0 n (.ex n))) (KNew N M s.T d s.H K) := fun hn => w_buildSlice k1 hn
 have k3 : sizeT E1 5 = 1 := ty5s
 have k4 : zeroT E1 5 = some (.int .u8 0) := ty5z
 have k5 : ∀ {H : Hp} {u x : AV}, bltEff .append E1 H [u, x] [32, 32] = (srcCells E1 H 5 x).obind fun p => evAppend E1 H 5 u p.1 p.2 := appArgs_def ty32k ty32k
 have k6 : ∀ {H : Hp} {b : Nat}, evAppend E1 H 5 (.slice b 0 0 (.ex 0)) 0 [] = some (.slice b 0 0 (.ex 0), H) := rfl
 have k7 : ∀ {H : Hp} {b o : Nat}, cellsAt H b o 0 = some [] := cellsAt_zero
 simp (disch := (refine ofP ?_; first | assumption | decide | omega | (simp only [new_next, set_next] <;> omega) | with_unfolding_all exact ofR rfl | with_unfolding_all exact ofNt rfl)) only [go_sem, k1, k2, k3, k4, k5, k6, k7]
 exact hk
theorem clone23_own {H : Hp} {l : List AV} {K : AV -> Hp -> Prop} (hb : l.length ≤ 140737488351232) (hc : ∀ x ∈ l, x.cells.length = 1) (hf : flatL (catL l) = true) (hl : l ≠ []) (hk : ∀ v H', Acc EE H H' 5 1 v l -> K v H') : Call (.func 23 [] []) [.lst 1 l] H K := by
 refine enterE (N := 8) rfl fn23 rfl rfl rfl rfl rfl fun hwf => ?_
 cases l with
 | nil => exact absurd rfl hl
 | cons y l =>
  have ha := Acc.new0 (E := EE) (Fr.refl H) ty5s (by decide) ty5g
  have hc2 := (cat_seg hc).1
  have hm := ha.manyB ty5gB (m := (y :: l).length) (by simpa using hb) (by simp) (catL (y :: l)) (by rw [hc2]) hf
  have hd := ha.manyedB ty5gB (m := (y :: l).length) (by simpa using hb) (by simp) (y :: l) rfl rfl hc hf
  simp (disch := (refine ofP ?_; decide)) only [go_sem, hm]
  exact .inl (hk _ _ hd)
theorem clone23_nil {H : Hp} {K : AV -> Hp -> Prop} (hk : K .nils H) : Call (.func 23 [] []) [.nils] H K := by
 refine enterE (N := 8) rfl fn23 rfl rfl rfl rfl rfl fun hwf => ?_
 simp (disch := (refine ofP ?_; decide)) only [go_sem]
 exact .inl hk
theorem clone23 {H : Hp} {l : List AV} {K : AV -> Hp -> Prop} (hb : l.length ≤ 140737488351232) (hc : ∀ x ∈ l, x.cells.length = 1) (hf : flatL (catL l) = true) (hp : ∀ x ∈ l, plainV x = true) (hk : K (.lst 1 l) H) (hk2 : l = [] -> K .nils H) : Call (.func 23 [] []) [.lst 1 l] H K := by
 by_cases hl : l = []
 ·
  subst hl
  exact call_empty (clone23_nil (hk2 rfl)) (fun H1 c o k => clone23_e H1 c o k ⟨rfl, rfl⟩) (fun H1 ad => clone23_l H1 ad ⟨rfl, rfl⟩) hk
 ·
  exact WCall2.out fun hwf => clone23_own hb hc hf hl fun v H' ha => ha.out_plain hwf hp hk
theorem clone23_mem {H : Hp} {b o : Nat} {k : Cap} {l : List AV} {K : AV -> Hp -> Prop} (hb : l.length ≤ 140737488351232) (hc : ∀ x ∈ l, x.cells.length = 1) (hf : flatL (catL l) = true) (hm : cellsAt H b o (l.length * 1) = some (catL l)) (hlt : b < H.next) (hk : ∀ v H', Acc EE H H' 5 1 v l -> K v H') : Call (.func 23 [] []) [.slice b o l.length k] H K := by
 refine enterE (N := 8) rfl fn23 rfl rfl rfl rfl rfl fun hwf => ?_
 have ha := Acc.new0 (E := EE) (Fr.refl H) ty5s (by decide) ty5g
 have hc2 := (cat_seg hc).1
 have hcell : cellsAt (newBlk H (.cells [] 5 true true)).2 b o (l.length * 1) = some (catL l) := by rw [cellsAt_fr (Fr.alloc H _) hlt]; exact hm
 try rw [Nat.mul_one] at hcell
 by_cases hl : l = []
 ·
  subst hl
  have h0 := ha.app0
  simp (disch := (refine ofP ?_; decide)) only [go_sem, h0, List.length_nil]
  exact .inl (hk _ _ ha)
 ·
  have hpos : 0 < l.length := List.length_pos_iff.2 hl
  have hm := ha.manyB ty5gB (m := l.length) (by simpa using hb) hpos (catL l) (by rw [hc2]) hf
  have hd := ha.manyedB ty5gB (m := l.length) (by simpa using hb) hpos l rfl rfl hc hf
  simp (disch := (refine ofP ?_; decide)) only [go_sem, hcell, hm]
  exact .inl (hk _ _ hd)
theorem clone39_mem {H : Hp} {b o : Nat} {k : Cap} {l : List AV} {K : AV -> Hp -> Prop} (hb : l.length ≤ 1048576) (hc : ∀ x ∈ l, x.cells.length = 64) (hf : flatL (catL l) = true) (hm : cellsAt H b o (l.length * 64) = some (catL l)) (hlt : b < H.next) (hk : ∀ v H', Acc EE H H' 53 64 v l -> K v H') : Call (.func 39 [] []) [.slice b o l.length k] H K := by
 refine enterE (N := 8) rfl fn39 rfl rfl rfl rfl rfl fun hwf => ?_
 have ha := Acc.new0 (E := EE) (Fr.refl H) ty53s (by decide) ty53g
 have hc2 := (cat_seg hc).1
 have hcell : cellsAt (newBlk H (.cells [] 53 true true)).2 b o (l.length * 64) = some (catL l) := by rw [cellsAt_fr (Fr.alloc H _) hlt]; exact hm
 try rw [Nat.mul_one] at hcell
 by_cases hl : l = []
 ·
  subst hl
  have h0 := ha.app0
  simp (disch := (refine ofP ?_; decide)) only [go_sem, h0, List.length_nil]
  exact .inl (hk _ _ ha)
 ·
  have hpos : 0 < l.length := List.length_pos_iff.2 hl
  have hm := ha.many (m := l.length) (by simpa using hb) hpos (catL l) (by rw [hc2]) hf
  have hd := ha.manyed (m := l.length) (by simpa using hb) hpos l rfl rfl hc hf
  simp (disch := (refine ofP ?_; decide)) only [go_sem, hcell, hm]
  exact .inl (hk _ _ hd)
end
end Go.Ev
namespace Go.Ev
open Go.Proofs
noncomputable section
set_option maxRecDepth 100000
theorem fn104 : E1.fn 104 = some Try.f104 := by kernel_rfl
theorem fn101 : E1.fn 101 = some Try.f101 := by kernel_rfl
theorem fn90 : E1.fn 90 = some Try.f90 := by kernel_rfl
theorem fn72 : E1.fn 72 = some Try.f72 := by kernel_rfl
def eB (c : UInt8) : AV := .int .u8 (c.toNat : Int)
theorem eB_def (c : UInt8) : eB c = .int .u8 (c.toNat : Int) := rfl
attribute [go_sem] eB_def
theorem values104 {H : Hp} {bb y : Nat} {xs : List UInt8} {K : AV -> Hp -> Prop} (I : Nat -> Hp -> Prop) (hb : cellAt H bb 0 = some (.lst 1 (xs.map eB))) (hlen : xs.length < 9223372036854775807) (h0 : I 0 H)
 (hs : ∀ i (hi : i < xs.length) H', I i H' -> Call (.yield y) [eB xs[i]] H' fun v H'' => (v = .bool true /\ I (i + 1) H'') ∨ (v = .bool false /\ K (.tuple []) H'')) (hn : ∀ H', I xs.length H' -> K (.tuple []) H') :
 Call (.func 104 [] [.ptr bb 0]) [.yield y] H K := by
 refine enterE (N := 16) rfl fn104 rfl rfl rfl rfl rfl fun hwf => ?_
 simp (disch := (refine ofP ?_; decide)) only [go_sem, hb, List.length_map]
 refine loopE 65424 (by kernel_rfl) (fun r G H' => ∃ i : Nat, i ≤ xs.length /\ r = xs.length - i /\ G.get 7 = some (.int .i64 i) /\ I i H') xs.length ⟨0, Nat.zero_le _, rfl, rfl, h0⟩ ?_
 rintro r G H' hG ⟨i, hi, rfl, g7, hI⟩
 by_cases hlt : i < xs.length
 ·
  simp (disch := (refine ofP ?_; first | assumption | decide | omega)) only [go_sem, g7, hG, ia_lst_map]
  refine (hs i hlt H' hI).mono ?_
  rintro v H'' (⟨rfl, hI'⟩ | ⟨rfl, hk⟩)
  ·
   simp (disch := (refine ofP ?_; first | assumption | decide | omega | (simp only [new_next, set_next] <;> omega) | with_unfolding_all exact ofR rfl | with_unfolding_all exact ofNt rfl)) only [go_sem, g7, hG, wrap_i64]
   exact ⟨_, by omega, i + 1, hlt, rfl, rfl, hI'⟩
  ·
   simp (disch := (refine ofP ?_; decide)) only [go_sem]
   exact .inl hk
 ·
  simp (disch := (refine ofP ?_; first | decide | omega)) only [go_sem, g7, hG]
  obtain rfl : i = xs.length := by omega
  exact .inl (hn H' hI)
/-! fnv -/
theorem wrap_u64_nat (n : Nat) : wrapI .u64 (n : Int) = ((n % 18446744073709551616 : Nat) : Int) := rfl
theorem modn_u64 {n : Nat} (h : n < 18446744073709551616) : modn .u64 (n : Int) = n := by
 show (n % 18446744073709551616) = n
 exact Nat.mod_eq_of_lt h
def fnvStep (h : Nat) (c : UInt8) : Nat := ((h ^^^ c.toNat) * 1099511628211) % 18446744073709551616
def fnvMore (h : Nat) (l : List UInt8) : Nat := l.foldl fnvStep h
def fnvCheck (l : List UInt8) : Nat := fnvMore 14695981039346656037 l
theorem fnvStep_lt (h : Nat) (c : UInt8) : fnvStep h c < 18446744073709551616 := Nat.mod_lt _ (by decide)
theorem fnvMore_lt {h : Nat} (hh : h < 18446744073709551616) (l : List UInt8) : fnvMore h l < 18446744073709551616 := by
 unfold fnvMore
 induction l generalizing h with
 | nil => exact hh
 | cons c l ih => exact ih (fnvStep_lt h c)
theorem fnv_step {h : Nat} (hh : h < 18446744073709551616) (c : UInt8) : wrapI .u64 (wrapI .u64 (Int.ofNat (Nat.xor (modn .u64 (h : Int)) (modn .u64 (wrapI .u64 (c.toNat : Int))))) * 1099511628211) = (fnvStep h c : Int) := by
 have hc : c.toNat < 256 := c.toNat_lt
 have e1 : wrapI .u64 (c.toNat : Int) = (c.toNat : Int) := by rw [wrap_u64_nat, Nat.mod_eq_of_lt (by omega)]
 rw [e1, modn_u64 hh, modn_u64 (by omega)]
 have hx : Nat.xor h c.toNat < 2 ^ 64 := Nat.xor_lt_two_pow hh (by omega)
 show wrapI .u64 (wrapI .u64 ((Nat.xor h c.toNat : Nat) : Int) * 1099511628211) = _
 rw [wrap_u64_nat, Nat.mod_eq_of_lt hx]
 show wrapI .u64 (((Nat.xor h c.toNat * 1099511628211 : Nat)) : Int) = _
 rw [wrap_u64_nat]; rfl
theorem fnvMore_take {h : Nat} {l : List UInt8} {i : Nat} (hi : i < l.length) : fnvMore h (l.take (i + 1)) = fnvStep (fnvMore h (l.take i)) l[i] := by
 unfold fnvMore
 rw [List.take_add_one, List.getElem?_eq_getElem hi, List.foldl_append, Option.toList_some, List.foldl_cons, List.foldl_nil]
theorem more_ok {H : Hp} {h : Nat} {l : List UInt8} {K : AV -> Hp -> Prop} (hh : h < 18446744073709551616) (hl : l.length < 9223372036854775807) (hk : K (.int .u64 (fnvMore h l)) H) : Call (.func 90 [] []) [.int .u64 h, .lst 1 (l.map eB)] H K := by
 refine enterE (N := 15) rfl fn90 rfl rfl rfl rfl rfl fun hwf => ?_
 simp (disch := (refine ofP ?_; decide)) only [go_sem]
 refine enterE (N := 4) rfl fn101 rfl rfl rfl rfl rfl fun _ => ?_
 simp (disch := (refine ofP ?_; decide)) only [go_sem]
 left
 simp (disch := (refine ofP ?_; decide)) only [go_sem]
 generalize hLB : Blk.loop _ _ _ _ _ _ _ _ _ = LB
 refine values104 (fun i H' => Fr H H' /\ H.next + 3 ≤ H'.next /\ H'.m.get H.next = some (.cells [.int .u64 (fnvMore h (l.take i))] 116 true true) /\ H'.m.get (H.next + 1 + 1) = some LB) (by simp (disch := (refine ofP ?_; first | assumption | decide | omega | (simp only [new_next, set_next] <;> omega) | with_unfolding_all exact ofR rfl | with_unfolding_all exact ofNt rfl)) only [go_sem]) hl ?_ ?_ ?_
 ·
  exact ⟨(((Fr.refl H).newT _).newT _).newT _, Nat.le_refl _, by simp (disch := (refine ofP ?_; first | assumption | decide | omega | (simp only [new_next, set_next] <;> omega) | with_unfolding_all exact ofR rfl | with_unfolding_all exact ofNt rfl)) only [go_sem]; rfl, by simp (disch := (refine ofP ?_; first | assumption | decide | omega | (simp only [new_next, set_next] <;> omega) | with_unfolding_all exact ofR rfl | with_unfolding_all exact ofNt rfl)) only [go_sem]⟩
 ·
  rintro i hi H' ⟨hf, hn, h1, h2⟩
  subst hLB
  refine yieldE h2 ?_
  simp (disch := (refine ofP ?_; first | decide | omega)) only [go_sem, kn h1, h2]
  refine .inl ⟨((hf.set (by omega) _).set (by omega) _).set (by omega) _, hn, ?_⟩
  have e := fnv_step (fnvMore_lt hh (l.take i)) l[i]
  rw [fnvMore_take hi, <- e]
 ·
  rintro H' ⟨hf, hn, h1, h2⟩
  subst hLB
  simp (disch := (refine ofP ?_; first | decide | omega)) only [go_sem, kn h1, h2]
  rw [List.take_length]
  exact .inr (.inl ⟨hf.set (by omega) _, _, FZ.int, hk⟩)
theorem check_ok {H : Hp} {l : List UInt8} {K : AV -> Hp -> Prop} (hl : l.length < 9223372036854775807) (hk : K (.int .u64 (fnvCheck l)) H) : Call (.func 72 [] []) [.lst 1 (l.map eB)] H K := by
 refine enterE (N := 5) rfl fn72 rfl rfl rfl rfl rfl fun hwf => ?_
 simp (disch := (refine ofP ?_; decide)) only [go_sem]
 refine more_ok (h := 14695981039346656037) (by decide) hl ?_
 simp (disch := (refine ofP ?_; decide)) only [go_sem]
 exact .inl hk
end
end Go.Ev
namespace Go.Ev
open Go.Proofs
noncomputable section
set_option maxRecDepth 100000
theorem fn97 : E1.fn 97 = some Try.f97 := by kernel_rfl
theorem fn102 : E1.fn 102 = some Try.f102 := by kernel_rfl
theorem fn81 : E1.fn 81 = some Try.f81 := by kernel_rfl
def leBytes (n : Nat) : Nat -> List UInt8
 | 0 => []
 | k + 1 => UInt8.ofNat n :: leBytes (n / 256) k
theorem leBytes_len (n k : Nat) : (leBytes n k).length = k := by induction k generalizing n with
 | zero => rfl
 | succ k ih => show (leBytes (n / 256) k).length + 1 = _; rw [ih]
theorem leBytes_snoc (n k : Nat) : leBytes n (k + 1) = leBytes n k ++ [UInt8.ofNat (n / 256 ^ k)] := by
 induction k generalizing n with
 | zero => simp [leBytes]
 | succ k ih =>
  have e : n / 256 / 256 ^ k = n / 256 ^ (k + 1) := by rw [Nat.div_div_eq_div_mul, Nat.pow_succ, Nat.mul_comm]
  rw [show leBytes n (k + 1 + 1) = UInt8.ofNat n :: leBytes (n / 256) (k + 1) from rfl, ih, e]; rfl
theorem put_ok {H : Hp} {n : Nat} {k : Int} {K : AV -> Hp -> Prop} (hn : n < 18446744073709551616) (h1 : 1 ≤ k) (h2 : k ≤ 16) (hk : K (.lst 1 ((leBytes n k.toNat).map eB)) H) : Call (.func 81 [] []) [.int .u64 n, .int .i64 k] H K := by
 refine enterE (N := 22) rfl fn81 rfl rfl rfl rfl rfl fun hwf => ?_
 simp (disch := (refine ofP ?_; first | decide | omega)) only [go_sem]
 refine enterE (N := 6) rfl fn97 rfl rfl rfl rfl rfl fun _ => ?_
 simp (disch := (refine ofP ?_; decide)) only [go_sem]
 left
 simp (disch := (refine ofP ?_; decide)) only [go_sem]
 refine enterE (N := 15) rfl fn102 rfl rfl rfl rfl rfl fun hw => ?_
 clear hw
 generalize hLB : Blk.loop _ _ _ _ _ _ _ _ _ = LB
 simp (disch := (refine ofP ?_; first | decide | (simp only [new_next, set_next] <;> omega) | assumption)) only [go_sem]
 refine loopE 32736 (by kernel_rfl) (fun r G H' => ∃ (i : Nat) (v : AV), i ≤ k.toNat /\ r = k.toNat - i /\ G.get 5 = some (.int .i64 i) /\ Acc EE H H' 5 1 v ((leBytes n i).map eB) /\ H.next + 4 ≤ H'.next /\
  H'.m.get H.next = some (.cells [v] 32 true true) /\ H'.m.get (H.next + 1) = some (.cells [.int .u64 ((n / 256 ^ i : Nat) : Int)] 116 true true) /\ H'.m.get (H.next + 1 + 1 + 1) = some LB) k.toNat ?_ ?_
 ·
  refine ⟨0, .nils, Nat.zero_le _, rfl, rfl, Acc.nil' ((((Fr.refl H).newT _).newT _).newT _ |>.newT _) ty5s (by decide) ty5g, Nat.le_refl _, ?_, ?_, ?_⟩
  ·
   simp (disch := (refine ofP ?_; first | omega | (simp only [new_next, set_next] <;> omega) | assumption)) only [go_sem]
  ·
   simp (disch := (refine ofP ?_; first | (simp only [new_next, set_next] <;> omega) | assumption)) only [go_sem, Nat.pow_zero, Nat.div_one]
  ·
   simp (disch := (refine ofP ?_; first | (simp only [new_next, set_next] <;> omega) | assumption)) only [go_sem]
 rintro r G H' hG ⟨i, v, hi, rfl, g5, ho, hnx, m0, m1, m3⟩
 by_cases hlt : i < k.toNat
 ·
  simp (disch := (refine ofP ?_; first | decide | omega)) only [go_sem, g5, hG, kn m1]
  subst hLB
  refine yieldE m3 ?_
  have hlen : ((leBytes n i).map eB).length < 1048576 := by rw [List.length_map, leBytes_len]; omega
  have hA := fun z => (ho.other (z := z) m3 rfl (by omega)).push hlen
  have hP := fun (z : Blk) (x : AV) (hx : oneC x = true) => (ho.other (z := z) m3 rfl (by omega)).push_get hlen (new := [x]) rfl (by rw [flatL_cons', hx]; rfl)
  have hn := fun z x hx => (hP z x hx).1
  have hg3 := fun z x hx (hz : notE 5 z = true) => (hP z x hx).2 (H.next + 1 + 1 + 1) z (get_set_q rfl) hz hnx
  have hg0 := fun z x hx => (hP z x hx).2 H.next _ ((get_set_n (by omega)).trans m0) rfl (show H.next < H'.next by omega)
  have hg1 := fun z x hx => (hP z x hx).2 (H.next + 1) _ ((get_set_n (by omega)).trans m1) rfl (show H.next + 1 < H'.next by omega)
  simp (disch := (refine ofP ?_; first | decide | omega | (simp only [new_next, set_next] <;> omega) | with_unfolding_all exact ofR rfl | with_unfolding_all exact ofNt rfl)) only [go_sem, kn m0, m3, hA, hg3, hg0, hg1, g5, hG, wrap_i64, shr_lit (ki := .u64) (k' := .u64) (s := 8) rfl]
  have eW : wrapI .u8 ((n / 256 ^ i : Nat) : Int) = ((UInt8.ofNat (n / 256 ^ i)).toNat : Int) := by rw [wrap_u8_nat]; simp
  have hx1 : oneC (.int .u8 (wrapI .u8 ((n / 256 ^ i : Nat) : Int))) = true := rfl
  refine ⟨_, by omega, i + 1, .slice (H'.next + 1) 0 ((List.map eB (leBytes n i)).length + 1) (.rest 0 1 ((List.map eB (leBytes n i)).length + 1)), hlt, rfl, rfl, ?_, ?_, ?_, ?_⟩
  ·
   rw [leBytes_snoc, List.map_append]
   exact (((Acc.other ((ho.other m3 rfl (by omega)).pushed hlen (eB (UInt8.ofNat (n / 256 ^ i))) (by rw [eW]; rfl) rfl rfl) (hg0 _ _ hx1) rfl (Nat.le_refl _)).other ((get_set_n (by omega)).trans (hg3 _ _ hx1 rfl)) rfl (by omega)).other ((get_set_n (by omega)).trans ((get_set_n (by omega)).trans (hg1 _ _ hx1))) rfl (by omega))
  ·
   show _ ≤ (puH _ _ _ _ _).next
   rw [hn _ _ hx1]
   exact Nat.le_trans hnx (Nat.le_add_right _ 2)
  ·
   rfl
  ·
   rw [show n / 256 ^ (i + 1) = n / 256 ^ i / 2 ^ 8 from by rw [Nat.pow_succ, Nat.div_div_eq_div_mul]]
 ·
  simp (disch := (refine ofP ?_; first | decide | omega)) only [go_sem, g5, hG]
  obtain rfl : i = k.toNat := by omega
  subst hLB
  refine .inl ?_
  simp (disch := (refine ofP ?_; first | decide | omega)) only [go_sem, m3, kn m0]
  exact (ho.other m3 rfl (by omega)).out_plain hwf (plain_map fun _ => rfl) hk
end
end Go.Ev
namespace Go.Ev
open Go.Proofs
noncomputable section
set_option maxRecDepth 100000
theorem fn91 : E1.fn 91 = some Try.f91 := by kernel_rfl
theorem fn67 : E1.fn 67 = some Try.f67 := by kernel_rfl
theorem fn66 : E1.fn 66 = some Try.f66 := by kernel_rfl
theorem fn73 : E1.fn 73 = some Try.f73 := by kernel_rfl
theorem fn42 : E1.fn 42 = some Try.f42 := by kernel_rfl
def leNum : List UInt8 -> Nat
 | [] => 0
 | c :: l => c.toNat + 256 * leNum l
theorem leNum_snoc (l : List UInt8) (c : UInt8) : leNum (l ++ [c]) = leNum l + 256 ^ l.length * c.toNat := by
 induction l with
 | nil => simp [leNum]
 | cons a l ih =>
  show a.toNat + 256 * leNum (l ++ [c]) = a.toNat + 256 * leNum l + 256 ^ (l.length + 1) * c.toNat
  rw [ih, Nat.mul_add, Nat.pow_succ]
  have : 256 * (256 ^ l.length * c.toNat) = 256 ^ l.length * 256 * c.toNat := by rw [<- Nat.mul_assoc, Nat.mul_comm 256]
  omega
theorem leNum_lt : ∀ l : List UInt8, leNum l < 256 ^ l.length
 | [] => by simp [leNum]
 | c :: l => by
  have h1 := leNum_lt l
  have h2 := c.toNat_lt
  show c.toNat + 256 * leNum l < 256 ^ (l.length + 1)
  rw [Nat.pow_succ]; omega
theorem leNum_or {l : List UInt8} {i : Nat} (hi : i < l.length) : leNum (l.take (i + 1)) = leNum (l.take i) ||| (l[i].toNat * 2 ^ (8 * i)) := by
 have h1 : leNum (l.take i) < 2 ^ (8 * i) := by
  have := leNum_lt (l.take i)
  rw [List.length_take, Nat.min_eq_left (by omega)] at this
  rw [Nat.pow_mul]; exact this
 rw [List.take_add_one, List.getElem?_eq_getElem hi, Option.toList_some, leNum_snoc, List.length_take, Nat.min_eq_left (by omega), Nat.or_comm, Nat.mul_comm l[i].toNat, <- Nat.two_pow_add_eq_or_of_lt h1, Nat.pow_mul]
 show _ = 256 ^ i * _ + _
 omega
theorem clone23v {H : Hp} {l : List AV} {K : AV -> Hp -> Prop} (hb : l.length ≤ 140737488351232) (hc : ∀ x ∈ l, x.cells.length = 1) (hf : flatL (catL l) = true) (hp : ∀ x ∈ l, plainV x = true) (hk : K (.lst 1 l) H) : Call (.func 23 [] []) [.lst 1 l] H K := by
 refine WCall2.out fun hwf => clone23 hb hc hf hp (.inl hk) ?_
 rintro rfl
 exact (Acc.nil (E := EE) (e := 5) ty5s (by decide) ty5g).out_plain hwf (by simp) hk
theorem flat_eB : ∀ l : List UInt8, flatL (catL (l.map eB)) = true
 | [] => rfl
 | _ :: l => flat_eB l
theorem clone23b {H : Hp} {l : List UInt8} {K : AV -> Hp -> Prop} (hb : l.length ≤ 140737488351232) (hk : K (.lst 1 (l.map eB)) H) : Call (.func 23 [] []) [.lst 1 (l.map eB)] H K := by
 refine clone23v (by simpa using hb) ?_ ?_ (plain_map fun _ => rfl) hk
 ·
  intro x hx; obtain ⟨c, _, rfl⟩ := List.mem_map.1 hx; rfl
 ·
  exact flat_eB l
theorem get_ok {H : Hp} {l : List UInt8} {K : AV -> Hp -> Prop} (hl : l.length < 9223372036854775807) (hk : K (.int .u64 (leNum (l.take 8) : Nat)) H) : Call (.func 91 [] []) [.lst 1 (l.map eB)] H K := by
 have hs : evSlice (.slice 5) EE (.lst 1 (l.map eB)) none (some (.int .i64 (min (l.length : Int) 8))) none = some (.lst 1 ((l.take 8).map eB)) := by
  rw [show min (l.length : Int) 8 = ((min l.length 8 : Nat) : Int) by omega, sl_lst_hi (min l.length 8) (by rw [List.length_map]; omega) ty5s.symm, <- List.map_take]
  congr 3
  by_cases h : l.length ≤ 8
  ·
   rw [Nat.min_eq_left h, List.take_of_length_le (Nat.le_refl _), List.take_of_length_le h]
  ·
   rw [Nat.min_eq_right (by omega)]
 generalize hq : l.take 8 = q at *
 have hq8 : q.length ≤ 8 := by rw [<- hq, List.length_take]; omega
 refine enterE (N := 26) rfl fn91 rfl rfl rfl rfl rfl fun hwf => ?_
 simp (disch := (refine ofP ?_; decide)) only [go_sem, List.length_map, hs]
 refine loopE 33550392 (by kernel_rfl) (fun r G H' => ∃ i : Nat, i ≤ q.length /\ r = q.length - i /\ G.get 12 = some (.int .i64 i) /\ G.get 3 = some (.int .u64 (leNum (q.take i) : Nat)) /\ H' = H) q.length ⟨0, Nat.zero_le _, rfl, rfl, rfl, rfl⟩ ?_
 rintro r G H' hG ⟨i, hi, rfl, g12, g3, rfl⟩
 by_cases hlt : i < q.length
 ·
  have hc := q[i].toNat_lt
  have e1 : wrapI .i64 (8 * (i : Int)) = ((8 * i : Nat) : Int) := by rw [wrap_i64 (by omega) (by omega)]; rfl
  have e2 : wrapI .u64 ((q[i].toNat : Nat) : Int) = ((q[i].toNat : Nat) : Int) := by rw [wrap_u64_nat, Nat.mod_eq_of_lt (by omega)]
  have hb : 2 ^ (8 * i) ≤ 2 ^ 56 := Nat.pow_le_pow_right (by decide) (by omega)
  have e3 : q[i].toNat * 2 ^ min (8 * i) 64 = q[i].toNat * 2 ^ (8 * i) := by rw [Nat.min_eq_left (by omega)]
  have hm : q[i].toNat * 2 ^ (8 * i) < 18446744073709551616 := Nat.lt_of_le_of_lt (Nat.mul_le_mul (show q[i].toNat ≤ 255 by omega) hb) (by decide)
  have e4 : binInt .shl .u64 ((q[i].toNat : Nat) : Int) (.int .i64 ((8 * i : Nat) : Int)) = some (.int .u64 ((q[i].toNat * 2 ^ (8 * i) : Nat) : Int)) := by
   rw [shl_nat, show bitsn .u64 = 64 from rfl, e3, wrap_u64_nat, Nat.mod_eq_of_lt hm]
  have hl1 : leNum (q.take i) < 18446744073709551616 := by
   refine Nat.lt_of_lt_of_le (leNum_lt _) ?_
   rw [List.length_take]
   exact Nat.le_trans (Nat.pow_le_pow_right (by decide) (show min i q.length ≤ 8 by omega)) (by decide)
  simp (disch := (refine ofP ?_; first | assumption | decide | omega)) only [go_sem, g12, g3, hG, ia_lst_map, e1, e2, e4, wrap_i64]
  refine ⟨_, by omega, i + 1, hlt, rfl, rfl, ?_⟩
  rw [modn_u64 hl1, modn_u64 hm, leNum_or hlt]
  show some (AV.int .u64 (wrapI .u64 ((leNum (q.take i) ||| q[i].toNat * 2 ^ (8 * i) : Nat) : Int))) = _
  rw [wrap_u64_nat, Nat.mod_eq_of_lt (show _ < 2 ^ 64 from Nat.or_lt_two_pow hl1 hm)]
 ·
  simp (disch := (refine ofP ?_; first | decide | omega)) only [go_sem, g12, g3, hG]
  obtain rfl : i = q.length := by omega
  rw [List.take_length]
  exact .inl hk
theorem left_ok {H : Hp} {b : Nat} {l : List UInt8} {K : AV -> Hp -> Prop} (hl : l.length < 9223372036854775807) (hb : H.m.get b = some (.cells [.lst 1 (l.map eB)] 120 true true)) (hk : K (.int .i64 l.length) H) : Call (.func 67 [] []) [.ptr b 0] H K := by
 refine enterE (N := 10) rfl fn67 rfl rfl rfl rfl rfl fun hwf => ?_
 simp (disch := (refine ofP ?_; decide)) only [go_sem, kn hb, List.length_map]
 exact .inl hk
theorem take_ok {H : Hp} {b : Nat} {l : List UInt8} {n : Int} {K : AV -> Hp -> Prop} (hl : l.length ≤ 140737488351232) (hb : H.m.get b = some (.cells [.lst 1 (l.map eB)] 120 true true))
 (h1 : n < 0 ∨ l.length < n -> K (.tuple [.lst 1 [], .bool false]) H)
 (h2 : 0 ≤ n -> n ≤ l.length -> K (.tuple [.lst 1 ((l.take n.toNat).map eB), .bool true]) (setBlk H b (.cells [.lst 1 ((l.drop n.toNat).map eB)] 120 true true))) : Call (.func 66 [] []) [.ptr b 0, .int .i64 n] H K := by
 have hz : ∀ {H1 : Hp}, FZ H H1 (.tuple [.lst 1 [], .bool false]) (.tuple [.nils, .bool false]) := FZ.tuple (.cons .nils0 (.cons .bool .nil))
 by_cases hneg : n < 0
 ·
  refine enterE (N := 36) rfl fn66 rfl rfl rfl rfl rfl fun hwf => ?_
  simp (disch := (refine ofP ?_; first | assumption | decide)) only [go_sem]
  exact .inr (.inl ⟨Fr.refl _, _, hz, h1 (.inl hneg)⟩)
 by_cases hbig : (l.length : Int) < n
 ·
  refine enterE (N := 36) rfl fn66 rfl rfl rfl rfl rfl fun hwf => ?_
  simp (disch := (refine ofP ?_; first | assumption | decide)) only [go_sem]
  refine left_ok (by omega) hb ?_
  simp (disch := (refine ofP ?_; first | assumption | decide)) only [go_sem]
  exact .inr (.inl ⟨Fr.refl _, _, hz, h1 (.inr hbig)⟩)
 ·
  have hneg' := Int.not_lt.1 hneg
  obtain ⟨n, rfl⟩ := Int.eq_ofNat_of_zero_le (Int.not_lt.1 hneg)
  have hn : n ≤ l.length := by omega
  have hs1 : evSlice (.slice 5) EE (.lst 1 (l.map eB)) none (some (.int .i64 (n : Int))) none = some (.lst 1 ((l.take n).map eB)) := by
   rw [sl_lst_hi n (by rw [List.length_map]; exact hn) ty5s.symm, List.map_take]
  have hs2 : evSlice (.slice 5) EE (.lst 1 (l.map eB)) (some (.int .i64 (n : Int))) none none = some (.lst 1 ((l.drop n).map eB)) := by
   rw [sl_lst_lo n (by rw [List.length_map]; exact hn) ty5s.symm, List.map_drop]
  refine enterE (N := 36) rfl fn66 rfl rfl rfl rfl rfl fun hwf => ?_
  simp (disch := (refine ofP ?_; first | assumption | decide)) only [go_sem]
  refine left_ok (by omega) hb ?_
  simp (disch := (refine ofP ?_; first | assumption | decide)) only [go_sem, kn hb, hs1]
  refine clone23b (by rw [List.length_take]; omega) ?_
  simp (disch := (refine ofP ?_; decide)) only [go_sem, kn hb, hs2]
  exact .inl (h2 hneg' (by omega))
theorem num_ok {H : Hp} {b : Nat} {l : List UInt8} {n : Int} {K : AV -> Hp -> Prop} (hl : l.length ≤ 140737488351232) (hb : H.m.get b = some (.cells [.lst 1 (l.map eB)] 120 true true))
 (h1 : n < 0 ∨ l.length < n -> K (.tuple [.int .u64 0, .bool false]) H)
 (h2 : 0 ≤ n -> n ≤ l.length -> K (.tuple [.int .u64 (leNum ((l.take n.toNat).take 8) : Nat), .bool true]) (setBlk H b (.cells [.lst 1 ((l.drop n.toNat).map eB)] 120 true true))) : Call (.func 73 [] []) [.ptr b 0, .int .i64 n] H K := by
 refine enterE (N := 17) rfl fn73 rfl rfl rfl rfl rfl fun hwf => ?_
 simp (disch := (refine ofP ?_; decide)) only [go_sem]
 refine take_ok hl hb (fun h => ?_) (fun h h' => ?_)
 ·
  simp (disch := (refine ofP ?_; decide)) only [go_sem]
  refine get_ok (l := []) (by decide) ?_
  simp (disch := (refine ofP ?_; decide)) only [go_sem]
  exact .inl (h1 h)
 ·
  simp (disch := (refine ofP ?_; decide)) only [go_sem]
  refine get_ok (by rw [List.length_take]; omega) ?_
  simp (disch := (refine ofP ?_; decide)) only [go_sem]
  exact .inl (h2 h h')
end
end Go.Ev
namespace Go.Ev
open Go.Proofs
noncomputable section
set_option maxRecDepth 100000
theorem fn53 : E1.fn 53 = some Try.f53 := by kernel_rfl
theorem fn77 : E1.fn 77 = some Try.f77 := by kernel_rfl
theorem fn78 : E1.fn 78 = some Try.f78 := by kernel_rfl
theorem fn92 : E1.fn 92 = some Try.f92 := by kernel_rfl
theorem fn96 : E1.fn 96 = some Try.f96 := by kernel_rfl
theorem fn80 : E1.fn 80 = some Try.f80 := by kernel_rfl
def zeros (l : List UInt8) : Bool := l.all (· == 0)
theorem zero_b (c : UInt8) : (c.toNat : Int) = 0 ↔ c = 0 := by
 constructor
 ·
  intro h
  have : c.toNat = 0 := by omega
  exact UInt8.toNat_inj.1 this
 ·
  rintro rfl; rfl
theorem zero_ok {H : Hp} {l : List UInt8} {K : AV -> Hp -> Prop} (hl : l.length < 9223372036854775807) (hk : K (.bool (zeros l)) H) : Call (.func 53 [] []) [.lst 1 (l.map eB)] H K := by
 refine enterE (N := 6) rfl fn53 rfl rfl rfl rfl rfl fun hwf => ?_
 simp (disch := (refine ofP ?_; decide)) only [go_sem]
 refine enterE (N := 9) rfl fn77 rfl rfl rfl rfl rfl fun _ => ?_
 simp (disch := (refine ofP ?_; decide)) only [go_sem]
 refine enterE (N := 19) rfl fn92 rfl rfl rfl rfl rfl fun _ => ?_
 simp (disch := (refine ofP ?_; decide)) only [go_sem, List.length_map]
 refine loopE 524080 (by kernel_rfl) (fun r G H' => ∃ i : Nat, i ≤ l.length /\ r = l.length - i /\ G.get 8 = some (.int .i64 i) /\ zeros (l.take i) = true /\ H' = H) l.length ⟨0, Nat.zero_le _, rfl, rfl, rfl, rfl⟩ ?_
 rintro r G H' hG ⟨i, hi, rfl, g8, hz, rfl⟩
 by_cases hlt : i < l.length
 ·
  simp (disch := (refine ofP ?_; first | assumption | decide | omega)) only [go_sem, g8, hG, ia_lst_map]
  refine enterE (N := 5) rfl fn78 rfl rfl rfl rfl rfl fun _ => ?_
  simp (disch := (refine ofP ?_; decide)) only [go_sem]
  refine .inl ?_
  have hzi : zeros (l.take (i + 1)) = (l[i] == 0) := by
   have hz' : (l.take i).all (· == 0) = true := hz
   unfold zeros
   rw [List.take_add_one, List.getElem?_eq_getElem hlt, Option.toList_some, List.all_append, hz', Bool.true_and, List.all_cons, List.all_nil, Bool.and_true]
  by_cases h0 : l[i] = 0
  ·
   rw [h0] at hzi ⊢
   simp (disch := (refine ofP ?_; first | assumption | decide | omega | (simp only [new_next, set_next] <;> omega) | with_unfolding_all exact ofR rfl | with_unfolding_all exact ofNt rfl)) only [go_sem, g8, hG, wrap_i64]
   exact ⟨_, by omega, i + 1, hlt, rfl, rfl, by rw [hzi]; rfl⟩
  ·
   have h0' : ¬ (l[i].toNat : Int) = 0 := fun h => h0 ((zero_b _).1 h)
   simp (disch := (refine ofP ?_; first | assumption | decide | omega | (simp only [new_next, set_next] <;> omega) | with_unfolding_all exact ofR rfl | with_unfolding_all exact ofNt rfl)) only [go_sem, g8, hG, wrap_i64]
   refine .inl ?_
   simp (disch := (refine ofP ?_; first | decide | omega)) only [go_sem]
   refine .inl ?_
   simp (disch := (refine ofP ?_; decide)) only [go_sem]
   have hf : zeros l = false := by
    unfold zeros
    rw [List.all_eq_false]
    exact ⟨l[i], List.getElem_mem hlt, by simpa using h0⟩
   rw [hf] at hk
   exact .inl hk
 ·
  simp (disch := (refine ofP ?_; first | decide | omega)) only [go_sem, g8, hG]
  obtain rfl : i = l.length := by omega
  refine .inl ?_
  simp (disch := (refine ofP ?_; decide)) only [go_sem]
  refine .inl ?_
  simp (disch := (refine ofP ?_; decide)) only [go_sem]
  rw [List.take_length] at hz
  rw [hz] at hk
  exact .inl hk
theorem app_in {E : Env} {H : Hp} {b e sz len m n : Nat} {cs new : List AV} (hb : H.m.get b = some (.cells cs e false true)) (hsz : sizeT E e = sz) (hpos : 0 < sz) (hm : 0 < m) (hl : new.length = m * sz) (hf : flatL new = true) (hn : len + m ≤ n) (hcs : cs.length = n * sz) :
 evAppend E H e (.slice b 0 len (.rest 0 sz n)) m new = some (.slice b 0 (len + m) (.rest 0 sz n), setBlk H b (.cells (cs.take (len * sz) ++ (new ++ cs.drop (len * sz + new.length))) e false true)) := by
 have hle : (len + m) * sz ≤ cs.length := by rw [hcs]; exact Nat.mul_le_mul_right _ hn
 have h1 : Nat.beq m 0 = false := beqF (by omega)
 have h2 : putCells H b (0 + len * sz) new = some (setBlk H b (.cells (cs.take (len * sz) ++ (new ++ cs.drop (len * sz + new.length))) e false true)) := by
  rw [putCells_def, hb]
  show putB H b _ new (.cells cs e false true) = _
  rw [putB_c, hf, Nat.zero_add, setE_seg (by rw [hl, <- Nat.add_mul]; exact hle)]; rfl
 show bc (Nat.beq m 0) _ (((H.m.get b).obind ownRow).obind fun r => _) = _
 rw [h1, hb]
 show bc (Nat.beq e e && (Nat.blt 0 (sizeT E e) && Nat.beq sz (sizeT E e))) (bc (Nat.ble (0 + (len + m) * sizeT E e) (lenL cs)) ((putCells H b (0 + len * sizeT E e) new).omap fun H' => (AV.slice b 0 (len + m) (.rest 0 sz (bc (Nat.ble n (len + m)) (len + m) n)), H')) _) none = _
 rw [hsz, Nat.beq_refl, Nat.beq_refl, (blt_iff _ _).2 hpos, lenL_eq, Nat.zero_add ((len + m) * sz), ble_iff.2 hle, h2]
 have h3 : bc (Nat.ble n (len + m)) (len + m) n = n := by
  by_cases h : n ≤ len + m
  ·
   rw [ble_iff.2 h]; show len + m = n; omega
  ·
   rw [ble_f h]; rfl
 rw [h3]; rfl
theorem app_0 {E : Env} {H : Hp} {b o e len : Nat} {c : Cap} {new : List AV} : evAppend E H e (.slice b o len c) 0 new = some (.slice b o len c, H) := rfl
theorem appArgs_int {E : Env} {H : Hp} {t t2 e : TypeId} {k : IntKind} {u : AV} {n : Nat} {z : AV} (h : kindOf E t = .slice e) (h2 : kindOf E t2 = .int k) (hz : zeroT E e = some z) (hn : n ≤ 1048576) (hb : Nat.ble (bytesT E e) 1048576 = true) :
 bltEff .append E H [u, .int k (n : Int)] [t, t2] = evAppend E H e u n (repL n z.cells) := by
 show appArgs E H t [t2] u (.int k (n : Int)) = _
 unfold appArgs
 rw [h]; simp only; rw [h2]; simp only
 rw [natOf_i, natI_nat]
 show (zeroT E e).obind _ = _
 rw [hz]
 show (match Nat.ble n 1048576 && Nat.ble (bytesT E e) 1048576 with | true => _ | false => _) = _
 rw [hb, ble_iff.2 hn]; rfl
theorem sl_rest0 {E : Env} {e sz b len n : Nat} {k : IntKind} (hsz : sizeT E e = sz) : evSlice (.slice e) E (.slice b 0 len (.rest 0 sz n)) none (some (.int k 0)) none = some (.slice b 0 0 (.rest 0 sz n)) := by
 show bc (Nat.beq sz (sizeT E e)) ((boundsN len n none (some (.int k 0)) none).obind fun r => bc (Nat.blt r.1 n || Nat.beq r.1 0) (some (AV.slice b (0 + r.1 * sz) (r.2.1 - r.1) (.rest (0 + r.1) sz (n - r.1)))) _) none = _
 rw [hsz, Nat.beq_refl]
 have : boundsN len n none (some (.int k 0)) none = some (0, 0, n) := rfl
 rw [this]
 show bc (Nat.blt 0 n || Nat.beq 0 0) (some (AV.slice b (0 + 0 * sz) (0 - 0) (.rest (0 + 0) sz (n - 0)))) _ = _
 rw [show Nat.beq 0 0 = true from rfl, Bool.or_true, Nat.zero_mul]; rfl
theorem cap_nil {E : Env} {e : TypeId} : capAV (.slice e) .nils = some (.int .i64 0) := rfl
theorem app_nil {E : Env} {H : Hp} {e sz n : Nat} {new : List AV} (hg : grows E e = true) (hsz : sizeT E e = sz) (h0 : 0 < n) (hn : n ≤ 1048576) : evAppend E H e .nils n new = some (.slice H.next 0 n (.rest 0 sz n), (newBlk H (.cells new e false true)).2) := by
 show bc (Nat.beq n 0) _ (bc (growOk E e n) (some (AV.slice H.next 0 n (.rest 0 (sizeT E e) n), (newBlk H (.cells new e false true)).2)) none) = _
 rw [beqF (by omega), growOk_grows hg hn, hsz]; rfl
theorem grow_ok {H : Hp} {n : Nat} {K : AV -> Hp -> Prop} (h0 : 0 < n) (hn : n ≤ 1048576) (hk : K (.slice H.next 0 0 (.rest 0 1 n)) (newBlk H (.cells (List.replicate n (.int .u8 0)) 5 false true)).2) : Call (.func 96 [] []) [.nils, .int .i64 (n : Int)] H K := by
 have h1 := appArgs_int (E := EE) (H := H) (u := .nils) ty32k ty3k ty5z hn (by rw [ty5b]; rfl)
 have h2 : repL n (AV.int .u8 0).cells = List.replicate n (.int .u8 0) := by
  rw [repL_eq]
  show (List.replicate n [AV.int .u8 0]).flatten = _
  clear h1 hk h0 hn
  induction n with
  | zero => rfl
  | succ n ih => rw [List.replicate_succ, List.flatten_cons, ih]; rfl
 rw [h2, app_nil ty5g ty5s h0 hn] at h1
 have h3 : evSlice (.slice 5) EE .nils none (some (.int .i64 0)) none = some .nils := rfl
 have h4 : evSlice (.slice 5) EE (.slice H.next 0 n (.rest 0 1 n)) none (some (.int .i64 0)) none = some (.slice H.next 0 0 (.rest 0 1 n)) := sl_rest0 ty5s
 refine enterE (N := 27) rfl fn96 rfl rfl rfl rfl rfl fun hwf => ?_
 simp (disch := (refine ofP ?_; first | decide | omega)) only [go_sem, wrap_i64, cap_nil, Int.sub_zero, h1, h3, h4]
 exact .inl hk
theorem flatn_take {ps : List (List UInt8)} {i : Nat} (h : i < ps.length) : (ps.take (i + 1)).flatten = (ps.take i).flatten ++ ps[i] := by
 rw [List.take_add_one, List.getElem?_eq_getElem h, Option.toList_some, List.flatten_append]; simp
theorem flatn_len {ps : List (List UInt8)} {i : Nat} : (ps.take i).flatten.length ≤ ps.flatten.length := by
 have : ps.flatten = (ps.take i).flatten ++ (ps.drop i).flatten := by rw [<- List.flatten_append, List.take_append_drop]
 rw [this, List.length_append]; omega
def SrcB (H : Hp) (v : AV) (l : List UInt8) : Prop := lenAV (.slice 5) EE v = some (.int .i64 (l.length : Int)) /\ ∀ H', Fr H H' -> srcCells EE H' 5 v = some (l.length, l.map eB)
theorem catL_eB (l : List UInt8) : catL (l.map eB) = l.map eB := by
 induction l with
 | nil => rfl
 | cons c l ih => show eB c :: catL (l.map eB) = _; rw [ih]; rfl
theorem SrcB.lst {H : Hp} {l : List UInt8} : SrcB H (.lst 1 (l.map eB)) l := by
 refine ⟨by rw [len_lst, List.length_map], fun H' _ => ?_⟩
 rw [src_lst, show sizeT EE 5 = 1 from ty5s, catL_eB, List.length_map]; rfl
theorem SrcB.own {H : Hp} {b : Nat} {k : Cap} {x : Bool} {l : List UInt8} (hb : H.m.get b = some (.cells (l.map eB) 5 x true)) (hlt : b < H.next) : SrcB H (.slice b 0 l.length k) l := by
 refine ⟨rfl, fun H' hf => ?_⟩
 have hb' : H'.m.get b = some (.cells (l.map eB) 5 x true) := by rw [hf.get b hlt]; exact hb
 show (cellsAt H' b 0 (Nat.mul l.length (sizeT EE 5))).omap (fun r => (l.length, r)) = _
 rw [show sizeT EE 5 = 1 from ty5s, show Nat.mul l.length 1 = l.length from Nat.mul_one _, (kn hb').2.2.1]
 by_cases h0 : l = []
 ·
  subst h0; rfl
 ·
  rw [beqF (fun h => h0 (List.eq_nil_of_length_eq_zero h))]
  show (takeE l.length (dropL 0 (l.map eB))).omap _ = _
  rw [dropL_eq, List.drop_zero, takeE_eq, if_pos (by rw [List.length_map]; exact Nat.le_refl _), List.take_of_length_le (by rw [List.length_map]; exact Nat.le_refl _)]; rfl
theorem SrcB.keep {H H' : Hp} {v : AV} {l : List UInt8} (h : SrcB H v l) (hf : Fr H H') : SrcB H' v l := ⟨h.1, fun H2 h2 => h.2 H2 (hf.trans h2)⟩
theorem SrcB.acc {H0 H : Hp} {v : AV} {l : List UInt8} (h : Acc EE H0 H 5 1 v (l.map eB)) : SrcB H v l := by
 have hl : (l.map eB).length = l.length := List.length_map _
 rcases h.own.2 with ⟨rfl, h0⟩ | ⟨b, x, _, hlt, rfl, hb⟩
 ·
  rw [hl] at h0
  obtain rfl := List.eq_nil_of_length_eq_zero h0
  exact ⟨rfl, fun _ _ => rfl⟩
 ·
  rw [catL_eB] at hb
  rw [hl]
  exact SrcB.own hb hlt
theorem concat_own {H : Hp} {b : Nat} {ex : Bool} {vs : List AV} {ps : List (List UInt8)} {K : AV -> Hp -> Prop} (hb : H.m.get b = some (.cells vs 32 ex true)) (hvl : vs.length = ps.length) (hv : ∀ i (h : i < ps.length), SrcB H (vs[i]'(by omega)) ps[i]) (hbn : b < H.next) (hne : ps.flatten ≠ []) (hlen : ps.flatten.length ≤ 1048576) (hpl : ps.length ≤ 1048576)
 (hk : ∀ v H', Acc EE H H' 5 1 v (ps.flatten.map eB) -> K v H') : Call (.func 80 [] []) [.slice b 0 ps.length (.ex ps.length)] H K := by
 have hpos : 0 < ps.flatten.length := List.length_pos_iff.2 hne
 refine enterE (N := 36) rfl fn80 rfl rfl rfl rfl rfl fun hwf => ?_
 simp (disch := (refine ofP ?_; decide)) only [go_sem]
 refine loopE 8386600 (by kernel_rfl) (fun r G H' => ∃ i : Nat, i ≤ ps.length /\ r = ps.length - i /\ G.get 11 = some (.int .i64 i) /\ G.get 3 = some (.int .i64 ((ps.take i).flatten.length : Nat)) /\ H' = H) ps.length ⟨0, Nat.zero_le _, rfl, rfl, rfl, rfl⟩ ?_
 rintro r G H' hG ⟨i, hi, rfl, g11, g3, rfl⟩
 by_cases hlt : i < ps.length
 ·
  have hg : getL vs i = some (vs[i]'(by omega)) := by rw [getL_eq, List.getElem?_eq_getElem]
  have hl0 := (hv i hlt).1
  have hl1 := flatn_len (ps := ps) (i := i)
  have hl2 := flatn_len (ps := ps) (i := i + 1)
  have e0 : (ps.take (i + 1)).flatten.length = (ps.take i).flatten.length + ps[i].length := by rw [flatn_take hlt, List.length_append]
  simp (disch := (refine ofP ?_; first | assumption | decide | omega)) only [go_sem, g11, g3, hG, kn hb, ia_slice, hg, hl0, wrap_i64]
  exact ⟨_, by omega, i + 1, hlt, rfl, rfl, by rw [e0]; rfl⟩
 have hi' : i = ps.length := by omega
 subst hi'
 simp (disch := (refine ofP ?_; first | decide | omega)) only [go_sem, g11, g3, hG]
 rw [List.take_length]
 refine grow_ok hpos hlen ?_
 simp (disch := (refine ofP ?_; decide)) only [go_sem, hG]
 refine loopE 34225520960 (by kernel_rfl) (fun r G H2 => ∃ i : Nat, i ≤ ps.length /\ r = ps.length - i /\ G.get 27 = some (.int .i64 i) /\ G.get 6 = some (.slice H'.next 0 (ps.take i).flatten.length (.rest 0 1 ps.flatten.length)) /\ Fr H' H2 /\ H'.next < H2.next /\
  H2.m.get H'.next = some (.cells ((ps.take i).flatten.map eB ++ List.replicate (ps.flatten.length - (ps.take i).flatten.length) (.int .u8 0)) 5 false true)) ps.length ?_ ?_
 ·
  exact ⟨0, Nat.zero_le _, rfl, by simp (disch := (refine ofP ?_; first | assumption | decide | omega | (simp only [new_next, set_next] <;> omega) | with_unfolding_all exact ofR rfl | with_unfolding_all exact ofNt rfl)) only [go_sem]; rfl, by simp (disch := (refine ofP ?_; first | assumption | decide | omega | (simp only [new_next, set_next] <;> omega) | with_unfolding_all exact ofR rfl | with_unfolding_all exact ofNt rfl)) only [go_sem, List.take_zero]; rfl, Fr.alloc H' _, Nat.lt_succ_self _, by simp (disch := (refine ofP ?_; first | assumption | decide | omega | (simp only [new_next, set_next] <;> omega) | with_unfolding_all exact ofR rfl | with_unfolding_all exact ofNt rfl)) only [go_sem, List.take_zero]; rfl⟩
 rintro r G2 H2 hG2 ⟨i, hi, rfl, g27, g6, hf, hf2, hm⟩
 by_cases hlt : i < ps.length
 ·
  have hb2 : H2.m.get b = some (.cells vs 32 ex true) := by rw [hf.get b hbn]; exact hb
  have hg : getL vs i = some (vs[i]'(by omega)) := by rw [getL_eq, List.getElem?_eq_getElem]
  have hl0 := (hv i hlt).1
  have hl2 := flatn_len (ps := ps) (i := i + 1)
  have e0 : (ps.take (i + 1)).flatten.length = (ps.take i).flatten.length + ps[i].length := by rw [flatn_take hlt, List.length_append]
  by_cases hz : ps[i] = []
  ·
   have e1 : (ps.take (i + 1)).flatten = (ps.take i).flatten := by rw [flatn_take hlt, hz, List.append_nil]
   have hs0 : srcCells EE H2 5 (vs[i]'(by omega)) = some (0, []) := by rw [(hv i hlt).2 H2 hf, hz]; rfl
   simp (disch := (refine ofP ?_; first | assumption | decide | omega)) only [go_sem, g27, g6, hG2, kn hb2, ia_slice, hg, hs0, app_0, wrap_i64]
   exact ⟨_, by omega, i + 1, hlt, rfl, rfl, by rw [e1], hf, hf2, by rw [e1]; exact hm⟩
  ·
   have hm' : 0 < ps[i].length := List.length_pos_iff.2 hz
   have hcat : ∀ l : List UInt8, catL (l.map eB) = l.map eB := fun l => by
    induction l with
    | nil => rfl
    | cons c l ih => show eB c :: catL (l.map eB) = _; rw [ih]; rfl
   have hap := app_in (E := EE) (m := ps[i].length) (len := (ps.take i).flatten.length) (n := ps.flatten.length) (new := ps[i].map eB) hm ty5s (by decide) hm' (by rw [List.length_map, Nat.mul_one]) (by rw [<- hcat]; exact flat_eB _) (by omega) (by rw [List.length_append, List.length_map, List.length_replicate]; omega)
   have hs0 := (hv i hlt).2 H2 hf
   simp (disch := (refine ofP ?_; first | assumption | decide | omega)) only [go_sem, g27, g6, hG2, kn hb2, ia_slice, hg, hs0, hap, wrap_i64]
   refine ⟨_, by omega, i + 1, hlt, rfl, rfl, by rw [e0], hf.set (Nat.le_refl _) _, hf2, ?_⟩
   have ea : ((ps.take i).flatten.map eB).length = (ps.take i).flatten.length := List.length_map _
   have ea2 : (ps[i].map eB).length = ps[i].length := List.length_map _
   rw [ea2, List.take_append_of_le_length (by omega), List.take_of_length_le (by omega), List.drop_append, ea, List.drop_of_length_le (by omega), List.nil_append, List.drop_replicate, e0, flatn_take hlt, List.map_append, List.append_assoc]
   rw [show ps.flatten.length - (ps.take i).flatten.length - ((ps.take i).flatten.length + ps[i].length - (ps.take i).flatten.length) = ps.flatten.length - ((ps.take i).flatten.length + ps[i].length) by omega]
 ·
  have hi2 : i = ps.length := by omega
  subst hi2
  simp (disch := (refine ofP ?_; first | decide | omega)) only [go_sem, g27, g6, hG2]
  rw [List.take_length, Nat.sub_self, List.replicate_zero, List.append_nil] at hm
  rw [List.take_length]
  have hcat : ∀ l : List UInt8, catL (l.map eB) = l.map eB := fun l => by
   induction l with
   | nil => rfl
   | cons c l ih => show eB c :: catL (l.map eB) = _; rw [ih]; rfl
  have ha : Acc EE H' H2 5 1 (.slice H'.next 0 ps.flatten.length (.rest 0 1 ps.flatten.length)) (ps.flatten.map eB) := by
   refine ⟨hf, ⟨?_, .inr ⟨H'.next, false, Nat.le_refl _, hf2, ?_, ?_⟩⟩, ?_, ty5s, by decide, ty5g⟩
   ·
    rw [hcat, Nat.mul_one]
   ·
    rw [List.length_map]; rfl
   ·
    rw [hcat]; exact hm
   ·
    intro x hx; obtain ⟨c, _, rfl⟩ := List.mem_map.1 hx; rfl
  exact .inl (hk _ _ ha)
def SrcL (H : Hp) : List AV -> List (List UInt8) -> Prop
 | [], [] => True
 | v :: vs, p :: ps => SrcB H v p /\ SrcL H vs ps
 | _, _ => False
theorem SrcL.nil {H : Hp} : SrcL H [] [] := trivial
theorem SrcL.cons {H : Hp} {v : AV} {p : List UInt8} {vs : List AV} {ps : List (List UInt8)} (h : SrcB H v p) (h2 : SrcL H vs ps) : SrcL H (v :: vs) (p :: ps) := ⟨h, h2⟩
theorem SrcL.get {H : Hp} : ∀ {vs : List AV} {ps : List (List UInt8)}, SrcL H vs ps -> ∃ h : vs.length = ps.length, ∀ i (hi : i < ps.length), SrcB H (vs[i]'(by omega)) ps[i]
 | [], [], _ => ⟨rfl, fun i hi => absurd hi (Nat.not_lt_zero _)⟩
 | v :: vs, p :: ps, ⟨h1, h2⟩ => by
  obtain ⟨hl, hg⟩ := SrcL.get h2
  refine ⟨by simp [hl], fun i hi => ?_⟩
  cases i with
  | zero => exact h1
  | succ i => exact hg i (by simpa using hi)
theorem concat_ownL {H : Hp} {b n : Nat} {ex : Bool} {vs : List AV} (ps : List (List UInt8)) {K : AV -> Hp -> Prop} (hb : H.m.get b = some (.cells vs 32 ex true)) (hs : SrcL H vs ps) (hn : n = ps.length) (hbn : b < H.next) (hne : ps.flatten ≠ []) (hlen : ps.flatten.length ≤ 1048576) (hpl : n ≤ 1048576)
 (hk : ∀ v H', Acc EE H H' 5 1 v (ps.flatten.map eB) -> K v H') : Call (.func 80 [] []) [.slice b 0 n (.ex n)] H K := by
 obtain ⟨h1, h2⟩ := hs.get
 subst hn
 exact concat_own hb h1 h2 hbn hne hlen hpl hk
end
end Go.Ev
namespace Go.Ev
open Go.Proofs
noncomputable section
set_option maxRecDepth 100000
theorem fn95 : E1.fn 95 = some Try.f95 := by kernel_rfl
theorem fn103 : E1.fn 103 = some Try.f103 := by kernel_rfl
theorem fn105 : E1.fn 105 = some Try.f105 := by kernel_rfl
theorem fn99 : E1.fn 99 = some Try.f99 := by kernel_rfl
theorem eB_len (l : List UInt8) : ∀ x ∈ l.map eB, x.cells.length = 1 := by
 intro x hx; obtain ⟨c, _, rfl⟩ := List.mem_map.1 hx; rfl
theorem Acc.read {E : Env} {H0 H : Hp} {e sz : Nat} {v : AV} {l : List AV} (h : Acc E H0 H e sz v l) (hp : ∀ x ∈ l, plainV x = true) {σ : Mp} {H1 : Hp} {a : AV} (r : HR false σ H H1) (ha : VR false σ H1 v a) : VR false noMp H1 (.lst sz l) a := by
 rcases h.own.2 with ⟨rfl, hl⟩ | ⟨b, x, _, _, rfl, hb⟩
 ·
  obtain rfl := ha.nils
  have : l = [] := List.eq_nil_of_length_eq_zero hl
  subst this
  exact VR.lst0_mk (.inl rfl)
 ·
  have hcs := (cat_seg h.el).1
  refine read_sl r ha ?_ hp h.el h.hpos ?_ fun _ => ?_
  ·
   have := (kn hb).2.2.1 0 (l.length * sz)
   rw [this]
   by_cases h0 : l.length * sz = 0
   ·
    rw [h0]
    have : catL l = [] := List.eq_nil_of_length_eq_zero (by rw [hcs, h0])
    rw [this]; rfl
   ·
    rw [beqF h0]
    show takeE _ (dropL 0 _) = _
    rw [dropL_eq, takeE_eq, List.drop_zero, if_pos (by rw [hcs]; exact Nat.le_refl _), List.take_of_length_le (by rw [hcs]; exact Nat.le_refl _)]
  ·
   cases x
   ·
    exact rfl
   ·
    trivial
  ·
   cases x
   ·
    exact Nat.le_refl _
   ·
    exact Nat.le_refl _
theorem read1 {f : FuncId} {H0 H : Hp} {e sz : Nat} {v w : AV} {l : List AV} {K : AV -> Hp -> Prop} (ha : Acc EE H0 H e sz v l) (hp : ∀ x ∈ l, plainV x = true) (hw : plainV w = true) (h : Call (.func f [] []) [.lst sz l] noHp fun v' _ => v' = w) (hk : K w H) : Call (.func f [] []) [v] H K := by
 refine WCall2.read hw h (fun σ H1 as1 r hv => ?_) hk
 obtain ⟨y, r', h1, h2, rfl⟩ := VRL.cons.1 hv
 rw [VRL.nil] at h2
 subst h2
 have ha' : Acc E1 H0 H e sz v l := ⟨ha.fr, ha.own, ha.el, ha.hsz, ha.hpos, ha.hg⟩
 exact VRL.one (ha'.read hp r h1)
theorem check_own {H0 H : Hp} {v : AV} {l : List UInt8} {K : AV -> Hp -> Prop} (ha : Acc EE H0 H 5 1 v (l.map eB)) (hl : l.length ≤ 1048576) (hk : K (.int .u64 (fnvCheck l)) H) : Call (.func 72 [] []) [v] H K :=
 read1 ha (plain_map fun _ => rfl) rfl (check_ok (by omega) rfl) hk
theorem put8 {H : Hp} {n : Nat} {K : AV -> Hp -> Prop} (hn : n < 18446744073709551616) (hk : K (.lst 1 ((leBytes n 8).map eB)) H) : Call (.func 81 [] []) [.int .u64 n, .int .i64 8] H K := put_ok hn (by decide) (by decide) hk
theorem put4 {H : Hp} {n : Nat} {K : AV -> Hp -> Prop} (hn : n < 18446744073709551616) (hk : K (.lst 1 ((leBytes n 4).map eB)) H) : Call (.func 81 [] []) [.int .u64 n, .int .i64 4] H K := put_ok hn (by decide) (by decide) hk
theorem put2 {H : Hp} {n : Nat} {K : AV -> Hp -> Prop} (hn : n < 18446744073709551616) (hk : K (.lst 1 ((leBytes n 2).map eB)) H) : Call (.func 81 [] []) [.int .u64 n, .int .i64 2] H K := put_ok hn (by decide) (by decide) hk
def withCheck (l : List UInt8) : List UInt8 := l ++ leBytes (fnvCheck l) 8
theorem checked_own {H0 H : Hp} {v : AV} {l : List UInt8} {K : AV -> Hp -> Prop} (ha : Acc EE H0 H 5 1 v (l.map eB)) (hl : l.length ≤ 1000000) (hk : ∀ v' H', Acc EE H0 H' 5 1 v' ((withCheck l).map eB) -> K v' H') : Call (.func 95 [] []) [v] H K := by
 have hlt : fnvCheck l < 18446744073709551616 := fnvMore_lt (by decide) l
 have h8 : ((leBytes (fnvCheck l) 8).map eB).length = 8 := by rw [List.length_map, leBytes_len]
 have hm := ha.many (m := 8) (by rw [List.length_map]; omega) (by decide) ((leBytes (fnvCheck l) 8).map eB) (by rw [h8]) (by rw [<- catL_eB]; exact flat_eB _)
 have hd := ha.manyed (m := 8) (new := (leBytes (fnvCheck l) 8).map eB) (by rw [List.length_map]; omega) (by decide) ((leBytes (fnvCheck l) 8).map eB) (catL_eB _) h8 (eB_len _) (by rw [<- catL_eB]; exact flat_eB _)
 refine enterE (N := 8) rfl fn95 rfl rfl rfl rfl rfl fun hwf => ?_
 simp (disch := (refine ofP ?_; decide)) only [go_sem]
 refine check_own ha (by omega) ?_
 simp (disch := (refine ofP ?_; decide)) only [go_sem]
 refine put8 hlt ?_
 simp (disch := (refine ofP ?_; decide)) only [go_sem, List.length_map, leBytes_len, catL_eB, hm]
 refine .inl (hk _ _ ?_)
 unfold withCheck
 rw [List.map_append]
 rw [List.length_map] at hd
 exact hd
def chunkN (l : List UInt8) (k : Nat) : List UInt8 := (l.drop (64 * k)).take 64
def dataOk (count : Int) (zs : Bool) (l : List UInt8) : Bool := if zs then l.isEmpty else decide ((l.length : Int) = count * 64) && (List.range (l.length / 64)).all fun k => !(zeros (chunkN l k))
theorem data_ok {H : Hp} {from_ count : Int} {zs : Bool} {l : List UInt8} {K : AV -> Hp -> Prop} (h1 : 1 ≤ count) (h2 : count ≤ 64) (hl : l.length ≤ 1048576) (hk : K (.bool (dataOk count zs l)) H) :
 Call (.func 99 [] []) [.agg [.int .i64 from_, .int .i64 count, .bool zs, .lst 1 (l.map eB)]] H K := by
 have e0 : wrapI .i64 (count * 64) = count * 64 := wrap_i64 (by omega) (by omega)
 refine enterE (N := 23) rfl fn99 rfl rfl rfl rfl rfl fun hwf => ?_
 simp (disch := (refine ofP ?_; first | decide | omega | (simp only [new_next, set_next] <;> omega) | assumption)) only [go_sem]
 cases zs with
 | true =>
  simp (disch := (refine ofP ?_; first | decide | omega | (simp only [new_next, set_next] <;> omega) | assumption)) only [go_sem, List.length_map]
  have : dataOk count true l = decide ((l.length : Int) = 0) := by
   show l.isEmpty = _
   cases l with
   | nil => rfl
   | cons c l => symm; exact decide_eq_false (by rw [List.length_cons]; omega)
  rw [this] at hk
  exact .inr (.inl ⟨(((Fr.refl H).newT _).newT _).set (by omega) _, _, FZ.bool, hk⟩)
 | false =>
  by_cases hlen : (l.length : Int) = count * 64
  ·
   simp (disch := (refine ofP ?_; first | decide | omega | (simp only [new_next, set_next] <;> omega) | assumption)) only [go_sem, List.length_map, e0]
   refine enterE (N := 9) rfl fn103 rfl rfl rfl rfl rfl fun _ => ?_
   simp (disch := (refine ofP ?_; first | decide | (simp only [new_next, set_next] <;> omega) | assumption)) only [go_sem]
   left
   simp (disch := (refine ofP ?_; decide)) only [go_sem]
   generalize hLB : Blk.loop _ _ _ _ _ _ _ _ _ = LB
   refine enterE (N := 31) rfl fn105 rfl rfl rfl rfl rfl fun _ => ?_
   simp (disch := (refine ofP ?_; decide)) only [go_sem]
   refine loopE 2147483632 (by kernel_rfl) (fun r G H' => ∃ i : Nat, 64 * i ≤ l.length /\ r = l.length - i /\ G.get 4 = some (.int .i64 ((64 * i : Nat) : Int)) /\ Fr H H' /\ H.next + 5 ≤ H'.next /\ H'.m.get (H.next + 1) = some (.cells [.bool false] 4 true true) /\
    H'.m.get (H.next + 1 + 1) = some (.cells [.lst 1 (l.map eB)] 32 true true) /\ H'.m.get (H.next + 1 + 1 + 1) = some (.cells [.int .i64 64] 3 true true) /\ H'.m.get (H.next + 1 + 1 + 1 + 1) = some LB /\ ∀ k < i, zeros (chunkN l k) = false) l.length ?_ ?_
   ·
    exact ⟨0, Nat.zero_le _, rfl, rfl, ((((Fr.refl H).newT _).newT _).newT _).newT _ |>.newT _, Nat.le_refl _, by simp (disch := (refine ofP ?_; first | assumption | decide | omega | (simp only [new_next, set_next] <;> omega) | with_unfolding_all exact ofR rfl | with_unfolding_all exact ofNt rfl)) only [go_sem], by simp (disch := (refine ofP ?_; first | assumption | decide | omega | (simp only [new_next, set_next] <;> omega) | with_unfolding_all exact ofR rfl | with_unfolding_all exact ofNt rfl)) only [go_sem], by simp (disch := (refine ofP ?_; first | assumption | decide | omega | (simp only [new_next, set_next] <;> omega) | with_unfolding_all exact ofR rfl | with_unfolding_all exact ofNt rfl)) only [go_sem], by simp (disch := (refine ofP ?_; first | assumption | decide | omega | (simp only [new_next, set_next] <;> omega) | with_unfolding_all exact ofR rfl | with_unfolding_all exact ofNt rfl)) only [go_sem], fun k hk => absurd hk (Nat.not_lt_zero _)⟩
   rintro r G H' hG ⟨i, hi, rfl, g4, hf, hn, m1, m2, m3, m4, hz⟩
   by_cases hlt : 64 * i < l.length
   ·
    simp (disch := (refine ofP ?_; first | assumption | decide | omega | (simp only [new_next, set_next] <;> omega) | with_unfolding_all exact ofR rfl | with_unfolding_all exact ofNt rfl)) only [go_sem, g4, hG, kn m2, kn m3, List.length_map]
    refine drawE (by kernel_rfl) (by kernel_rfl) ?_
    have hs1 : evSlice (.slice 5) EE (.lst 1 (l.map eB)) (some (.int .i64 ((64 * i : Nat) : Int))) none none = some (.lst 1 ((l.drop (64 * i)).map eB)) := by
     rw [sl_lst_lo (64 * i) (by rw [List.length_map]; exact hi) ty5s.symm, List.map_drop]
    have h64 : 64 * i + 64 ≤ l.length := by omega
    have emin : min (64 : Int) ((l.length - 64 * i : Nat) : Int) = 64 := by omega
    have ea : wrapI .i64 (((64 * i : Nat) : Int) + 64) = ((64 * i + 64 : Nat) : Int) := by rw [wrap_i64 (by omega) (by omega)]; rfl
    have hs3 : evSlice (.slice 5) EE (.lst 1 (l.map eB)) (some (.int .i64 ((64 * i : Nat) : Int))) (some (.int .i64 ((64 * i + 64 : Nat) : Int))) (some (.int .i64 ((64 * i + 64 : Nat) : Int))) = some (.lst 1 ((chunkN l i).map eB)) := by
     rw [sl_lst3 (64 * i) (64 * i + 64) (64 * i + 64) (by rw [List.length_map]; exact h64) (Nat.le_refl _) (by omega) (by omega) ty5s.symm, <- List.map_take, <- List.map_drop, List.drop_take]
     unfold chunkN
     rw [show 64 * i + 64 - 64 * i = 64 by omega]
    have hcl : (chunkN l i).length ≤ 64 := by unfold chunkN; rw [List.length_take]; omega
    simp (disch := (refine ofP ?_; decide)) only [go_sem, g4, hG, kn m2, kn m3, List.length_map, hs1, List.length_drop, emin, ea, hs3]
    subst hLB
    refine yieldE m4 ?_
    simp (disch := (refine ofP ?_; decide)) only [go_sem, m4]
    refine zero_ok (l := chunkN l i) (by omega) ?_
    by_cases hzz : zeros (chunkN l i) = true
    ·
     rw [hzz]
     simp (disch := (refine ofP ?_; first | assumption | decide | omega | (simp only [new_next, set_next] <;> omega) | with_unfolding_all exact ofR rfl | with_unfolding_all exact ofNt rfl)) only [go_sem, m1, m4, kn m1]
     refine .inl ?_
     simp (disch := (refine ofP ?_; first | assumption | decide | omega | (simp only [new_next, set_next] <;> omega) | with_unfolding_all exact ofR rfl | with_unfolding_all exact ofNt rfl)) only [go_sem, m1, m4, kn m1]
     have : dataOk count false l = false := by
      show (decide _ && _) = _
      rw [Bool.and_eq_false_iff]
      refine .inr (List.all_eq_false.2 ⟨i, List.mem_range.2 (by omega), by rw [hzz]; decide⟩)
     rw [this] at hk
     refine .inr (.inl ⟨?_, _, FZ.bool, hk⟩)
     repeat first | exact hf | refine Fr.set ?_ (by omega) _
    ·
     rw [Bool.not_eq_true] at hzz
     rw [hzz]
     simp (disch := (refine ofP ?_; first | assumption | decide | omega | (simp only [new_next, set_next] <;> omega) | with_unfolding_all exact ofR rfl | with_unfolding_all exact ofNt rfl)) only [go_sem, m1, m4, kn m1, g4, hG, kn m3, ea]
     refine ⟨_, by omega, i + 1, by omega, rfl, by rw [show 64 * i + 64 = 64 * (i + 1) by omega], ?_⟩
     refine ⟨?_, hn, m2, fun k hk' => ?_⟩
     ·
      repeat first | exact hf | refine Fr.set ?_ (by omega) _
     ·
      rcases Nat.lt_or_ge k i with h | h
      ·
       exact hz k h
      ·
       rw [show k = i by omega]; exact hzz
   ·
    simp (disch := (refine ofP ?_; first | decide | omega)) only [go_sem, g4, hG, kn m2, List.length_map]
    subst hLB
    refine .inl ?_
    simp (disch := (refine ofP ?_; first | assumption | decide | omega | (simp only [new_next, set_next] <;> omega) | with_unfolding_all exact ofR rfl | with_unfolding_all exact ofNt rfl)) only [go_sem, m1, m4, kn m1]
    have : dataOk count false l = true := by
     show (decide _ && _) = _
     rw [Bool.and_eq_true]
     refine ⟨decide_eq_true hlen, List.all_eq_true.2 fun k hk' => ?_⟩
     rw [hz k (by have := List.mem_range.1 hk'; omega)]; rfl
    rw [this] at hk
    refine .inr (.inl ⟨?_, _, FZ.bool, hk⟩)
    repeat first | exact hf | refine Fr.set ?_ (by omega) _
  ·
   simp (disch := (refine ofP ?_; first | assumption | decide | omega | (simp only [new_next, set_next] <;> omega) | assumption)) only [go_sem, List.length_map, e0]
   have : dataOk count false l = false := by
    show (decide _ && _) = _
    rw [decide_eq_false hlen]; rfl
   rw [this] at hk
   exact .inr (.inl ⟨(((Fr.refl H).newT _).newT _).set (by omega) _, _, FZ.bool, hk⟩)
end
end Go.Ev
namespace Go.Ev
open Go.Proofs
noncomputable section
set_option maxRecDepth 100000
theorem fn100 : E1.fn 100 = some Try.f100 := by kernel_rfl
theorem fn89 : E1.fn 89 = some Try.f89 := by kernel_rfl
theorem fn71 : E1.fn 71 = some Try.f71 := by kernel_rfl
structure Rec where
 fr : Int
 cnt : Int
 zs : Bool
 data : List UInt8
def eRec (r : Rec) : AV := .agg [.int .i64 r.fr, .int .i64 r.cnt, .bool r.zs, .lst 1 (r.data.map eB)]
theorem eRec_def (r : Rec) : eRec r = .agg [.int .i64 r.fr, .int .i64 r.cnt, .bool r.zs, .lst 1 (r.data.map eB)] := rfl
attribute [go_sem] eRec_def
def behindOk (r a : Rec) : Bool := decide (a.fr + a.cnt < r.fr) || (decide (r.fr = a.fr + a.cnt) && (r.zs != a.zs))
def smallI (n : Int) : Prop := -1000000000000 ≤ n /\ n ≤ 1000000000000
theorem behind_ok {H : Hp} {r a : Rec} {K : AV -> Hp -> Prop} (h1 : smallI a.fr) (h2 : smallI a.cnt) (hk : K (.bool (behindOk r a)) H) : Call (.func 100 [] []) [eRec r, eRec a] H K := by
 obtain ⟨h1, h1'⟩ := h1
 obtain ⟨h2, h2'⟩ := h2
 have hfr : ∀ {x y : Blk}, Fr H (newBlk (newBlk H x).2 y).2 := ((Fr.refl H).newT _).newT _
 have out : ∀ {b : Bool} {x y : Blk}, behindOk r a = b -> XO H K (.bool b) (newBlk (newBlk H x).2 y).2 := fun hb => .inr (.inl ⟨hfr, _, FZ.bool, hb ▸ hk⟩)
 by_cases c1 : a.fr + a.cnt < r.fr
 ·
  refine enterE (N := 28) rfl fn100 rfl rfl rfl rfl rfl fun hwf => ?_
  simp (disch := (refine ofP ?_; first | assumption | decide | omega | (simp only [new_next, set_next] <;> omega) | assumption)) only [go_sem, wrap_i64]
  exact out (by unfold behindOk; rw [decide_eq_true c1]; rfl)
 by_cases c2 : r.fr = a.fr + a.cnt
 ·
  refine enterE (N := 28) rfl fn100 rfl rfl rfl rfl rfl fun hwf => ?_
  simp (disch := (refine ofP ?_; first | assumption | decide | omega | (simp only [new_next, set_next] <;> omega) | assumption)) only [go_sem, wrap_i64]
  exact out (by unfold behindOk; rw [decide_eq_false c1, decide_eq_true c2]; rfl)
 ·
  refine enterE (N := 28) rfl fn100 rfl rfl rfl rfl rfl fun hwf => ?_
  simp (disch := (refine ofP ?_; first | assumption | decide | omega | (simp only [new_next, set_next] <;> omega) | assumption)) only [go_sem, wrap_i64]
  exact out (by unfold behindOk; rw [decide_eq_false c1, decide_eq_false c2]; rfl)
structure Strm where
 blocks : Int
 base : Int
 id : Int
 recs : List Rec
def eStrm (s : Strm) : AV := .agg [.int .i64 s.blocks, .int .i64 s.base, .int .i64 s.id, .lst 4 (s.recs.map eRec)]
theorem eStrm_def (s : Strm) : eStrm s = .agg [.int .i64 s.blocks, .int .i64 s.base, .int .i64 s.id, .lst 4 (s.recs.map eRec)] := rfl
attribute [go_sem] eStrm_def
def recOk (blocks base : Int) (r : Rec) : Bool := !(decide (r.cnt < 1) || decide (r.fr < 0) || decide (blocks ≤ r.fr) || decide (blocks - r.fr < r.cnt) || !(dataOk r.cnt r.zs r.data) || (decide (base = -1) && r.zs))
def recsOk (s : Strm) : Bool := (List.range s.recs.length).all fun i => recOk s.blocks s.base (s.recs.getD i ⟨0, 0, false, []⟩) && (decide (i = 0) || behindOk (s.recs.getD i ⟨0, 0, false, []⟩) (s.recs.getD (i - 1) ⟨0, 0, false, []⟩))
theorem records_ok {H : Hp} {s : Strm} {K : AV -> Hp -> Prop} (hb : 1 ≤ s.blocks /\ s.blocks ≤ 64) (hl : s.recs.length ≤ 1000000) (hd : ∀ r ∈ s.recs, r.data.length ≤ 1000000 /\ smallI r.fr /\ smallI r.cnt) (hk : K (.bool (recsOk s)) H) : Call (.func 89 [] []) [eStrm s] H K := by
 refine enterE (N := 66) rfl fn89 rfl rfl rfl rfl rfl fun hwf => ?_
 simp (disch := (refine ofP ?_; first | decide | omega)) only [go_sem, List.length_map]
 refine loopE 73786976294838206236 (by kernel_rfl) (fun r G H' => ∃ i : Nat, i ≤ s.recs.length /\ r = s.recs.length - i /\ G.get 8 = some (.int .i64 (i : Int)) /\ Fr H H' /\ H.next + 1 ≤ H'.next /\
  H'.m.get H.next = some (.cells [.int .i64 s.blocks, .int .i64 s.base, .int .i64 s.id, .lst 4 (s.recs.map eRec)] 64 true true) /\
  ∀ k < i, (recOk s.blocks s.base (s.recs.getD k ⟨0, 0, false, []⟩) && (decide (k = 0) || behindOk (s.recs.getD k ⟨0, 0, false, []⟩) (s.recs.getD (k - 1) ⟨0, 0, false, []⟩))) = true) s.recs.length
  ⟨0, Nat.zero_le _, rfl, rfl, (Fr.refl H).newT _, Nat.le_refl _, by simp (disch := (refine ofP ?_; first | assumption | decide | omega | (simp only [new_next, set_next] <;> omega) | with_unfolding_all exact ofR rfl | with_unfolding_all exact ofNt rfl)) only [go_sem], fun k hk => absurd hk (Nat.not_lt_zero _)⟩ ?_
 rintro r G H' hG ⟨i, hi, rfl, g8, hf, hn, m0, hall⟩
 by_cases hlt : i < s.recs.length
 ·
  obtain ⟨hd1, hd2, hd3⟩ := hd _ (List.getElem_mem hlt)
  have eg : s.recs.getD i ⟨0, 0, false, []⟩ = s.recs[i] := by rw [List.getD_eq_getElem?_getD, List.getElem?_eq_getElem hlt]; rfl
  have bad : (recOk s.blocks s.base s.recs[i] && (decide (i = 0) || behindOk s.recs[i] (s.recs.getD (i - 1) ⟨0, 0, false, []⟩))) = false -> recsOk s = false := fun hb => by
   unfold recsOk
   exact List.all_eq_false.2 ⟨i, List.mem_range.2 hlt, by rw [eg, hb]; decide⟩
  generalize hq : s.recs[i] = q at *
  have hB1 := hb.1
  have hB2 := hb.2
  obtain ⟨hd2, hd2'⟩ := hd2
  obtain ⟨hd3, hd3'⟩ := hd3
  have r0 : ∀ {p : Bool}, recOk s.blocks s.base q = false -> (recOk s.blocks s.base q && p) = false := fun h => by rw [h]; rfl
  by_cases c1 : q.cnt < 1
  ·
   simp (disch := (refine ofP ?_; first | assumption | decide | omega)) only [go_sem, g8, hG, ia_lst_map, hq]
   rw [bad (r0 (by unfold recOk; rw [decide_eq_true c1]; rfl))] at hk
   exact .inr (.inl ⟨by (repeat first | assumption | exact Fr.refl _ | refine Fr.newT ?_ _ | refine Fr.set ?_ (by omega) _), _, FZ.bool, hk⟩)
  by_cases c2 : q.fr < 0
  ·
   simp (disch := (refine ofP ?_; first | assumption | decide | omega)) only [go_sem, g8, hG, ia_lst_map, hq]
   rw [bad (r0 (by unfold recOk; rw [decide_eq_true c2, Bool.or_true]; rfl))] at hk
   exact .inr (.inl ⟨by (repeat first | assumption | exact Fr.refl _ | refine Fr.newT ?_ _ | refine Fr.set ?_ (by omega) _), _, FZ.bool, hk⟩)
  by_cases c3 : s.blocks ≤ q.fr
  ·
   simp (disch := (refine ofP ?_; first | assumption | decide | omega)) only [go_sem, g8, hG, ia_lst_map, hq, kn m0]
   rw [bad (r0 (by unfold recOk; rw [decide_eq_true c3, Bool.or_true]; rfl))] at hk
   exact .inr (.inl ⟨by (repeat first | assumption | exact Fr.refl _ | refine Fr.newT ?_ _ | refine Fr.set ?_ (by omega) _), _, FZ.bool, hk⟩)
  have e4 : wrapI .i64 (s.blocks - q.fr) = s.blocks - q.fr := wrap_i64 (by omega) (by omega)
  by_cases c4 : s.blocks - q.fr < q.cnt
  ·
   simp (disch := (refine ofP ?_; first | assumption | decide | omega)) only [go_sem, g8, hG, ia_lst_map, hq, kn m0, e4]
   rw [bad (r0 (by unfold recOk; rw [decide_eq_true c4, Bool.or_true]; rfl))] at hk
   exact .inr (.inl ⟨by (repeat first | assumption | exact Fr.refl _ | refine Fr.newT ?_ _ | refine Fr.set ?_ (by omega) _), _, FZ.bool, hk⟩)
  simp (disch := (refine ofP ?_; first | assumption | decide | omega)) only [go_sem, g8, hG, ia_lst_map, hq, kn m0, e4]
  refine data_ok (by omega) (by omega) (by omega) ?_
  cases c5 : dataOk q.cnt q.zs q.data with
  | false =>
   simp (disch := (refine ofP ?_; decide)) only [go_sem]
   rw [bad (r0 (by unfold recOk; rw [c5, Bool.not_false, Bool.or_true]; rfl))] at hk
   exact .inr (.inl ⟨by (repeat first | assumption | exact Fr.refl _ | refine Fr.newT ?_ _ | refine Fr.set ?_ (by omega) _), _, FZ.bool, hk⟩)
  | true =>
   have hrec : recOk s.blocks s.base q = !(decide (s.base = -1) && q.zs) := by
    unfold recOk
    rw [decide_eq_false c1, decide_eq_false c2, decide_eq_false c3, decide_eq_false c4, c5]; rfl
   by_cases cb : s.base = -1 /\ q.zs = true
   ·
    obtain ⟨c6, c7⟩ := cb
    simp (disch := (refine ofP ?_; first | assumption | decide | omega | (simp only [new_next, set_next] <;> omega) | with_unfolding_all exact ofR rfl | with_unfolding_all exact ofNt rfl)) only [go_sem, kn m0, c7, g8, hG]
    rw [bad (r0 (by rw [hrec, decide_eq_true c6, c7]; rfl))] at hk
    exact .inr (.inl ⟨by (repeat first | assumption | exact Fr.refl _ | refine Fr.newT ?_ _ | refine Fr.set ?_ (by omega) _), _, FZ.bool, hk⟩)
   have hrec1 : recOk s.blocks s.base q = true := by
    rw [hrec]
    by_cases c6 : s.base = -1
    ·
     cases c7 : q.zs with
     | false => rw [Bool.and_false]; rfl
     | true => exact absurd ⟨c6, c7⟩ cb
    ·
     rw [decide_eq_false c6]; rfl
   have step : ∀ (H2 : Hp) (n2 : Nat), Fr H H2 -> H.next + 1 ≤ n2 -> (i = 0 ∨ behindOk q (s.recs.getD (i - 1) ⟨0, 0, false, []⟩) = true) ->
    ∃ m', m' < s.recs.length - i /\ ∃ i', i' ≤ s.recs.length /\ m' = s.recs.length - i' /\ some (AV.int .i64 ((i : Int) + 1)) = some (AV.int .i64 (i' : Int)) /\ Fr H H2 /\ H.next + 1 ≤ n2 /\
     ∀ k < i', (recOk s.blocks s.base (s.recs.getD k ⟨0, 0, false, []⟩) && (decide (k = 0) || behindOk (s.recs.getD k ⟨0, 0, false, []⟩) (s.recs.getD (k - 1) ⟨0, 0, false, []⟩))) = true := by
    intro H2 n2 h1 h2 h4
    refine ⟨_, by omega, i + 1, hlt, rfl, rfl, h1, h2, fun k hk' => ?_⟩
    rcases Nat.lt_or_ge k i with h | h
    ·
     exact hall k h
    ·
     obtain rfl : k = i := by omega
     rw [eg, hrec1]
     rcases h4 with h4 | h4
     ·
      rw [decide_eq_true h4]; rfl
     ·
      rw [h4, Bool.or_true]; rfl
   rcases (show s.base ≠ -1 ∨ (s.base = -1 /\ q.zs = false) from by
    by_cases c6 : s.base = -1
    ·
     cases c7 : q.zs with
     | false => exact .inr ⟨c6, rfl⟩
     | true => exact absurd ⟨c6, c7⟩ cb
    ·
     exact .inl c6) with c6 | ⟨c6, c7⟩
   ·
    simp (disch := (refine ofP ?_; first | assumption | decide | omega | (simp only [new_next, set_next] <;> omega) | with_unfolding_all exact ofR rfl | with_unfolding_all exact ofNt rfl)) only [go_sem, kn m0, g8, hG]
    refine drawE (by kernel_rfl) (by kernel_rfl) ?_
    by_cases h0 : i = 0
    ·
     simp (disch := (refine ofP ?_; first | assumption | decide | omega | (simp only [new_next, set_next] <;> omega) | with_unfolding_all exact ofR rfl | with_unfolding_all exact ofNt rfl)) only [go_sem, kn m0, g8, hG, wrap_i64]
     exact step _ _ (by (repeat first | assumption | exact Fr.refl _ | refine Fr.newT ?_ _ | refine Fr.set ?_ (by omega) _)) (by omega) (.inl h0)
    ·
     have hlt1 : i - 1 < s.recs.length := by omega
     have eg1 : s.recs.getD (i - 1) ⟨0, 0, false, []⟩ = s.recs[i - 1] := by rw [List.getD_eq_getElem?_getD, List.getElem?_eq_getElem hlt1]; rfl
     obtain ⟨_, hp2, hp3⟩ := hd _ (List.getElem_mem hlt1)
     simp (disch := (refine ofP ?_; first | assumption | decide | omega | (simp only [new_next, set_next] <;> omega) | with_unfolding_all exact ofR rfl | with_unfolding_all exact ofNt rfl)) only [go_sem, kn m0, g8, hG, wrap_i64, ia_lst_map]
     refine behind_ok (r := q) (a := s.recs[i - 1]) hp2 hp3 ?_
     cases c8 : behindOk q s.recs[i - 1] with
     | false =>
      simp (disch := (refine ofP ?_; first | assumption | decide | omega | (simp only [new_next, set_next] <;> omega) | with_unfolding_all exact ofR rfl | with_unfolding_all exact ofNt rfl)) only [go_sem, g8, hG]
      rw [bad (by rw [eg1, c8, decide_eq_false h0, Bool.or_false, Bool.and_false])] at hk
      exact .inr (.inl ⟨by (repeat first | assumption | exact Fr.refl _ | refine Fr.newT ?_ _ | refine Fr.set ?_ (by omega) _), _, FZ.bool, hk⟩)
     | true =>
      simp (disch := (refine ofP ?_; first | assumption | decide | omega | (simp only [new_next, set_next] <;> omega) | with_unfolding_all exact ofR rfl | with_unfolding_all exact ofNt rfl)) only [go_sem, g8, hG, wrap_i64, kn m0]
      exact step _ _ (by (repeat first | assumption | exact Fr.refl _ | refine Fr.newT ?_ _ | refine Fr.set ?_ (by omega) _)) (by omega) (.inr (by rw [eg1]; exact c8))
   ·
    obtain ⟨qf, qc, qz, qd⟩ := q
    obtain rfl : qz = false := c7
    simp (disch := (refine ofP ?_; first | assumption | decide | omega | (simp only [new_next, set_next] <;> omega) | with_unfolding_all exact ofR rfl | with_unfolding_all exact ofNt rfl)) only [go_sem, kn m0, g8, hG]
    refine drawE (by kernel_rfl) (by kernel_rfl) ?_
    by_cases h0 : i = 0
    ·
     simp (disch := (refine ofP ?_; first | assumption | decide | omega | (simp only [new_next, set_next] <;> omega) | with_unfolding_all exact ofR rfl | with_unfolding_all exact ofNt rfl)) only [go_sem, kn m0, g8, hG, wrap_i64]
     exact step _ _ (by (repeat first | assumption | exact Fr.refl _ | refine Fr.newT ?_ _ | refine Fr.set ?_ (by omega) _)) (by omega) (.inl h0)
    ·
     have hlt1 : i - 1 < s.recs.length := by omega
     have eg1 : s.recs.getD (i - 1) ⟨0, 0, false, []⟩ = s.recs[i - 1] := by rw [List.getD_eq_getElem?_getD, List.getElem?_eq_getElem hlt1]; rfl
     obtain ⟨_, hp2, hp3⟩ := hd _ (List.getElem_mem hlt1)
     simp (disch := (refine ofP ?_; first | assumption | decide | omega | (simp only [new_next, set_next] <;> omega) | with_unfolding_all exact ofR rfl | with_unfolding_all exact ofNt rfl)) only [go_sem, kn m0, g8, hG, wrap_i64, ia_lst_map]
     refine behind_ok (r := ⟨qf, qc, false, qd⟩) (a := s.recs[i - 1]) hp2 hp3 ?_
     cases c8 : behindOk ⟨qf, qc, false, qd⟩ s.recs[i - 1] with
     | false =>
      simp (disch := (refine ofP ?_; first | assumption | decide | omega | (simp only [new_next, set_next] <;> omega) | with_unfolding_all exact ofR rfl | with_unfolding_all exact ofNt rfl)) only [go_sem, g8, hG]
      rw [bad (by rw [eg1, c8, decide_eq_false h0, Bool.or_false, Bool.and_false])] at hk
      exact .inr (.inl ⟨by (repeat first | assumption | exact Fr.refl _ | refine Fr.newT ?_ _ | refine Fr.set ?_ (by omega) _), _, FZ.bool, hk⟩)
     | true =>
      simp (disch := (refine ofP ?_; first | assumption | decide | omega | (simp only [new_next, set_next] <;> omega) | with_unfolding_all exact ofR rfl | with_unfolding_all exact ofNt rfl)) only [go_sem, g8, hG, wrap_i64, kn m0]
      exact step _ _ (by (repeat first | assumption | exact Fr.refl _ | refine Fr.newT ?_ _ | refine Fr.set ?_ (by omega) _)) (by omega) (.inr (by rw [eg1]; exact c8))
 ·
  simp (disch := (refine ofP ?_; first | decide | omega)) only [go_sem, g8, hG]
  obtain rfl : i = s.recs.length := by omega
  have : recsOk s = true := List.all_eq_true.2 fun k hk' => hall k (List.mem_range.1 hk')
  rw [this] at hk
  exact .inr (.inl ⟨hf, _, FZ.bool, hk⟩)
def headBad (s : Strm) : Bool := decide (s.blocks < 1) || decide (64 < s.blocks) || decide (s.id < 1) || decide (1000000 < s.id) || (!(decide (s.base = -1)) && (decide (s.base < 1) || decide (s.id ≤ s.base)))
def goodS (s : Strm) : Bool := !(headBad s) && recsOk s
theorem good_ok {H : Hp} {s : Strm} {K : AV -> Hp -> Prop} (hl : s.recs.length ≤ 1000000) (hd : ∀ r ∈ s.recs, r.data.length ≤ 1000000 /\ smallI r.fr /\ smallI r.cnt) (hk : K (.bool (goodS s)) H) : Call (.func 71 [] []) [eStrm s] H K := by
 have hfr : ∀ {x : Blk}, Fr H (newBlk H x).2 := (Fr.refl H).newT _
 have bad : ∀ {x : Blk}, headBad s = true -> XO H K (.bool false) (newBlk H x).2 := fun hb => by
  have : goodS s = false := by unfold goodS; rw [hb]; rfl
  rw [this] at hk
  exact .inr (.inl ⟨hfr, _, FZ.bool, hk⟩)
 by_cases c1 : s.blocks < 1
 ·
  refine enterE (N := 40) rfl fn71 rfl rfl rfl rfl rfl fun hwf => ?_
  simp (disch := (refine ofP ?_; first | assumption | decide | omega)) only [go_sem]
  exact bad (by unfold headBad; rw [decide_eq_true c1]; rfl)
 by_cases c2 : 64 < s.blocks
 ·
  refine enterE (N := 40) rfl fn71 rfl rfl rfl rfl rfl fun hwf => ?_
  simp (disch := (refine ofP ?_; first | assumption | decide | omega)) only [go_sem]
  exact bad (by unfold headBad; rw [decide_eq_true c2, Bool.or_true]; rfl)
 by_cases c3 : s.id < 1
 ·
  refine enterE (N := 40) rfl fn71 rfl rfl rfl rfl rfl fun hwf => ?_
  simp (disch := (refine ofP ?_; first | assumption | decide | omega)) only [go_sem]
  exact bad (by unfold headBad; rw [decide_eq_true c3, Bool.or_true]; rfl)
 by_cases c4 : 1000000 < s.id
 ·
  refine enterE (N := 40) rfl fn71 rfl rfl rfl rfl rfl fun hwf => ?_
  simp (disch := (refine ofP ?_; first | assumption | decide | omega)) only [go_sem]
  exact bad (by unfold headBad; rw [decide_eq_true c4, Bool.or_true]; rfl)
 have hgood : headBad s = false -> ∀ {x : Blk}, XO H K (.bool (recsOk s)) (newBlk H x).2 := fun hb x => by
  have : goodS s = recsOk s := by unfold goodS; rw [hb]; rfl
  rw [this] at hk
  exact .inr (.inl ⟨hfr, _, FZ.bool, hk⟩)
 by_cases c5 : s.base = -1
 ·
  refine enterE (N := 40) rfl fn71 rfl rfl rfl rfl rfl fun hwf => ?_
  simp (disch := (refine ofP ?_; first | assumption | decide | omega)) only [go_sem]
  refine records_ok (s := s) ⟨by omega, by omega⟩ hl hd ?_
  simp (disch := (refine ofP ?_; decide)) only [go_sem]
  exact hgood (by unfold headBad; rw [decide_eq_false c1, decide_eq_false c2, decide_eq_false c3, decide_eq_false c4, decide_eq_true c5]; rfl)
 by_cases c6 : s.base < 1
 ·
  refine enterE (N := 40) rfl fn71 rfl rfl rfl rfl rfl fun hwf => ?_
  simp (disch := (refine ofP ?_; first | assumption | decide | omega)) only [go_sem]
  exact bad (by unfold headBad; rw [decide_eq_false c5, decide_eq_true c6]; simp)
 by_cases c7 : s.id ≤ s.base
 ·
  refine enterE (N := 40) rfl fn71 rfl rfl rfl rfl rfl fun hwf => ?_
  simp (disch := (refine ofP ?_; first | assumption | decide | omega)) only [go_sem]
  exact bad (by unfold headBad; rw [decide_eq_false c5, decide_eq_true c7]; simp)
 ·
  refine enterE (N := 40) rfl fn71 rfl rfl rfl rfl rfl fun hwf => ?_
  simp (disch := (refine ofP ?_; first | assumption | decide | omega)) only [go_sem]
  refine records_ok (s := s) ⟨by omega, by omega⟩ hl hd ?_
  simp (disch := (refine ofP ?_; decide)) only [go_sem]
  exact hgood (by unfold headBad; rw [decide_eq_false c1, decide_eq_false c2, decide_eq_false c3, decide_eq_false c4, decide_eq_false c5, decide_eq_false c6, decide_eq_false c7]; rfl)
end
end Go.Ev
namespace Go.Ev
open Go.Proofs
noncomputable section
set_option maxRecDepth 100000
theorem fn94 : E1.fn 94 = some Try.f94 := by kernel_rfl
theorem fn93 : E1.fn 93 = some Try.f93 := by kernel_rfl
theorem rep1 {x : AV} : List.replicate 1 x = [x] := rfl
theorem rep2 {x : AV} : List.replicate 2 x = [x, x] := rfl
theorem rep3 {x : AV} : List.replicate 3 x = [x, x, x] := rfl
theorem rep4 {x : AV} : List.replicate 4 x = [x, x, x, x] := rfl
theorem rep5 {x : AV} : List.replicate 5 x = [x, x, x, x, x] := rfl
attribute [go_sem] rep1 rep2 rep3 rep4 rep5
def ownB (e : TypeId) (v : AV) (x : Blk) : Option AV := (asCells x).obind fun c => bc (c.2.2.2 && Nat.beq c.2.1 e) (some v) none
theorem ownSlice_s {H : Hp} {e : TypeId} {b o n : Nat} {k : Cap} : ownSlice e H (.slice b o n k) = (H.m.get b).obind (ownB e (.slice b o n k)) := rfl
theorem ownB_c {v : AV} {l : List AV} {e : TypeId} {x : Bool} : ownB e v (.cells l e x true) = some v := by
 show bc (true && Nat.beq e e) (some v) none = _
 rw [Nat.beq_refl]; rfl
attribute [go_sem] ownSlice_s ownB_c
theorem Acc.base {E : Env} {H0 H1 H : Hp} {e sz : Nat} {v : AV} {l : List AV} (h : Acc E H1 H e sz v l) (hf : Fr H0 H1) : Acc E H0 H e sz v l := ⟨hf.trans h.fr, h.own.mono hf.nx, h.el, h.hsz, h.hpos, h.hg⟩
def headB (s : Strm) : List UInt8 := withCheck ([[82, 86, 83, 49], leBytes s.blocks.toNat 2, leBytes (s.base + 1).toNat 4, leBytes s.id.toNat 4, leBytes s.recs.length 2].flatten)
theorem wrap_u64_nn {n : Int} (h : 0 ≤ n) (h2 : n < 18446744073709551616) : wrapI .u64 n = ((n.toNat : Nat) : Int) := by
 obtain ⟨n, rfl⟩ := Int.eq_ofNat_of_zero_le h
 rw [wrap_u64_nat, Nat.mod_eq_of_lt (by omega)]; rfl
theorem head_ok {H : Hp} {s : Strm} {K : AV -> Hp -> Prop} (hb : 0 ≤ s.blocks /\ s.blocks ≤ 1000) (hbs : -1 ≤ s.base /\ s.base ≤ 1000000) (hi : 0 ≤ s.id /\ s.id ≤ 1000000) (hl : s.recs.length ≤ 1000000) (hk : K (.lst 1 ((headB s).map eB)) H) : Call (.func 94 [] []) [eStrm s] H K := by
 obtain ⟨b1, b2⟩ := hb
 obtain ⟨c1, c2⟩ := hbs
 obtain ⟨d1, d2⟩ := hi
 have w1 : wrapI .u64 s.blocks = ((s.blocks.toNat : Nat) : Int) := wrap_u64_nn (by omega) (by omega)
 have w2 : wrapI .i64 (s.base + 1) = s.base + 1 := wrap_i64 (by omega) (by omega)
 have w3 : wrapI .u64 (s.base + 1) = (((s.base + 1).toNat : Nat) : Int) := wrap_u64_nn (by omega) (by omega)
 have w4 : wrapI .u64 s.id = ((s.id.toNat : Nat) : Int) := wrap_u64_nn (by omega) (by omega)
 have w5 : wrapI .u64 ((s.recs.length : Nat) : Int) = ((s.recs.length : Nat) : Int) := by rw [wrap_u64_nat, Nat.mod_eq_of_lt (by omega)]
 refine enterE (N := 26) rfl fn94 rfl rfl rfl rfl rfl fun hwf => ?_
 simp (disch := (refine ofP ?_; decide)) only [go_sem]
 refine drawX [3,4,0,0,0,2,0,1,0,0,2,0,1,0,2,0,1,0,0,2,0,0,0,0] (by kernel_rfl) (by kernel_rfl) rfl (by kernel_rfl) ?_
 simp (disch := (refine ofP ?_; first | assumption | decide | omega | (simp only [new_next, set_next] <;> omega) | with_unfolding_all exact ofR rfl | with_unfolding_all exact ofNt rfl)) only [go_sem, w1, w2, w3, w4, w5, List.length_map]
 refine put2 (by omega) ?_
 simp (disch := (refine ofP ?_; first | decide | omega | (simp only [new_next, set_next] <;> omega) | assumption)) only [go_sem, w2, w3]
 refine put4 (by omega) ?_
 simp (disch := (refine ofP ?_; first | decide | omega | (simp only [new_next, set_next] <;> omega) | assumption)) only [go_sem, w4]
 refine put4 (by omega) ?_
 simp (disch := (refine ofP ?_; first | decide | omega | (simp only [new_next, set_next] <;> omega) | assumption)) only [go_sem, w5, List.length_map]
 refine put2 (by omega) ?_
 simp (disch := (refine ofP ?_; decide)) only [go_sem]
 refine concat_ownL [[82, 86, 83, 49], leBytes s.blocks.toNat 2, leBytes (s.base + 1).toNat 4, leBytes s.id.toNat 4, leBytes s.recs.length 2] get_new_s (.cons ?_ (.cons .lst (.cons .lst (.cons .lst (.cons .lst .nil))))) rfl (Nat.lt_succ_self _) (by simp) (by simp [leBytes_len]) (by decide) ?_
 ·
  exact SrcB.own (l := [82, 86, 83, 49]) (x := true) ((get_new_n (by simp only [new_next]; omega)).trans (get_new_q rfl)) (by simp only [new_next]; omega)
 intro v1 H1 ha1
 simp (disch := (refine ofP ?_; decide)) only [go_sem]
 refine checked_own ha1 (by simp [leBytes_len]) fun v2 H2 ha2 => ?_
 simp (disch := (refine ofP ?_; decide)) only [go_sem]
 have ha3 : Acc EE H H2 5 1 v2 ((headB s).map eB) := ha2.base ((((Fr.refl H).newT _).newT _).newT _)
 exact ha3.out_plain hwf (plain_map fun _ => rfl) hk
def recB (r : Rec) : List UInt8 := withCheck ([[if r.zs then 2 else 1], leBytes r.fr.toNat 2, leBytes r.cnt.toNat 2, r.data].flatten)
def bodyB (s : Strm) (n : Nat) : List UInt8 := headB s ++ ((s.recs.take n).map recB).flatten
theorem headB_len (s : Strm) : (headB s).length = 24 := by
 unfold headB withCheck
 rw [List.length_append, leBytes_len]; simp [leBytes_len]
theorem recB_len (r : Rec) : (recB r).length = 13 + r.data.length := by
 unfold recB withCheck
 rw [List.length_append, leBytes_len]; simp [leBytes_len]; omega
theorem bodyB_snoc {s : Strm} {n : Nat} (h : n < s.recs.length) : bodyB s (n + 1) = bodyB s n ++ recB s.recs[n] := by
 unfold bodyB
 rw [List.take_add_one, List.getElem?_eq_getElem h, Option.toList_some, List.map_append, List.flatten_append, List.append_assoc]; simp
theorem bodyB_len {s : Strm} (hd : ∀ r ∈ s.recs, r.data.length ≤ 5000) : ∀ n ≤ s.recs.length, (bodyB s n).length ≤ 24 + 5013 * n
 | 0, _ => by unfold bodyB; rw [List.take_zero]; simp [headB_len]
 | n + 1, h => by
  rw [bodyB_snoc h, List.length_append, recB_len]
  have h1 := bodyB_len hd n (by omega)
  have h2 := hd _ (List.getElem_mem (show n < s.recs.length from h))
  omega
end
end Go.Ev
namespace Go.Ev
open Go.Proofs
noncomputable section
set_option maxRecDepth 100000
theorem bodyB_0 (s : Strm) : bodyB s 0 = headB s := by unfold bodyB; rw [List.take_zero]; exact List.append_nil _
theorem recB_def (r : Rec) : recB r = withCheck ([[if r.zs then 2 else 1], leBytes r.fr.toNat 2, leBytes r.cnt.toNat 2, r.data].flatten) := rfl
theorem frame_X {H' : Hp} {z : Blk} : Fr H' (setBlk (newBlk H' (.cells [.int .i64 0, .int .i64 0, .bool false, .nils] 68 true true)).2 H'.next z) := (Fr.alloc _ _).set (Nat.le_refl _) _
theorem SrcB.set {H0 H : Hp} {v : AV} {l : List UInt8} {y : Nat} (h : Acc EE H0 H 5 1 v (l.map eB)) (hy : y < H0.next) (z : Blk) : SrcB (setBlk H y z) v l := by
 have hl : (l.map eB).length = l.length := List.length_map _
 have ho := h.own
 rw [hl, catL_eB] at ho
 rcases ho.2 with ⟨rfl, h0⟩ | ⟨b, x, h1, hlt, rfl, hb⟩
 ·
  obtain rfl := List.eq_nil_of_length_eq_zero h0
  exact ⟨rfl, fun H' hf => rfl⟩
 ·
  have hg : (setBlk H y z).m.get b = some (.cells (l.map eB) 5 x true) := (get_set_n (by omega)).trans hb
  exact SrcB.own hg hlt
theorem parts93 {H : Hp} {y bb : Nat} {s : Strm} {K : AV -> Hp -> Prop} (B : Nat -> List UInt8) (hB : ∀ i, B i = bodyB s i) (I : List UInt8 -> Hp -> Prop) (hl : s.recs.length ≤ 100) (hd : ∀ r ∈ s.recs, r.data.length ≤ 5000 /\ 0 ≤ r.fr /\ r.fr ≤ 1000000 /\ 0 ≤ r.cnt /\ r.cnt ≤ 1000000)
 (hb : 0 ≤ s.blocks /\ s.blocks ≤ 1000) (hbs : -1 ≤ s.base /\ s.base ≤ 1000000) (hi : 0 ≤ s.id /\ s.id ≤ 1000000)
 (hbb : ∀ l H', I l H' -> H'.m.get bb = some (.cells [.int .i64 s.blocks, .int .i64 s.base, .int .i64 s.id, .lst 4 (s.recs.map eRec)] 64 true true) /\ bb < H'.next /\ y < H'.next)
 (hfr : ∀ l H' H'', I l H' -> Fr H' H'' -> I l H'') (h0 : I [] H)
 (hs : ∀ l m w H', I l H' -> (∀ z, SrcB (setBlk H' y z) w m) -> l.length + m.length ≤ 1048576 -> m ≠ [] -> Call (.yield y) [w] H' fun v H'' => v = .bool true /\ I (l ++ m) H'')
 (hn : ∀ H', I (B s.recs.length) H' -> K (.tuple []) H') : Call (.func 93 [] [.ptr bb 0]) [.yield y] H K := by
 have hb0 : B 0 = headB s := by rw [hB, bodyB_0]
 have hbl : ∀ i, i ≤ s.recs.length -> (B i).length ≤ 24 + 5013 * i := fun i hi => by rw [hB]; exact bodyB_len (fun r hr => (hd r hr).1) i hi
 have hbs' : ∀ i (h : i < s.recs.length), B (i + 1) = B i ++ recB s.recs[i] := fun i h => by rw [hB, hB]; exact bodyB_snoc h
 have hne : (B 0).length = 24 := by rw [hb0, headB_len]
 clear hB
 refine enterE (N := 39) rfl fn93 rfl rfl rfl rfl rfl fun hwf => ?_
 obtain ⟨m0, hlt0, hy0⟩ := hbb _ _ h0
 simp (disch := (refine ofP ?_; decide)) only [go_sem, kn m0]
 refine head_ok (s := s) hb hbs hi (by omega) ?_
 rw [<- hb0]
 clear hb0
 simp (disch := (refine ofP ?_; decide)) only [go_sem]
 refine (hs [] (B 0) _ _ h0 (fun z => SrcB.lst) (by rw [hne, List.length_nil]; omega) (fun h => by rw [h, List.length_nil] at hne; omega)).mono ?_
 rintro _ H1 ⟨rfl, hI⟩
 rw [List.nil_append] at hI
 obtain ⟨m2, _, _⟩ := hbb _ _ hI
 simp (disch := (refine ofP ?_; decide)) only [go_sem, kn m2, List.length_map]
 refine loopE 549755797552 (by kernel_rfl) (fun r G H' => ∃ i : Nat, i ≤ s.recs.length /\ r = s.recs.length - i /\ G.get 14 = some (.int .i64 (i : Int)) /\ I (B i) H') s.recs.length ⟨0, Nat.zero_le _, rfl, rfl, hI⟩ ?_
 clear hI m2
 rintro r G H' hG ⟨i, hi, rfl, g14, hI⟩
 obtain ⟨m2, hlt2, hy2⟩ := hbb _ _ hI
 by_cases hlt : i < s.recs.length
 ·
  obtain ⟨hd1, hd2, hd3, hd4, hd5⟩ := hd _ (List.getElem_mem hlt)
  have hbl := hbl i hi
  have hsn := hbs' i hlt
  obtain ⟨q, hq⟩ : ∃ q, s.recs[i] = q := ⟨_, rfl⟩
  rw [hq] at hd1 hd2 hd3 hd4 hd5 hsn
  have w1 : wrapI .u64 q.fr = ((q.fr.toNat : Nat) : Int) := wrap_u64_nn (by omega) (by omega)
  have w2 : wrapI .u64 q.cnt = ((q.cnt.toNat : Nat) : Int) := wrap_u64_nn (by omega) (by omega)
  have hrl := recB_len q
  rw [recB_def] at hsn hrl
  obtain ⟨kb, hkb⟩ : ∃ kb : UInt8, (if q.zs then 2 else 1) = kb := ⟨_, rfl⟩
  rw [hkb] at hsn hrl
  have hk1 : q.zs = false -> kb = 1 := fun h => by rw [<- hkb, h]; rfl
  have hk2 : q.zs = true -> kb = 2 := fun h => by rw [<- hkb, h]; rfl
  clear hkb
  cases hz : q.zs
  ·
   have hk := hk1 hz
   subst hk
   simp (disch := (refine ofP ?_; first | assumption | decide | omega)) only [go_sem, g14, hG, ia_lst_map, hq, eRec_def, hz]
   refine drawX [0,0,3,0,0,0,2,0,1,0,2,0,1,0,0,0,0,0] (by kernel_rfl) (by kernel_rfl) rfl (by kernel_rfl) ?_
   simp (disch := (refine ofP ?_; first | assumption | decide | omega | (simp only [new_next, set_next] <;> omega) | with_unfolding_all exact ofR rfl | with_unfolding_all exact ofNt rfl)) only [go_sem, g14, hG, w1, w2, hz]
   refine put2 (by omega) ?_
   simp (disch := (refine ofP ?_; first | decide | omega | (simp only [new_next, set_next] <;> omega) | assumption)) only [go_sem, w2]
   refine put2 (by omega) ?_
   simp (disch := (refine ofP ?_; first | decide | omega | (simp only [new_next, set_next] <;> omega) | assumption)) only [go_sem]
   refine concat_ownL [[1], leBytes q.fr.toNat 2, leBytes q.cnt.toNat 2, q.data] get_new_s (.cons ?_ (.cons .lst (.cons .lst (.cons .lst .nil)))) rfl (Nat.lt_succ_self _) (by simp) (by simp [leBytes_len]; omega) (by decide) ?_
   ·
    exact SrcB.own (l := [1]) (x := true) ((get_new_n (by simp only [new_next, set_next]; omega)).trans (get_new_q rfl)) (by simp only [new_next, set_next]; omega)
   intro v1 H1 ha1
   simp (disch := (refine ofP ?_; decide)) only [go_sem]
   refine checked_own ha1 (by simp [leBytes_len]; omega) fun v2 H2 ha2 => ?_
   simp (disch := (refine ofP ?_; decide)) only [go_sem]
   have f2 : Fr H' H2 := Fr.trans (frame_X.newT _ |>.newT _) ha2.fr
   refine (hs (B i) (withCheck ([[1], leBytes q.fr.toNat 2, leBytes q.cnt.toNat 2, q.data].flatten)) v2 H2 (hfr _ _ _ hI f2) (fun z => SrcB.set ha2 (by simp only [new_next, set_next]; omega) z) (by omega) (fun h => by rw [h, List.length_nil] at hrl; omega)).mono ?_
   rintro _ H3 ⟨rfl, hI3⟩
   rw [<- hsn] at hI3
   simp (disch := (refine ofP ?_; first | assumption | decide | omega | (simp only [new_next, set_next] <;> omega) | with_unfolding_all exact ofR rfl | with_unfolding_all exact ofNt rfl)) only [go_sem, g14, hG, wrap_i64]
   exact ⟨_, by omega, i + 1, hlt, rfl, rfl, hI3⟩
  ·
   have hk := hk2 hz
   subst hk
   simp (disch := (refine ofP ?_; first | assumption | decide | omega)) only [go_sem, g14, hG, ia_lst_map, hq, eRec_def, hz]
   refine drawX [0,0,3,0,0,0,2,0,1,0,2,0,1,0,0,0,0,0] (by kernel_rfl) (by kernel_rfl) rfl (by kernel_rfl) ?_
   simp (disch := (refine ofP ?_; first | assumption | decide | omega | (simp only [new_next, set_next] <;> omega) | with_unfolding_all exact ofR rfl | with_unfolding_all exact ofNt rfl)) only [go_sem, g14, hG, w1, w2, hz]
   refine put2 (by omega) ?_
   simp (disch := (refine ofP ?_; first | decide | omega | (simp only [new_next, set_next] <;> omega) | assumption)) only [go_sem, w2]
   refine put2 (by omega) ?_
   simp (disch := (refine ofP ?_; first | decide | omega | (simp only [new_next, set_next] <;> omega) | assumption)) only [go_sem]
   refine concat_ownL [[2], leBytes q.fr.toNat 2, leBytes q.cnt.toNat 2, q.data] get_new_s (.cons ?_ (.cons .lst (.cons .lst (.cons .lst .nil)))) rfl (Nat.lt_succ_self _) (by simp) (by simp [leBytes_len]; omega) (by decide) ?_
   ·
    exact SrcB.own (l := [2]) (x := true) ((get_new_n (by simp only [new_next, set_next]; omega)).trans (get_new_q rfl)) (by simp only [new_next, set_next]; omega)
   intro v1 H1 ha1
   simp (disch := (refine ofP ?_; decide)) only [go_sem]
   refine checked_own ha1 (by simp [leBytes_len]; omega) fun v2 H2 ha2 => ?_
   simp (disch := (refine ofP ?_; decide)) only [go_sem]
   have f2 : Fr H' H2 := Fr.trans (frame_X.newT _ |>.newT _) ha2.fr
   refine (hs (B i) (withCheck ([[2], leBytes q.fr.toNat 2, leBytes q.cnt.toNat 2, q.data].flatten)) v2 H2 (hfr _ _ _ hI f2) (fun z => SrcB.set ha2 (by simp only [new_next, set_next]; omega) z) (by omega) (fun h => by rw [h, List.length_nil] at hrl; omega)).mono ?_
   rintro _ H3 ⟨rfl, hI3⟩
   rw [<- hsn] at hI3
   simp (disch := (refine ofP ?_; first | assumption | decide | omega | (simp only [new_next, set_next] <;> omega) | with_unfolding_all exact ofR rfl | with_unfolding_all exact ofNt rfl)) only [go_sem, g14, hG, wrap_i64]
   exact ⟨_, by omega, i + 1, hlt, rfl, rfl, hI3⟩
 ·
  simp (disch := (refine ofP ?_; first | decide | omega)) only [go_sem, g14, hG]
  obtain rfl : i = s.recs.length := by omega
  exact .inl (hn _ hI)
end
end Go.Ev
namespace Go.Ev
open Go.Proofs
noncomputable section
set_option maxRecDepth 100000
theorem fn54 : E1.fn 54 = some Try.f54 := by kernel_rfl
theorem fn79 : E1.fn 79 = some Try.f79 := by kernel_rfl
theorem parts79 {H : Hp} {s : Strm} {K : AV -> Hp -> Prop} (hk : K (.func 93 [] [.ptr H.next 0]) (newBlk H (.cells [.int .i64 s.blocks, .int .i64 s.base, .int .i64 s.id, .lst 4 (s.recs.map eRec)] 64 true true)).2) : Call (.func 79 [] []) [eStrm s] H K := by
 rw [eStrm_def]
 refine enterE (N := 4) rfl fn79 rfl rfl rfl rfl rfl fun hwf => ?_
 simp (disch := (refine ofP ?_; decide)) only [go_sem]
 exact .inl hk
theorem goodS_facts {s : Strm} (hg : goodS s = true) : 1 ≤ s.blocks /\ s.blocks ≤ 64 /\ 1 ≤ s.id /\ s.id ≤ 1000000 /\ -1 ≤ s.base /\ s.base ≤ 1000000 /\ recsOk s = true := by
 unfold goodS at hg
 rw [Bool.and_eq_true] at hg
 obtain ⟨hg1, hg2⟩ := hg
 simp only [headBad, Bool.not_eq_true', Bool.or_eq_false_iff, Bool.and_eq_false_iff, decide_eq_false_iff_not, Bool.not_eq_false', decide_eq_true_eq] at hg1
 refine ⟨by omega, by omega, by omega, by omega, by omega, by omega, hg2⟩
theorem rec_ok {s : Strm} (hg : recsOk s = true) {i : Nat} (hi : i < s.recs.length) : recOk s.blocks s.base s.recs[i] = true := by
 unfold recsOk at hg
 have := List.all_eq_true.1 hg i (List.mem_range.2 hi)
 rw [Bool.and_eq_true, getD_lt hi] at this
 exact this.1
theorem rec_facts {bl ba : Int} {r : Rec} (h : recOk bl ba r = true) : 1 ≤ r.cnt /\ 0 ≤ r.fr /\ r.fr < bl /\ r.cnt ≤ bl - r.fr := by
 unfold recOk at h
 simp only [Bool.not_eq_true', Bool.or_eq_false_iff, decide_eq_false_iff_not] at h
 omega
def encB (s : Strm) : List UInt8 := [bodyB s s.recs.length, [0x45], leBytes (fnvCheck (bodyB s s.recs.length)) 8].flatten
theorem fnvCheck_lt (l : List UInt8) : fnvCheck l < 18446744073709551616 := fnvMore_lt (by decide) l
theorem encode_ok {H : Hp} {s : Strm} {K : AV -> Hp -> Prop} (hl : s.recs.length ≤ 100) (hd : ∀ r ∈ s.recs, r.data.length ≤ 5000 /\ smallI r.fr /\ smallI r.cnt)
 (h1 : goodS s = false -> K (.tuple [.lst 1 [], .int .i64 11]) H) (h2 : goodS s = true -> K (.tuple [.lst 1 ((encB s).map eB), .int .i64 0]) H) : Call (.func 54 [] []) [eStrm s] H K := by
 obtain ⟨B, hB⟩ : ∃ B : Nat -> List UInt8, ∀ i, B i = bodyB s i := ⟨fun i => bodyB s i, fun _ => rfl⟩
 have hBl : (B s.recs.length).length ≤ 24 + 5013 * s.recs.length := by rw [hB]; exact bodyB_len (fun r hr => (hd r hr).1) _ (Nat.le_refl _)
 rw [show encB s = [B s.recs.length, [0x45], leBytes (fnvCheck (B s.recs.length)) 8].flatten by rw [hB]; rfl] at h2
 rw [eStrm_def]
 refine enterE (N := 22) rfl fn54 rfl rfl rfl rfl rfl fun hwf => ?_
 simp (disch := (refine ofP ?_; first | decide | omega)) only [go_sem]
 rw [<- eStrm_def]
 refine good_ok (s := s) (by omega) (fun r hr => ⟨by have := (hd r hr).1; omega, (hd r hr).2⟩) ?_
 cases hg : goodS s with
 | false =>
  simp (disch := (refine ofP ?_; decide)) only [go_sem]
  exact .inr (.inl ⟨(Fr.refl H).newT _, _, FZ.tuple (.cons .nils0 (.cons .int .nil)), h1 hg⟩)
 | true =>
  have h2 := h2 hg
  obtain ⟨g1, g2, g3, g4, g5, g6, g7⟩ := goodS_facts hg
  simp (disch := (refine ofP ?_; first | decide | omega | (simp only [new_next, set_next] <;> omega) | assumption)) only [go_sem]
  rw [<- eStrm_def]
  refine parts79 ?_
  simp (disch := (refine ofP ?_; decide)) only [go_sem]
  generalize hLB : Blk.loop _ _ _ _ _ _ _ _ _ = LB
  refine parts93 (s := s) B hB (fun l H1 => H.next + 4 ≤ H1.next /\ ∃ v, H1.m.get (H.next + 1) = some (.cells [v] 32 true true) /\ Acc EE H H1 5 1 v (l.map eB) /\
   H1.m.get (H.next + 1 + 1) = some (.cells [.int .i64 s.blocks, .int .i64 s.base, .int .i64 s.id, .lst 4 (s.recs.map eRec)] 64 true true) /\ H1.m.get (H.next + 1 + 1 + 1) = some LB) hl
   (fun r hr => ?_) ⟨by omega, by omega⟩ ⟨by omega, by omega⟩ ⟨by omega, by omega⟩ ?_ ?_ ?_ ?_ ?_
  ·
   obtain ⟨j, hj, rfl⟩ := List.getElem_of_mem hr
   obtain ⟨r1, r2, r3, r4⟩ := rec_facts (rec_ok g7 hj)
   exact ⟨(hd _ (List.getElem_mem hj)).1, by omega, by omega, by omega, by omega⟩
  ·
   rintro l H1 ⟨hn, v, m1, ho, m2, m3⟩
   exact ⟨m2, by omega, by omega⟩
  ·
   rintro l H1 H2 ⟨hn, v, m1, ho, m2, m3⟩ hf
   exact ⟨Nat.le_trans hn hf.nx, v, (hf.get _ (by omega)).trans m1, ho.keep hf, (hf.get _ (by omega)).trans m2, (hf.get _ (by omega)).trans m3⟩
  ·
   exact ⟨Nat.le_refl _, .nils, by simp (disch := (refine ofP ?_; first | assumption | decide | omega | (simp only [new_next, set_next] <;> omega) | with_unfolding_all exact ofR rfl | with_unfolding_all exact ofNt rfl)) only [go_sem], Acc.nil' (by (repeat first | assumption | exact Fr.refl _ | refine Fr.newT ?_ _ | refine Fr.set ?_ (by omega) _)) ty5s (by decide) ty5g, by simp (disch := (refine ofP ?_; first | assumption | decide | omega | (simp only [new_next, set_next] <;> omega) | with_unfolding_all exact ofR rfl | with_unfolding_all exact ofNt rfl)) only [go_sem], by simp (disch := (refine ofP ?_; first | assumption | decide | omega | (simp only [new_next, set_next] <;> omega) | with_unfolding_all exact ofR rfl | with_unfolding_all exact ofNt rfl)) only [go_sem]⟩
  ·
   rintro l m w H1 ⟨hn, v, m1, ho, m2, m3⟩ hw hlen hm
   subst hLB
   refine yieldE m3 ?_
   have hs := fun z => (hw z).2 _ (Fr.refl _)
   have hm0 : 0 < m.length := List.length_pos_iff.2 hm
   have hfl : flatL (m.map eB) = true := by rw [<- catL_eB]; exact flat_eB m
   have hA := fun z => (ho.other (z := z) m3 rfl (by omega)).many (m := m.length) (by rw [List.length_map]; omega) hm0 (m.map eB) (by rw [List.length_map, Nat.mul_one]) hfl
   have hD := fun z => (ho.other (z := z) m3 rfl (by omega)).manyed (m := m.length) (new := m.map eB) (by rw [List.length_map]; omega) hm0 (m.map eB) (catL_eB _) (List.length_map _) (eB_len _) hfl
   have hG := fun z => (ho.other (z := z) m3 rfl (by omega)).app_get (m := m.length) (by rw [List.length_map]; omega) hm0 (new := m.map eB) (by rw [List.length_map, Nat.mul_one]) hfl
   have hg1 := fun z => (hG z).2 (H.next + 1) _ ((get_set_n (by omega)).trans m1) rfl (show H.next + 1 < H1.next by omega)
   have hg2 := fun z => (hG z).2 (H.next + 1 + 1) _ ((get_set_n (by omega)).trans m2) rfl (show H.next + 1 + 1 < H1.next by omega)
   have hg3 := fun z (hz : notE 5 z = true) => (hG z).2 (H.next + 1 + 1 + 1) z (get_set_q rfl) hz (show H.next + 1 + 1 + 1 < H1.next by omega)
   have hnx := fun z => (hG z).1
   simp (disch := (refine ofP ?_; first | decide | omega | with_unfolding_all exact ofR rfl)) only [go_sem, m3, kn m1, hs, hA, hg1, hg2, hg3, hnx]
   have fin : ∀ z z2, notE 5 z = true -> Acc EE H (setBlk (setBlk (apH EE (setBlk H1 (H.next + 1 + 1 + 1) z) 5 v m.length (m.map eB)) (H.next + 1) (.cells [.slice H1.next 0 ((l.map eB).length + m.length) (.rest 0 1 ((l.map eB).length + m.length))] 32 true true)) (H.next + 1 + 1 + 1) z2) 5 1 (.slice H1.next 0 ((l.map eB).length + m.length) (.rest 0 1 ((l.map eB).length + m.length))) ((l ++ m).map eB) := fun z z2 hz => by
    rw [List.map_append]
    exact ((hD z).other (hg1 z) rfl (Nat.le_succ _)).other ((get_set_n (by omega)).trans (hg3 z hz)) hz (by omega)
   first
    | exact ⟨by omega, _, rfl, fin _ _ rfl⟩
    | exact ⟨by omega, _, rfl, fin _ _ rfl, rfl⟩
    | exact ⟨by omega, _, rfl, fin _ _ rfl, m2, rfl⟩
    | exact ⟨by omega, _, rfl, fin _ _ rfl, m2⟩
    | exact ⟨by omega, _, rfl, fin _ _ rfl, hg2 _⟩
    | exact ⟨by omega, _, rfl, fin _ _ rfl, hg2 _, rfl⟩
  ·
   rintro H1 ⟨hn, v, m1, ho, m2, m3⟩
   subst hLB
   generalize B s.recs.length = bd at *
   have ho2 := ho.other (z := .dead) m3 rfl (by omega)
   simp (disch := (refine ofP ?_; first | assumption | decide | omega | (simp only [new_next, set_next] <;> omega) | with_unfolding_all exact ofR rfl | with_unfolding_all exact ofNt rfl)) only [go_sem, m3, kn m1]
   refine drawX [4,3,0,2,2,0,0,0,0] (by kernel_rfl) (by kernel_rfl) rfl (by kernel_rfl) ?_
   have n1 : (setBlk H1 (H.next + 1 + 1 + 1) .dead).m.get (H.next + 1) = some (.cells [v] 32 true true) := (get_set_n (by omega)).trans m1
   simp (disch := (refine ofP ?_; first | assumption | decide | omega | (simp only [new_next, set_next] <;> omega) | with_unfolding_all exact ofR rfl | with_unfolding_all exact ofNt rfl)) only [go_sem, kn n1, n1, fpStep_1 (oneC_cells ho.own.one), oneC_cells ho.own.one]
   refine check_own (ho2.keep (Fr.alloc _ _)) (by omega) ?_
   simp (disch := (refine ofP ?_; decide)) only [go_sem]
   refine put8 (fnvCheck_lt _) ?_
   simp (disch := (refine ofP ?_; first | assumption | decide | omega | (simp only [new_next, set_next] <;> omega) | with_unfolding_all exact ofR rfl | with_unfolding_all exact ofNt rfl)) only [go_sem, fpStep_1 (oneC_cells ho.own.one), oneC_cells ho.own.one]
   refine concat_ownL [bd, [0x45], leBytes (fnvCheck bd) 8] get_new_s (.cons (SrcB.acc (ho2.keep ((Fr.alloc _ _).trans (Fr.alloc _ _)))) (.cons ?_ (.cons .lst .nil))) rfl (Nat.lt_succ_self _) (by simp) (by simp [leBytes_len]; omega) (by decide) ?_
   ·
    exact SrcB.own (l := [0x45]) (x := true) ((get_new_n (by simp only [new_next, set_next]; omega)).trans (get_new_q rfl)) (by simp only [new_next, set_next]; omega)
   intro v1 H2 ha
   simp (disch := (refine ofP ?_; decide)) only [go_sem]
   have ha2 := ha.base ((ho2.fr.newT _).newT _)
   exact .inr (.inl ⟨ha2.fr, _, FZ.tuple (.cons (ha2.own.fz ha2.hpos hwf rfl rfl ha2.el (FZL.plain (plain_map fun _ => rfl))) (.cons .int .nil)), h2⟩)
end
end Go.Ev
