/-
  ModelRolls: whatever comes in, the statement is true, and nothing that was there has turned. No conditions.
-/
import Derived.Test.YtajekleknljggaaPE
import Derived.Test.YtajekleknljggaaW29
import Derived.Test.YtajekleknljggaaChecked
import Derived.Test.YtajekleknljggaaRows
import Derived.WalkKit
import Derived.ProofKit
import Derived.OpenShut
import Derived.Eval
set_option linter.unusedVariables false
set_option linter.unusedSimpArgs false
namespace Go.Ev
open Go.Proofs
noncomputable section
set_option maxRecDepth 100000
theorem app_dv {H : Hp} {w : List UInt8} (hw : w.length ≤ 140737488351232) : ∃ v H2, evAppend EE (newBlk H (.cells [] 5 true true)).2 5 (.slice H.next 0 0 (.ex 0)) w.length (w.map eB) = some (v, H2) /\ Fr H H2 /\ Dv H2 v w /\ ∀ a, a < H.next -> ∀ b n k, v = .slice b 0 n k -> b ≠ a := by
 have ha := Acc.new0 (E := EE) (Fr.refl H) ty5s (by decide) ty5g
 by_cases h0 : w = []
 ·
  subst h0
  refine ⟨_, _, ha.app0, ha.fr, .inr ⟨H.next, true, rfl, get_new_s, Nat.lt_succ_self _⟩, fun a hlt b n k he => ?_⟩
  cases he; omega
 ·
  have hpos : 0 < w.length := List.length_pos_iff.2 h0
  have hm : (w.map eB).length = w.length := List.length_map _
  have hf := flat_eB w
  have h1 := ha.manyB ty5gB (m := w.length) (by simpa using hw) hpos (w.map eB) (by rw [hm, Nat.mul_one]) (by rw [<- catL_eB]; exact hf)
  have h2 := ha.manyedB ty5gB (m := w.length) (by simpa using hw) hpos (new := w.map eB) (w.map eB) (catL_eB w) hm (eB_len w) (by rw [<- catL_eB]; exact hf)
  refine ⟨_, _, h1, h2.fr, ?_⟩
  rcases h2.own.2 with ⟨hh, _⟩ | ⟨b, x, hge, hlt, hv, hb⟩
  ·
   cases hh
  ·
   refine ⟨.inr ⟨b, x, ?_, ?_, hlt⟩, fun a hlt b' n k he => ?_⟩
   ·
    rw [hv, List.nil_append, hm]; rfl
   ·
    rw [hb, List.nil_append, catL_eB]
   ·
    rw [hv] at he; cases he; omega
theorem step_own {H : Hp} {x : Stp} (hx : x.data.length ≤ 140737488351232) : ∃ v H2 H3, evAppend EE (newBlk (setBlk (newBlk H (Blk.cells [AV.int .i64 0, .int .i64 0, .int .i64 0, .int .i64 0, .int .i64 0, .nils] 34 true true)).2 H.next (Blk.cells [.int .i64 x.kind, .int .i64 x.block, .int .i64 x.size, .int .i64 x.id, .int .i64 x.base, .lst 1 (x.data.map eB)] 34 true true)) (.cells [] 5 true true)).2 5 (.slice (H.next + 1) 0 0 (.ex 0)) x.data.length (catL (x.data.map eB)) = some (v, H2) /\
 storeN H2 1 (.ptr H.next 5) v = some (.undef, H3) /\ H3.m.get H.next = some (.cells [.int .i64 x.kind, .int .i64 x.block, .int .i64 x.size, .int .i64 x.id, .int .i64 x.base, v] 34 true true) /\ oneC v = true /\ Fr H H3 /\ Dv H3 v x.data := by
 have fb : Fr H (setBlk (newBlk H (Blk.cells [AV.int .i64 0, .int .i64 0, .int .i64 0, .int .i64 0, .int .i64 0, .nils] 34 true true)).2 H.next (Blk.cells [.int .i64 x.kind, .int .i64 x.block, .int .i64 x.size, .int .i64 x.id, .int .i64 x.base, .lst 1 (x.data.map eB)] 34 true true)) := (Fr.alloc _ _).set (Nat.le_refl _) _
 obtain ⟨v, H2, h1, h2, h3, h4⟩ := app_dv (H := setBlk (newBlk H (Blk.cells [AV.int .i64 0, .int .i64 0, .int .i64 0, .int .i64 0, .int .i64 0, .nils] 34 true true)).2 H.next (Blk.cells [.int .i64 x.kind, .int .i64 x.block, .int .i64 x.size, .int .i64 x.id, .int .i64 x.base, .lst 1 (x.data.map eB)] 34 true true)) hx
 have hg : H2.m.get H.next = some (.cells [.int .i64 x.kind, .int .i64 x.block, .int .i64 x.size, .int .i64 x.id, .int .i64 x.base, .lst 1 (x.data.map eB)] 34 true true) := by
  rw [h2.2 H.next (Nat.lt_succ_self _)]; exact get_set_s
 have ho := h3.one
 refine ⟨v, H2, _, by rw [catL_eB]; exact h1, ?_, get_set_s, ho, (fb.trans h2).set (Nat.le_refl _) _, ?_⟩
 ·
  rw [storeN_1 (oneC_cells ho), putCells_def, hg]
  show (putB H2 H.next 5 [v] (.cells [.int .i64 x.kind, .int .i64 x.block, .int .i64 x.size, .int .i64 x.id, .int .i64 x.base, .lst 1 (x.data.map eB)] 34 true true)).omap _ = _
  have hf : flatL [v] = true := by rw [flatL_cons', ho]; rfl
  rw [putB_c, hf, setE_one (by show 5 < 6; decide)]; rfl
 ·
  rcases h3 with rfl | ⟨b, z, rfl, hb, hlt⟩
  ·
   exact .inl rfl
  ·
   refine .inr ⟨b, z, rfl, ?_, hlt⟩
   rw [get_set_n (h4 H.next (Nat.lt_succ_self _) _ _ _ rfl)]; exact hb
theorem MOK.zl {H : Hp} {p : Nat} {m : MS} {F : Nat -> Prop} (h : MOK H p m F) : ∀ s ∈ m.ss, s.bs.length = m.bs.length := by
 obtain ⟨zs, bv, sv, hM, hss, _⟩ := h
 intro s hs
 rw [<- hss] at hs
 obtain ⟨z, hz, rfl⟩ := List.mem_map.1 hs
 exact (hM.zl z hz).2.1
theorem rem_n (a b : Nat) (hb : b ≠ 0) : binInt .rem .i64 (a : Int) (.int .i64 (b : Int)) = some (.int .i64 ((a % b : Nat) : Int)) := by
 show (match ieq (b : Int) 0 with | true => none | false => some (AV.int .i64 (Int.tmod (a : Int) (b : Int)))) = _
 have : ieq (b : Int) 0 = false := by rw [ieq_dec]; exact decide_eq_false (by omega)
 rw [this]
 show some (AV.int .i64 (Int.tmod (a : Int) (b : Int))) = _
 rw [<- Int.ofNat_tmod]
end
end Go.Ev
namespace Go.Ev
open Go.Proofs
noncomputable section
set_option maxRecDepth 100000
theorem fn17 : E1.fn 17 = some Try.f17 := by kernel_rfl
theorem fn18 : E1.fn 18 = some Try.f18 := by kernel_rfl
theorem fn40 : E1.fn 40 = some Try.f40 := by kernel_rfl
theorem fn65 : E1.fn 65 = some Try.f65 := by kernel_rfl
def IV (v : AV) (l : List Int) : Prop := v = .lst 1 (l.map eInt) ∨ (v = .nils /\ l = [])
theorem IV.len {v : AV} {l : List Int} (h : IV v l) {ty : TypeId} : lenAV (.slice ty) EE v = some (.int .i64 (l.length : Int)) := by
 rcases h with rfl | ⟨rfl, rfl⟩
 ·
  simp (disch := assumption) only [go_sem, List.length_map]
 ·
  rfl
theorem ints17 {H : Hp} {u v : AV} {a b : List Int} {K : AV -> Hp -> Prop} (hu : IV u a) (hv : IV v b) (ha : a.length < 9223372036854775807) (hb : b.length < 9223372036854775807) (hk : K (.bool (decide (a = b))) H) : Call (.func 17 [] []) [u, v] H K := by
 refine enterE (N := 26) rfl fn17 rfl rfl rfl rfl rfl fun hwf => ?_
 by_cases hl : a.length = b.length
 ·
  have hl' : ((a.length : Nat) : Int) = (b.length : Nat) := by rw [hl]
  simp (disch := (refine ofP ?_; decide)) only [go_sem, hu.len, hv.len, hl]
  refine loopE 67106864 (by kernel_rfl) (fun r G H' => H' = H /\ ∃ i : Nat, i ≤ a.length /\ r = a.length - i /\ G.get 5 = some (.int .i64 (i : Int)) /\ ∀ j, j < i -> a[j]? = b[j]?) a.length ⟨rfl, 0, Nat.zero_le _, (Nat.sub_zero _).symm, (by simp (disch := (refine ofP ?_; first | assumption | decide | omega | (simp only [new_next, set_next] <;> omega) | with_unfolding_all exact ofR rfl | with_unfolding_all exact ofNt rfl)) only [go_sem]; first | done | rfl), fun j h => absurd h (Nat.not_lt_zero _)⟩ ?_
  rintro r G H' hG ⟨rfl, i, hi, rfl, g5, hs⟩
  by_cases hlt : i < a.length
  ·
   have hltb : i < b.length := by omega
   rcases hu with rfl | ⟨rfl, rfl⟩
   ·
    rcases hv with rfl | ⟨rfl, rfl⟩
    ·
     simp (disch := (refine ofP ?_; first | decide | omega)) only [go_sem, g5, hG, List.length_map]
     refine drawE (by kernel_rfl) (by kernel_rfl) ?_
     by_cases he : a[i] = b[i]
     ·
      simp (disch := (refine ofP ?_; first | assumption | decide | omega | (simp only [new_next, set_next] <;> omega) | with_unfolding_all exact ofR rfl | with_unfolding_all exact ofNt rfl)) only [go_sem, g5, hG, List.length_map, ia_lst_map, he]
      refine ⟨_, by omega, i + 1, by omega, rfl, ?_, fun j hj => ?_⟩
      ·
       rw [wrap_i64 (by omega) (by omega)]; rfl
      ·
       by_cases hji : j = i
       ·
        subst hji
        rw [List.getElem?_eq_getElem hlt, List.getElem?_eq_getElem hltb, he]
       ·
        exact hs j (by omega)
     ·
      have hne : ¬ a = b := fun h => he (by subst h; rfl)
      simp (disch := (refine ofP ?_; first | assumption | decide | omega | (simp only [new_next, set_next] <;> omega) | with_unfolding_all exact ofR rfl | with_unfolding_all exact ofNt rfl)) only [go_sem, g5, hG, List.length_map, ia_lst_map, he]
      rw [decide_eq_false hne] at hk
      exact .inl hk
    ·
     exact absurd hltb (Nat.not_lt_zero _)
   ·
    exact absurd hlt (Nat.not_lt_zero _)
  ·
   obtain rfl : i = a.length := by omega
   have e : a = b := List.ext_getElem? fun j => by
    by_cases h : j < a.length
    ·
     exact hs j h
    ·
     rw [List.getElem?_eq_none (by omega), List.getElem?_eq_none (by omega)]
   simp (disch := (refine ofP ?_; first | decide | omega)) only [go_sem, g5, hG, hu.len]
   rw [decide_eq_true e] at hk
   exact .inl hk
 ·
  have hl' : ¬ ((a.length : Nat) : Int) = (b.length : Nat) := by omega
  have hne : ¬ a = b := fun h => hl (by rw [h])
  simp (disch := (refine ofP ?_; decide)) only [go_sem, hu.len, hv.len, hl']
  rw [decide_eq_false hne] at hk
  exact .inl hk
theorem values65 {H : Hp} {bb y : Nat} {sv : AV} {zs : List (Shot × AV)} {K : AV -> Hp -> Prop} (I : Nat -> Hp -> Prop) (hb : cellAt H bb 0 = some sv) (hsh : ShAt H sv zs) (hlen : zs.length ≤ 8) (ho : ∀ z ∈ zs, oneC z.2 = true) (h0 : I 0 H) (hfr : ∀ i H', I i H' -> ShAt H' sv zs)
 (hmono : ∀ i H' H'', I i H' -> Fr H' H'' -> I i H'')
 (hs : ∀ i (hi : i < zs.length) H', I i H' -> Call (.yield y) [.agg [.int .i64 zs[i].1.id, .lst 64 (zs[i].1.bs.map eBlk), zs[i].2]] H' fun v H'' => v = .bool true /\ I (i + 1) H'') (hn : ∀ H', I zs.length H' -> K (.tuple []) H') :
 Call (.func 65 [] [.ptr bb 0]) [.yield y] H K := by
 refine enterE (N := 16) rfl fn65 rfl rfl rfl rfl rfl fun hwf => ?_
 simp (disch := (refine ofP ?_; decide)) only [go_sem, hb, hsh.len]
 refine loopE 65424 (by kernel_rfl) (fun r G H' => ∃ i : Nat, i ≤ zs.length /\ r = zs.length - i /\ G.get 7 = some (.int .i64 i) /\ I i H') zs.length ⟨0, Nat.zero_le _, (Nat.sub_zero _).symm, (by simp (disch := (refine ofP ?_; first | assumption | decide | omega | (simp only [new_next, set_next] <;> omega) | with_unfolding_all exact ofR rfl | with_unfolding_all exact ofNt rfl)) only [go_sem]; first | done | rfl), h0⟩ ?_
 rintro r G H' hG ⟨i, hi, rfl, g7, hI⟩
 by_cases hlt : i < zs.length
 ·
  have hz := (hfr i H' hI)
  have ho' := ho _ (List.getElem_mem hlt)
  simp (disch := (refine ofP ?_; first | assumption | decide | omega | (simp only [new_next, set_next] <;> omega) | with_unfolding_all exact ofR rfl | with_unfolding_all exact ofNt rfl)) only [go_sem, g7, hG, hz.idx hlt, hz.cells hlt, ho', oneC_cells ho']
  refine (hs i hlt _ (hmono i H' _ hI ((Fr.alloc _ _).set (Nat.le_refl _) _))).mono ?_
  rintro v H'' ⟨rfl, hI'⟩
  simp (disch := (refine ofP ?_; first | assumption | decide | omega | (simp only [new_next, set_next] <;> omega) | with_unfolding_all exact ofR rfl | with_unfolding_all exact ofNt rfl)) only [go_sem, g7, hG, wrap_i64]
  exact ⟨_, by omega, i + 1, hlt, rfl, rfl, hI'⟩
 ·
  obtain rfl : i = zs.length := by omega
  simp (disch := (refine ofP ?_; first | decide | omega)) only [go_sem, g7, hG]
  exact .inl (hn H' hI)
theorem ids18 {H : Hp} {p : Nat} {bs : List (List UInt8)} {zs : List (Shot × AV)} {next : Int} {bv sv : AV} {K : AV -> Hp -> Prop} (h : MAt H p bs zs next bv sv) (hk : ∀ v, IV v (zs.map fun z => z.1.id) -> K v H) : Call (.func 18 [] []) [.ptr p 0] H K := by
 refine enterE (N := 19) rfl fn18 rfl rfl rfl rfl rfl fun hwf => ?_
 have hpl := h.lt
 have m1 : (newBlk H (.cells [.nils] 48 true true)).2.m.get p = some (.cells [bv, sv, .int .i64 next] 72 true true) := (get_new_n (by omega)).trans h.m
 have hone : ∀ z ∈ zs, oneC z.2 = true := fun z hz => (h.w z hz).one
 simp (disch := (refine ofP ?_; first | assumption | decide | omega | (simp only [new_next, set_next] <;> omega) | with_unfolding_all exact ofR rfl | with_unfolding_all exact ofNt rfl)) only [go_sem, kn h.m, h.m, kn m1]
 refine enterE (N := 4) rfl fn40 rfl rfl rfl rfl rfl fun _ => ?_
 have ho := h.s.one
 simp (disch := (refine ofP ?_; first | assumption | decide | omega | (simp only [new_next, set_next] <;> omega) | with_unfolding_all exact ofR rfl | with_unfolding_all exact ofNt rfl)) only [go_sem, ho, oneC_cells ho]
 left
 simp (disch := (refine ofP ?_; decide)) only [go_sem]
 generalize hLB : Blk.loop _ _ _ _ _ _ _ _ _ = LB
 have hLe : notE 3 LB = true := by rw [<- hLB]; rfl
 have f3 : Fr H (newBlk (newBlk (newBlk H (.cells [.nils] 48 true true)).2 (.cells [sv] 70 true true)).2 LB).2 := (((Fr.refl H).newT _).newT _).newT _
 refine values65 (sv := sv) (zs := zs) (fun i H' => ∃ v, Acc EE H H' 3 1 v ((zs.take i).map fun z => eInt z.1.id) /\ H.next + 3 ≤ H'.next /\ H'.m.get H.next = some (.cells [v] 48 true true) /\ H'.m.get (H.next + 1 + 1) = some LB) (by simp (disch := (refine ofP ?_; first | assumption | decide | omega | (simp only [new_next, set_next] <;> omega) | with_unfolding_all exact ofR rfl | with_unfolding_all exact ofNt rfl)) only [go_sem]) (h.s.keep f3) h.k hone ?_ ?_ ?_ ?_ ?_
 ·
  exact ⟨.nils, Acc.nil' f3 ty3s (by decide) ty3g, Nat.le_refl _, by simp (disch := (refine ofP ?_; first | assumption | decide | omega | (simp only [new_next, set_next] <;> omega) | with_unfolding_all exact ofR rfl | with_unfolding_all exact ofNt rfl)) only [go_sem], by simp (disch := (refine ofP ?_; first | assumption | decide | omega | (simp only [new_next, set_next] <;> omega) | with_unfolding_all exact ofR rfl | with_unfolding_all exact ofNt rfl)) only [go_sem]⟩
 ·
  rintro i H' ⟨v, ha, _⟩
  exact h.s.keep ha.fr
 ·
  rintro i H' H'' ⟨v, ha, hn, g0, g2⟩ hf
  exact ⟨v, ha.keep hf, Nat.le_trans hn hf.1, (hf.2 _ (by omega)).trans g0, (hf.2 _ (by omega)).trans g2⟩
 ·
  rintro i hi H' ⟨v, ha, hn, g0, g2⟩
  have ho' := hone _ (List.getElem_mem hi)
  have fb : Fr H' (setBlk (newBlk H' (.cells [.int .i64 0, .nils, .nils] 95 true true)).2 H'.next (.cells [.int .i64 zs[i].1.id, .lst 64 (zs[i].1.bs.map eBlk), zs[i].2] 95 true true)) := (Fr.alloc _ _).set (Nat.le_refl _) _
  have gb : (setBlk (newBlk H' (.cells [.int .i64 0, .nils, .nils] 95 true true)).2 H'.next (.cells [.int .i64 zs[i].1.id, .lst 64 (zs[i].1.bs.map eBlk), zs[i].2] 95 true true)).m.get H'.next = some (.cells [.int .i64 zs[i].1.id, .lst 64 (zs[i].1.bs.map eBlk), zs[i].2] 95 true true) := get_set_s
  have nb : (setBlk (newBlk H' (.cells [.int .i64 0, .nils, .nils] 95 true true)).2 H'.next (.cells [.int .i64 zs[i].1.id, .lst 64 (zs[i].1.bs.map eBlk), zs[i].2] 95 true true)).next = H'.next + 1 := rfl
  have g0' := (fb.2 _ (show H.next < H'.next by omega)).trans g0
  have g2' := (fb.2 _ (show H.next + 1 + 1 < H'.next by omega)).trans g2
  have ha' := ha.keep fb
  have hlen : ((zs.take i).map fun z => eInt z.1.id).length < 1048576 := by rw [List.length_map, List.length_take]; have := h.k; omega
  have hA := fun z => (ha'.other (z := z) g2' hLe (by omega)).push hlen
  have hP := fun z => (ha'.other (z := z) g2' hLe (by omega)).push_get hlen (new := [.int .i64 zs[i].1.id]) rfl rfl
  have hn1 := fun z => (hP z).1
  have hg2 := fun z (hz : notE 3 z = true) => (hP z).2 (H.next + 1 + 1) z (get_set_q rfl) hz (show H.next + 2 < H'.next + 1 by omega)
  have hg0 := fun z => (hP z).2 H.next _ ((get_set_n (by omega)).trans g0') rfl (show H.next < H'.next + 1 by omega)
  have hQ := fun z => (ha'.other (z := z) g2' hLe (by omega)).pushed hlen (eInt zs[i].1.id) rfl rfl rfl
  subst hLB
  refine yieldE g2 ?_
  simp (disch := (refine ofP ?_; first | decide | omega | (simp only [new_next, set_next] <;> omega) | with_unfolding_all exact ofR rfl | with_unfolding_all exact ofNt rfl)) only [go_sem, kn g0, g2, ho', hA, hg2, hg0]
  have e : (zs.take (i + 1)).map (fun z => eInt z.1.id) = (zs.take i).map (fun z => eInt z.1.id) ++ [eInt zs[i].1.id] := by
   rw [List.take_add_one, List.getElem?_eq_getElem hi, List.map_append]; rfl
  refine ⟨_, ?_, ?_, rfl⟩
  ·
   rw [e]
   exact ((hQ _).other (hg0 _) rfl (Nat.le_refl _)).other ((get_set_n (by omega)).trans (hg2 _ rfl)) rfl (by omega)
  ·
   show _ ≤ (puH _ _ _ _ _).next
   rw [hn1]
   show H.next + 3 ≤ H'.next + 1 + 2
   omega
 ·
  rintro H' ⟨v, ha, hn, g0, g2⟩
  subst hLB
  simp (disch := (refine ofP ?_; first | decide | omega)) only [go_sem, kn g0, g2]
  have e : zs.take zs.length = zs := List.take_length
  rw [e] at ha
  refine (ha.other g2 hLe (by omega)).out_plain hwf (plain_map fun _ => rfl) (hk _ (.inl ?_))
  rw [List.map_map]; rfl
end
end Go.Ev
namespace Go.Ev
open Go.Proofs
noncomputable section
set_option maxRecDepth 100000
theorem fn5 : E1.fn 5 = some Try.f5 := by kernel_rfl
theorem ids_at (ss : List Shot) (i : Nat) (hi : i < ss.length) : (idsOf ss)[i]'(by unfold idsOf; rw [List.length_map]; exact hi) = ss[i].id := by
 unfold idsOf; rw [List.getElem_map]
theorem shS_at {m : MS} (h : m.ok) {i : Nat} (hi : i < m.ss.length) : shS m.ss m.ss[i].id = i := by
 unfold shS
 refine fidx_at hi (decide_eq_true rfl) (fun j hj hlt => decide_eq_false fun e => ?_)
 have := h.rise hj hi hlt
 omega
theorem MOK.ids {H : Hp} {p : Nat} {m : MS} {F : Nat -> Prop} {K : AV -> Hp -> Prop} (h : MOK H p m F) (hk : ∀ v, IV v (idsOf m.ss) -> K v H) : Call (.func 18 [] []) [.ptr p 0] H K := by
 obtain ⟨zs, bv, sv, hM, hss, _⟩ := h
 refine ids18 hM fun v hv => hk v ?_
 have e : (zs.map fun z => z.1.id) = idsOf m.ss := by rw [<- hss]; unfold idsOf; rw [List.map_map]; rfl
 rw [<- e]; exact hv
theorem MOK.blocks {H : Hp} {p : Nat} {m : MS} {F : Nat -> Prop} {K : AV -> Hp -> Prop} (h : MOK H p m F) (hk : K (.lst 64 (m.bs.map eBlk)) H) : Call (.func 16 [] []) [.ptr p 0] H K := by
 obtain ⟨zs, bv, sv, hM, hss, _⟩ := h
 exact blocks16 hM hk
theorem MOK.bl {H : Hp} {p : Nat} {m : MS} {F : Nat -> Prop} (h : MOK H p m F) : ∀ x ∈ m.bs, x.length = 64 := by
 obtain ⟨zs, bv, sv, hM, hss, _⟩ := h
 exact hM.bl
theorem MOK.few {H : Hp} {p : Nat} {m : MS} {F : Nat -> Prop} (h : MOK H p m F) : m.ss.length ≤ 8 := by
 obtain ⟨zs, bv, sv, hM, hss, _⟩ := h
 rw [<- hss, List.length_map]; exact hM.k
theorem MOK.fo {H : Hp} {p : Nat} {m : MS} {F : Nat -> Prop} (h : MOK H p m F) {c : Nat} (hc : F c) : c < H.next := by
 obtain ⟨zs, bv, sv, hM, hss, rfl⟩ := h
 exact hM.fo_lt hc
theorem roll_none {m : MS} (h : m.ss = []) (id : Int) : rollStep m id = (bad 13, m) := by
 unfold rollStep
 rw [h]; rfl
theorem roll_at {m : MS} (h : m.ok) {i : Nat} (hi : i < m.ss.length) : rollStep m m.ss[i].id = (bad 0, { m with bs := m.ss[i].bs, ss := rollS m.ss i m.bs.length }) := by
 unfold rollStep
 rw [shS_at h hi, show ((i : Int)).toNat = i from rfl, List.getElem?_eq_getElem hi]
 show (if (i : Int) = -1 then _ else _) = _
 rw [if_neg (by omega)]
theorem peek_at {m : MS} (h : m.ok) {i b : Nat} (hi : i < m.ss.length) (hb : b < m.bs.length) : peekS m m.ss[i].id b = (m.ss[i].bs.getD b [], 0, 0) := by
 unfold peekS
 rw [if_neg (fun hn => hn ⟨by omega, by omega⟩), shS_at h hi, if_neg (by omega), show ((i : Int)).toNat = i from rfl, List.getElem?_eq_getElem hi]; rfl
def AtS (m : MS) (n a : Nat) (ids : List Int) (B : List (List UInt8)) : Prop := m.ok /\ m.bs.length = n /\ (idsOf m.ss).take (a + 1) = ids /\ ids.length = a + 1 /\ ∃ h : a < m.ss.length, m.ss[a].bs = B
theorem AtS.id {m : MS} {n a : Nat} {ids : List Int} {B : List (List UInt8)} (h : AtS m n a ids B) : ids[a]? = some (m.ss[a]'h.2.2.2.2.1).id := by
 have key : ∀ ha : a < m.ss.length, ids[a]? = some (m.ss[a]'ha).id := fun ha => by
  have h3 := h.2.2.1
  rw [<- h3, List.getElem?_take, if_pos (Nat.lt_succ_self _), List.getElem?_eq_getElem (by unfold idsOf; rw [List.length_map]; exact ha), ids_at _ _ ha]
 exact key _
theorem AtS.roll {m : MS} {n a : Nat} {ids : List Int} {B : List (List UInt8)} (h : AtS m n a ids B) (hz : ∀ s ∈ m.ss, s.bs.length = m.bs.length) : (rollStep m (m.ss[a]'h.2.2.2.2.1).id).1 = bad 0 /\ AtS (rollStep m (m.ss[a]'h.2.2.2.2.1).id).2 n a ids B /\ idsOf (rollStep m (m.ss[a]'h.2.2.2.2.1).id).2.ss = ids /\ (rollStep m (m.ss[a]'h.2.2.2.2.1).id).2.bs = B := by
 obtain ⟨h1, h2, h3, h4, ha, h5⟩ := h
 have hok := stepS_ok (x := ⟨7, 0, 0, m.ss[a].id, 0, []⟩) h1 (by show 0 ≤ _; decide)
 have es : stepS m ⟨7, 0, 0, m.ss[a].id, 0, []⟩ = rollStep m m.ss[a].id := rfl
 rw [es, roll_at h1 ha] at hok
 rw [roll_at h1 ha]
 have e : idsOf (rollS m.ss a m.bs.length) = ids := by rw [rollS_ids _ _ _ ha]; exact h3
 have hl : (rollS m.ss a m.bs.length).length = a + 1 := by
  have := congrArg List.length e
  unfold idsOf at this
  rw [List.length_map] at this
  omega
 refine ⟨rfl, ⟨hok, ?_, ?_, h4, by show a < (rollS m.ss a m.bs.length).length; omega, ?_⟩, e, h5⟩
 ·
  show m.ss[a].bs.length = n
  rw [hz _ (List.getElem_mem ha)]; exact h2
 ·
  show (idsOf (rollS m.ss a m.bs.length)).take (a + 1) = ids
  rw [e, List.take_of_length_le (by omega)]
 ·
  have e2 : rollS m.ss a m.bs.length = (m.ss.take (a + 1)).set a ⟨m.ss[a].id, m.ss[a].bs, List.replicate m.bs.length false⟩ := by
   unfold rollS
   rw [List.getElem?_eq_getElem ha]
  show ((rollS m.ss a m.bs.length)[a]'_).bs = B
  simp only [e2, List.getElem_set_self]
  exact h5
set_option maxHeartbeats 4000000 in
theorem law5 {blocks kk : UInt8} {l : List Stp} (hl : l.length < 9223372036854775807) (hd : ∀ x ∈ l, x.data.length ≤ 140737488351232) : Call (.func 5 [] []) [.int .u8 blocks.toNat, .lst 6 (l.map eStp), .int .u8 kk.toNat] noHp fun v _ => v = .bool true := by
 have hb8 : blocks.toNat < 256 := blocks.toNat_lt
 have hk8 : kk.toNat < 256 := kk.toNat_lt
 obtain ⟨n, hn⟩ : ∃ n : Nat, n = 1 + blocks.toNat % 16 := ⟨_, rfl⟩
 have hn1 : 1 ≤ n /\ n ≤ 16 := by omega
 have hw1 : wrapI .i64 ((blocks.toNat : Nat) : Int) = (blocks.toNat : Nat) := wrap_i64 (by omega) (by omega)
 have hwk : wrapI .i64 ((kk.toNat : Nat) : Int) = (kk.toNat : Nat) := wrap_i64 (by omega) (by omega)
 refine enterE (N := 169) rfl fn5 rfl rfl rfl rfl rfl fun hwf => ?_
 have hr : binInt .rem .i64 ((blocks.toNat : Nat) : Int) (.int .i64 16) = some (.int .i64 ((blocks.toNat % 16 : Nat) : Int)) := rem_n blocks.toNat 16 (by decide)
 have hw2 : wrapI .i64 (1 + ((blocks.toNat % 16 : Nat) : Int)) = (n : Int) := by rw [wrap_i64 (by omega) (by omega)]; omega
 simp (disch := (refine ofP ?_; decide)) only [go_sem, hw1, hr, hw2]
 refine new10 (fun h => absurd h (by omega)) (fun k hk k1 k2 H1 bv hM f1 hbv => ?_)
 obtain rfl : k = n := by omega
 simp (disch := (refine ofP ?_; decide)) only [go_sem]
 refine fair8 (by simpa using hl) (fun x hx => by have := hd x hx; omega) (fun b hfair => ?_)
 cases b with
 | false =>
  simp (disch := (refine ofP ?_; decide)) only [go_sem]
  refine wcall2_true rfl ?_
  simp (disch := (refine ofP ?_; decide)) only [go_sem]
  exact .inl rfl
 | true =>
  simp (disch := (refine ofP ?_; decide)) only [go_sem]
  have hM0 : MOK H1 (noHp.next + 1) ⟨zeroBs k, [], 1⟩ (Fo (noHp.next + 1) bv .nils []) := ⟨[], bv, .nils, hM, rfl, rfl⟩
  have ok0 : MS.ok ⟨zeroBs k, [], 1⟩ := ⟨List.Pairwise.nil, fun x hx => (by cases hx), ⟨by show (1 : Int) ≤ 1; decide, by show (1 : Int) ≤ 1000001; decide⟩⟩
  have hzl : (zeroBs k).length = k := List.length_replicate
  refine loopE 37778787747769085856768 (by kernel_rfl) (fun r G H' => ∃ (i : Nat) (m : MS) (F : Nat -> Prop), i ≤ l.length /\ r = l.length - i /\ G.get 10 = some (.int .i64 (i : Int)) /\ MOK H' (noHp.next + 1) m F /\ m.ok /\ m.bs.length = k) l.length ⟨0, _, _, Nat.zero_le _, (Nat.sub_zero _).symm, (by simp (disch := (refine ofP ?_; first | assumption | decide | omega | (simp only [new_next, set_next] <;> omega) | with_unfolding_all exact ofR rfl | with_unfolding_all exact ofNt rfl)) only [go_sem]; first | done | rfl), hM0, ok0, hzl⟩ ?_
  rintro r G H' hG ⟨i, m, F, hi, rfl, g10, hM', hok', hbl⟩
  by_cases hlt : i < l.length
  ·
   have hdi := hd _ (List.getElem_mem hlt)
   simp (disch := (refine ofP ?_; first | assumption | decide | omega | (simp only [new_next, set_next] <;> omega) | assumption)) only [go_sem, g10, hG, List.length_map, ia_lst_map]
   obtain ⟨v, H2, H4, h1, h2, h3, h4, h5, h6⟩ := step_own (H := H') (x := l[i]) hdi
   rw [h1]
   simp (disch := (refine ofP ?_; first | assumption | decide | omega | (simp only [new_next, set_next] <;> omega) | with_unfolding_all exact ofR rfl | with_unfolding_all exact ofNt rfl)) only [go_sem, h2, h3, oneC_cells h4, h4, hG]
   refine do12 (x := l[i]) (dv := v) (hM'.keep h5) hok' h4 (fun _ => h6) hdi fun w H5 F5 hv hM5 u5 => ?_
   simp (disch := (refine ofP ?_; first | assumption | decide | omega | (simp only [new_next, set_next] <;> omega) | with_unfolding_all exact ofR rfl | with_unfolding_all exact ofNt rfl)) only [go_sem, hG, g10]
   refine ⟨_, by omega, i + 1, _, F5, hlt, rfl, ?_, hM5, stepS_ok hok' hdi, (stepS_len (hM'.zl)).trans hbl⟩
   rw [wrap_i64 (by omega) (by omega)]; rfl
  ·
   obtain rfl : i = l.length := by omega
   simp (disch := (refine ofP ?_; first | decide | omega)) only [go_sem, g10, hG, List.length_map]
   refine hM'.ids fun w hw => ?_
   have hsl : (idsOf m.ss).length = m.ss.length := by unfold idsOf; rw [List.length_map]
   by_cases h0 : m.ss = []
   ·
    have hi0 : ((idsOf m.ss).length : Int) = 0 := by rw [hsl, h0]; rfl
    simp (disch := (refine ofP ?_; decide)) only [go_sem, hw.len, hi0, hG]
    refine do12 (x := ⟨7, 0, 0, 1, 0, []⟩) (dv := .nils) hM' hok' rfl (fun h => absurd h (by decide)) (by decide) fun w H5 F5 hv hM5 u5 => ?_
    have es : stepS m ⟨7, 0, 0, 1, 0, []⟩ = (bad 13, m) := roll_none h0 1
    rw [es] at hv
    obtain ⟨b, rfl, hb⟩ := hv
    simp (disch := (refine ofP ?_; decide)) only [go_sem, show (bad 13).2.2 = 13 from rfl, show (bad 13).2.1 = 0 from rfl]
    refine wcall2_true rfl ?_
    simp (disch := (refine ofP ?_; decide)) only [go_sem]
    exact .inl rfl
   ·
    have hpos : 0 < m.ss.length := List.length_pos_iff.2 h0
    have hi0 : ¬ ((idsOf m.ss).length : Int) = 0 := by omega
    have hrk : binInt .rem .i64 ((kk.toNat : Nat) : Int) (.int .i64 ((idsOf m.ss).length : Int)) = some (.int .i64 ((kk.toNat % (idsOf m.ss).length : Nat) : Int)) := rem_n kk.toNat _ (by omega)
    have hw' : w = .lst 1 ((idsOf m.ss).map eInt) := by
     rcases hw with h | ⟨_, h⟩
     ·
      exact h
     ·
      rw [h] at hsl; exact absurd hsl (by show ¬ 0 = _; omega)
    subst hw'
    have ha : kk.toNat % (idsOf m.ss).length < m.ss.length := by rw [hsl]; exact Nat.mod_lt _ hpos
    generalize hae : kk.toNat % (idsOf m.ss).length = a at hrk ha
    simp (disch := (refine ofP ?_; decide)) only [go_sem, List.length_map, hi0, hG, hwk, hrk]
    clear hM0 hM ok0 hzl hrk f1 hbv g10 hr hw1 hw2 hwk
    have hb0 : AtS m k a ((idsOf m.ss).take (a + 1)) m.ss[a].bs := ⟨hok', hbl, rfl, by rw [List.length_take, hsl]; omega, ha, rfl⟩
    have hid := ids_at m.ss a ha
    have hBl : m.ss[a].bs.length = k := (hM'.zl _ (List.getElem_mem ha)).trans hbl
    have hal : a < (idsOf m.ss).length := by omega
    refine loopE 1329227837328590844375131873196507200 (by kernel_rfl) (fun r G2 H2 => ∃ (j : Nat) (v : AV) (xs : List AV), j ≤ k /\ r = k - j /\ G2.get 18 = some (.int .i64 (j : Int)) /\ G2.get 17 = some v /\ Acc EE H' H2 32 1 v xs /\ xs.length = j /\ ∀ i x, xs[i]? = some x -> BV x (m.ss[a].bs.getD i [])) k ⟨0, .nils, [], Nat.zero_le _, (Nat.sub_zero _).symm, (by simp (disch := (refine ofP ?_; first | assumption | decide | omega | (simp only [new_next, set_next] <;> omega) | with_unfolding_all exact ofR rfl | with_unfolding_all exact ofNt rfl)) only [go_sem]; first | done | rfl), (by simp (disch := (refine ofP ?_; first | assumption | decide | omega | (simp only [new_next, set_next] <;> omega) | with_unfolding_all exact ofR rfl | with_unfolding_all exact ofNt rfl)) only [go_sem]; first | done | rfl), Acc.nil ty32s (by decide) ty32g, rfl, fun i x h => (by cases h)⟩ ?_
    rintro r G2 H2 hG2 ⟨j, v, xs, hj, rfl, g18, g17, hacc, hxl, hxs⟩
    by_cases hjk : j < k
    ·
     have hjk' : (j : Int) < (k : Int) := by omega
     simp (disch := (refine ofP ?_; first | assumption | decide | omega | (simp only [new_next, set_next] <;> omega) | with_unfolding_all exact ofR rfl | with_unfolding_all exact ofNt rfl)) only [go_sem, g18, g17, hG2, hG, hjk', ia_lst_map, hal, hid]
     refine do12x (x := ⟨9, (j : Nat), 0, m.ss[a].id, 0, []⟩) (dv := .nils) (hM'.keep hacc.fr) hok' rfl (fun h => absurd h (show ¬ ((9 : Int) = 2 ∨ (9 : Int) = 11) by decide)) (by show 0 ≤ _; decide) fun w H5 F5 hv hM5 u5 hf5 => ?_
     have es : stepS m ⟨9, (j : Nat), 0, m.ss[a].id, 0, []⟩ = ((m.ss[a].bs.getD j [], 0, 0), m) := by
      show (peekS m m.ss[a].id (j : Nat), m) = _
      rw [peek_at hok' ha (by omega)]
     rw [es] at hv
     obtain ⟨b, rfl, hb⟩ := hv
     have hb1 : oneC b = true := by rcases hb with rfl | ⟨rfl, _⟩ <;> rfl
     have hacc5 := hacc.keep (hf5 (.inr (.inl rfl))).1
     have hlen : xs.length < 1048576 := by omega
     have hp := hacc5.push hlen [b] rfl (by rw [flatL_cons', hb1]; rfl)
     have hq := hacc5.pushed hlen b (oneC_cells hb1) rfl (by rw [flatL_cons', hb1]; rfl)
     simp (disch := (refine ofP ?_; first | assumption | decide | omega | (simp only [new_next, set_next] <;> omega) | with_unfolding_all exact ofR rfl | with_unfolding_all exact ofNt rfl)) only [go_sem, g18, g17, hG2, hG, hb1, oneC_cells hb1, fpStep_1 (oneC_cells hb1), hp, show ((m.ss[a].bs.getD j [], 0, 0) : Out).2.2 = 0 from rfl, show ((m.ss[a].bs.getD j [], 0, 0) : Out).2.1 = 0 from rfl]
     refine ⟨_, by omega, j + 1, _, xs ++ [b], by omega, rfl, ?_, rfl, hq, ?_, fun i x hx => ?_⟩
     ·
      rw [wrap_i64 (by omega) (by omega)]; rfl
     ·
      rw [List.length_append, hxl]; rfl
     ·
      by_cases hij : i < xs.length
      ·
       rw [List.getElem?_append_left hij] at hx
       exact hxs i x hx
      ·
       rw [List.getElem?_append_right (by omega)] at hx
       have h0 : i - xs.length = 0 := by
        by_cases h : i - xs.length = 0
        ·
         exact h
        ·
         rw [List.getElem?_eq_none (by show 1 ≤ _; omega)] at hx; cases hx
       rw [h0] at hx
       cases hx
       rw [show i = j by omega]; exact hb
    ·
     have hjk' : ¬ (j : Int) < (k : Int) := by omega
     obtain rfl : j = k := by omega
     simp (disch := (refine ofP ?_; first | assumption | decide | omega | (simp only [new_next, set_next] <;> omega) | with_unfolding_all exact ofR rfl | with_unfolding_all exact ofNt rfl)) only [go_sem, g18, g17, hG2, hG, hjk']
     have hM2 := hM'.keep hacc.fr
     have hvn : v ≠ .nils /\ H'.next ≤ sB v /\ sB v < H2.next := by
      rcases hacc.own.2 with ⟨_, h0⟩ | ⟨b, x, hge, hlt', hv, _⟩
      ·
       omega
      ·
       rw [hv]; exact ⟨(fun h => (by cases h)), hge, hlt'⟩
     have hF0 : ¬ F (sB v) := fun h => by have := hM'.fo h; omega
     refine loopE 374144419156709817832147532259495549224858714898496 (by kernel_rfl) (fun r G4 H4 => ∃ (t : Nat) (m4 : MS) (F4 : Nat -> Prop), t ≤ 2 /\ r = 2 - t /\ G4.get 22 = some (.int .i64 (t : Int)) /\ MOK H4 (noHp.next + 1) m4 F4 /\ AtS m4 j a ((idsOf m.ss).take (a + 1)) m.ss[a].bs /\ ¬ F4 (sB v) /\ sB v < H4.next /\ H4.m.get (sB v) = H2.m.get (sB v)) 2 ⟨0, m, F, by decide, (Nat.sub_zero _).symm, (by simp (disch := (refine ofP ?_; first | assumption | decide | omega | (simp only [new_next, set_next] <;> omega) | with_unfolding_all exact ofR rfl | with_unfolding_all exact ofNt rfl)) only [go_sem]; first | done | rfl), hM2, hb0, hF0, hvn.2.2, rfl⟩ ?_
     rintro r G4 H4 hG4 ⟨t, m4, F4, ht, rfl, g22, hM4, hA4, hF4, hlt4, hget4⟩
     by_cases ht2 : t < 2
     ·
      have ht2' : (t : Int) < 2 := by omega
      have hidE : (m4.ss[a]'hA4.2.2.2.2.1).id = m.ss[a].id := Option.some.inj (hA4.id.symm.trans hb0.id)
      simp (disch := (refine ofP ?_; first | assumption | decide | omega | (simp only [new_next, set_next] <;> omega) | with_unfolding_all exact ofR rfl | with_unfolding_all exact ofNt rfl)) only [go_sem, g22, hG4, hG2, hG, ht2', ia_lst_map, hal, hid]
      refine do12 (x := ⟨7, 0, 0, m.ss[a].id, 0, []⟩) (dv := .nils) hM4 hA4.1 rfl (fun h => absurd h (show ¬ ((7 : Int) = 2 ∨ (7 : Int) = 11) by decide)) (by show 0 ≤ _; decide) fun w H5 F5 hv hM5 u5 => ?_
      have es : stepS m4 ⟨7, 0, 0, m.ss[a].id, 0, []⟩ = rollStep m4 (m4.ss[a]'hA4.2.2.2.2.1).id := by rw [hidE]; rfl
      obtain ⟨r1, r2, r3, r4⟩ := hA4.roll hM4.zl
      rw [es] at hv hM5
      rw [r1] at hv
      generalize (rollStep m4 (m4.ss[a]'hA4.2.2.2.2.1).id).2 = m5 at hM5 r2 r3 r4
      obtain ⟨b, rfl, hb⟩ := hv
      have hwa : wrapI .i64 ((a : Int) + 1) = ((a + 1 : Nat) : Int) := by have := hM'.few; rw [wrap_i64 (by omega) (by omega)]; rfl
      have hcut := sl_lst_hi (E := EE) (e := 3) (sz := 1) (l := (idsOf m.ss).map eInt) (a + 1) (by rw [List.length_map]; omega) (k := .i64) ty3s.symm
      rw [<- List.map_take] at hcut
      simp (disch := (refine ofP ?_; first | assumption | decide | omega | (simp only [new_next, set_next] <;> omega) | with_unfolding_all exact ofR rfl | with_unfolding_all exact ofNt rfl)) only [go_sem, show (bad 0).2.2 = 0 from rfl, show (bad 0).2.1 = 0 from rfl, hG4, hG2, hG]
      refine drawE (by kernel_rfl) (by kernel_rfl) ?_
      simp (disch := (refine ofP ?_; decide)) only [go_sem, hG4, hG2, hG]
      refine hM5.ids fun u hu => ?_
      rw [r3] at hu
      simp (disch := (refine ofP ?_; first | assumption | decide | omega | (simp only [new_next, set_next] <;> omega) | with_unfolding_all exact ofR rfl | with_unfolding_all exact ofNt rfl)) only [go_sem, hG4, hG2, hG, hwa, hcut]
      refine ints17 hu (.inl rfl) (by have := hM'.few; rw [List.length_take]; omega) (by have := hM'.few; rw [List.length_take]; omega) ?_
      rw [decide_eq_true rfl]
      simp (disch := (refine ofP ?_; decide)) only [go_sem, hG4, hG2, hG]
      refine hM5.blocks ?_
      rw [r4]
      simp (disch := (refine ofP ?_; decide)) only [go_sem, hG4, hG2, hG, List.length_map, hBl]
      have hne5 : ¬ F5 (sB v) := fun h => (u5.new _ h).elim hF4 (fun h => by omega)
      have hget5 : H5.m.get (sB v) = H2.m.get (sB v) := (u5.old _ hlt4 hF4).trans hget4
      refine loopE 374133001175169499381094850887612857070827803246656 (by kernel_rfl) (fun r G6 H6 => H6 = H5 /\ ∃ q : Nat, q ≤ j /\ r = j - q /\ G6.get 27 = some (.int .i64 (q : Int))) j ⟨rfl, 0, Nat.zero_le _, (Nat.sub_zero _).symm, (by simp (disch := (refine ofP ?_; first | assumption | decide | omega | (simp only [new_next, set_next] <;> omega) | with_unfolding_all exact ofR rfl | with_unfolding_all exact ofNt rfl)) only [go_sem]; first | done | rfl)⟩ ?_
      rintro r G6 H6 hG6 ⟨rfl, q, hq, rfl, g27⟩
      by_cases hqj : q < j
      ·
       have hqj' : (q : Int) < (j : Int) := by omega
       have hqB : q < m.ss[a].bs.length := by omega
       have hqx : q < xs.length := by omega
       have hB64 : (m.ss[a].bs[q]).length = 64 := by
        obtain ⟨zs, bv', sv', hMM, hss, _⟩ := hM'
        have hall : ∀ s ∈ m.ss, ∀ x ∈ s.bs, x.length = 64 := by
         rw [<- hss]
         intro s hs
         obtain ⟨z, hz, rfl⟩ := List.mem_map.1 hs
         exact (hMM.zl z hz).2.2
        exact hall _ (List.getElem_mem ha) _ (List.getElem_mem hqB)
       have hidx : idxAddr (.slice 32) EE v q = some (.ptr (sB v) (sO v + q * 1)) := by rw [hacc.idx hqx, ty32s]
       have hx := hxs q _ (List.getElem?_eq_getElem hqx)
       have hx1 : xs[q].cells[0]? = some xs[q] := by rcases hx with h | ⟨h, _⟩ <;> rw [h] <;> rfl
       have hcell : cellAt H6 (sB v) (sO v + q * 1) = some xs[q] := by
        rw [cellAt_def, hget5, <- cellAt_def, hacc.cell0 hqx, hx1]
       rw [Nat.mul_one] at hidx hcell
       rw [cellAt_def] at hcell
       simp (disch := (refine ofP ?_; first | assumption | decide | omega | (simp only [new_next, set_next] <;> omega) | with_unfolding_all exact ofR rfl | with_unfolding_all exact ofNt rfl)) only [go_sem, g27, g17, hG6, hG4, hG2, hG, hqj']
       refine drawE (by kernel_rfl) (by kernel_rfl) ?_
       simp (disch := (refine ofP ?_; first | assumption | decide | omega | (simp only [new_next, set_next] <;> omega) | with_unfolding_all exact ofR rfl | with_unfolding_all exact ofNt rfl)) only [go_sem, g27, g17, hG6, hG4, hG2, hG, idx_lst64 hqB, ept_all hB64, hidx, hcell]
       refine bytes14 (a := m.ss[a].bs[q]) (b := m.ss[a].bs.getD q []) (.inl rfl) hx ?_
       rw [decide_eq_true (getD_lt hqB).symm]
       simp (disch := (refine ofP ?_; first | assumption | decide | omega | (simp only [new_next, set_next] <;> omega) | with_unfolding_all exact ofR rfl | with_unfolding_all exact ofNt rfl)) only [go_sem, g27, g17, hG6, hG4, hG2, hG]
       refine ⟨_, by omega, q + 1, by omega, rfl, ?_⟩
       rw [wrap_i64 (by omega) (by omega)]; rfl
      ·
       have hqj' : ¬ (q : Int) < (j : Int) := by omega
       simp (disch := (refine ofP ?_; decide)) only [go_sem, g27, hG6, hG4, hG2, hG, hqj', g22]
       refine ⟨_, by omega, t + 1, m5, F5, by omega, rfl, ?_, hM5, r2, hne5, Nat.lt_of_lt_of_le hlt4 u5.nx, hget5⟩
       rw [wrap_i64 (by omega) (by omega)]; rfl
     ·
      have ht2' : ¬ (t : Int) < 2 := by omega
      simp (disch := (refine ofP ?_; first | assumption | decide | omega | (simp only [new_next, set_next] <;> omega) | with_unfolding_all exact ofR rfl | with_unfolding_all exact ofNt rfl)) only [go_sem, g22, hG4, hG2, hG, ht2']
      refine wcall2_true rfl ?_
      simp (disch := (refine ofP ?_; decide)) only [go_sem]
      exact .inl rfl
end
end Go.Ev
namespace Go.Ev
open Go.Proofs Go.RowKit Go.ChangeShapes Go.WideShapes Go.ChangeAt
noncomputable section
set_option maxRecDepth 100000
section
variable {H : Type} {enc : TypeId × Value -> H} {W : World}
theorem c3 : Try.prog.cellsOf 3 = 1 := by kernel_rfl
theorem c5 : Try.prog.cellsOf 5 = 1 := by kernel_rfl
theorem c32 : Try.prog.cellsOf 32 = 1 := by kernel_rfl
theorem c34 : Try.prog.cellsOf 34 = 6 := by kernel_rfl
theorem b5 : Try.prog.bytesOf 5 = 1 := by kernel_rfl
theorem b34 : Try.prog.bytesOf 34 = 64 := by kernel_rfl
noncomputable def hd1 (cs : List AV) : AV := match cs with | [c] => c | _ => .undef
theorem hd1_cells : ∀ cs : List AV, cs.length = 1 -> flatL cs = true -> (hd1 cs).cells = cs
 | [c], _, h => by
  have h : oneC c = true := by
   rw [flatL_cons'] at h
   revert h; cases oneC c <;> intro h <;> first | rfl | cases h
  exact oneC_cells h
@[reducible] noncomputable def TrO (enc : TypeId × Value -> H) (W : World) (fuel : Nat) (t : TypeId) (cs : List Value) := DataW.trod enc Try.prog W 0 (fun _ => true) true fuel t cs
@[reducible] def Wt (t : TypeId) (d : DataW H) : Prop := (d.weights Try.prog t).all (· ≤ reachBytes) = true
theorem el_int {fuel : Nat} {cs : List Value} {x : DataW H × List MemPlace} (h : TrO enc W fuel 3 cs = some x) : ∃ a : Int, cs = [.int .i64 a] := by
 obtain ⟨m, rfl, _, _⟩ := DataW.trod_int Try.underlying3 h
 exact ⟨m, rfl⟩
theorem el_byte {fuel : Nat} {cs : List Value} {x : DataW H × List MemPlace} (h : TrO enc W fuel 5 cs = some x) : ∃ c : UInt8, cs.map (absV W.heap.size) = [eB c] := by
 obtain ⟨m, rfl, _, hw⟩ := DataW.trod_int Try.underlying5 h
 have hm : 0 ≤ m /\ m < 256 := by
  have := hw
  simp [Lit.wf, IntKind.min, IntKind.max, IntKind.signed, IntKind.bits] at this
  omega
 refine ⟨UInt8.ofNat m.toNat, ?_⟩
 show [AV.int .u8 m] = [AV.int .u8 _]
 have : (UInt8.ofNat m.toNat).toNat = m.toNat := by
  simp; omega
 rw [this]
 congr 2; omega
theorem op_bytes {fuel : Nat} {v : Value} {x : DataW H × List MemPlace} (h : TrO enc W fuel 32 [v] = some x) (hw : Wt 32 x.1) : ∃ l : List UInt8, VR false noMp (absH W) (.lst 1 (l.map eB)) (absV W.heap.size v) /\ oneC (absV W.heap.size v) = true /\ conc (idSg W.heap.size) (absV W.heap.size v) = some v /\ l.length ≤ 140737488351232 := by
 obtain ⟨l, _, h1, h2, h3, _, h5⟩ := open_lstQ (eA := eB) (mk := hd1) (Inv := fun _ => True) (Q := fun _ => True) Try.underlying32 c5 (by decide) hd1_cells (fun fuel cs x hl hx _ => by
  obtain ⟨a, ha⟩ := el_byte hx
  exact ⟨a, trivial, by rw [ha]; exact VR.int, by rw [ha]; rfl⟩) h (fun _ _ _ _ _ => trivial)
 refine ⟨l, h1, h2, h3, ?_⟩
 rcases h5 with rfl | ⟨es, rs, hx, hl⟩
 ·
  decide
 ·
  rw [hx] at hw
  have := (wt_slice Try.underlying32 hw).1
  rw [b5, hl, Nat.mul_one] at this
  exact this
theorem el_stp {fuel : Nat} {cs : List Value} {x : DataW H × List MemPlace} (hl : cs.length = 6) (h : TrO enc W fuel 34 cs = some x) (hw : Wt 34 x.1) : ∃ s : Stp, s.data.length ≤ 140737488351232 /\ VR false noMp (absH W) (eStp s) (.agg (cs.map (absV W.heap.size))) /\ flatL (cs.map (absV W.heap.size)) = true := by
 obtain ⟨xs, n, _, hxa, _, hxs, hf⟩ := DataW.trod_struct Try.underlying34 h
 have hxs : xs.length = 6 := hxs
 rw [hxa] at hw
 obtain ⟨v0, v1, v2, v3, v4, v5, rfl⟩ : ∃ a b c d e f, cs = [a, b, c, d, e, f] := by
  match cs, hl with
  | [a, b, c, d, e, f], _ => exact ⟨a, b, c, d, e, f, rfl⟩
 have a0 := hf 0 _ rfl
 have a1 := hf 1 _ rfl
 have a2 := hf 2 _ rfl
 have a3 := hf 3 _ rfl
 have a4 := hf 4 _ rfl
 have a5 := hf 5 _ rfl
 rw [List.getElem?_eq_getElem (by omega)] at a0 a1 a2 a3 a4 a5
 change DataW.trod enc Try.prog W 0 (fun _ => true) true n 3 (List.take (Try.prog.cellsOf 3) [v0, v1, v2, v3, v4, v5]) = _ at a0
 change DataW.trod enc Try.prog W 0 (fun _ => true) true n 3 (List.take (Try.prog.cellsOf 3) [v1, v2, v3, v4, v5]) = _ at a1
 change DataW.trod enc Try.prog W 0 (fun _ => true) true n 3 (List.take (Try.prog.cellsOf 3) [v2, v3, v4, v5]) = _ at a2
 change DataW.trod enc Try.prog W 0 (fun _ => true) true n 3 (List.take (Try.prog.cellsOf 3) [v3, v4, v5]) = _ at a3
 change DataW.trod enc Try.prog W 0 (fun _ => true) true n 3 (List.take (Try.prog.cellsOf 3) [v4, v5]) = _ at a4
 change DataW.trod enc Try.prog W 0 (fun _ => true) true n 32 (List.take (Try.prog.cellsOf 32) [v5]) = _ at a5
 rw [c3] at a0 a1 a2 a3 a4
 rw [c32] at a5
 obtain ⟨m0, e0⟩ := el_int a0
 obtain ⟨m1, e1⟩ := el_int a1
 obtain ⟨m2, e2⟩ := el_int a2
 obtain ⟨m3, e3⟩ := el_int a3
 obtain ⟨m4, e4⟩ := el_int a4
 simp at e0 e1 e2 e3 e4
 subst e0 e1 e2 e3 e4
 have hw5 : Wt 32 (xs[5]'(by omega)).1 := wt_each (wt_struct Try.underlying34 hw) 5 32 _ rfl (by rw [List.getElem?_map, List.getElem?_eq_getElem (by omega)]; rfl)
 obtain ⟨l, r1, o1, _, hle⟩ := op_bytes a5 hw5
 refine ⟨⟨m0, m1, m2, m3, m4, l⟩, hle, VR.agg_mk (VRL.cons.2 ⟨_, _, VR.int, VRL.cons.2 ⟨_, _, VR.int, VRL.cons.2 ⟨_, _, VR.int, VRL.cons.2 ⟨_, _, VR.int, VRL.cons.2 ⟨_, _, VR.int, VRL.cons.2 ⟨_, _, r1, VRL.nil.2 rfl, rfl⟩, rfl⟩, rfl⟩, rfl⟩, rfl⟩, rfl⟩), ?_⟩
 show flatL [_, _, _, _, _, absV W.heap.size v5] = true
 rw [flatL_cons', flatL_cons', flatL_cons', flatL_cons', flatL_cons', flatL_cons', o1]; rfl
theorem op_stps {fuel : Nat} {v : Value} {x : DataW H × List MemPlace} (h : TrO enc W fuel 22 [v] = some x) (hw : Wt 22 x.1) : ∃ l : List Stp, (∀ s ∈ l, s.data.length ≤ 140737488351232) /\ VR false noMp (absH W) (.lst 6 (l.map eStp)) (absV W.heap.size v) /\ conc (idSg W.heap.size) (absV W.heap.size v) = some v /\ l.length < 9223372036854775807 := by
 obtain ⟨l, hI, h1, h2, h3, _, h5⟩ := open_lstQ (eA := eStp) (mk := .agg) (Inv := fun s : Stp => s.data.length ≤ 140737488351232) (Q := Wt 34) Try.underlying22 c34 (by decide) (fun _ _ _ => rfl) (fun fuel cs x hl hx hq => el_stp hl hx hq) h (fun es rs he d hd => by
  rw [he] at hw
  exact (wt_slice Try.underlying22 hw).2 d hd)
 refine ⟨l, hI, h1, h3, ?_⟩
 rcases h5 with rfl | ⟨es, rs, hx, hl⟩
 ·
  decide
 ·
  rw [hx] at hw
  have := (wt_slice Try.underlying22 hw).1
  rw [b34, hl] at this
  have h : l.length * 64 ≤ 140737488351232 := this
  omega
theorem open_steps {v : Value} {d : DataW H} {ps : List MemPlace} (h : DataW.Trod enc Try.prog W 0 (fun _ => true) true 22 v d ps) (hw : Wt 22 d) (hv : ∃ base, Value.okWide Try.prog W .any base 22 v) :
 ∃ l : List Stp, (∀ s ∈ l, s.data.length ≤ 140737488351232) /\ VR false noMp (absH W) (.lst 6 (l.map eStp)) (absV W.heap.size v) /\ conc (idSg W.heap.size) (absV W.heap.size v) = some v /\ l.length < 9223372036854775807 := by
 obtain ⟨base, hv⟩ := hv
 obtain ⟨fuel, h⟩ := h
 rcases ok_slice Try.underlying22 hv with rfl | ⟨b, o, len, cap, rfl, _, _⟩
 ·
  exact op_stps h hw
 ·
  exact op_stps h hw
theorem open_u8 {v : Value} {d : DataW H} {ps : List MemPlace} (h : DataW.Trod enc Try.prog W 0 (fun _ => true) true 5 v d ps) (hv : ∃ base, Value.okWide Try.prog W .any base 5 v) : ∃ c : UInt8, v = .int .u8 c.toNat := by
 obtain ⟨base, hv⟩ := hv
 obtain ⟨n, rfl, _, _, hw⟩ := open_int Try.underlying5 hv h
 have hm : 0 ≤ n /\ n < 256 := by
  simp [Lit.wf, IntKind.min, IntKind.max, IntKind.signed, IntKind.bits] at hw
  omega
 refine ⟨UInt8.ofNat n.toNat, ?_⟩
 have : (UInt8.ofNat n.toNat).toNat = n.toNat := by simp; omega
 rw [this]; congr 1; omega
end
end
end Go.Ev
namespace Go.Proofs.Ytajekleknljggaa.modelRolls
open Go.ChangeShapes Go.WideShapes Go.ChangeAt Go.RowKit Go.Ev
theorem own : ownKnob Try.prog.godebug = none := by kernel_rfl
theorem laidOut : laidOutB Try.prog = true := by kernel_rfl
theorem baseOk : EnvOk (envOf Try.prog) Try.prog := envOk_of (by kernel_rfl) (by kernel_rfl) (Checked.mixed Try.checked)
theorem envOk : EnvOk E1 Try.prog := envV_ok baseOk fun f hf => by
 obtain rfl : f = 9 := by simpa [wk] using hf
 exact ⟨299, wakes29⟩
set_option maxRecDepth 100000 in
theorem lifted (os : Os) (started : os.Started) (H : Type) (enc : TypeId × Value -> H) :
 ReturnsInHanded {} Try.checked os 5 .any (Rows.modelRollsSpec.pre6 enc Try.prog Try.f5 Rows.modelRollsRow.domain false) (Rows.modelRollsSpec.post enc Try.prog Try.f5 false true false false) := by
 refine law_liftedW (C := Try.checked) started own (by kernel_rfl) Try.func5
  (ChangeSpec.witness6 (enc := enc) (C := Try.checked) false ⟨#[], #[.int .u8 0, .slice none 0 0, .int .u8 0], []⟩ 12 (by kernel_rfl) (by kernel_rfl) (by kernel_rfl) (by kernel_rfl))
  (tb := 4) (by kernel_rfl) Try.underlying4 laidOut ?_ rfl ?_ ?_
 ·
  intro t ht
  have ht : t = 5 ∨ t = 22 ∨ t = 5 := by simpa [show Try.f5.params = #[5, 22, 5] from rfl] using ht
  rcases ht with rfl | rfl | rfl <;> exact ⟨by kernel_rfl, of_decide_eq_true (by kernel_rfl)⟩
 ·
  intro ds hd
  match ds, hd with
  | [d0, d1, d2], _ => rfl
 ·
  intro W args ds ps hA hval hwt
  have hA : DataW.TrodAll enc Try.prog W 0 (fun _ => true) true [5, 22, 5] args.toList ds ps := hA
  have hwt : (DataW.weightsEach Try.prog [5, 22, 5] ds).all (· ≤ reachBytes) = true := hwt
  obtain ⟨v0, vs0, d0, ds0, p0, q0, hargs, rfl, rfl, h0, r0⟩ := trodAll_cons hA
  obtain ⟨v1, vs1, d1, ds1, p1, q1, rfl, rfl, rfl, h1, r1⟩ := trodAll_cons r0
  obtain ⟨v2, vs2, d2, ds2, p2, q2, rfl, rfl, rfl, h2, r2⟩ := trodAll_cons r1
  obtain ⟨rfl, rfl, rfl⟩ := trodAll_nil r2
  obtain rfl : args = #[v0, v1, v2] := by cases args; simp_all
  obtain ⟨c, rfl⟩ := open_u8 h0 (hval 0 5 v0 rfl rfl)
  obtain ⟨c2, rfl⟩ := open_u8 h2 (hval 2 5 v2 rfl rfl)
  obtain ⟨l, hd, hx, hcx, hl⟩ := open_steps h1 (wt_each hwt 1 22 _ rfl rfl) (hval 1 22 v1 rfl rfl)
  refine calls_of envOk rfl (avs := [.int .u8 c.toNat, absV W.heap.size v1, .int .u8 c2.toNat]) ?_ (top2 (VRL.cons.2 ⟨_, _, VR.int, VRL.cons.2 ⟨_, _, hx, VRL.cons.2 ⟨_, _, VR.int, VRL.nil.2 rfl, rfl⟩, rfl⟩, rfl⟩) (law5 hl hd))
  exact concL_cons.2 ⟨_, _, rfl, concL_cons.2 ⟨_, _, hcx, concL_cons.2 ⟨_, _, rfl, rfl, rfl⟩, rfl⟩, rfl⟩
set_option maxHeartbeats 4000000 in
set_option maxRecDepth 100000 in
theorem closed : joinedFacts Try.pinned.checked.prog 5 Try.f5 Rows.modelRollsSpec Rows.modelRollsRow = true := by
 unfold joinedFacts
 rw [Bool.and_eq_true, Bool.and_eq_true]
 repeat rw [Bool.and_eq_true]
 and_intros
 all_goals (as_aux_lemma => kernel_rfl)
theorem over : Rows.modelRollsRow.holds Try.pinned (OpenSpec.ofChange Rows.modelRollsSpec) :=
 OpenClaim.holds_of_wide 5 Try.f5 rfl rfl rfl rfl rfl rfl rfl ⟨rfl, rfl, rfl, rfl, rfl⟩ rfl rfl rfl rfl rfl (by kernel_rfl) Try.func5 closed
  (of_decide_eq_true (by kernel_rfl)) (by unfold Func.isWrapper; first | (rw [if_pos (by decide +kernel)]; kernel_rfl) | (rw [if_neg (by decide +kernel)]; exact ⟨rfl, rfl⟩))
  (fun os started H enc _ => lifted os started H enc)
/-- The statement. -/
theorem proved : Rows.ModelRollsSaid := over
#print axioms proved
end Go.Proofs.Ytajekleknljggaa.modelRolls
