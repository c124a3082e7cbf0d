/-
  ModelDrops: whatever comes in, the statement is true, and nothing that was there has turned. No conditions.
-/
import Derived.Test.YtajekleknljggaaPE
import Derived.Test.YtajekleknljggaaW29
import Derived.Test.YtajekleknljggaaChecked
import Derived.Test.YtajekleknljggaaRows
import Derived.WalkKit
import Derived.ProofKit
import Derived.OpenShut
import Derived.Eval
set_option linter.unusedVariables false
set_option linter.unusedSimpArgs false
namespace Go.Ev
open Go.Proofs
noncomputable section
set_option maxRecDepth 100000
theorem MOK.zl {H : Hp} {p : Nat} {m : MS} {F : Nat -> Prop} (h : MOK H p m F) : ∀ s ∈ m.ss, s.bs.length = m.bs.length := by
 obtain ⟨zs, bv, sv, hM, hss, _⟩ := h
 intro s hs
 rw [<- hss] at hs
 obtain ⟨z, hz, rfl⟩ := List.mem_map.1 hs
 exact (hM.zl z hz).2.1
theorem rem_n (a b : Nat) (hb : b ≠ 0) : binInt .rem .i64 (a : Int) (.int .i64 (b : Int)) = some (.int .i64 ((a % b : Nat) : Int)) := by
 show (match ieq (b : Int) 0 with | true => none | false => some (AV.int .i64 (Int.tmod (a : Int) (b : Int)))) = _
 have : ieq (b : Int) 0 = false := by rw [ieq_dec]; exact decide_eq_false (by omega)
 rw [this]
 show some (AV.int .i64 (Int.tmod (a : Int) (b : Int))) = _
 rw [<- Int.ofNat_tmod]
end
end Go.Ev
namespace Go.Ev
open Go.Proofs
noncomputable section
set_option maxRecDepth 100000
theorem fn17 : E1.fn 17 = some Try.f17 := by kernel_rfl
theorem fn18 : E1.fn 18 = some Try.f18 := by kernel_rfl
theorem fn40 : E1.fn 40 = some Try.f40 := by kernel_rfl
theorem fn65 : E1.fn 65 = some Try.f65 := by kernel_rfl
def IV (v : AV) (l : List Int) : Prop := v = .lst 1 (l.map eInt) ∨ (v = .nils /\ l = [])
theorem IV.len {v : AV} {l : List Int} (h : IV v l) {ty : TypeId} : lenAV (.slice ty) EE v = some (.int .i64 (l.length : Int)) := by
 rcases h with rfl | ⟨rfl, rfl⟩
 ·
  simp (disch := assumption) only [go_sem, List.length_map]
 ·
  rfl
theorem ints17 {H : Hp} {u v : AV} {a b : List Int} {K : AV -> Hp -> Prop} (hu : IV u a) (hv : IV v b) (ha : a.length < 9223372036854775807) (hb : b.length < 9223372036854775807) (hk : K (.bool (decide (a = b))) H) : Call (.func 17 [] []) [u, v] H K := by
 refine enterE (N := 26) rfl fn17 rfl rfl rfl rfl rfl fun hwf => ?_
 by_cases hl : a.length = b.length
 ·
  have hl' : ((a.length : Nat) : Int) = (b.length : Nat) := by rw [hl]
  simp (disch := (refine ofP ?_; decide)) only [go_sem, hu.len, hv.len, hl]
  refine loopE 67106864 (by kernel_rfl) (fun r G H' => H' = H /\ ∃ i : Nat, i ≤ a.length /\ r = a.length - i /\ G.get 5 = some (.int .i64 (i : Int)) /\ ∀ j, j < i -> a[j]? = b[j]?) a.length ⟨rfl, 0, Nat.zero_le _, (Nat.sub_zero _).symm, (by simp (disch := (refine ofP ?_; first | assumption | decide | omega | (simp only [new_next, set_next] <;> omega) | with_unfolding_all exact ofR rfl | with_unfolding_all exact ofNt rfl)) only [go_sem]; first | done | rfl), fun j h => absurd h (Nat.not_lt_zero _)⟩ ?_
  rintro r G H' hG ⟨rfl, i, hi, rfl, g5, hs⟩
  by_cases hlt : i < a.length
  ·
   have hltb : i < b.length := by omega
   rcases hu with rfl | ⟨rfl, rfl⟩
   ·
    rcases hv with rfl | ⟨rfl, rfl⟩
    ·
     simp (disch := (refine ofP ?_; first | decide | omega)) only [go_sem, g5, hG, List.length_map]
     refine drawE (by kernel_rfl) (by kernel_rfl) ?_
     by_cases he : a[i] = b[i]
     ·
      simp (disch := (refine ofP ?_; first | assumption | decide | omega | (simp only [new_next, set_next] <;> omega) | with_unfolding_all exact ofR rfl | with_unfolding_all exact ofNt rfl)) only [go_sem, g5, hG, List.length_map, ia_lst_map, he]
      refine ⟨_, by omega, i + 1, by omega, rfl, ?_, fun j hj => ?_⟩
      ·
       rw [wrap_i64 (by omega) (by omega)]; rfl
      ·
       by_cases hji : j = i
       ·
        subst hji
        rw [List.getElem?_eq_getElem hlt, List.getElem?_eq_getElem hltb, he]
       ·
        exact hs j (by omega)
     ·
      have hne : ¬ a = b := fun h => he (by subst h; rfl)
      simp (disch := (refine ofP ?_; first | assumption | decide | omega | (simp only [new_next, set_next] <;> omega) | with_unfolding_all exact ofR rfl | with_unfolding_all exact ofNt rfl)) only [go_sem, g5, hG, List.length_map, ia_lst_map, he]
      rw [decide_eq_false hne] at hk
      exact .inl hk
    ·
     exact absurd hltb (Nat.not_lt_zero _)
   ·
    exact absurd hlt (Nat.not_lt_zero _)
  ·
   obtain rfl : i = a.length := by omega
   have e : a = b := List.ext_getElem? fun j => by
    by_cases h : j < a.length
    ·
     exact hs j h
    ·
     rw [List.getElem?_eq_none (by omega), List.getElem?_eq_none (by omega)]
   simp (disch := (refine ofP ?_; first | decide | omega)) only [go_sem, g5, hG, hu.len]
   rw [decide_eq_true e] at hk
   exact .inl hk
 ·
  have hl' : ¬ ((a.length : Nat) : Int) = (b.length : Nat) := by omega
  have hne : ¬ a = b := fun h => hl (by rw [h])
  simp (disch := (refine ofP ?_; decide)) only [go_sem, hu.len, hv.len, hl']
  rw [decide_eq_false hne] at hk
  exact .inl hk
theorem values65 {H : Hp} {bb y : Nat} {sv : AV} {zs : List (Shot × AV)} {K : AV -> Hp -> Prop} (I : Nat -> Hp -> Prop) (hb : cellAt H bb 0 = some sv) (hsh : ShAt H sv zs) (hlen : zs.length ≤ 8) (ho : ∀ z ∈ zs, oneC z.2 = true) (h0 : I 0 H) (hfr : ∀ i H', I i H' -> ShAt H' sv zs)
 (hmono : ∀ i H' H'', I i H' -> Fr H' H'' -> I i H'')
 (hs : ∀ i (hi : i < zs.length) H', I i H' -> Call (.yield y) [.agg [.int .i64 zs[i].1.id, .lst 64 (zs[i].1.bs.map eBlk), zs[i].2]] H' fun v H'' => v = .bool true /\ I (i + 1) H'') (hn : ∀ H', I zs.length H' -> K (.tuple []) H') :
 Call (.func 65 [] [.ptr bb 0]) [.yield y] H K := by
 refine enterE (N := 16) rfl fn65 rfl rfl rfl rfl rfl fun hwf => ?_
 simp (disch := (refine ofP ?_; decide)) only [go_sem, hb, hsh.len]
 refine loopE 65424 (by kernel_rfl) (fun r G H' => ∃ i : Nat, i ≤ zs.length /\ r = zs.length - i /\ G.get 7 = some (.int .i64 i) /\ I i H') zs.length ⟨0, Nat.zero_le _, (Nat.sub_zero _).symm, (by simp (disch := (refine ofP ?_; first | assumption | decide | omega | (simp only [new_next, set_next] <;> omega) | with_unfolding_all exact ofR rfl | with_unfolding_all exact ofNt rfl)) only [go_sem]; first | done | rfl), h0⟩ ?_
 rintro r G H' hG ⟨i, hi, rfl, g7, hI⟩
 by_cases hlt : i < zs.length
 ·
  have hz := (hfr i H' hI)
  have ho' := ho _ (List.getElem_mem hlt)
  simp (disch := (refine ofP ?_; first | assumption | decide | omega | (simp only [new_next, set_next] <;> omega) | with_unfolding_all exact ofR rfl | with_unfolding_all exact ofNt rfl)) only [go_sem, g7, hG, hz.idx hlt, hz.cells hlt, ho', oneC_cells ho']
  refine (hs i hlt _ (hmono i H' _ hI ((Fr.alloc _ _).set (Nat.le_refl _) _))).mono ?_
  rintro v H'' ⟨rfl, hI'⟩
  simp (disch := (refine ofP ?_; first | assumption | decide | omega | (simp only [new_next, set_next] <;> omega) | with_unfolding_all exact ofR rfl | with_unfolding_all exact ofNt rfl)) only [go_sem, g7, hG, wrap_i64]
  exact ⟨_, by omega, i + 1, hlt, rfl, rfl, hI'⟩
 ·
  obtain rfl : i = zs.length := by omega
  simp (disch := (refine ofP ?_; first | decide | omega)) only [go_sem, g7, hG]
  exact .inl (hn H' hI)
theorem ids18 {H : Hp} {p : Nat} {bs : List (List UInt8)} {zs : List (Shot × AV)} {next : Int} {bv sv : AV} {K : AV -> Hp -> Prop} (h : MAt H p bs zs next bv sv) (hk : ∀ v, IV v (zs.map fun z => z.1.id) -> K v H) : Call (.func 18 [] []) [.ptr p 0] H K := by
 refine enterE (N := 19) rfl fn18 rfl rfl rfl rfl rfl fun hwf => ?_
 have hpl := h.lt
 have m1 : (newBlk H (.cells [.nils] 48 true true)).2.m.get p = some (.cells [bv, sv, .int .i64 next] 72 true true) := (get_new_n (by omega)).trans h.m
 have hone : ∀ z ∈ zs, oneC z.2 = true := fun z hz => (h.w z hz).one
 simp (disch := (refine ofP ?_; first | assumption | decide | omega | (simp only [new_next, set_next] <;> omega) | with_unfolding_all exact ofR rfl | with_unfolding_all exact ofNt rfl)) only [go_sem, kn h.m, h.m, kn m1]
 refine enterE (N := 4) rfl fn40 rfl rfl rfl rfl rfl fun _ => ?_
 have ho := h.s.one
 simp (disch := (refine ofP ?_; first | assumption | decide | omega | (simp only [new_next, set_next] <;> omega) | with_unfolding_all exact ofR rfl | with_unfolding_all exact ofNt rfl)) only [go_sem, ho, oneC_cells ho]
 left
 simp (disch := (refine ofP ?_; decide)) only [go_sem]
 generalize hLB : Blk.loop _ _ _ _ _ _ _ _ _ = LB
 have hLe : notE 3 LB = true := by rw [<- hLB]; rfl
 have f3 : Fr H (newBlk (newBlk (newBlk H (.cells [.nils] 48 true true)).2 (.cells [sv] 70 true true)).2 LB).2 := (((Fr.refl H).newT _).newT _).newT _
 refine values65 (sv := sv) (zs := zs) (fun i H' => ∃ v, Acc EE H H' 3 1 v ((zs.take i).map fun z => eInt z.1.id) /\ H.next + 3 ≤ H'.next /\ H'.m.get H.next = some (.cells [v] 48 true true) /\ H'.m.get (H.next + 1 + 1) = some LB) (by simp (disch := (refine ofP ?_; first | assumption | decide | omega | (simp only [new_next, set_next] <;> omega) | with_unfolding_all exact ofR rfl | with_unfolding_all exact ofNt rfl)) only [go_sem]) (h.s.keep f3) h.k hone ?_ ?_ ?_ ?_ ?_
 ·
  exact ⟨.nils, Acc.nil' f3 ty3s (by decide) ty3g, Nat.le_refl _, by simp (disch := (refine ofP ?_; first | assumption | decide | omega | (simp only [new_next, set_next] <;> omega) | with_unfolding_all exact ofR rfl | with_unfolding_all exact ofNt rfl)) only [go_sem], by simp (disch := (refine ofP ?_; first | assumption | decide | omega | (simp only [new_next, set_next] <;> omega) | with_unfolding_all exact ofR rfl | with_unfolding_all exact ofNt rfl)) only [go_sem]⟩
 ·
  rintro i H' ⟨v, ha, _⟩
  exact h.s.keep ha.fr
 ·
  rintro i H' H'' ⟨v, ha, hn, g0, g2⟩ hf
  exact ⟨v, ha.keep hf, Nat.le_trans hn hf.1, (hf.2 _ (by omega)).trans g0, (hf.2 _ (by omega)).trans g2⟩
 ·
  rintro i hi H' ⟨v, ha, hn, g0, g2⟩
  have ho' := hone _ (List.getElem_mem hi)
  have fb : Fr H' (setBlk (newBlk H' (.cells [.int .i64 0, .nils, .nils] 95 true true)).2 H'.next (.cells [.int .i64 zs[i].1.id, .lst 64 (zs[i].1.bs.map eBlk), zs[i].2] 95 true true)) := (Fr.alloc _ _).set (Nat.le_refl _) _
  have gb : (setBlk (newBlk H' (.cells [.int .i64 0, .nils, .nils] 95 true true)).2 H'.next (.cells [.int .i64 zs[i].1.id, .lst 64 (zs[i].1.bs.map eBlk), zs[i].2] 95 true true)).m.get H'.next = some (.cells [.int .i64 zs[i].1.id, .lst 64 (zs[i].1.bs.map eBlk), zs[i].2] 95 true true) := get_set_s
  have nb : (setBlk (newBlk H' (.cells [.int .i64 0, .nils, .nils] 95 true true)).2 H'.next (.cells [.int .i64 zs[i].1.id, .lst 64 (zs[i].1.bs.map eBlk), zs[i].2] 95 true true)).next = H'.next + 1 := rfl
  have g0' := (fb.2 _ (show H.next < H'.next by omega)).trans g0
  have g2' := (fb.2 _ (show H.next + 1 + 1 < H'.next by omega)).trans g2
  have ha' := ha.keep fb
  have hlen : ((zs.take i).map fun z => eInt z.1.id).length < 1048576 := by rw [List.length_map, List.length_take]; have := h.k; omega
  have hA := fun z => (ha'.other (z := z) g2' hLe (by omega)).push hlen
  have hP := fun z => (ha'.other (z := z) g2' hLe (by omega)).push_get hlen (new := [.int .i64 zs[i].1.id]) rfl rfl
  have hn1 := fun z => (hP z).1
  have hg2 := fun z (hz : notE 3 z = true) => (hP z).2 (H.next + 1 + 1) z (get_set_q rfl) hz (show H.next + 2 < H'.next + 1 by omega)
  have hg0 := fun z => (hP z).2 H.next _ ((get_set_n (by omega)).trans g0') rfl (show H.next < H'.next + 1 by omega)
  have hQ := fun z => (ha'.other (z := z) g2' hLe (by omega)).pushed hlen (eInt zs[i].1.id) rfl rfl rfl
  subst hLB
  refine yieldE g2 ?_
  simp (disch := (refine ofP ?_; first | decide | omega | (simp only [new_next, set_next] <;> omega) | with_unfolding_all exact ofR rfl | with_unfolding_all exact ofNt rfl)) only [go_sem, kn g0, g2, ho', hA, hg2, hg0]
  have e : (zs.take (i + 1)).map (fun z => eInt z.1.id) = (zs.take i).map (fun z => eInt z.1.id) ++ [eInt zs[i].1.id] := by
   rw [List.take_add_one, List.getElem?_eq_getElem hi, List.map_append]; rfl
  refine ⟨_, ?_, ?_, rfl⟩
  ·
   rw [e]
   exact ((hQ _).other (hg0 _) rfl (Nat.le_refl _)).other ((get_set_n (by omega)).trans (hg2 _ rfl)) rfl (by omega)
  ·
   show _ ≤ (puH _ _ _ _ _).next
   rw [hn1]
   show H.next + 3 ≤ H'.next + 1 + 2
   omega
 ·
  rintro H' ⟨v, ha, hn, g0, g2⟩
  subst hLB
  simp (disch := (refine ofP ?_; first | decide | omega)) only [go_sem, kn g0, g2]
  have e : zs.take zs.length = zs := List.take_length
  rw [e] at ha
  refine (ha.other g2 hLe (by omega)).out_plain hwf (plain_map fun _ => rfl) (hk _ (.inl ?_))
  rw [List.map_map]; rfl
end
end Go.Ev
namespace Go.Ev
open Go.Proofs
noncomputable section
set_option maxRecDepth 100000
theorem ids_at (ss : List Shot) (i : Nat) (hi : i < ss.length) : (idsOf ss)[i]'(by unfold idsOf; rw [List.length_map]; exact hi) = ss[i].id := by
 unfold idsOf; rw [List.getElem_map]
theorem MOK.ids {H : Hp} {p : Nat} {m : MS} {F : Nat -> Prop} {K : AV -> Hp -> Prop} (h : MOK H p m F) (hk : ∀ v, IV v (idsOf m.ss) -> K v H) : Call (.func 18 [] []) [.ptr p 0] H K := by
 obtain ⟨zs, bv, sv, hM, hss, _⟩ := h
 refine ids18 hM fun v hv => hk v ?_
 have e : (zs.map fun z => z.1.id) = idsOf m.ss := by rw [<- hss]; unfold idsOf; rw [List.map_map]; rfl
 rw [<- e]; exact hv
theorem MOK.blocks {H : Hp} {p : Nat} {m : MS} {F : Nat -> Prop} {K : AV -> Hp -> Prop} (h : MOK H p m F) (hk : K (.lst 64 (m.bs.map eBlk)) H) : Call (.func 16 [] []) [.ptr p 0] H K := by
 obtain ⟨zs, bv, sv, hM, hss, _⟩ := h
 exact blocks16 hM hk
theorem MOK.bl {H : Hp} {p : Nat} {m : MS} {F : Nat -> Prop} (h : MOK H p m F) : ∀ x ∈ m.bs, x.length = 64 := by
 obtain ⟨zs, bv, sv, hM, hss, _⟩ := h
 exact hM.bl
theorem MOK.fo {H : Hp} {p : Nat} {m : MS} {F : Nat -> Prop} (h : MOK H p m F) {c : Nat} (hc : F c) : c < H.next := by
 obtain ⟨zs, bv, sv, hM, hss, rfl⟩ := h
 exact hM.fo_lt hc
def AtS (m : MS) (n a : Nat) (ids : List Int) (B : List (List UInt8)) : Prop := m.ok /\ m.bs.length = n /\ (idsOf m.ss).take (a + 1) = ids /\ ids.length = a + 1 /\ ∃ h : a < m.ss.length, m.ss[a].bs = B
theorem AtS.id {m : MS} {n a : Nat} {ids : List Int} {B : List (List UInt8)} (h : AtS m n a ids B) : ids[a]? = some (m.ss[a]'h.2.2.2.2.1).id := by
 have key : ∀ ha : a < m.ss.length, ids[a]? = some (m.ss[a]'ha).id := fun ha => by
  have h3 := h.2.2.1
  rw [<- h3, List.getElem?_take, if_pos (Nat.lt_succ_self _), List.getElem?_eq_getElem (by unfold idsOf; rw [List.length_map]; exact ha), ids_at _ _ ha]
 exact key _
end
end Go.Ev
namespace Go.Ev
open Go.Proofs
noncomputable section
set_option maxRecDepth 100000
/-! What an export's records are, block by block. -/
def recL (bs : List (List UInt8)) (l : List Int) : Nat -> List Rec
 | 0 => []
 | k + 1 => recStep (recL bs l k) (!decide (goesOn l k)) (l.getD k 0) (bs.getD (l.getD k 0).toNat [])
theorem recRun_congr (bs : List (List UInt8)) (rs : List Rec) {p q : Int × Int} (h : p.1 = q.1) : ∀ k, recRun bs rs p k = recRun bs rs q k
 | 0 => rfl
 | k + 1 => by
  unfold recRun
  rw [recRun_congr bs rs h k, h]
theorem recAll_congr (bs : List (List UInt8)) {A B : List (Int × Int)} : ∀ k, (∀ i, i < k -> A.getD i (0, 0) = B.getD i (0, 0)) -> recAll bs A k = recAll bs B k
 | 0, _ => rfl
 | k + 1, h => by
  unfold recAll
  rw [recAll_congr bs k (fun i hi => h i (by omega)), h k (by omega)]
theorem recAll_ofN {bs : List (List UInt8)} {n : Nat} {l : List Int} (hl : ∀ x ∈ l, 0 ≤ x /\ x < n) (hn : n ≤ 1000) : ∀ k, k ≤ l.length -> recAll bs (ofN l k) (ofN l k).length = recL bs l k
 | 0, _ => rfl
 | k + 1, hk => by
  have ih := recAll_ofN (bs := bs) hl hn k (by omega)
  obtain ⟨i1, i2⟩ := ofN_in hl hn k (by omega)
  by_cases hg : goesOn l k
  ·
   obtain ⟨g1, g2, g3⟩ := hg
   have hpos : 0 < (ofN l k).length := (ofN_len l k).2 g1
   obtain ⟨m, hm⟩ : ∃ m, (ofN l k).length = m + 1 := ⟨_, (Nat.succ_pred_eq_of_pos hpos).symm⟩
   have hj : m < (ofN l k).length := by omega
   have hlast := i2 ((ofN l k)[m]) (by rw [hm, Nat.add_sub_cancel, List.getElem?_eq_getElem hj])
   have hp := i1 _ (List.getElem_mem hj)
   have hb : bump (ofN l k) = (ofN l k).set m ((ofN l k)[m].1, (ofN l k)[m].2 + 1) := by unfold bump; rw [hm, Nat.add_sub_cancel, getD_lt hj]
   unfold recL
   rw [ofN_t ⟨g1, g2, g3⟩, hb, List.length_set, hm, <- ih, hm, decide_eq_true (show goesOn l k from ⟨g1, g2, g3⟩)]
   unfold recAll
   rw [recAll_congr (A := (ofN l k).set m ((ofN l k)[m].1, (ofN l k)[m].2 + 1)) (B := ofN l k) bs m (fun i hi => by rw [List.getD_eq_getElem?_getD, List.getElem?_set_ne (by omega), <- List.getD_eq_getElem?_getD]), getD_lt (show m < ((ofN l k).set m ((ofN l k)[m].1, (ofN l k)[m].2 + 1)).length by rw [List.length_set]; exact hj), List.getElem_set_self, getD_lt hj]
   generalize (ofN l k)[m] = q at hlast hp
   generalize recAll bs (ofN l k) m = rs
   have e2 : (q.2 + 1).toNat = q.2.toNat + 1 := by omega
   show recRun bs rs (q.1, q.2 + 1) (q.2 + 1).toNat = _
   rw [e2]
   show recStep (recRun bs rs (q.1, q.2 + 1) q.2.toNat) (decide (q.2.toNat = 0)) (q.1 + q.2.toNat) (bs.getD (q.1.toNat + q.2.toNat) []) = _
   rw [recRun_congr bs rs (p := (q.1, q.2 + 1)) (q := q) rfl, decide_eq_false (show ¬ q.2.toNat = 0 by omega)]
   have e3 : q.1 + (q.2.toNat : Int) = l.getD k 0 := by rw [g3]; omega
   have e4 : q.1.toNat + q.2.toNat = (l.getD k 0).toNat := by omega
   rw [e3, e4]; rfl
  ·
   unfold recL
   rw [ofN_f hg, List.length_append, List.length_singleton, <- ih, decide_eq_false hg]
   unfold recAll
   rw [recAll_congr (A := ofN l k ++ [(l.getD k 0, 1)]) (B := ofN l k) bs (ofN l k).length (fun i hi => by rw [List.getD_eq_getElem?_getD, List.getElem?_append_left hi, <- List.getD_eq_getElem?_getD])]
   have e : (ofN l k ++ [(l.getD k 0, (1 : Int))]).getD (ofN l k).length (0, 0) = (l.getD k 0, 1) := by
    rw [List.getD_eq_getElem?_getD, List.getElem?_append_right (Nat.le_refl _), Nat.sub_self]; rfl
   rw [e]
   have e5 : ∀ A : List Rec, recRun bs A (l.getD k 0, 1) 1 = recStep A (!false) (l.getD k 0) (bs.getD (l.getD k 0).toNat []) := fun A => by
    show recStep A true (l.getD k 0 + (0 : Nat)) (bs.getD ((l.getD k 0).toNat + 0) []) = _
    rw [Nat.add_zero, show l.getD k 0 + ((0 : Nat) : Int) = l.getD k 0 by omega]; rfl
   cases h0 : (ofN l k).length with
   | zero => exact e5 _
   | succ m => exact e5 _
theorem chunk_last {d x : List UInt8} {c : Nat} (hd : d.length = c * 64) (hx : x.length = 64) : chunkN (d ++ x) c = x := by
 unfold chunkN
 rw [show 64 * c = d.length by omega, List.drop_left, List.take_of_length_le (by omega)]
theorem chunk_old {d x : List UInt8} {c k : Nat} (hd : d.length = c * 64) (hk : k < c) : chunkN (d ++ x) k = chunkN d k := by
 unfold chunkN
 rw [List.drop_append_of_le_length (by omega), List.take_append_of_le_length (by rw [List.length_drop]; omega)]
theorem dataOk_one {x : List UInt8} (hx : x.length = 64) : dataOk 1 (zeros x) (if zeros x then [] else x) = true := by
 unfold dataOk
 cases h : zeros x with
 | true => rfl
 | false =>
  show (decide ((x.length : Int) = 1 * 64) && (List.range (x.length / 64)).all fun k => !(zeros (chunkN x k))) = true
  rw [hx, decide_eq_true (by decide), Bool.true_and]
  refine List.all_eq_true.2 fun k hk => ?_
  have hk0 : k = 0 := by have := List.mem_range.1 hk; omega
  subst hk0
  have e : chunkN x 0 = x := by unfold chunkN; rw [Nat.mul_zero, List.drop_zero, List.take_of_length_le (by omega)]
  show (!zeros (chunkN x 0)) = true
  rw [e, h]; rfl
theorem dataOk_more {c : Int} {z : Bool} {d x : List UInt8} (hc : 1 ≤ c) (h : dataOk c z d = true) (hz : zeros x = z) (hx : x.length = 64) : dataOk (c + 1) z (d ++ (if zeros x then [] else x)) = true := by
 unfold dataOk at h ⊢
 rw [hz]
 cases z with
 | true =>
  have h : d.isEmpty = true := h
  have : d = [] := List.isEmpty_iff.1 h
  subst this; rfl
 | false =>
  have h : (decide ((d.length : Int) = c * 64) && (List.range (d.length / 64)).all fun k => !(zeros (chunkN d k))) = true := h
  rw [Bool.and_eq_true, decide_eq_true_eq] at h
  obtain ⟨hl, ha⟩ := h
  obtain ⟨m, rfl⟩ := Int.eq_ofNat_of_zero_le (show 0 ≤ c by omega)
  have hl : d.length = m * 64 := by omega
  show (decide (((d ++ x).length : Int) = ((m : Int) + 1) * 64) && (List.range ((d ++ x).length / 64)).all fun k => !(zeros (chunkN (d ++ x) k))) = true
  rw [List.length_append, hl, hx, decide_eq_true (by omega), Bool.true_and]
  refine List.all_eq_true.2 fun k hk => ?_
  have hk := List.mem_range.1 hk
  by_cases hkm : k < m
  ·
   rw [chunk_old hl hkm]
   exact List.all_eq_true.1 ha k (List.mem_range.2 (by omega))
  ·
   have hkm : k = m := by omega
   subst hkm
   rw [chunk_last hl hx, hz]; rfl
structure RG (bs : List (List UInt8)) (l : List Int) (n k : Nat) (rs : List Rec) : Prop where
 el : ∀ r ∈ rs, 1 ≤ r.cnt /\ 0 ≤ r.fr /\ r.fr + r.cnt ≤ n /\ dataOk r.cnt r.zs r.data = true /\ (r.zs = true -> r.data = [])
 be : ∀ i (h : i + 1 < rs.length), behindOk rs[i + 1] rs[i] = true
 la : ∀ r, rs[rs.length - 1]? = some r -> 0 < k /\ r.fr + r.cnt = l.getD (k - 1) 0 + 1
 me : ∀ b : Int, (∃ r ∈ rs, r.fr ≤ b /\ b < r.fr + r.cnt) ↔ b ∈ l.take k
 ze : ∀ r ∈ rs, r.zs = true -> ∃ b ∈ l, zeros (bs.getD b.toNat []) = true
theorem recL_ok {bs : List (List UInt8)} {n : Nat} {l : List Int} (hl : ∀ x ∈ l, 0 ≤ x /\ x < n) (hn : n ≤ 1000) (hb : bs.length = n) (h64 : ∀ x ∈ bs, x.length = 64) (hr : l.Pairwise (· < ·)) : ∀ k, k ≤ l.length -> RG bs l n k (recL bs l k)
 | 0, _ => ⟨fun r hr => (by cases hr), fun i h => absurd h (Nat.not_lt_zero _), fun r h => (by cases h), fun b => ⟨fun ⟨r, hr, _⟩ => (by cases hr), fun h => (by rw [List.take_zero] at h; cases h)⟩, fun r hr => (by cases hr)⟩
 | k + 1, hk => by
  have ih := recL_ok hl hn hb h64 hr k (by omega)
  have hlt : k < l.length := by omega
  have hx := hl _ (List.getElem_mem hlt)
  have e0 : l.getD k 0 = l[k] := getD_lt hlt
  have htk : l.take (k + 1) = l.take k ++ [l[k]] := by rw [List.take_add_one, List.getElem?_eq_getElem hlt]; rfl
  unfold recL
  rw [e0]
  generalize recL bs l k = rs at ih
  have hbl : l[k].toNat < bs.length := by omega
  have hx64 : (bs.getD l[k].toNat []).length = 64 := by rw [getD_lt hbl]; exact h64 _ (List.getElem_mem hbl)
  have hzx : zeros (bs.getD l[k].toNat []) = true -> ∃ b ∈ l, zeros (bs.getD b.toNat []) = true := fun h => ⟨l[k], List.getElem_mem hlt, h⟩
  generalize bs.getD l[k].toNat [] = x at hx64 hzx
  have new : (∀ r, rs[rs.length - 1]? = some r -> behindOk ⟨l[k], 1, zeros x, if zeros x then [] else x⟩ r = true) -> RG bs l n (k + 1) (rs ++ [⟨l[k], 1, zeros x, if zeros x then [] else x⟩]) := fun hbe => by
   refine ⟨fun r hr => ?_, fun i h => ?_, fun r h => ?_, fun b => ?_, fun r hr hz => ?_⟩
   ·
    rcases List.mem_append.1 hr with hr | hr
    ·
     exact ih.el r hr
    ·
     rw [List.mem_singleton] at hr
     subst hr
     exact ⟨by show (1 : Int) ≤ 1; decide, hx.1, by show l[k] + 1 ≤ n; omega, dataOk_one hx64, fun h => by
      have h : zeros x = true := h
      show (if zeros x then [] else x) = []
      rw [h]; rfl⟩
   ·
    rw [List.length_append, List.length_singleton] at h
    by_cases hi : i + 1 < rs.length
    ·
     rw [List.getElem_append_left hi, List.getElem_append_left (by omega)]
     exact ih.be i hi
    ·
     have hi1 : i + 1 = rs.length := by omega
     rw [List.getElem_append_left (show i < rs.length by omega), List.getElem_append_right (by omega)]
     simp only [hi1, Nat.sub_self, List.getElem_cons_zero]
     exact hbe _ (by rw [show rs.length - 1 = i by omega, List.getElem?_eq_getElem (by omega)])
   ·
    rw [List.length_append, List.length_singleton, Nat.add_sub_cancel, List.getElem?_append_right (Nat.le_refl _), Nat.sub_self] at h
    cases h
    exact ⟨by omega, by rw [Nat.add_sub_cancel, e0]⟩
   ·
    rw [htk, List.mem_append, List.mem_singleton, <- ih.me b]
    constructor
    ·
     rintro ⟨r, hr, h1, h2⟩
     rcases List.mem_append.1 hr with hr | hr
     ·
      exact .inl ⟨r, hr, h1, h2⟩
     ·
      rw [List.mem_singleton] at hr
      subst hr
      have h1 : l[k] ≤ b := h1
      have h2 : b < l[k] + 1 := h2
      exact .inr (by omega)
    ·
     rintro (⟨r, hr, h1, h2⟩ | rfl)
     ·
      exact ⟨r, List.mem_append_left _ hr, h1, h2⟩
     ·
      exact ⟨_, List.mem_append_right _ (List.mem_singleton_self _), by show l[k] ≤ l[k]; omega, by show l[k] < l[k] + 1; omega⟩
   ·
    rcases List.mem_append.1 hr with hr | hr
    ·
     exact ih.ze r hr hz
    ·
     rw [List.mem_singleton] at hr
     subst hr
     exact hzx hz
  unfold recStep
  cases hlr : rs[rs.length - 1]? with
  | none => exact new fun r h => by rw [hlr] at h; cases h
  | some r =>
   obtain ⟨k0, hend⟩ := ih.la r hlr
   have hj : rs.length - 1 < rs.length := (List.getElem?_eq_some_iff.1 hlr).1
   have hrj : rs[rs.length - 1] = r := (List.getElem?_eq_some_iff.1 hlr).2
   have hrm : r ∈ rs := List.mem_of_getElem? hlr
   have hel := ih.el r hrm
   have ek : l.getD (k - 1) 0 = l[k - 1] := getD_lt (by omega)
   rw [ek] at hend
   have hrise : l[k - 1] < l[k] := List.pairwise_iff_getElem.1 hr (k - 1) k (by omega) hlt (by omega)
   have hgo : goesOn l k ↔ l[k] = l[k - 1] + 1 := by
    unfold goesOn
    rw [ek, e0]
    exact ⟨fun h => h.2.2, fun h => ⟨k0, by omega, h⟩⟩
   show RG bs l n (k + 1) (if (!(!decide (goesOn l k)) && (r.zs == zeros x)) = true then rs.set (rs.length - 1) { r with cnt := r.cnt + 1, data := r.data ++ (if zeros x then [] else x) } else rs ++ [⟨l[k], 1, zeros x, if zeros x then [] else x⟩])
   rw [Bool.not_not]
   by_cases hc : (decide (goesOn l k) && (r.zs == zeros x)) = true
   ·
    rw [if_pos hc]
    rw [Bool.and_eq_true, decide_eq_true_eq] at hc
    obtain ⟨hg, hz⟩ := hc
    have hz : zeros x = r.zs := (eq_of_beq hz).symm
    have hg := hgo.1 hg
    refine ⟨fun q hq => ?_, fun i h => ?_, fun q h => ?_, fun b => ?_, fun q hq hzq => ?_⟩
    ·
     rcases List.mem_or_eq_of_mem_set hq with hq | rfl
     ·
      exact ih.el q hq
     ·
      exact ⟨by show 1 ≤ r.cnt + 1; omega, hel.2.1, by show r.fr + (r.cnt + 1) ≤ n; omega, dataOk_more hel.1 hel.2.2.2.1 hz hx64, fun h => by
       show r.data ++ (if zeros x then [] else x) = []
       rw [hz, show r.zs = true from h, hel.2.2.2.2 h]; rfl⟩
    ·
     rw [List.length_set] at h
     have hb0 := ih.be i h
     by_cases hi : i + 1 = rs.length - 1
     ·
      have e1 : (rs.set (rs.length - 1) { r with cnt := r.cnt + 1, data := r.data ++ (if zeros x then [] else x) })[i + 1]'(by rw [List.length_set]; exact h) = { r with cnt := r.cnt + 1, data := r.data ++ (if zeros x then [] else x) } := by
       simp only [hi, List.getElem_set_self]
      have e3 : rs[i + 1] = r := by simp only [hi]; exact hrj
      rw [e1, List.getElem_set_ne (by omega)]
      rw [e3] at hb0
      exact hb0
     ·
      rw [List.getElem_set_ne (by omega), List.getElem_set_ne (by omega)]
      exact hb0
    ·
     rw [List.length_set, List.getElem?_set_self hj] at h
     cases h
     exact ⟨by omega, by show r.fr + (r.cnt + 1) = _; rw [Nat.add_sub_cancel, e0]; omega⟩
    ·
     rw [htk, List.mem_append, List.mem_singleton, <- ih.me b]
     constructor
     ·
      rintro ⟨q, hq, h1, h2⟩
      rcases List.mem_or_eq_of_mem_set hq with hq | rfl
      ·
       exact .inl ⟨q, hq, h1, h2⟩
      ·
       have h1 : r.fr ≤ b := h1
       have h2 : b < r.fr + (r.cnt + 1) := h2
       by_cases hbk : b < r.fr + r.cnt
       ·
        exact .inl ⟨r, hrm, h1, hbk⟩
       ·
        exact .inr (by omega)
     ·
      have hnew : { r with cnt := r.cnt + 1, data := r.data ++ (if zeros x then [] else x) } ∈ rs.set (rs.length - 1) { r with cnt := r.cnt + 1, data := r.data ++ (if zeros x then [] else x) } := List.mem_set hj _
      rintro (⟨q, hq, h1, h2⟩ | rfl)
      ·
       obtain ⟨i, hi, rfl⟩ := List.getElem_of_mem hq
       by_cases hil : i = rs.length - 1
       ·
        have e : rs[i] = r := by simp only [hil]; exact hrj
        rw [e] at h1 h2
        exact ⟨_, hnew, h1, by show b < r.fr + (r.cnt + 1); omega⟩
       ·
        refine ⟨rs[i], ?_, h1, h2⟩
        rw [List.mem_iff_getElem?]
        exact ⟨i, by rw [List.getElem?_set_ne (by omega), List.getElem?_eq_getElem hi]⟩
      ·
       exact ⟨_, hnew, by show r.fr ≤ l[k]; omega, by show l[k] < r.fr + (r.cnt + 1); omega⟩
    ·
     rcases List.mem_or_eq_of_mem_set hq with hq | rfl
     ·
      exact ih.ze q hq hzq
     ·
      exact ih.ze r hrm hzq
   ·
    rw [if_neg hc]
    refine new fun q hq => ?_
    rw [hlr] at hq
    cases hq
    unfold behindOk
    show (decide (r.fr + r.cnt < l[k]) || (decide (l[k] = r.fr + r.cnt) && (zeros x != r.zs))) = true
    by_cases h1 : r.fr + r.cnt < l[k]
    ·
     rw [decide_eq_true h1]; rfl
    ·
     have h2 : l[k] = r.fr + r.cnt := by omega
     have hg : goesOn l k := hgo.2 (by omega)
     rw [decide_eq_true hg, Bool.true_and] at hc
     rw [decide_eq_true h2]
     cases hz1 : zeros x <;> cases hz2 : r.zs <;> rw [hz1, hz2] at hc <;> first | (exfalso; exact hc rfl) | rw [Bool.or_comm]; rfl
end
end Go.Ev
namespace Go.Ev
open Go.Proofs
noncomputable section
set_option maxRecDepth 100000
/-! What is encoded is read back. -/
theorem leNum_le (n k : Nat) : leNum (leBytes n k) = n % 256 ^ k := by
 induction k generalizing n with
 | zero => rw [Nat.pow_zero, Nat.mod_one]; rfl
 | succ k ih =>
  show (UInt8.ofNat n).toNat + 256 * leNum (leBytes (n / 256) k) = _
  rw [ih, Nat.pow_succ', Nat.mod_mul]
  have : (UInt8.ofNat n).toNat = n % 256 := by simp
  rw [this]
theorem num_at {w a b : List UInt8} {p n : Nat} (h : w.drop p = a ++ b) (hl : a.length = n) : numAt w p n = leNum a := by
 unfold numAt
 rw [h, List.take_left' hl]
theorem drop_on {w a b : List UInt8} {p n : Nat} (h : w.drop p = a ++ b) (hl : a.length = n) : w.drop (p + n) = b := by
 rw [<- List.drop_drop, h, List.drop_left' hl]
theorem goodS_pre {s : Strm} (h : goodS s = true) (k : Nat) : goodS { s with recs := s.recs.take k } = true := by
 unfold goodS at h ⊢
 rw [Bool.and_eq_true] at h ⊢
 refine ⟨h.1, ?_⟩
 have h2 := h.2
 unfold recsOk at h2 ⊢
 refine List.all_eq_true.2 fun i hi => ?_
 have hi := List.mem_range.1 hi
 have hi' : i < s.recs.length := by rw [List.length_take] at hi; omega
 have hik : i < k := by rw [List.length_take] at hi; omega
 have e1 : (s.recs.take k).getD i ⟨0, 0, false, []⟩ = s.recs.getD i ⟨0, 0, false, []⟩ := by
  rw [List.getD_eq_getElem?_getD, List.getElem?_take, if_pos hik, <- List.getD_eq_getElem?_getD]
 have e2 : (s.recs.take k).getD (i - 1) ⟨0, 0, false, []⟩ = s.recs.getD (i - 1) ⟨0, 0, false, []⟩ := by
  rw [List.getD_eq_getElem?_getD, List.getElem?_take, if_pos (by omega), <- List.getD_eq_getElem?_getD]
 show (recOk s.blocks s.base ((s.recs.take k).getD i ⟨0, 0, false, []⟩) && (decide (i = 0) || behindOk ((s.recs.take k).getD i ⟨0, 0, false, []⟩) ((s.recs.take k).getD (i - 1) ⟨0, 0, false, []⟩))) = true
 rw [e1, e2]
 exact List.all_eq_true.1 h2 i (List.mem_range.2 hi')
theorem fnv_le (l : List UInt8) : leNum (leBytes (fnvCheck l) 8) = fnvCheck l := by
 rw [leNum_le]; exact Nat.mod_eq_of_lt (fnvCheck_lt l)
theorem small_le {n : Int} {k : Nat} {m : Nat} (h0 : 0 ≤ n) (h1 : n < m) (hm : m = 256 ^ k) : ((leNum (leBytes n.toNat k) : Nat) : Int) = n := by
 rw [leNum_le, Nat.mod_eq_of_lt (by omega)]; omega
theorem rec_back {w R : List UInt8} {p : Nat} {s : Strm} {r : Rec} (hw : w.drop p = recB r ++ R) (hp : p ≤ w.length) (hb : s.blocks ≤ 64) (hr : recOk s.blocks s.base r = true) (hz : r.zs = true -> r.data = []) (hg : goodS (s.snoc r) = true) :
 recErr w p s = 0 /\ recSize w p = r.data.length /\ recAt w p = r := by
 obtain ⟨r1, r2, r3, r4⟩ := rec_facts hr
 have hd : r.zs = false -> (r.data.length : Int) = r.cnt * 64 := fun h => by
  unfold recOk at hr
  simp only [Bool.not_eq_true', Bool.or_eq_false_iff, Bool.not_eq_false'] at hr
  have h1 : dataOk r.cnt r.zs r.data = true := hr.1.2
  unfold dataOk at h1
  rw [h] at h1
  have h1 : (decide ((r.data.length : Int) = r.cnt * 64) && _) = true := h1
  rw [Bool.and_eq_true, decide_eq_true_eq] at h1
  exact h1.1
 have e : recB r = ([if r.zs then 2 else 1] ++ (leBytes r.fr.toNat 2 ++ (leBytes r.cnt.toNat 2 ++ r.data))) ++ leBytes (fnvCheck ([if r.zs then 2 else 1] ++ (leBytes r.fr.toNat 2 ++ (leBytes r.cnt.toNat 2 ++ r.data)))) 8 := by
  unfold recB withCheck
  rw [List.flatten_cons, List.flatten_cons, List.flatten_cons, List.flatten_cons, List.flatten_nil, List.append_nil]
 generalize hY : [if r.zs then (2 : UInt8) else 1] ++ (leBytes r.fr.toNat 2 ++ (leBytes r.cnt.toNat 2 ++ r.data)) = Y at e
 have hYl : Y.length = 5 + r.data.length := by rw [<- hY]; simp [leBytes_len]; omega
 rw [e, List.append_assoc] at hw
 have hlen : w.length = p + (5 + r.data.length + (8 + R.length)) := by
  have := congrArg List.length hw
  rw [List.length_drop, List.length_append, List.length_append, leBytes_len, hYl] at this
  omega
 have h0 : w.drop p = [if r.zs then (2 : UInt8) else 1] ++ (leBytes r.fr.toNat 2 ++ (leBytes r.cnt.toNat 2 ++ (r.data ++ (leBytes (fnvCheck Y) 8 ++ R)))) := by
  rw [hw, <- hY]; simp only [List.append_assoc]
 have h1 := drop_on (n := 1) h0 rfl
 have h3 := drop_on (n := 2) h1 (leBytes_len _ _)
 have h5 := drop_on (n := 2) h3 (leBytes_len _ _)
 have h9 := drop_on (n := r.data.length) h5 rfl
 have n0 := num_at (n := 1) h0 rfl
 have n1 := num_at (n := 2) h1 (leBytes_len _ _)
 have n3 := num_at (n := 2) h3 (leBytes_len _ _)
 have n9 := num_at (n := 8) h9 (leBytes_len _ _)
 rw [fnv_le] at n9
 have v1 := small_le (n := r.fr) (k := 2) (m := 65536) r2 (by omega) rfl
 have v3 := small_le (n := r.cnt) (k := 2) (m := 65536) (by omega) (by omega) rfl
 rw [<- n1] at v1
 rw [<- n3] at v3
 have v0 : numAt w p 1 = if r.zs then 2 else 1 := by
  rw [n0]
  show (if r.zs then (2 : UInt8) else 1).toNat + 256 * 0 = _
  cases r.zs <;> rfl
 have hsz : recSize w p = r.data.length := by
  unfold recSize
  rw [v0]
  show (if (if r.zs then 2 else 1) = 1 then numAt w (p + 1 + 2) 2 * 64 else 0) = _
  cases hzs : r.zs with
  | true => rw [hz hzs]; rfl
  | false =>
   have := hd hzs
   show numAt w (p + 1 + 2) 2 * 64 = _
   omega
 have hat : recAt w p = r := by
  unfold recAt
  rw [hsz, show p + 3 = p + 1 + 2 from rfl, show p + 5 = p + 1 + 2 + 2 from rfl, v1, v3, h5, List.take_left' rfl, v0]
  cases hzs : r.zs with
  | true => obtain ⟨a, b, c, d⟩ := r; cases hzs; rfl
  | false => obtain ⟨a, b, c, d⟩ := r; cases hzs; rfl
 refine ⟨?_, hsz, hat⟩
 have hv1 : (numAt w (p + 1) 2 : Int) = r.fr := v1
 have hv3 : (numAt w (p + 3) 2 : Int) = r.cnt := v3
 have hn9 : numAt w (p + 5 + r.data.length) 8 = fnvCheck Y := n9
 have htk : (w.take (p + 5 + r.data.length)).drop p = Y := by
  rw [List.drop_take, hw, List.take_left' (by omega)]
 unfold recErr
 rw [hsz, hat, if_neg (by omega), if_neg (by rw [v0]; cases r.zs <;> decide), if_neg (by omega), if_neg (by omega), if_neg (by rw [htk, hn9]; exact fun h => h rfl), if_neg (by rw [hg]; decide)]
theorem body_at {s : Strm} {i : Nat} (hi : i < s.recs.length) : bodyB s s.recs.length = bodyB s i ++ (recB s.recs[i] ++ ((s.recs.drop (i + 1)).map recB).flatten) := by
 have e : s.recs.take s.recs.length = s.recs.take i ++ (s.recs[i] :: s.recs.drop (i + 1)) := by
  rw [List.take_length, List.getElem_cons_drop, List.take_append_drop]
 unfold bodyB
 rw [e, List.map_append, List.flatten_append, List.map_cons, List.flatten_cons, List.append_assoc]
theorem run_back {s : Strm} {w tl : List UInt8} (hw : w = bodyB s s.recs.length ++ tl) (hg : goodS s = true) (hz : ∀ r ∈ s.recs, r.zs = true -> r.data = []) (hb : s.blocks ≤ 64) : ∀ j i, i + j = s.recs.length ->
 recsRun w j (bodyB s i).length { s with recs := s.recs.take i } = (0, (bodyB s s.recs.length).length, s)
 | 0, i, h => by
  obtain rfl : i = s.recs.length := by omega
  rw [List.take_length]; rfl
 | j + 1, i, h => by
  have hi : i < s.recs.length := by omega
  have ha := body_at hi
  have hd : w.drop (bodyB s i).length = recB s.recs[i] ++ (((s.recs.drop (i + 1)).map recB).flatten ++ tl) := by
   rw [hw, ha, List.append_assoc, List.drop_left' rfl, List.append_assoc]
  have hle : (bodyB s i).length ≤ w.length := by rw [hw, ha, List.length_append, List.length_append]; omega
  have hsn : Strm.snoc { s with recs := s.recs.take i } s.recs[i] = { s with recs := s.recs.take (i + 1) } := by
   unfold Strm.snoc
   show ({ s with recs := s.recs.take i ++ [s.recs[i]] } : Strm) = _
   rw [List.take_add_one, List.getElem?_eq_getElem hi]; rfl
  have hgo := (goodS_facts hg).2.2.2.2.2.2
  obtain ⟨e1, e2, e3⟩ := rec_back (s := { s with recs := s.recs.take i }) hd hle hb (rec_ok hgo hi) (hz _ (List.getElem_mem hi)) (by rw [hsn]; exact goodS_pre hg (i + 1))
  unfold recsRun
  rw [if_pos e1, e2, e3, hsn]
  have hp : (bodyB s i).length + 5 + s.recs[i].data.length + 8 = (bodyB s (i + 1)).length := by
   rw [bodyB_snoc hi, List.length_append, recB_len]; omega
  rw [hp]
  exact run_back hw hg hz hb j (i + 1) (by omega)
theorem end_back {b : List UInt8} {w : List UInt8} (hw : w = b ++ ([69] ++ leBytes (fnvCheck b) 8)) : endErr w b.length = 0 := by
 have h0 : w.drop b.length = [69] ++ (leBytes (fnvCheck b) 8 ++ []) := by rw [hw, List.drop_left' rfl, List.append_nil]
 have h1 := drop_on (n := 1) h0 rfl
 have n0 := num_at (n := 1) h0 rfl
 have n1 := num_at (n := 8) h1 (leBytes_len _ _)
 rw [fnv_le] at n1
 have hlen : w.length = b.length + 9 := by rw [hw, List.length_append, List.length_append, leBytes_len]; rfl
 have htk : w.take b.length = b := by rw [hw, List.take_left' rfl]
 have v0 : numAt w b.length 1 = 69 := n0
 unfold endErr
 rw [if_neg (by omega), if_neg (by rw [v0]; exact fun h => h rfl), if_neg (by rw [htk, n1]; exact fun h => h rfl), if_neg (by omega)]
theorem head_back {s : Strm} {w tl : List UInt8} (hw : w = headB s ++ tl) (hg : goodS s = true) (hn : s.recs.length ≤ 65535) : headErr w = 0 /\ numAt w 14 2 = s.recs.length /\ headStrm w = { s with recs := [] } := by
 obtain ⟨g1, g2, g3, g4, g5, g6, _⟩ := goodS_facts hg
 have hbase : s.base = -1 ∨ (1 ≤ s.base /\ s.base < s.id) := by
  unfold goodS headBad at hg
  rw [Bool.and_eq_true] at hg
  have hg1 := hg.1
  simp only [Bool.not_eq_true', Bool.or_eq_false_iff, Bool.and_eq_false_iff, decide_eq_false_iff_not, Bool.not_eq_false', decide_eq_true_eq] at hg1
  omega
 have e : headB s = ([82, 86, 83, 49] ++ (leBytes s.blocks.toNat 2 ++ (leBytes (s.base + 1).toNat 4 ++ (leBytes s.id.toNat 4 ++ leBytes s.recs.length 2)))) ++ leBytes (fnvCheck ([82, 86, 83, 49] ++ (leBytes s.blocks.toNat 2 ++ (leBytes (s.base + 1).toNat 4 ++ (leBytes s.id.toNat 4 ++ leBytes s.recs.length 2))))) 8 := by
  unfold headB withCheck
  rw [List.flatten_cons, List.flatten_cons, List.flatten_cons, List.flatten_cons, List.flatten_cons, List.flatten_nil, List.append_nil]
 generalize hX : ([82, 86, 83, 49] : List UInt8) ++ (leBytes s.blocks.toNat 2 ++ (leBytes (s.base + 1).toNat 4 ++ (leBytes s.id.toNat 4 ++ leBytes s.recs.length 2))) = X at e
 have hXl : X.length = 16 := by rw [<- hX]; simp [leBytes_len]
 rw [e, List.append_assoc] at hw
 have hlen : w.length = 16 + (8 + tl.length) := by rw [hw, List.length_append, List.length_append, leBytes_len, hXl]
 have h0 : w.drop 0 = [82, 86, 83, 49] ++ (leBytes s.blocks.toNat 2 ++ (leBytes (s.base + 1).toNat 4 ++ (leBytes s.id.toNat 4 ++ (leBytes s.recs.length 2 ++ (leBytes (fnvCheck X) 8 ++ tl))))) := by
  rw [List.drop_zero, hw, <- hX]; simp only [List.append_assoc]
 have h4 := drop_on (n := 4) h0 rfl
 have h6 := drop_on (n := 2) h4 (leBytes_len _ _)
 have h10 := drop_on (n := 4) h6 (leBytes_len _ _)
 have h14 := drop_on (n := 4) h10 (leBytes_len _ _)
 have h16 := drop_on (n := 2) h14 (leBytes_len _ _)
 have n4 := num_at (n := 2) h4 (leBytes_len _ _)
 have n6 := num_at (n := 4) h6 (leBytes_len _ _)
 have n10 := num_at (n := 4) h10 (leBytes_len _ _)
 have n14 := num_at (n := 2) h14 (leBytes_len _ _)
 have n16 := num_at (n := 8) h16 (leBytes_len _ _)
 rw [fnv_le] at n16
 have v4 := small_le (n := s.blocks) (k := 2) (m := 65536) (by omega) (by omega) rfl
 have v6 := small_le (n := s.base + 1) (k := 4) (m := 4294967296) (by omega) (by omega) rfl
 have v10 := small_le (n := s.id) (k := 4) (m := 4294967296) (by omega) (by omega) rfl
 rw [<- n4] at v4
 rw [<- n6] at v6
 rw [<- n10] at v10
 have hbl : hBl w = s.blocks := v4
 have hba : hBa w = s.base := by
  unfold hBa
  have : (numAt w 6 4 : Int) = s.base + 1 := v6
  omega
 have hid : hId w = s.id := v10
 have hnn : numAt w 14 2 = s.recs.length := by
  have : numAt w 14 2 = leNum (leBytes s.recs.length 2) := n14
  rw [this, leNum_le]
  exact Nat.mod_eq_of_lt (by omega)
 have htk4 : w.take 4 = [82, 86, 83, 49] := by
  rw [List.drop_zero] at h0
  rw [h0]; exact List.take_left' rfl
 have htk : w.take 16 = X := by rw [hw, List.take_left' hXl]
 have hv16 : numAt w 16 8 = fnvCheck X := n16
 refine ⟨?_, hnn, ?_⟩
 ·
  unfold headErr
  rw [hbl, hba, hid, if_neg (by omega), if_neg (by rw [htk4]; exact fun h => h rfl), if_neg (by omega), if_neg (by rw [htk, hv16]; exact fun h => h rfl), if_neg (by omega), if_neg (by omega)]
 ·
  unfold headStrm
  rw [hbl, hba, hid]
theorem parse_back {s : Strm} (hg : goodS s = true) (hn : s.recs.length ≤ 65535) (hz : ∀ r ∈ s.recs, r.zs = true -> r.data = []) : parseS (encB s) = (0, s) := by
 have hb := (goodS_facts hg).2.1
 have hw : encB s = bodyB s s.recs.length ++ ([69] ++ leBytes (fnvCheck (bodyB s s.recs.length)) 8) := by
  unfold encB
  rw [List.flatten_cons, List.flatten_cons, List.flatten_cons, List.flatten_nil, List.append_nil]
 have hw2 : encB s = headB s ++ (((s.recs.take s.recs.length).map recB).flatten ++ ([69] ++ leBytes (fnvCheck (bodyB s s.recs.length)) 8)) := by
  rw [hw]
  show (headB s ++ _) ++ _ = _
  rw [List.append_assoc]
 obtain ⟨h1, h2, h3⟩ := head_back hw2 hg hn
 have h4 := run_back hw hg hz hb s.recs.length 0 (by omega)
 have h5 := end_back hw
 have e24 : (bodyB s 0).length = 24 := by
  unfold bodyB
  rw [List.take_zero]
  show (headB s ++ []).length = 24
  rw [List.append_nil, headB_len]
 rw [e24, List.take_zero] at h4
 unfold parseS
 rw [if_neg (by rw [h1]; exact fun h => h rfl), h2, h3, h4]
 show (if (0 : Int) ≠ 0 then _ else _) = _
 rw [if_neg (by decide), if_neg (by rw [h5]; exact fun h => h rfl)]
end
end Go.Ev
namespace Go.Ev
open Go.Proofs
noncomputable section
set_option maxRecDepth 100000
theorem exp_good {n : Nat} {base id : Int} {s : Shot} {l : List Int} (hn : 1 ≤ n /\ n ≤ 64) (hbs : s.bs.length = n) (h64 : ∀ x ∈ s.bs, x.length = 64) (hl : ∀ x ∈ l, 0 ≤ x /\ x < n) (hr : l.Pairwise (· < ·)) (hi : 1 ≤ id /\ id ≤ 1000000)
 (hb : (base = -1 /\ ∀ x ∈ l, zeros (s.bs.getD x.toNat []) = false) ∨ (1 ≤ base /\ base < id)) :
 goodS (expStrm n base id s l) = true /\ (∀ r ∈ (expStrm n base id s l).recs, r.zs = true -> r.data = []) /\ (∀ r ∈ (expStrm n base id s l).recs, 1 ≤ r.cnt /\ 0 ≤ r.fr /\ r.fr + r.cnt ≤ n) /\ ∀ b : Int, (∃ r ∈ (expStrm n base id s l).recs, r.fr ≤ b /\ b < r.fr + r.cnt) ↔ b ∈ l := by
 have hG := recL_ok hl (by omega) hbs h64 hr l.length (Nat.le_refl _)
 have he : (expStrm n base id s l).recs = recL s.bs l l.length := recAll_ofN hl (by omega) l.length (Nat.le_refl _)
 rw [he]
 have hme := hG.me
 rw [List.take_length] at hme
 refine ⟨?_, fun r hr => (hG.el r hr).2.2.2.2, fun r hr => ⟨(hG.el r hr).1, (hG.el r hr).2.1, (hG.el r hr).2.2.1⟩, hme⟩
 unfold goodS
 rw [Bool.and_eq_true]
 refine ⟨?_, ?_⟩
 ·
  unfold headBad
  show (!(decide ((n : Int) < 1) || decide (64 < (n : Int)) || decide (id < 1) || decide (1000000 < id) || (!(decide (base = -1)) && (decide (base < 1) || decide (id ≤ base))))) = true
  rw [decide_eq_false (by omega), decide_eq_false (by omega), decide_eq_false (by omega), decide_eq_false (by omega)]
  rcases hb with ⟨h, _⟩ | ⟨h1, h2⟩
  ·
   rw [decide_eq_true h]; rfl
  ·
   rw [decide_eq_false (show ¬ base = -1 by omega), decide_eq_false (by omega), decide_eq_false (by omega)]; rfl
 ·
  unfold recsOk
  show ((List.range (expStrm n base id s l).recs.length).all fun i => recOk n base ((expStrm n base id s l).recs.getD i ⟨0, 0, false, []⟩) && (decide (i = 0) || behindOk ((expStrm n base id s l).recs.getD i ⟨0, 0, false, []⟩) ((expStrm n base id s l).recs.getD (i - 1) ⟨0, 0, false, []⟩))) = true
  rw [he]
  refine List.all_eq_true.2 fun i hi => ?_
  have hi := List.mem_range.1 hi
  rw [getD_lt hi]
  have hel := hG.el _ (List.getElem_mem hi)
  have hze := hG.ze _ (List.getElem_mem hi)
  rw [Bool.and_eq_true]
  refine ⟨?_, ?_⟩
  ·
   unfold recOk
   rw [decide_eq_false (by omega), decide_eq_false (by omega), decide_eq_false (by omega), decide_eq_false (by omega), hel.2.2.2.1]
   rcases hb with ⟨h, hz⟩ | ⟨h1, h2⟩
   ·
    cases hzz : (recL s.bs l l.length)[i].zs with
    | false => rw [Bool.and_false]; rfl
    | true =>
     obtain ⟨b, hb1, hb2⟩ := hze hzz
     rw [hz b hb1] at hb2; cases hb2
   ·
    rw [decide_eq_false (show ¬ base = -1 by omega)]; rfl
  ·
   cases i with
   | zero => rfl
   | succ i =>
    rw [decide_eq_false (by omega), Bool.false_or, Nat.add_sub_cancel, getD_lt (show i < (recL s.bs l l.length).length by omega)]
    exact hG.be i hi
theorem exp_back {n : Nat} {base id : Int} {s : Shot} {l : List Int} (hn : 1 ≤ n /\ n ≤ 64) (hbs : s.bs.length = n) (h64 : ∀ x ∈ s.bs, x.length = 64) (hl : ∀ x ∈ l, 0 ≤ x /\ x < n) (hll : l.length ≤ n) (hr : l.Pairwise (· < ·)) (hi : 1 ≤ id /\ id ≤ 1000000)
 (hb : (base = -1 /\ ∀ x ∈ l, zeros (s.bs.getD x.toNat []) = false) ∨ (1 ≤ base /\ base < id)) : encS (expStrm n base id s l) = (encB (expStrm n base id s l), 0) /\ parseS (encB (expStrm n base id s l)) = (0, expStrm n base id s l) := by
 obtain ⟨h1, h2, _, _⟩ := exp_good hn hbs h64 hl hr hi hb
 have h3 := (expStrm_ok (base := base) (id := id) (s := s) hn.2 hll hl h64).1
 exact ⟨if_pos h1, parse_back h1 (by omega) h2⟩
theorem wrtS_rise (ss : List Shot) (base : Int) (to : Nat) : ∀ n, (wrtS ss base to n).Pairwise (· < ·) /\ (∀ x ∈ wrtS ss base to n, 0 ≤ x /\ x < n) /\ (wrtS ss base to n).length ≤ n /\ ∀ b : Nat, (b : Int) ∈ wrtS ss base to n ↔ b < n /\ wrtBS ss base b (to - base.toNat) = true
 | 0 => ⟨List.Pairwise.nil, fun x h => (by cases h), Nat.le_refl _, fun b => ⟨fun h => (by cases h), fun h => absurd h.1 (Nat.not_lt_zero _)⟩⟩
 | n + 1 => by
  obtain ⟨h1, h2, h3, h4⟩ := wrtS_rise ss base to n
  unfold wrtS
  by_cases hc : wrtBS ss base n (to - base.toNat) = true
  ·
   rw [if_pos hc]
   refine ⟨?_, fun x hx => ?_, ?_, fun b => ?_⟩
   ·
    rw [List.pairwise_append]
    exact ⟨h1, List.pairwise_singleton _ _, fun a ha b hb => by rw [List.mem_singleton] at hb; have := h2 a ha; omega⟩
   ·
    rcases List.mem_append.1 hx with hx | hx
    ·
     have := h2 x hx; omega
    ·
     rw [List.mem_singleton] at hx; omega
   ·
    rw [List.length_append, List.length_singleton]; omega
   ·
    rw [List.mem_append, List.mem_singleton, h4 b]
    constructor
    ·
     rintro (⟨h, h'⟩ | h)
     ·
      exact ⟨by omega, h'⟩
     ·
      have : b = n := by omega
      subst this
      exact ⟨by omega, hc⟩
    ·
     rintro ⟨h, h'⟩
     by_cases hb : b < n
     ·
      exact .inl ⟨hb, h'⟩
     ·
      exact .inr (by omega)
  ·
   rw [if_neg hc]
   refine ⟨h1, fun x hx => by have := h2 x hx; omega, by omega, fun b => ?_⟩
   rw [h4 b]
   constructor
   ·
    rintro ⟨h, h'⟩
    exact ⟨by omega, h'⟩
   ·
    rintro ⟨h, h'⟩
    by_cases hb : b < n
    ·
     exact ⟨hb, h'⟩
    ·
     have : b = n := by omega
     subst this
     exact absurd h' hc
end
end Go.Ev
namespace Go.Ev
open Go.Proofs
noncomputable section
set_option maxRecDepth 100000
theorem MOK.zw {H : Hp} {p : Nat} {m : MS} {F : Nat -> Prop} (h : MOK H p m F) : ∀ s ∈ m.ss, s.w.length = m.bs.length := by
 obtain ⟨zs, bv, sv, hM, hss, _⟩ := h
 intro s hs
 rw [<- hss] at hs
 obtain ⟨z, hz, rfl⟩ := List.mem_map.1 hs
 exact (hM.zl z hz).1
theorem MOK.z64 {H : Hp} {p : Nat} {m : MS} {F : Nat -> Prop} (h : MOK H p m F) : ∀ s ∈ m.ss, ∀ x ∈ s.bs, x.length = 64 := by
 obtain ⟨zs, bv, sv, hM, hss, _⟩ := h
 intro s hs
 rw [<- hss] at hs
 obtain ⟨z, hz, rfl⟩ := List.mem_map.1 hs
 exact (hM.zl z hz).2.2
theorem MOK.setN {H : Hp} {p : Nat} {m : MS} {F : Nat -> Prop} (h : MOK H p m F) {c : Nat} (hc : ¬ F c) (z : Blk) : MOK (setBlk H c z) p m F := by
 obtain ⟨zs, bv, sv, hM, hss, rfl⟩ := h
 refine ⟨zs, bv, sv, ⟨(get_set_n fun h => hc (.inl h.symm)).trans hM.m, hM.lt, hM.b.setN (.inr fun h => hc (.inr (.inl h))), hM.s.setN ?_, fun q hq => (hM.w q hq).setN (.inr fun h => hc (.inr (.inr (.inr ⟨q, hq, h⟩)))), hM.nd, hM.bl, hM.zl, hM.n, hM.k⟩, hss, rfl⟩
 by_cases hs : sv = .nils
 ·
  exact .inl hs
 ·
  exact .inr fun h => hc (.inr (.inr (.inl ⟨hs, h⟩)))
def uw (ss : List Shot) (b : Nat) : Bool := ss.any fun s => s.w.getD b false
theorem set_getD (l : List Bool) (i j : Nat) (hi : i < l.length) : (l.set i true).getD j false = (l.getD j false || decide (j = i)) := by
 rw [List.getD_eq_getElem?_getD, List.getElem?_set]
 by_cases h : i = j
 ·
  subst h
  rw [if_pos rfl, if_pos hi, decide_eq_true rfl, Bool.or_true]; rfl
 ·
  rw [if_neg h, decide_eq_false (fun e => h e.symm), Bool.or_false, List.getD_eq_getElem?_getD]
theorem putS_snoc (pre : List Shot) (z : Shot) (b : Nat) : putS (pre ++ [z]) b = pre ++ [{ z with w := z.w.set b true }] := by
 unfold putS
 rw [List.length_append, List.length_singleton, Nat.add_sub_cancel, List.getElem?_append_right (Nat.le_refl _), Nat.sub_self]
 show (pre ++ [z]).set pre.length _ = _
 rw [List.set_append_right _ _ (Nat.le_refl _), Nat.sub_self]; rfl
theorem uw_put {ss : List Shot} {n b : Nat} (hz : ∀ s ∈ ss, s.w.length = n) (h0 : ss ≠ []) (hb : b < n) (x : Nat) : uw (putS ss b) x = (uw ss x || decide (x = b)) := by
 obtain ⟨pre, z, rfl⟩ : ∃ pre z, ss = pre ++ [z] := ⟨_, _, (List.dropLast_concat_getLast h0).symm⟩
 have hzl : z.w.length = n := hz z (List.mem_append_right _ (List.mem_singleton_self _))
 rw [putS_snoc]
 unfold uw
 rw [List.any_append, List.any_append]
 show (_ || ((z.w.set b true).getD x false || false)) = ((_ || (z.w.getD x false || false)) || _)
 rw [set_getD _ _ _ (by omega), Bool.or_false, Bool.or_false, Bool.or_assoc]
structure D6 (m : MS) (n t : Nat) (wr : List Bool) : Prop where
 ok : m.ok
 bl : m.bs.length = n
 ids : idsOf m.ss = (List.range t).map fun i : Nat => (i : Int) + 1
 nx : m.next = t + 1
 wl : wr.length = 16
 un : ∀ x, x < 16 -> wr.getD x false = uw m.ss x
theorem D6.len {m : MS} {n t : Nat} {wr : List Bool} (h : D6 m n t wr) : m.ss.length = t := by
 have := congrArg List.length h.ids
 unfold idsOf at this
 rw [List.length_map, List.length_map, List.length_range] at this
 exact this
theorem D6.write {m : MS} {n t : Nat} {wr : List Bool} (h : D6 m n t wr) (ht : 1 ≤ t) {b : Nat} (hb : b < n) (hn : n ≤ 16) {d : List UInt8} (hd : d.length = 64) (hz : ∀ s ∈ m.ss, s.w.length = m.bs.length) :
 ∃ m', stepS m ⟨2, (b : Nat), 0, 0, 0, d⟩ = (bad 0, m') /\ D6 m' n t (wr.set b true) := by
 have hok := stepS_ok (x := ⟨2, (b : Nat), 0, 0, 0, d⟩) h.ok (by show d.length ≤ _; omega)
 have es : stepS m ⟨2, (b : Nat), 0, 0, 0, d⟩ = (bad 0, { m with bs := m.bs.set b d, ss := putS m.ss b }) := by
  show wrS m (b : Nat) d = _
  unfold wrS
  rw [if_pos ⟨hd, ⟨by omega, by rw [h.bl]; omega⟩⟩]; rfl
 rw [es] at hok
 have hl := h.len
 refine ⟨_, es, hok, ?_, ?_, h.nx, by rw [List.length_set]; exact h.wl, fun x hx => ?_⟩
 ·
  show (m.bs.set b d).length = n
  rw [List.length_set, h.bl]
 ·
  show idsOf (putS m.ss b) = _
  rw [putS_ids, h.ids]
 ·
  show _ = uw (putS m.ss b) x
  rw [uw_put (n := n) (fun s hs => by rw [hz s hs, h.bl]) (by rintro h0; rw [h0] at hl; have : 0 = t := hl; omega) hb, set_getD _ _ _ (by rw [h.wl]; omega), h.un x hx]
theorem D6.snap {m : MS} {n t : Nat} {wr : List Bool} (h : D6 m n t wr) (ht : t < 8) :
 ∃ m', stepS m ⟨5, 0, 0, 0, 0, []⟩ = (([], (t : Int) + 1, 0), m') /\ D6 m' n (t + 1) wr /\ m'.ss = m.ss ++ [⟨(t : Int) + 1, m.bs, List.replicate n false⟩] := by
 have hok := stepS_ok (x := ⟨5, 0, 0, 0, 0, []⟩) h.ok (by decide)
 have hl := h.len
 have es : stepS m ⟨5, 0, 0, 0, 0, []⟩ = (([], (t : Int) + 1, 0), { m with ss := m.ss ++ [⟨(t : Int) + 1, m.bs, List.replicate n false⟩], next := (t : Int) + 1 + 1 }) := by
  show snapS m = _
  unfold snapS
  rw [if_neg (by rw [hl, h.nx]; omega), h.nx, h.bl]
 rw [es] at hok
 refine ⟨_, es, ⟨hok, h.bl, ?_, by show (t : Int) + 1 + 1 = ((t + 1 : Nat) : Int) + 1; omega, h.wl, fun x hx => ?_⟩, rfl⟩
 ·
  show idsOf (m.ss ++ [_]) = _
  have := h.ids
  unfold idsOf at this ⊢
  rw [List.map_append, this, List.range_succ, List.map_append]; rfl
 ·
  show _ = uw (m.ss ++ [_]) x
  rw [h.un x hx]
  unfold uw
  rw [List.any_append]
  show _ = (_ || ((List.replicate n false).getD x false || false))
  have : (List.replicate n false).getD x false = false := by
   rw [List.getD_eq_getElem?_getD, List.getElem?_replicate]
   split <;> rfl
  rw [this, Bool.or_false]; simp
theorem mrg_getD (a b : List Bool) : ∀ k x, k ≤ a.length -> (mrgTo a b k).getD x false = (a.getD x false || (decide (x < k) && b.getD x false))
 | 0, x, _ => by
  rw [decide_eq_false (Nat.not_lt_zero _), Bool.false_and, Bool.or_false]; rfl
 | k + 1, x, hk => by
  have ih := mrg_getD a b k x (by omega)
  unfold mrgTo
  by_cases hc : b.getD k false = true
  ·
   rw [if_pos hc, set_getD _ _ _ (by rw [mrgTo_len]; omega), ih]
   by_cases hx : x = k
   ·
    subst hx
    rw [decide_eq_true rfl, decide_eq_true (Nat.lt_succ_self _), hc]; simp
   ·
    rw [decide_eq_false hx, Bool.or_false]
    by_cases hlt : x < k
    ·
     rw [decide_eq_true hlt, decide_eq_true (by omega)]
    ·
     rw [decide_eq_false hlt, decide_eq_false (by omega)]
  ·
   rw [if_neg hc, ih]
   by_cases hx : x = k
   ·
    subst hx
    have hc : b.getD x false = false := by cases h : b.getD x false <;> first | rfl | exact absurd h hc
    rw [hc, Bool.and_false, Bool.and_false]
   ·
    by_cases hlt : x < k
    ·
     rw [decide_eq_true hlt, decide_eq_true (by omega)]
    ·
     rw [decide_eq_false hlt, decide_eq_false (by omega)]
theorem D6.fin {m : MS} {n : Nat} {wr : List Bool} {B : List (List UInt8)} {pre : List Shot} (h : D6 m n 3 wr) (hn : 1 ≤ n /\ n ≤ 16) (hs : m.ss = pre ++ [⟨3, B, List.replicate n false⟩]) (hz : ∀ s ∈ m.ss, s.w.length = m.bs.length) (hb : ∀ s ∈ m.ss, s.bs.length = m.bs.length) (h64 : ∀ s ∈ m.ss, ∀ x ∈ s.bs, x.length = 64) :
 ∃ m' st, stepS m ⟨6, 0, 0, 2, 0, []⟩ = (bad 0, m') /\ m'.ok /\ m'.bs = m.bs /\ idsOf m'.ss = [1, 3] /\ stepS m' ⟨10, 0, 0, 3, 1, []⟩ = ((encB st, 0, 0), m') /\ parseS (encB st) = (0, st) /\ st.recs.length ≤ 100 /\ (encB st).length ≤ 600000 /\ (∀ r ∈ st.recs, 1 ≤ r.cnt /\ 0 ≤ r.fr /\ r.fr + r.cnt ≤ n) /\
  ∀ x, x < 16 -> (wr.getD x false = true ↔ ∃ r ∈ st.recs, r.fr ≤ (x : Int) /\ (x : Int) < r.fr + r.cnt) := by
 have hl := h.len
 have hpl : pre.length = 2 := by rw [hs, List.length_append, List.length_singleton] at hl; omega
 obtain ⟨s1, s2, rfl⟩ : ∃ a b, pre = [a, b] := by
  match pre, hpl with
  | [a, b], _ => exact ⟨a, b, rfl⟩
 have hs : m.ss = [s1, s2, ⟨3, B, List.replicate n false⟩] := hs
 have hids := h.ids
 rw [hs] at hids
 have hi1 : s1.id = 1 := by
  have : [s1.id, s2.id, 3] = [((0 : Nat) : Int) + 1, ((1 : Nat) : Int) + 1, ((2 : Nat) : Int) + 1] := hids
  exact (List.cons.inj this).1
 have hi2 : s2.id = 2 := by
  have : [s1.id, s2.id, 3] = [((0 : Nat) : Int) + 1, ((1 : Nat) : Int) + 1, ((2 : Nat) : Int) + 1] := hids
  exact (List.cons.inj (List.cons.inj this).2).1
 have hw1 : s1.w.length = n := (hz s1 (by rw [hs]; simp)).trans h.bl
 have hok := stepS_ok (x := ⟨6, 0, 0, 2, 0, []⟩) h.ok (by decide)
 have hsh2 : shS m.ss 2 = 1 := by
  rw [hs]
  unfold shS fidx
  simp [List.findIdx?_cons, hi1, hi2]
 have es : stepS m ⟨6, 0, 0, 2, 0, []⟩ = (bad 0, { m with ss := [{ s1 with w := mrgTo s1.w s2.w n }, ⟨3, B, List.replicate n false⟩] }) := by
  show dropStep m 2 = _
  unfold dropStep
  rw [if_neg (by rw [hsh2]; decide), hsh2, h.bl]
  show (bad 0, ({ m with ss := dropS m.ss 1 n } : MS)) = _
  rw [hs]; rfl
 rw [es] at hok
 have hB : B.length = n := (hb ⟨3, B, List.replicate n false⟩ (by rw [hs]; simp)).trans h.bl
 have hB64 : ∀ x ∈ B, x.length = 64 := h64 ⟨3, B, List.replicate n false⟩ (by rw [hs]; simp)
 obtain ⟨s1', hs1'⟩ : ∃ s : Shot, s = { s1 with w := mrgTo s1.w s2.w n } := ⟨_, rfl⟩
 have hi1' : s1'.id = 1 := by rw [hs1']; exact hi1
 have hw1' : ∀ x, x < n -> s1'.w.getD x false = (s1.w.getD x false || s2.w.getD x false) := fun x hx => by
  rw [hs1']
  show (mrgTo s1.w s2.w n).getD x false = _
  rw [mrg_getD _ _ _ _ (by omega), decide_eq_true hx, Bool.true_and]
 rw [<- hs1'] at es hok
 obtain ⟨k1, k2, k3, k4⟩ := wrtS_rise [s1', ⟨3, B, List.replicate n false⟩] 0 1 n
 obtain ⟨e1, e2⟩ := exp_back (s := ⟨3, B, List.replicate n false⟩) (base := 1) (id := 3) ⟨hn.1, by omega⟩ hB hB64 k2 k3 k1 (by decide) (.inr (by decide))
 obtain ⟨g1, g2, g3, g4⟩ := exp_good (s := ⟨3, B, List.replicate n false⟩) (base := 1) (id := 3) ⟨hn.1, by omega⟩ hB hB64 k2 k1 (by decide) (.inr (by decide))
 obtain ⟨q1, q2⟩ := expStrm_ok (s := ⟨3, B, List.replicate n false⟩) (base := 1) (id := 3) (n := n) (by omega) k3 k2 hB64
 have hx3 : shS [s1', ⟨3, B, List.replicate n false⟩] 3 = 1 := by
  unfold shS fidx
  simp [List.findIdx?_cons, hi1']
 have hx1 : shS [s1', ⟨3, B, List.replicate n false⟩] 1 = 0 := by
  unfold shS fidx
  simp [List.findIdx?_cons, hi1']
 have he : stepS { m with ss := [s1', ⟨3, B, List.replicate n false⟩] } ⟨10, 0, 0, 3, 1, []⟩ = ((encB (expStrm n 1 3 ⟨3, B, List.replicate n false⟩ (wrtS [s1', ⟨3, B, List.replicate n false⟩] 0 1 n)), 0, 0), { m with ss := [s1', ⟨3, B, List.replicate n false⟩] }) := by
  show (expStep { m with ss := [s1', ⟨3, B, List.replicate n false⟩] } 1 3, _) = _
  have ex : exportS m.bs.length [s1', ⟨3, B, List.replicate n false⟩] 1 3 = (encB (expStrm n 1 3 ⟨3, B, List.replicate n false⟩ (wrtS [s1', ⟨3, B, List.replicate n false⟩] 0 1 n)), 0) := by
   unfold exportS
   rw [hx3, hx1, if_neg (by decide), if_neg (by decide), h.bl]
   show encS (expStrm n 1 3 ⟨3, B, List.replicate n false⟩ (expLS [s1', ⟨3, B, List.replicate n false⟩] ⟨3, B, List.replicate n false⟩ n 1 0 1)) = _
   have : expLS [s1', ⟨3, B, List.replicate n false⟩] ⟨3, B, List.replicate n false⟩ n 1 0 1 = wrtS [s1', ⟨3, B, List.replicate n false⟩] 0 1 n := if_neg (by decide)
   rw [this, e1]
  unfold expStep
  rw [show ({ m with ss := [s1', ⟨3, B, List.replicate n false⟩] } : MS).bs = m.bs from rfl, show ({ m with ss := [s1', ⟨3, B, List.replicate n false⟩] } : MS).ss = [s1', ⟨3, B, List.replicate n false⟩] from rfl, ex]
  rfl
 refine ⟨_, _, es, hok, rfl, ?_, he, e2, q1, ?_, g3, fun x hx => ?_⟩
 ·
  show [s1'.id, 3] = _
  rw [hi1']
 ·
  have h0 := bodyB_len (fun r hr => (q2 r hr).1) _ (Nat.le_refl (expStrm n 1 3 ⟨3, B, List.replicate n false⟩ (wrtS [s1', ⟨3, B, List.replicate n false⟩] 0 1 n)).recs.length)
  unfold encB
  rw [List.flatten_cons, List.flatten_cons, List.flatten_cons, List.flatten_nil, List.append_nil, List.length_append, List.length_append, leBytes_len]
  show _ + (1 + 8) ≤ _
  omega
 ·
  rw [h.un x hx, g4 x, k4 x, hs]
  show ((s1.w.getD x false || (s2.w.getD x false || ((List.replicate n false).getD x false || false))) = true) ↔ _
  have hr : (List.replicate n false).getD x false = false := by
   rw [List.getD_eq_getElem?_getD, List.getElem?_replicate]
   split <;> rfl
  rw [hr, Bool.or_false, Bool.or_false]
  have hwb : wrtBS [s1', ⟨3, B, List.replicate n false⟩] 0 x (1 - Int.toNat 0) = s1'.w.getD x false := by
   show (decide ((0 : Int) < 0) || s1'.w.getD x false) = _
   rw [decide_eq_false (by decide), Bool.false_or]
  rw [hwb]
  have hge : ¬ x < n -> s1.w.getD x false = false /\ s2.w.getD x false = false := fun h' => by
   have hw2 : s2.w.length = n := (hz s2 (by rw [hs]; simp)).trans h.bl
   exact ⟨by rw [List.getD_eq_getElem?_getD, List.getElem?_eq_none (by omega)]; rfl, by rw [List.getD_eq_getElem?_getD, List.getElem?_eq_none (by omega)]; rfl⟩
  by_cases hxn : x < n
  ·
   rw [hw1' x hxn]
   exact ⟨fun h => ⟨hxn, h⟩, fun h => h.2⟩
  ·
   obtain ⟨a1, a2⟩ := hge hxn
   rw [a1, a2]
   exact ⟨fun h => (by cases h), fun h => absurd h.1 hxn⟩
end
end Go.Ev
namespace Go.Ev
open Go.Proofs
noncomputable section
set_option maxRecDepth 100000
theorem fn15 : E1.fn 15 = some Try.f15 := by kernel_rfl
theorem fn6 : E1.fn 6 = some Try.f6 := by kernel_rfl
theorem ints17R {H : Hp} {u : AV} {a : List Int} {x y : Int} {c : Nat} {K : AV -> Hp -> Prop} (hu : IV u a) (ha : a.length < 9223372036854775807) (hm : H.m.get c = some (.cells [.int .i64 x, .int .i64 y] 3 true true)) (hk : K (.bool (decide (a = [x, y]))) H) : Call (.func 17 [] []) [u, .slice c 0 2 (.ex 2)] H K := by
 refine WCall2.read (v := .bool (decide (a = [x, y]))) rfl (ints17 (u := .lst 1 (a.map eInt)) (v := .lst 1 ([x, y].map eInt)) (H := noHp) (K := fun v' _ => v' = .bool (decide (a = [x, y]))) (.inl rfl) (.inl rfl) ha (by show 2 < _; decide) rfl) (fun σ H1 as1 r hv => ?_) hk
 obtain ⟨y1, r', h1, h2, rfl⟩ := VRL.cons.1 hv
 obtain ⟨y2, r2, h3, h4, rfl⟩ := VRL.cons.1 h2
 rw [VRL.nil] at h4
 subst h4
 have hu' : VR false noMp H1 (.lst 1 (a.map eInt)) y1 := by
  rcases hu with rfl | ⟨rfl, rfl⟩
  ·
   exact NoB.lst (by decide) (NoB.map fun _ => NoB.plain rfl) _ _ _ h1
  ·
   obtain rfl := h1.nils
   exact VR.lst0_mk (.inl rfl)
 have := read_sl (sz := 1) (l := [x, y].map eInt) (o := 0) (b := c) (k := .ex 2) r h3 (by
  show cellsAt H c 0 2 = _
  rw [(kn hm).2.2.1]; rfl) (plain_map fun _ => rfl) (fun z hz => by obtain ⟨q, _, rfl⟩ := List.mem_map.1 hz; rfl) (by decide) trivial (fun _ => Nat.le_refl _)
 exact VRL.cons.2 ⟨_, _, hu', VRL.one this, rfl⟩
theorem bools_eq {T wr : List Bool} (h1 : T.length = 16) (h2 : wr.length = 16) (h : ∀ x, x < 16 -> (T.getD x false = true ↔ wr.getD x false = true)) : T = wr := by
 refine List.ext_getElem (h1.trans h2.symm) fun x hx1 hx2 => ?_
 have := h x (by omega)
 rw [getD_lt hx1, getD_lt hx2] at this
 cases e1 : T[x] <;> cases e2 : wr[x] <;> rw [e1, e2] at this <;> first | rfl | (have := this.1 rfl; cases this) | (have := this.2 rfl; cases this)
theorem idx60 {b t : Nat} (ht : t < 2) : idxAddr (.array 2 32) EE (.ptr b 0) t = some (.ptr b t) := by
 show bc (Nat.blt t 2) (some (AV.ptr b (0 + t * sizeT EE 32))) none = _
 rw [(blt_iff _ _).2 ht, ty32s, Nat.zero_add, Nat.mul_one]; rfl
theorem idx51 {b t : Nat} (ht : t < 16) : idxAddr (.array 16 4) EE (.ptr b 0) t = some (.ptr b t) := by
 show bc (Nat.blt t 16) (some (AV.ptr b (0 + t * sizeT EE 4))) none = _
 rw [(blt_iff _ _).2 ht, ty4s, Nat.zero_add, Nat.mul_one]; rfl
theorem put51 {H : Hp} {c b : Nat} {wr : List Bool} (hg : H.m.get c = some (.cells (wr.map eBo) 51 true true)) (hb : b < wr.length) : putCells H c b [.bool true] = some (setBlk H c (.cells ((wr.set b true).map eBo) 51 true true)) := by
 rw [putCells_def, hg]
 show putB H c b [.bool true] (.cells (wr.map eBo) 51 true true) = _
 rw [putB_c, setE_one (by rw [List.length_map]; exact hb), List.map_set]; rfl
theorem eqBools (T : List Bool) (h : T.length = 16) : eqAgg (some (true, 16)) (.agg (T.map eBo)) (.agg (T.map eBo)) = some true := by
 show bc (Nat.beq (lenL (T.map eBo)) 16) (cellsEq true (T.map eBo) (T.map eBo)) none = _
 rw [lenL_eq, List.length_map, h]
 show cellsEq true (T.map eBo) (T.map eBo) = _
 clear h
 induction T with
 | nil => rfl
 | cons a T ih =>
  show (scalarEq true (.bool a) (.bool a)).obind (fun x => (cellsEq true (T.map eBo) (T.map eBo)).omap fun y => x && y) = _
  rw [ih]
  cases a <;> rfl
theorem blocks15 {H : Hp} {B : List (List UInt8)} {K : AV -> Hp -> Prop} (hB : B.length < 9223372036854775807) (h64 : ∀ x ∈ B, x.length = 64) (hk : K (.bool true) H) : Call (.func 15 [] []) [.lst 64 (B.map eBlk), .lst 64 (B.map eBlk)] H K := by
 refine enterE (N := 26) rfl fn15 rfl rfl rfl rfl rfl fun hwf => ?_
 simp (disch := (refine ofP ?_; decide)) only [go_sem, List.length_map]
 refine loopE 67106864 (by kernel_rfl) (fun r G H' => H' = H /\ ∃ i : Nat, i ≤ B.length /\ r = B.length - i /\ G.get 5 = some (.int .i64 (i : Int))) B.length ⟨rfl, 0, Nat.zero_le _, (Nat.sub_zero _).symm, (by simp (disch := (refine ofP ?_; first | assumption | decide | omega | (simp only [new_next, set_next] <;> omega) | with_unfolding_all exact ofR rfl | with_unfolding_all exact ofNt rfl)) only [go_sem]; first | done | rfl)⟩ ?_
 rintro r G H' hG ⟨rfl, i, hi, rfl, g5⟩
 by_cases hlt : i < B.length
 ·
  have hx := h64 _ (List.getElem_mem hlt)
  simp (disch := (refine ofP ?_; first | decide | omega)) only [go_sem, g5, hG, List.length_map]
  refine drawE (by kernel_rfl) (by kernel_rfl) ?_
  have hte : takeE 64 (B[i].map eB) = some (B[i].map eB) := by rw [takeE_eq, if_pos (by rw [List.length_map]; omega), List.take_of_length_le (by rw [List.length_map]; omega)]
  have heq : eqAgg (some (false, 64)) (.agg (B[i].map eB)) (.agg (B[i].map eB)) = some true := by
   have e : B[i].map eB = (B[i].map fun c => (c.toNat : Int)).map (.int .u8) := by rw [List.map_map]; rfl
   rw [e, eqAgg_ints (by rw [List.length_map]; exact hx) (by rw [List.length_map]; exact hx), decide_eq_true rfl]
  simp (disch := (refine ofP ?_; decide)) only [go_sem, g5, hG, idx_lst64 hlt, hte, heq]
  refine ⟨_, by omega, i + 1, by omega, rfl, ?_⟩
  rw [wrap_i64 (by omega) (by omega)]; rfl
 ·
  obtain rfl : i = B.length := by omega
  simp (disch := (refine ofP ?_; first | decide | omega)) only [go_sem, g5, hG, List.length_map]
  exact .inl hk
set_option maxHeartbeats 4000000 in
theorem law6 {blocks : UInt8} {la lb : List UInt8} : Call (.func 6 [] []) [.int .u8 blocks.toNat, .agg [.lst 1 (la.map eB), .lst 1 (lb.map eB)]] noHp fun v _ => v = .bool true := by
 have hb8 : blocks.toNat < 256 := blocks.toNat_lt
 obtain ⟨n, hn⟩ : ∃ n : Nat, n = 1 + blocks.toNat % 16 := ⟨_, rfl⟩
 have hn1 : 1 ≤ n /\ n ≤ 16 := by omega
 have hw1 : wrapI .i64 ((blocks.toNat : Nat) : Int) = (blocks.toNat : Nat) := wrap_i64 (by omega) (by omega)
 refine enterE (N := 195) rfl fn6 rfl rfl rfl rfl rfl fun hwf => ?_
 have hr : binInt .rem .i64 ((blocks.toNat : Nat) : Int) (.int .i64 16) = some (.int .i64 ((blocks.toNat % 16 : Nat) : Int)) := rem_n blocks.toNat 16 (by decide)
 have hw2 : wrapI .i64 (1 + ((blocks.toNat % 16 : Nat) : Int)) = (n : Int) := by rw [wrap_i64 (by omega) (by omega)]; omega
 simp (disch := (refine ofP ?_; decide)) only [go_sem, hw1, hr, hw2]
 have g3 : (newBlk noHp (.cells [.lst 1 (la.map eB), .lst 1 (lb.map eB)] 60 true true)).2.m.get noHp.next = some (.cells [.lst 1 (la.map eB), .lst 1 (lb.map eB)] 60 true true) := get_new_s
 have n3 : noHp.next < (newBlk noHp (.cells [.lst 1 (la.map eB), .lst 1 (lb.map eB)] 60 true true)).2.next := Nat.lt_succ_self _
 generalize (newBlk noHp (.cells [.lst 1 (la.map eB), .lst 1 (lb.map eB)] 60 true true)).2 = Hb at g3 n3 ⊢
 generalize noHp.next = b3 at g3 n3 ⊢
 refine new10 (fun h => absurd h (by omega)) (fun k hk k1 k2 H1 bv hM f1 hbv => ?_)
 obtain rfl : k = n := by omega
 have g31 := (f1.2 b3 n3).trans g3
 have i0 := idx60 (b := b3) (t := 0) (by decide)
 have i1 := idx60 (b := b3) (t := 1) (by decide)
 by_cases ca : 40 < la.length
 ·
  have ca' : (40 : Int) < (la.length : Nat) := by omega
  simp (disch := (refine ofP ?_; first | assumption | decide | omega | (simp only [new_next, set_next] <;> omega) | with_unfolding_all exact ofR rfl | with_unfolding_all exact ofNt rfl)) only [go_sem, show Int.toNat 0 = 0 from rfl, show Int.toNat 1 = 1 from rfl, i0, i1, kn g31, List.length_map, ca']
  refine wcall2_true rfl ?_
  simp (disch := (refine ofP ?_; decide)) only [go_sem]
  exact .inl rfl
 by_cases cb : 40 < lb.length
 ·
  have ca' : ¬ (40 : Int) < (la.length : Nat) := by omega
  have cb' : (40 : Int) < (lb.length : Nat) := by omega
  simp (disch := (refine ofP ?_; decide)) only [go_sem, show Int.toNat 0 = 0 from rfl, show Int.toNat 1 = 1 from rfl, i0, i1, kn g31, List.length_map, ca', cb']
  refine wcall2_true rfl ?_
  simp (disch := (refine ofP ?_; decide)) only [go_sem]
  exact .inl rfl
 have ca' : ¬ (40 : Int) < (la.length : Nat) := by omega
 have cb' : ¬ (40 : Int) < (lb.length : Nat) := by omega
 simp (disch := (refine ofP ?_; decide)) only [go_sem, show Int.toNat 0 = 0 from rfl, show Int.toNat 1 = 1 from rfl, i0, i1, kn g31, List.length_map, ca', cb']
 have hM0 : MOK H1 (Hb.next + 1) ⟨zeroBs k, [], 1⟩ (Fo (Hb.next + 1) bv .nils []) := ⟨[], bv, .nils, hM, rfl, rfl⟩
 have ok0 : MS.ok ⟨zeroBs k, [], 1⟩ := ⟨List.Pairwise.nil, fun x hx => (by cases hx), ⟨by show (1 : Int) ≤ 1; decide, by show (1 : Int) ≤ 1000001; decide⟩⟩
 have d0 : D6 ⟨zeroBs k, [], 1⟩ k 0 (List.replicate 16 false) := ⟨ok0, List.length_replicate, rfl, rfl, List.length_replicate, fun x hx => by
  show _ = false
  rw [List.getD_eq_getElem?_getD, List.getElem?_replicate, if_pos hx]; rfl⟩
 have hF0 : ¬ Fo (Hb.next + 1) bv .nils [] b3 := by
  rintro (h | h | ⟨h, _⟩ | ⟨z, hz, _⟩)
  ·
   omega
  ·
   omega
  ·
   exact h rfl
  ·
   cases hz
 obtain ⟨m1, es1, d1, hs1⟩ := d0.snap (by decide)
 refine do12 (hkd := .inr (.inl rfl)) (x := ⟨5, 0, 0, 0, 0, []⟩) (dv := .nils) hM0 ok0 rfl (fun h => absurd h (by decide)) (by decide) fun v H2 F2 hv hM2 u2 => ?_
 rw [es1] at hv hM2
 obtain ⟨b0, rfl, _⟩ := hv
 have hb31 : b3 < H1.next := Nat.lt_of_lt_of_le n3 f1.1
 have hF2 : ¬ F2 b3 := fun h => (u2.new _ h).elim hF0 (fun h => by omega)
 have g32 := (u2.old _ hb31 hF0).trans g31
 have hb32 : b3 < H2.next := Nat.lt_of_lt_of_le hb31 u2.nx
 simp (disch := (refine ofP ?_; decide)) only [go_sem]
 have hF8 : ¬ F2 H2.next := fun h => absurd (hM2.fo h) (Nat.lt_irrefl _)
 have fA : Fr H2 (newBlk H2 (.cells (List.replicate 16 (.bool false)) 51 true true)).2 := Fr.alloc _ _
 have gA : (newBlk H2 (.cells (List.replicate 16 (.bool false)) 51 true true)).2.m.get H2.next = some (.cells ((List.replicate 16 false).map eBo) 51 true true) := get_new_s
 have nA : H2.next < (newBlk H2 (.cells (List.replicate 16 (.bool false)) 51 true true)).2.next := Nat.lt_succ_self _
 have gA3 := (fA.2 b3 hb32).trans g32
 have hMA := hM2.keep fA
 have hbA : b3 < (newBlk H2 (.cells (List.replicate 16 (.bool false)) 51 true true)).2.next := Nat.lt_of_lt_of_le hb32 fA.1
 have h38 : b3 ≠ H2.next := Nat.ne_of_lt hb32
 clear g31 g32 hM2 u2 hM0 hM f1 ok0 d0 es1
 generalize H2.next = b8 at *
 refine loopE 1298074214633559333180034405924368 (by kernel_rfl) (fun r G H' => ∃ (t : Nat) (m : MS) (F : Nat -> Prop) (wr : List Bool) (pre : List Shot) (B : List (List UInt8)), t ≤ 2 /\ r = 2 - t /\ G.get 9 = some (.int .i64 (t : Int)) /\ MOK H' (Hb.next + 1) m F /\ D6 m k (t + 1) wr /\ m.ss = pre ++ [⟨(t : Int) + 1, B, List.replicate k false⟩] /\ ¬ F b3 /\ ¬ F b8 /\ b3 < H'.next /\ b8 < H'.next /\ H'.m.get b3 = some (.cells [.lst 1 (la.map eB), .lst 1 (lb.map eB)] 60 true true) /\ H'.m.get b8 = some (.cells (wr.map eBo) 51 true true)) 2
  ⟨0, m1, F2, List.replicate 16 false, _, _, by decide, (Nat.sub_zero _).symm, (by simp (disch := (refine ofP ?_; first | assumption | decide | omega | (simp only [new_next, set_next] <;> omega) | with_unfolding_all exact ofR rfl | with_unfolding_all exact ofNt rfl)) only [go_sem]; first | done | rfl), hMA, d1, hs1, hF2, hF8, hbA, nA, gA3, gA⟩ ?_
 rintro r G H' hG ⟨t, m, F, wr, pre, B, ht, rfl, g9, hM', hD, hpre, hF3', hF8', hn3, hn8, hg3, hg8⟩
 by_cases ht2 : t < 2
 ·
  have ht2' : (t : Int) < 2 := by omega
  obtain ⟨L, hLl, hL⟩ : ∃ L : List UInt8, L.length ≤ 40 /\ cellB t (.cells [.lst 1 (la.map eB), .lst 1 (lb.map eB)] 60 true true) = some (.lst 1 (L.map eB)) := by
   match t, ht2 with
   | 0, _ => exact ⟨la, by omega, rfl⟩
   | 1, _ => exact ⟨lb, by omega, rfl⟩
  simp (disch := (refine ofP ?_; first | assumption | decide | omega | (simp only [new_next, set_next] <;> omega) | with_unfolding_all exact ofR rfl | with_unfolding_all exact ofNt rfl)) only [go_sem, g9, hG, ht2']
  refine loopE 162259276826852180150143187713040 (by kernel_rfl) (fun r G2 H2 => ∃ (i : Nat) (m : MS) (F : Nat -> Prop) (wr : List Bool), i ≤ L.length /\ r = L.length - i /\ G2.get 10 = some (.int .i64 (i : Int)) /\ MOK H2 (Hb.next + 1) m F /\ D6 m k (t + 1) wr /\ ¬ F b3 /\ ¬ F b8 /\ b3 < H2.next /\ b8 < H2.next /\ H2.m.get b3 = some (.cells [.lst 1 (la.map eB), .lst 1 (lb.map eB)] 60 true true) /\ H2.m.get b8 = some (.cells (wr.map eBo) 51 true true)) L.length
   ⟨0, m, F, wr, Nat.zero_le _, (Nat.sub_zero _).symm, (by simp (disch := (refine ofP ?_; first | assumption | decide | omega | (simp only [new_next, set_next] <;> omega) | with_unfolding_all exact ofR rfl | with_unfolding_all exact ofNt rfl)) only [go_sem]; first | done | rfl), hM', hD, hF3', hF8', hn3, hn8, hg3, hg8⟩ ?_
  clear hM' hD hpre hF3' hF8' hn3 hn8 hg3 hg8
  rintro r G2 H2 hG2 ⟨i, m, F, wr, hi, rfl, g10, hM', hD, hF3', hF8', hn3, hn8, hg3, hg8⟩
  have hcell : (H2.m.get b3).obind (cellB t) = some (.lst 1 (L.map eB)) := by rw [hg3]; exact hL
  by_cases hiL : i < L.length
  ·
   have hiL' : (i : Int) < (L.length : Nat) := by omega
   have hc8 : L[i].toNat < 256 := L[i].toNat_lt
   have hwc : wrapI .i64 ((L[i].toNat : Nat) : Int) = (L[i].toNat : Nat) := wrap_i64 (by omega) (by omega)
   have hrc : binInt .rem .i64 ((L[i].toNat : Nat) : Int) (.int .i64 (k : Int)) = some (.int .i64 ((L[i].toNat % k : Nat) : Int)) := rem_n _ _ (by omega)
   have hbk : L[i].toNat % k < k := Nat.mod_lt _ (by omega)
   simp (disch := (refine ofP ?_; first | assumption | decide)) only [go_sem, g10, hG2, g9, hG, idx60 ht2, hcell, List.length_map, hiL', ia_lst_map, hwc, hrc]
   refine data20 (c := L[i]) ?_
   obtain ⟨m2, es2, d2⟩ := hD.write (by omega) hbk hn1.2 (d := List.replicate 64 L[i]) List.length_replicate hM'.zw
   simp (disch := (refine ofP ?_; first | assumption | decide | omega | (simp only [new_next, set_next] <;> omega) | with_unfolding_all exact ofR rfl | with_unfolding_all exact ofNt rfl)) only [go_sem, g10, hG2, g9, hG]
   refine do12 (hkd := .inl rfl) (x := ⟨2, (L[i].toNat % k : Nat), 0, 0, 0, List.replicate 64 L[i]⟩) hM' hD.ok rfl (fun _ => .inl rfl) (by show (List.replicate 64 L[i]).length ≤ _; rw [List.length_replicate]; decide) fun v H5 F5 hv hM5 u5 => ?_
   rw [es2] at hv hM5
   obtain ⟨b, rfl, _⟩ := hv
   have g3' := (u5.old _ hn3 hF3').trans hg3
   have g8' := (u5.old _ hn8 hF8').trans hg8
   have f3' : ¬ F5 b3 := fun h => (u5.new _ h).elim hF3' (fun h => by omega)
   have f8' : ¬ F5 b8 := fun h => (u5.new _ h).elim hF8' (fun h => by omega)
   have l3' := Nat.lt_of_lt_of_le hn3 u5.nx
   have l8' := Nat.lt_of_lt_of_le hn8 u5.nx
   have hst : storeN H5 1 (.ptr b8 (L[i].toNat % k)) (.bool true) = some (.undef, setBlk H5 b8 (.cells ((wr.set (L[i].toNat % k) true).map eBo) 51 true true)) := by
    rw [storeN_1 rfl, put51 g8' (by rw [hD.wl]; omega)]; rfl
   simp (disch := (refine ofP ?_; first | assumption | decide | omega | (simp only [new_next, set_next] <;> omega) | with_unfolding_all exact ofR rfl | with_unfolding_all exact ofNt rfl)) only [go_sem, show (bad 0).2.2 = 0 from rfl, show (bad 0).2.1 = 0 from rfl, g10, hG2, g9, hG, idx51 (show L[i].toNat % k < 16 by omega), hst]
   refine ⟨_, by omega, i + 1, m2, F5, _, by omega, rfl, ?_, hM5.setN f8' _, d2, f3', f8', l3', l8', g3', rfl⟩
   rw [wrap_i64 (by omega) (by omega)]; rfl
  ·
   obtain rfl : i = L.length := by omega
   simp (disch := (refine ofP ?_; first | decide | omega)) only [go_sem, g10, hG2, g9, hG, idx60 ht2, hcell, List.length_map]
   obtain ⟨m2, es2, d2, hs2⟩ := hD.snap (by omega)
   refine do12 (hkd := .inr (.inl rfl)) (x := ⟨5, 0, 0, 0, 0, []⟩) (dv := .nils) hM' hD.ok rfl (fun h => absurd h (by decide)) (by decide) fun v H5 F5 hv hM5 u5 => ?_
   rw [es2] at hM5
   simp (disch := (refine ofP ?_; first | assumption | decide | omega | (simp only [new_next, set_next] <;> omega) | with_unfolding_all exact ofR rfl | with_unfolding_all exact ofNt rfl)) only [go_sem, g10, hG2, g9, hG]
   refine ⟨_, by omega, t + 1, m2, F5, wr, m.ss, m.bs, by omega, rfl, ?_, hM5, d2, hs2, fun h => (u5.new _ h).elim hF3' (fun h => by omega), fun h => (u5.new _ h).elim hF8' (fun h => by omega), Nat.lt_of_lt_of_le hn3 u5.nx, Nat.lt_of_lt_of_le hn8 u5.nx, (u5.old _ hn3 hF3').trans hg3, (u5.old _ hn8 hF8').trans hg8⟩
   rw [wrap_i64 (by omega) (by omega)]; rfl
 ·
  obtain rfl : t = 2 := by omega
  simp (disch := (refine ofP ?_; decide)) only [go_sem, g9, hG]
  have hbl := hD.bl
  have h64 := hM'.bl
  obtain ⟨m4, st, e6, ok4, bs4, ids4, e10, hps, hrl, hel, hrr, hun⟩ := hD.fin ⟨k1, hn1.2⟩ (B := B) (pre := pre) hpre hM'.zw hM'.zl hM'.z64
  refine hM'.blocks ?_
  simp (disch := (refine ofP ?_; decide)) only [go_sem, hG]
  refine do12 (hkd := .inr (.inr (.inl rfl))) (x := ⟨6, 0, 0, 2, 0, []⟩) (dv := .nils) hM' hD.ok rfl (fun h => absurd h (by decide)) (by decide) fun v H5 F5 hv hM5 u5 => ?_
  rw [e6] at hv hM5
  obtain ⟨q0, rfl, _⟩ := hv
  have g85 := (u5.old _ hn8 hF8').trans hg8
  have f85 : ¬ F5 b8 := fun h => (u5.new _ h).elim hF8' (fun h => by omega)
  have l85 := Nat.lt_of_lt_of_le hn8 u5.nx
  simp (disch := (refine ofP ?_; decide)) only [go_sem, show (bad 0).2.2 = 0 from rfl, show (bad 0).2.1 = 0 from rfl, hG]
  refine do12 (hkd := .inr (.inr (.inr rfl))) (x := ⟨10, 0, 0, 3, 1, []⟩) (dv := .nils) hM5 ok4 rfl (fun h => absurd h (by decide)) (by decide) fun v H6 F6 hv hM6 u6 => ?_
  rw [e10] at hv hM6
  obtain ⟨q1, rfl, hq⟩ := hv
  have hq1 : q1 = .lst 1 ((encB st).map eB) := by
   rcases hq with h | ⟨_, h⟩
   ·
    exact h
   ·
    exfalso
    have h : encB st = [] := h
    have := congrArg List.length h
    unfold encB at this
    rw [List.flatten_cons, List.length_append] at this
    unfold bodyB at this
    rw [List.length_append, headB_len] at this
    have : 24 + _ + _ = 0 := this
    omega
  subst hq1
  have g86 := (u6.old _ l85 f85).trans g85
  have l86 := Nat.lt_of_lt_of_le l85 u6.nx
  simp (disch := (refine ofP ?_; first | assumption | decide | omega | (simp only [new_next, set_next] <;> omega) | with_unfolding_all exact ofR rfl | with_unfolding_all exact ofNt rfl)) only [go_sem, show ((encB st, 0, 0) : Out).2.2 = 0 from rfl, show ((encB st, 0, 0) : Out).2.1 = 0 from rfl, hG]
  refine parse21 (w := encB st) (by omega) ?_
  rw [hps]
  simp (disch := (refine ofP ?_; first | decide | omega)) only [go_sem, hG]
  have fC : Fr H6 (setBlk (newBlk H6 (.cells [.int .i64 0, .int .i64 0, .int .i64 0, .nils] 64 true true)).2 H6.next (.cells [.int .i64 st.blocks, .int .i64 st.base, .int .i64 st.id, .lst 4 (st.recs.map eRec)] 64 true true)) := (Fr.alloc _ _).set (Nat.le_refl _) _
  have gC : (setBlk (newBlk H6 (.cells [.int .i64 0, .int .i64 0, .int .i64 0, .nils] 64 true true)).2 H6.next (.cells [.int .i64 st.blocks, .int .i64 st.base, .int .i64 st.id, .lst 4 (st.recs.map eRec)] 64 true true)).m.get H6.next = some (.cells [.int .i64 st.blocks, .int .i64 st.base, .int .i64 st.id, .lst 4 (st.recs.map eRec)] 64 true true) := get_set_s
  have nC : H6.next < (setBlk (newBlk H6 (.cells [.int .i64 0, .int .i64 0, .int .i64 0, .nils] 64 true true)).2 H6.next (.cells [.int .i64 st.blocks, .int .i64 st.base, .int .i64 st.id, .lst 4 (st.recs.map eRec)] 64 true true)).next := Nat.lt_succ_self _
  generalize setBlk (newBlk H6 (.cells [.int .i64 0, .int .i64 0, .int .i64 0, .nils] 64 true true)).2 H6.next (.cells [.int .i64 st.blocks, .int .i64 st.base, .int .i64 st.id, .lst 4 (st.recs.map eRec)] 64 true true) = HC at fC gC nC ⊢
  have hMC := hM6.keep fC
  have g8C := (fC.2 _ l86).trans g86
  have l8C := Nat.lt_of_lt_of_le l86 fC.1
  generalize H6.next = b22 at gC nC ⊢
  refine hMC.ids fun u hu => ?_
  rw [ids4] at hu
  simp (disch := (refine ofP ?_; first | assumption | decide | omega | (simp only [new_next, set_next] <;> omega) | with_unfolding_all exact ofR rfl | with_unfolding_all exact ofNt rfl)) only [go_sem, hG]
  refine ints17R hu (by decide) get_new_s ?_
  rw [decide_eq_true rfl]
  have fD : Fr HC (newBlk HC (.cells [.int .i64 1, .int .i64 3] 3 true true)).2 := Fr.alloc _ _
  simp (disch := (refine ofP ?_; decide)) only [go_sem, hG]
  refine (hMC.keep fD).blocks ?_
  rw [bs4]
  simp (disch := (refine ofP ?_; first | assumption | decide | omega | (simp only [new_next, set_next] <;> omega) | with_unfolding_all exact ofR rfl | with_unfolding_all exact ofNt rfl)) only [go_sem, hG]
  refine blocks15 (by omega) h64 ?_
  have gD := (fD.2 _ nC).trans gC
  have g8D := (fD.2 _ l8C).trans g8C
  have lD := Nat.lt_of_lt_of_le nC fD.1
  have l8D := Nat.lt_of_lt_of_le l8C fD.1
  generalize (newBlk HC (.cells [.int .i64 1, .int .i64 3] 3 true true)).2 = HD at gD g8D lD l8D ⊢
  simp (disch := (refine ofP ?_; first | assumption | decide | omega | (simp only [new_next, set_next] <;> omega) | with_unfolding_all exact ofR rfl | with_unfolding_all exact ofNt rfl)) only [go_sem, hG]
  have fE : Fr HD (newBlk HD (.cells (List.replicate 16 (.bool false)) 51 true true)).2 := Fr.alloc _ _
  have gE : (newBlk HD (.cells (List.replicate 16 (.bool false)) 51 true true)).2.m.get HD.next = some (.cells ((List.replicate 16 false).map eBo) 51 true true) := get_new_s
  have gE2 := (fE.2 _ lD).trans gD
  have gE8 := (fE.2 _ l8D).trans g8D
  have ne2 : b22 ≠ HD.next := Nat.ne_of_lt lD
  have ne8 : b8 ≠ HD.next := Nat.ne_of_lt l8D
  generalize HD.next = b24 at gE ne2 ne8 ⊢
  have hwl := hD.wl
  clear hM' hD hM5 hM6 hMC u5 u6 g85 g86 gC gD g8C g8D fC fD hpre hps hel hu e6 e10
  refine loopE 784637716877663169312882961707093150990410586193991303184 (by kernel_rfl) (fun r G4 H' => ∃ (i : Nat) (T : List Bool), i ≤ st.recs.length /\ r = st.recs.length - i /\ G4.get 25 = some (.int .i64 (i : Int)) /\ T.length = 16 /\ (∀ x, x < 16 -> (T.getD x false = true ↔ ∃ j r, j < i /\ st.recs[j]? = some r /\ r.fr ≤ (x : Int) /\ (x : Int) < r.fr + r.cnt)) /\ H'.m.get b22 = some (.cells [.int .i64 st.blocks, .int .i64 st.base, .int .i64 st.id, .lst 4 (st.recs.map eRec)] 64 true true) /\ H'.m.get b8 = some (.cells (wr.map eBo) 51 true true) /\ H'.m.get b24 = some (.cells (T.map eBo) 51 true true)) st.recs.length
   ⟨0, List.replicate 16 false, Nat.zero_le _, (Nat.sub_zero _).symm, (by simp (disch := (refine ofP ?_; first | assumption | decide | omega | (simp only [new_next, set_next] <;> omega) | with_unfolding_all exact ofR rfl | with_unfolding_all exact ofNt rfl)) only [go_sem]; first | done | rfl), List.length_replicate, fun x hx => ⟨fun h => (by rw [List.getD_eq_getElem?_getD, List.getElem?_replicate, if_pos hx] at h; cases h), fun ⟨j, r, h, _⟩ => absurd h (Nat.not_lt_zero _)⟩, gE2, gE8, gE⟩ ?_
  rintro r G4 H' hG4 ⟨i, T, hi, rfl, g25, hTl, hT, m2, m8, m24⟩
  by_cases hlt : i < st.recs.length
  ·
   obtain ⟨rr1, rr2, rr3⟩ := hrr _ (List.getElem_mem hlt)
   obtain ⟨f, hf⟩ := Int.eq_ofNat_of_zero_le rr2
   have hlt' : (i : Int) < (st.recs.length : Nat) := by omega
   simp (disch := (refine ofP ?_; first | assumption | decide | omega | (simp only [new_next, set_next] <;> omega) | with_unfolding_all exact ofR rfl | with_unfolding_all exact ofNt rfl)) only [go_sem, g25, hG4, hG, kn m2, List.length_map, hlt']
   refine loopE 784637711077328546155862005086218971147662351934475468816 (by kernel_rfl) (fun r G6 H6 => ∃ (q : Nat) (T : List Bool), q ≤ st.recs[i].cnt.toNat /\ r = st.recs[i].cnt.toNat - q /\ G6.get 26 = some (.int .i64 (q : Int)) /\ T.length = 16 /\ (∀ x, x < 16 -> (T.getD x false = true ↔ (∃ j r, j < i /\ st.recs[j]? = some r /\ r.fr ≤ (x : Int) /\ (x : Int) < r.fr + r.cnt) ∨ (f ≤ x /\ x < f + q))) /\ H6.m.get b22 = some (.cells [.int .i64 st.blocks, .int .i64 st.base, .int .i64 st.id, .lst 4 (st.recs.map eRec)] 64 true true) /\ H6.m.get b8 = some (.cells (wr.map eBo) 51 true true) /\ H6.m.get b24 = some (.cells (T.map eBo) 51 true true)) st.recs[i].cnt.toNat
    ⟨0, T, Nat.zero_le _, (Nat.sub_zero _).symm, (by simp (disch := (refine ofP ?_; first | assumption | decide | omega | (simp only [new_next, set_next] <;> omega) | with_unfolding_all exact ofR rfl | with_unfolding_all exact ofNt rfl)) only [go_sem]; first | done | rfl), hTl, fun x hx => by rw [hT x hx]; exact ⟨fun h => .inl h, fun h => h.elim id (fun h => by omega)⟩, m2, m8, m24⟩ ?_
   clear hT hTl m2 m8 m24
   rintro r G6 H6 hG6 ⟨q, T, hq, rfl, g26, hTl, hT, m2, m8, m24⟩
   by_cases hql : q < st.recs[i].cnt.toNat
   ·
    have hql' : (q : Int) < st.recs[i].cnt := by omega
    have hw : wrapI .i64 (st.recs[i].fr + (q : Int)) = ((f + q : Nat) : Int) := by rw [wrap_i64 (by omega) (by omega), hf]; rfl
    have c1 : ¬ ((f + q : Nat) : Int) < 0 := by omega
    have c2 : ¬ (k : Int) ≤ ((f + q : Nat) : Int) := by omega
    have hst : storeN H6 1 (.ptr b24 (f + q)) (.bool true) = some (.undef, setBlk H6 b24 (.cells ((T.set (f + q) true).map eBo) 51 true true)) := by
     rw [storeN_1 rfl, put51 m24 (by omega)]; rfl
    simp (disch := (refine ofP ?_; first | assumption | decide | omega | (simp only [new_next, set_next] <;> omega) | with_unfolding_all exact ofR rfl | with_unfolding_all exact ofNt rfl)) only [go_sem, g26, hG6, g25, hG4, hG, kn m2, ia_lst_map, hlt, hql', hw, c1, c2, idx51 (show f + q < 16 by omega), hst]
    refine ⟨_, by omega, q + 1, T.set (f + q) true, by omega, rfl, ?_, by rw [List.length_set]; exact hTl, fun x hx => ?_, m8, rfl⟩
    ·
     rw [wrap_i64 (by omega) (by omega)]; rfl
    ·
     rw [set_getD _ _ _ (by omega), Bool.or_eq_true, decide_eq_true_eq, hT x hx]
     constructor
     ·
      rintro ((h | h) | h)
      ·
       exact .inl h
      ·
       exact .inr (by omega)
      ·
       exact .inr (by omega)
     ·
      rintro (h | h)
      ·
       exact .inl (.inl h)
      ·
       by_cases hx2 : x = f + q
       ·
        exact .inr hx2
       ·
        exact .inl (.inr (by omega))
   ·
    obtain rfl : q = st.recs[i].cnt.toNat := by omega
    have hql' : ¬ ((st.recs[i].cnt.toNat : Nat) : Int) < st.recs[i].cnt := by omega
    simp (disch := (refine ofP ?_; first | assumption | decide | omega | (simp only [new_next, set_next] <;> omega) | with_unfolding_all exact ofR rfl | with_unfolding_all exact ofNt rfl)) only [go_sem, g26, hG6, g25, hG4, hG, kn m2, ia_lst_map, hlt, hql']
    refine ⟨_, by omega, i + 1, T, by omega, rfl, ?_, hTl, fun x hx => ?_, m8, m24⟩
    ·
     rw [wrap_i64 (by omega) (by omega)]; rfl
    ·
     rw [hT x hx]
     constructor
     ·
      rintro (⟨j, r, h1, h2⟩ | ⟨h1, h2⟩)
      ·
       exact ⟨j, r, by omega, h2⟩
      ·
       exact ⟨i, st.recs[i], by omega, List.getElem?_eq_getElem hlt, by omega, by omega⟩
     ·
      rintro ⟨j, r, h1, h2, h3, h4⟩
      by_cases hj : j < i
      ·
       exact .inl ⟨j, r, hj, h2, h3, h4⟩
      ·
       have hji : j = i := by omega
       subst hji
       rw [List.getElem?_eq_getElem hlt] at h2
       cases h2
       exact .inr ⟨by omega, by omega⟩
  ·
   obtain rfl : i = st.recs.length := by omega
   have hTw : T = wr := bools_eq hTl hwl fun x hx => by
    rw [hT x hx, hun x hx]
    constructor
    ·
     rintro ⟨j, r, _, h2, h3, h4⟩
     exact ⟨r, List.mem_of_getElem? h2, h3, h4⟩
    ·
     rintro ⟨r, hr, h3, h4⟩
     obtain ⟨j, hj, rfl⟩ := List.getElem_of_mem hr
     exact ⟨j, _, hj, List.getElem?_eq_getElem hj, h3, h4⟩
   subst hTw
   have hl16 : takeE 16 (dropL 0 (T.map eBo)) = some (T.map eBo) := by
    rw [dropL_eq, takeE_eq, List.drop_zero, if_pos (by rw [List.length_map]; omega), List.take_of_length_le (by rw [List.length_map]; omega)]
   have h24 : (H'.m.get b24).obind (cellsB 0 16) = some (T.map eBo) := by
    have h : cellsAt H' b24 0 16 = _ := (kn m24).2.2.1 0 16
    exact h.trans hl16
   have h8 : (H'.m.get b8).obind (cellsB 0 16) = some (T.map eBo) := by
    have h : cellsAt H' b8 0 16 = _ := (kn m8).2.2.1 0 16
    exact h.trans hl16
   simp (disch := (refine ofP ?_; first | decide | omega)) only [go_sem, g25, hG4, hG, kn m2, List.length_map, h24, h8, eqBools T hTl]
   refine wcall2_true rfl ?_
   simp (disch := (refine ofP ?_; decide)) only [go_sem]
   exact .inl rfl
end
end Go.Ev
namespace Go.Ev
open Go.Proofs Go.RowKit Go.ChangeShapes Go.WideShapes Go.ChangeAt
noncomputable section
set_option maxRecDepth 100000
section
variable {H : Type} {enc : TypeId × Value -> H} {W : World}
theorem c3 : Try.prog.cellsOf 3 = 1 := by kernel_rfl
theorem c5 : Try.prog.cellsOf 5 = 1 := by kernel_rfl
theorem c32 : Try.prog.cellsOf 32 = 1 := by kernel_rfl
theorem c34 : Try.prog.cellsOf 34 = 6 := by kernel_rfl
theorem b5 : Try.prog.bytesOf 5 = 1 := by kernel_rfl
theorem b34 : Try.prog.bytesOf 34 = 64 := by kernel_rfl
noncomputable def hd1 (cs : List AV) : AV := match cs with | [c] => c | _ => .undef
theorem hd1_cells : ∀ cs : List AV, cs.length = 1 -> flatL cs = true -> (hd1 cs).cells = cs
 | [c], _, h => by
  have h : oneC c = true := by
   rw [flatL_cons'] at h
   revert h; cases oneC c <;> intro h <;> first | rfl | cases h
  exact oneC_cells h
@[reducible] noncomputable def TrO (enc : TypeId × Value -> H) (W : World) (fuel : Nat) (t : TypeId) (cs : List Value) := DataW.trod enc Try.prog W 0 (fun _ => true) true fuel t cs
@[reducible] def Wt (t : TypeId) (d : DataW H) : Prop := (d.weights Try.prog t).all (· ≤ reachBytes) = true
theorem el_int {fuel : Nat} {cs : List Value} {x : DataW H × List MemPlace} (h : TrO enc W fuel 3 cs = some x) : ∃ a : Int, cs = [.int .i64 a] := by
 obtain ⟨m, rfl, _, _⟩ := DataW.trod_int Try.underlying3 h
 exact ⟨m, rfl⟩
theorem el_byte {fuel : Nat} {cs : List Value} {x : DataW H × List MemPlace} (h : TrO enc W fuel 5 cs = some x) : ∃ c : UInt8, cs.map (absV W.heap.size) = [eB c] := by
 obtain ⟨m, rfl, _, hw⟩ := DataW.trod_int Try.underlying5 h
 have hm : 0 ≤ m /\ m < 256 := by
  have := hw
  simp [Lit.wf, IntKind.min, IntKind.max, IntKind.signed, IntKind.bits] at this
  omega
 refine ⟨UInt8.ofNat m.toNat, ?_⟩
 show [AV.int .u8 m] = [AV.int .u8 _]
 have : (UInt8.ofNat m.toNat).toNat = m.toNat := by
  simp; omega
 rw [this]
 congr 2; omega
theorem op_bytes {fuel : Nat} {v : Value} {x : DataW H × List MemPlace} (h : TrO enc W fuel 32 [v] = some x) (hw : Wt 32 x.1) : ∃ l : List UInt8, VR false noMp (absH W) (.lst 1 (l.map eB)) (absV W.heap.size v) /\ oneC (absV W.heap.size v) = true /\ conc (idSg W.heap.size) (absV W.heap.size v) = some v /\ l.length ≤ 140737488351232 := by
 obtain ⟨l, _, h1, h2, h3, _, h5⟩ := open_lstQ (eA := eB) (mk := hd1) (Inv := fun _ => True) (Q := fun _ => True) Try.underlying32 c5 (by decide) hd1_cells (fun fuel cs x hl hx _ => by
  obtain ⟨a, ha⟩ := el_byte hx
  exact ⟨a, trivial, by rw [ha]; exact VR.int, by rw [ha]; rfl⟩) h (fun _ _ _ _ _ => trivial)
 refine ⟨l, h1, h2, h3, ?_⟩
 rcases h5 with rfl | ⟨es, rs, hx, hl⟩
 ·
  decide
 ·
  rw [hx] at hw
  have := (wt_slice Try.underlying32 hw).1
  rw [b5, hl, Nat.mul_one] at this
  exact this
theorem el_stp {fuel : Nat} {cs : List Value} {x : DataW H × List MemPlace} (hl : cs.length = 6) (h : TrO enc W fuel 34 cs = some x) (hw : Wt 34 x.1) : ∃ s : Stp, s.data.length ≤ 140737488351232 /\ VR false noMp (absH W) (eStp s) (.agg (cs.map (absV W.heap.size))) /\ flatL (cs.map (absV W.heap.size)) = true := by
 obtain ⟨xs, n, _, hxa, _, hxs, hf⟩ := DataW.trod_struct Try.underlying34 h
 have hxs : xs.length = 6 := hxs
 rw [hxa] at hw
 obtain ⟨v0, v1, v2, v3, v4, v5, rfl⟩ : ∃ a b c d e f, cs = [a, b, c, d, e, f] := by
  match cs, hl with
  | [a, b, c, d, e, f], _ => exact ⟨a, b, c, d, e, f, rfl⟩
 have a0 := hf 0 _ rfl
 have a1 := hf 1 _ rfl
 have a2 := hf 2 _ rfl
 have a3 := hf 3 _ rfl
 have a4 := hf 4 _ rfl
 have a5 := hf 5 _ rfl
 rw [List.getElem?_eq_getElem (by omega)] at a0 a1 a2 a3 a4 a5
 change DataW.trod enc Try.prog W 0 (fun _ => true) true n 3 (List.take (Try.prog.cellsOf 3) [v0, v1, v2, v3, v4, v5]) = _ at a0
 change DataW.trod enc Try.prog W 0 (fun _ => true) true n 3 (List.take (Try.prog.cellsOf 3) [v1, v2, v3, v4, v5]) = _ at a1
 change DataW.trod enc Try.prog W 0 (fun _ => true) true n 3 (List.take (Try.prog.cellsOf 3) [v2, v3, v4, v5]) = _ at a2
 change DataW.trod enc Try.prog W 0 (fun _ => true) true n 3 (List.take (Try.prog.cellsOf 3) [v3, v4, v5]) = _ at a3
 change DataW.trod enc Try.prog W 0 (fun _ => true) true n 3 (List.take (Try.prog.cellsOf 3) [v4, v5]) = _ at a4
 change DataW.trod enc Try.prog W 0 (fun _ => true) true n 32 (List.take (Try.prog.cellsOf 32) [v5]) = _ at a5
 rw [c3] at a0 a1 a2 a3 a4
 rw [c32] at a5
 obtain ⟨m0, e0⟩ := el_int a0
 obtain ⟨m1, e1⟩ := el_int a1
 obtain ⟨m2, e2⟩ := el_int a2
 obtain ⟨m3, e3⟩ := el_int a3
 obtain ⟨m4, e4⟩ := el_int a4
 simp at e0 e1 e2 e3 e4
 subst e0 e1 e2 e3 e4
 have hw5 : Wt 32 (xs[5]'(by omega)).1 := wt_each (wt_struct Try.underlying34 hw) 5 32 _ rfl (by rw [List.getElem?_map, List.getElem?_eq_getElem (by omega)]; rfl)
 obtain ⟨l, r1, o1, _, hle⟩ := op_bytes a5 hw5
 refine ⟨⟨m0, m1, m2, m3, m4, l⟩, hle, VR.agg_mk (VRL.cons.2 ⟨_, _, VR.int, VRL.cons.2 ⟨_, _, VR.int, VRL.cons.2 ⟨_, _, VR.int, VRL.cons.2 ⟨_, _, VR.int, VRL.cons.2 ⟨_, _, VR.int, VRL.cons.2 ⟨_, _, r1, VRL.nil.2 rfl, rfl⟩, rfl⟩, rfl⟩, rfl⟩, rfl⟩, rfl⟩), ?_⟩
 show flatL [_, _, _, _, _, absV W.heap.size v5] = true
 rw [flatL_cons', flatL_cons', flatL_cons', flatL_cons', flatL_cons', flatL_cons', o1]; rfl
theorem op_stps {fuel : Nat} {v : Value} {x : DataW H × List MemPlace} (h : TrO enc W fuel 22 [v] = some x) (hw : Wt 22 x.1) : ∃ l : List Stp, (∀ s ∈ l, s.data.length ≤ 140737488351232) /\ VR false noMp (absH W) (.lst 6 (l.map eStp)) (absV W.heap.size v) /\ conc (idSg W.heap.size) (absV W.heap.size v) = some v /\ l.length < 9223372036854775807 := by
 obtain ⟨l, hI, h1, h2, h3, _, h5⟩ := open_lstQ (eA := eStp) (mk := .agg) (Inv := fun s : Stp => s.data.length ≤ 140737488351232) (Q := Wt 34) Try.underlying22 c34 (by decide) (fun _ _ _ => rfl) (fun fuel cs x hl hx hq => el_stp hl hx hq) h (fun es rs he d hd => by
  rw [he] at hw
  exact (wt_slice Try.underlying22 hw).2 d hd)
 refine ⟨l, hI, h1, h3, ?_⟩
 rcases h5 with rfl | ⟨es, rs, hx, hl⟩
 ·
  decide
 ·
  rw [hx] at hw
  have := (wt_slice Try.underlying22 hw).1
  rw [b34, hl] at this
  have h : l.length * 64 ≤ 140737488351232 := this
  omega
theorem open_steps {v : Value} {d : DataW H} {ps : List MemPlace} (h : DataW.Trod enc Try.prog W 0 (fun _ => true) true 22 v d ps) (hw : Wt 22 d) (hv : ∃ base, Value.okWide Try.prog W .any base 22 v) :
 ∃ l : List Stp, (∀ s ∈ l, s.data.length ≤ 140737488351232) /\ VR false noMp (absH W) (.lst 6 (l.map eStp)) (absV W.heap.size v) /\ conc (idSg W.heap.size) (absV W.heap.size v) = some v /\ l.length < 9223372036854775807 := by
 obtain ⟨base, hv⟩ := hv
 obtain ⟨fuel, h⟩ := h
 rcases ok_slice Try.underlying22 hv with rfl | ⟨b, o, len, cap, rfl, _, _⟩
 ·
  exact op_stps h hw
 ·
  exact op_stps h hw
theorem open_u8 {v : Value} {d : DataW H} {ps : List MemPlace} (h : DataW.Trod enc Try.prog W 0 (fun _ => true) true 5 v d ps) (hv : ∃ base, Value.okWide Try.prog W .any base 5 v) : ∃ c : UInt8, v = .int .u8 c.toNat := by
 obtain ⟨base, hv⟩ := hv
 obtain ⟨n, rfl, _, _, hw⟩ := open_int Try.underlying5 hv h
 have hm : 0 ≤ n /\ n < 256 := by
  simp [Lit.wf, IntKind.min, IntKind.max, IntKind.signed, IntKind.bits] at hw
  omega
 refine ⟨UInt8.ofNat n.toNat, ?_⟩
 have : (UInt8.ofNat n.toNat).toNat = n.toNat := by simp; omega
 rw [this]; congr 1; omega
end
end
end Go.Ev
namespace Go.Ev
open Go.Proofs Go.RowKit Go.ChangeShapes Go.WideShapes Go.ChangeAt
noncomputable section
set_option maxRecDepth 100000
section
variable {H : Type} {enc : TypeId × Value -> H} {W : World}
theorem c60 : Try.prog.cellsOf 60 = 2 := by kernel_rfl
theorem op_bytes0 {fuel : Nat} {v : Value} {x : DataW H × List MemPlace} (h : TrO enc W fuel 32 [v] = some x) : ∃ l : List UInt8, VR false noMp (absH W) (.lst 1 (l.map eB)) (absV W.heap.size v) /\ conc (idSg W.heap.size) (absV W.heap.size v) = some v := by
 obtain ⟨l, _, h1, h2, h3, _⟩ := open_lst (eA := eB) (mk := hd1) (Inv := fun _ => True) Try.underlying32 c5 (by decide) hd1_cells (fun fuel cs x hl hx => by
  obtain ⟨a, ha⟩ := el_byte hx
  exact ⟨a, trivial, by rw [ha]; exact VR.int, by rw [ha]; rfl⟩) h
 exact ⟨l, h1, h3⟩
theorem open_two {v : Value} {d : DataW H} {ps : List MemPlace} (h : DataW.Trod enc Try.prog W 0 (fun _ => true) true 60 v d ps) (hv : ∃ base, Value.okWide Try.prog W .any base 60 v) :
 ∃ (la lb : List UInt8) (w : AV), VR false noMp (absH W) (.agg [.lst 1 (la.map eB), .lst 1 (lb.map eB)]) w /\ conc (idSg W.heap.size) w = some v := by
 obtain ⟨base, hv⟩ := hv
 obtain ⟨fuel, h⟩ := h
 unfold Value.okWide at hv
 rw [Try.underlying60] at hv
 obtain ⟨cs, rfl, hsz, _⟩ := hv
 rw [c60] at hsz
 obtain ⟨v0, v1, hcs⟩ : ∃ a b, cs.toList = [a, b] := by
  have : cs.toList.length = 2 := by simpa using hsz
  match cs.toList, this with
  | [a, b], _ => exact ⟨a, b, rfl⟩
 obtain ⟨xs, n, _, _, _, hxs, hf⟩ := DataW.trod_array Try.underlying60 h
 have hcells : (Value.agg cs).cells.toList = [v0, v1] := hcs
 have a0 := hf 0 (by decide)
 have a1 := hf 1 (by decide)
 rw [hcells, List.getElem?_eq_getElem (by omega), c32] at a0 a1
 obtain ⟨l0, r0, k0⟩ := op_bytes0 (v := v0) a0
 obtain ⟨l1, r1, k1⟩ := op_bytes0 (v := v1) a1
 refine ⟨l0, l1, .agg [absV W.heap.size v0, absV W.heap.size v1], VR.agg_mk (VRL.cons.2 ⟨_, _, r0, VRL.cons.2 ⟨_, _, r1, VRL.nil.2 rfl, rfl⟩, rfl⟩), ?_⟩
 have hconc : concL (idSg W.heap.size) [absV W.heap.size v0, absV W.heap.size v1] = some cs.toList := by
  rw [hcs]; simp [concL, k0, k1]
 simp only [conc, hconc]; simp
end
end
end Go.Ev
namespace Go.Proofs.Ytajekleknljggaa.modelDrops
open Go.ChangeShapes Go.WideShapes Go.ChangeAt Go.RowKit Go.Ev
theorem own : ownKnob Try.prog.godebug = none := by kernel_rfl
theorem laidOut : laidOutB Try.prog = true := by kernel_rfl
theorem baseOk : EnvOk (envOf Try.prog) Try.prog := envOk_of (by kernel_rfl) (by kernel_rfl) (Checked.mixed Try.checked)
theorem envOk : EnvOk E1 Try.prog := envV_ok baseOk fun f hf => by
 obtain rfl : f = 9 := by simpa [wk] using hf
 exact ⟨299, wakes29⟩
set_option maxRecDepth 100000 in
theorem lifted (os : Os) (started : os.Started) (H : Type) (enc : TypeId × Value -> H) :
 ReturnsInHanded {} Try.checked os 6 .any (Rows.modelDropsSpec.pre6 enc Try.prog Try.f6 Rows.modelDropsRow.domain false) (Rows.modelDropsSpec.post enc Try.prog Try.f6 false true false false) := by
 refine law_liftedW (C := Try.checked) started own (by kernel_rfl) Try.func6
  (ChangeSpec.witness6 (enc := enc) (C := Try.checked) false ⟨#[], #[.int .u8 0, .agg #[.slice none 0 0, .slice none 0 0]], []⟩ 12 (by kernel_rfl) (by kernel_rfl) (by kernel_rfl) (by kernel_rfl))
  (tb := 4) (by kernel_rfl) Try.underlying4 laidOut ?_ rfl ?_ ?_
 ·
  intro t ht
  have ht : t = 5 ∨ t = 60 := by simpa [show Try.f6.params = #[5, 60] from rfl] using ht
  rcases ht with rfl | rfl <;> exact ⟨by kernel_rfl, of_decide_eq_true (by kernel_rfl)⟩
 ·
  intro ds hd
  match ds, hd with
  | [d0, d1], _ => rfl
 ·
  intro W args ds ps hA hval hwt
  have hA : DataW.TrodAll enc Try.prog W 0 (fun _ => true) true [5, 60] args.toList ds ps := hA
  have hwt : (DataW.weightsEach Try.prog [5, 60] ds).all (· ≤ reachBytes) = true := hwt
  obtain ⟨v0, vs0, d0, ds0, p0, q0, hargs, rfl, rfl, h0, r0⟩ := trodAll_cons hA
  obtain ⟨v1, vs1, d1, ds1, p1, q1, rfl, rfl, rfl, h1, r1⟩ := trodAll_cons r0
  obtain ⟨rfl, rfl, rfl⟩ := trodAll_nil r1
  obtain rfl : args = #[v0, v1] := by cases args; simp_all
  obtain ⟨c, rfl⟩ := open_u8 h0 (hval 0 5 v0 rfl rfl)
  obtain ⟨la, lb, w, hx, hcx⟩ := open_two h1 (hval 1 60 v1 rfl rfl)
  refine calls_of envOk rfl (avs := [.int .u8 c.toNat, w]) ?_ (top2 (VRL.cons.2 ⟨_, _, VR.int, VRL.cons.2 ⟨_, _, hx, VRL.nil.2 rfl, rfl⟩, rfl⟩) law6)
  exact concL_cons.2 ⟨_, _, rfl, concL_cons.2 ⟨_, _, hcx, rfl, rfl⟩, rfl⟩
set_option maxHeartbeats 4000000 in
set_option maxRecDepth 100000 in
theorem closed : joinedFacts Try.pinned.checked.prog 6 Try.f6 Rows.modelDropsSpec Rows.modelDropsRow = true := by
 unfold joinedFacts
 rw [Bool.and_eq_true, Bool.and_eq_true]
 repeat rw [Bool.and_eq_true]
 and_intros
 all_goals (as_aux_lemma => kernel_rfl)
theorem over : Rows.modelDropsRow.holds Try.pinned (OpenSpec.ofChange Rows.modelDropsSpec) :=
 OpenClaim.holds_of_wide 6 Try.f6 rfl rfl rfl rfl rfl rfl rfl ⟨rfl, rfl, rfl, rfl, rfl⟩ rfl rfl rfl rfl rfl (by kernel_rfl) Try.func6 closed
  (of_decide_eq_true (by kernel_rfl)) (by unfold Func.isWrapper; first | (rw [if_pos (by decide +kernel)]; kernel_rfl) | (rw [if_neg (by decide +kernel)]; exact ⟨rfl, rfl⟩))
  (fun os started H enc _ => lifted os started H enc)
/-- The statement. -/
theorem proved : Rows.ModelDropsSaid := over
#print axioms proved
end Go.Proofs.Ytajekleknljggaa.modelDrops
