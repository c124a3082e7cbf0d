/-
  ModelKeeps: whatever comes in, the statement is true, and nothing that was there has turned. No conditions.
-/
import Derived.Test.YtajekleknljggaaPE
import Derived.Test.YtajekleknljggaaW29
import Derived.Test.YtajekleknljggaaChecked
import Derived.Test.YtajekleknljggaaRows
import Derived.WalkKit
import Derived.ProofKit
import Derived.OpenShut
import Derived.Eval
set_option linter.unusedVariables false
set_option linter.unusedSimpArgs false
namespace Go.Ev
open Go.Proofs
noncomputable section
set_option maxRecDepth 100000
theorem fn7 : E1.fn 7 = some Try.f7 := by kernel_rfl
theorem app_dv {H : Hp} {w : List UInt8} (hw : w.length ≤ 140737488351232) : ∃ v H2, evAppend EE (newBlk H (.cells [] 5 true true)).2 5 (.slice H.next 0 0 (.ex 0)) w.length (w.map eB) = some (v, H2) ∧ Fr H H2 ∧ Dv H2 v w ∧ ∀ a, a < H.next → ∀ b n k, v = .slice b 0 n k → b ≠ a := by
  have ha := Acc.new0 (E := EE) (Fr.refl H) ty5s (by decide) ty5g
  by_cases h0 : w = []
  · subst h0
    refine ⟨_, _, ha.app0, ha.fr, .inr ⟨H.next, true, rfl, get_new_s, Nat.lt_succ_self _⟩, fun a hlt b n k he => ?_⟩
    cases he; omega
  · have hpos : 0 < w.length := List.length_pos_iff.2 h0
    have hm : (w.map eB).length = w.length := List.length_map _
    have hf := flat_eB w
    have h1 := ha.manyB ty5gB (m := w.length) (by simpa using hw) hpos (w.map eB) (by rw [hm, Nat.mul_one]) (by rw [← catL_eB]; exact hf)
    have h2 := ha.manyedB ty5gB (m := w.length) (by simpa using hw) hpos (new := w.map eB) (w.map eB) (catL_eB w) hm (eB_len w) (by rw [← catL_eB]; exact hf)
    refine ⟨_, _, h1, h2.fr, ?_⟩
    rcases h2.own.2 with ⟨hh, _⟩ | ⟨b, x, hge, hlt, hv, hb⟩
    · cases hh
    · refine ⟨.inr ⟨b, x, ?_, ?_, hlt⟩, fun a hlt b' n k he => ?_⟩
      · rw [hv, List.nil_append, hm]; rfl
      · rw [hb, List.nil_append, catL_eB]
      · rw [hv] at he; cases he; omega
theorem step_own {H : Hp} {x : Stp} (hx : x.data.length ≤ 140737488351232) : ∃ v H2 H3, evAppend EE (newBlk (setBlk (newBlk H (Blk.cells [AV.int .i64 0, .int .i64 0, .int .i64 0, .int .i64 0, .int .i64 0, .nils] 34 true true)).2 H.next (Blk.cells [.int .i64 x.kind, .int .i64 x.block, .int .i64 x.size, .int .i64 x.id, .int .i64 x.base, .lst 1 (x.data.map eB)] 34 true true)) (.cells [] 5 true true)).2 5 (.slice (H.next + 1) 0 0 (.ex 0)) x.data.length (catL (x.data.map eB)) = some (v, H2) ∧
    storeN H2 1 (.ptr H.next 5) v = some (.undef, H3) ∧ H3.m.get H.next = some (.cells [.int .i64 x.kind, .int .i64 x.block, .int .i64 x.size, .int .i64 x.id, .int .i64 x.base, v] 34 true true) ∧ oneC v = true ∧ Fr H H3 ∧ Dv H3 v x.data := by
  have fb : Fr H (setBlk (newBlk H (Blk.cells [AV.int .i64 0, .int .i64 0, .int .i64 0, .int .i64 0, .int .i64 0, .nils] 34 true true)).2 H.next (Blk.cells [.int .i64 x.kind, .int .i64 x.block, .int .i64 x.size, .int .i64 x.id, .int .i64 x.base, .lst 1 (x.data.map eB)] 34 true true)) := (Fr.alloc _ _).set (Nat.le_refl _) _
  obtain ⟨v, H2, h1, h2, h3, h4⟩ := app_dv (H := setBlk (newBlk H (Blk.cells [AV.int .i64 0, .int .i64 0, .int .i64 0, .int .i64 0, .int .i64 0, .nils] 34 true true)).2 H.next (Blk.cells [.int .i64 x.kind, .int .i64 x.block, .int .i64 x.size, .int .i64 x.id, .int .i64 x.base, .lst 1 (x.data.map eB)] 34 true true)) hx
  have hg : H2.m.get H.next = some (.cells [.int .i64 x.kind, .int .i64 x.block, .int .i64 x.size, .int .i64 x.id, .int .i64 x.base, .lst 1 (x.data.map eB)] 34 true true) := by
    rw [h2.2 H.next (Nat.lt_succ_self _)]; exact get_set_s
  have ho := h3.one
  refine ⟨v, H2, _, by rw [catL_eB]; exact h1, ?_, get_set_s, ho, (fb.trans h2).set (Nat.le_refl _) _, ?_⟩
  · rw [storeN_1 (oneC_cells ho), putCells_def, hg]
    show (putB H2 H.next 5 [v] (.cells [.int .i64 x.kind, .int .i64 x.block, .int .i64 x.size, .int .i64 x.id, .int .i64 x.base, .lst 1 (x.data.map eB)] 34 true true)).omap _ = _
    have hf : flatL [v] = true := by rw [flatL_cons', ho]; rfl
    rw [putB_c, hf, setE_one (by show 5 < 6; decide)]; rfl
  · rcases h3 with rfl | ⟨b, z, rfl, hb, hlt⟩
    · exact .inl rfl
    · refine .inr ⟨b, z, rfl, ?_, hlt⟩
      rw [get_set_n (h4 H.next (Nat.lt_succ_self _) _ _ _ rfl)]; exact hb
theorem MOK.zl {H : Hp} {p : Nat} {m : MS} {F : Nat → Prop} (h : MOK H p m F) : ∀ s ∈ m.ss, s.bs.length = m.bs.length := by
  obtain ⟨zs, bv, sv, hM, hss, _⟩ := h
  intro s hs
  rw [← hss] at hs
  obtain ⟨z, hz, rfl⟩ := List.mem_map.1 hs
  exact (hM.zl z hz).2.1
theorem rem_n (a b : Nat) (hb : b ≠ 0) : binInt .rem .i64 (a : Int) (.int .i64 (b : Int)) = some (.int .i64 ((a % b : Nat) : Int)) := by
  show (match ieq (b : Int) 0 with | true => none | false => some (AV.int .i64 (Int.tmod (a : Int) (b : Int)))) = _
  have : ieq (b : Int) 0 = false := by rw [ieq_dec]; exact decide_eq_false (by omega)
  rw [this]
  show some (AV.int .i64 (Int.tmod (a : Int) (b : Int))) = _
  rw [← Int.ofNat_tmod]
set_option maxHeartbeats 4000000 in
theorem law7 {blocks : UInt8} {l : List Stp} (hl : l.length < 9223372036854775807) (hd : ∀ x ∈ l, x.data.length ≤ 140737488351232) : Call (.func 7 [] []) [.int .u8 blocks.toNat, .lst 6 (l.map eStp)] noHp fun v _ => v = .bool true := by
  have hb8 : blocks.toNat < 256 := blocks.toNat_lt
  obtain ⟨n, hn⟩ : ∃ n : Nat, n = 1 + blocks.toNat % 16 := ⟨_, rfl⟩
  have hn1 : 1 ≤ n ∧ n ≤ 16 := by omega
  have hw1 : wrapI .i64 ((blocks.toNat : Nat) : Int) = (blocks.toNat : Nat) := wrap_i64 (by omega) (by omega)
  refine enterE (N := 134) rfl fn7 rfl rfl rfl rfl rfl fun hwf => ?_
  have hr : binInt .rem .i64 ((blocks.toNat : Nat) : Int) (.int .i64 16) = some (.int .i64 ((blocks.toNat % 16 : Nat) : Int)) := rem_n blocks.toNat 16 (by decide)
  have hw2 : wrapI .i64 (1 + ((blocks.toNat % 16 : Nat) : Int)) = (n : Int) := by rw [wrap_i64 (by omega) (by omega)]; omega
  simp (disch := (refine ofP ?_; decide)) only [go_sem, hw1, hr, hw2]
  refine new10 (fun h => absurd h (by omega)) (fun k hk k1 k2 H1 bv hM f1 hbv => ?_)
  obtain rfl : k = n := by omega
  simp (disch := (refine ofP ?_; decide)) only [go_sem]
  refine fair8 (by simpa using hl) (fun x hx => by have := hd x hx; omega) (fun b hfair => ?_)
  cases b with
  | false =>
    simp (disch := (refine ofP ?_; decide)) only [go_sem]
    refine wcall2_true rfl ?_
    simp (disch := (refine ofP ?_; decide)) only [go_sem]
    exact .inl rfl
  | true =>
    have hnw : wrapI .i64 ((k : Int) - 1) = ((k - 1 : Nat) : Int) := by rw [wrap_i64 (by omega) (by omega)]; omega
    simp (disch := (refine ofP ?_; decide)) only [go_sem, hnw]
    refine data20 (c := 77) ?_
    simp (disch := (refine ofP ?_; decide)) only [go_sem]
    have hM0 : MOK H1 (noHp.next + 1) ⟨zeroBs k, [], 1⟩ (Fo (noHp.next + 1) bv .nils []) := ⟨[], bv, .nils, hM, rfl, rfl⟩
    have ok0 : MS.ok ⟨zeroBs k, [], 1⟩ := ⟨List.Pairwise.nil, fun x hx => (by cases hx), ⟨by show (1 : Int) ≤ 1; decide, by show (1 : Int) ≤ 1000001; decide⟩⟩
    have hzl : (zeroBs k).length = k := List.length_replicate
    refine do12 (x := ⟨2, (k - 1 : Nat), 0, 0, 0, List.replicate 64 77⟩) hM0 ok0 rfl (fun _ => .inl rfl) (by rw [List.length_replicate]; decide) fun v H2 F2 hv hM2 u2 => ?_
    have e1 : stepS ⟨zeroBs k, [], 1⟩ ⟨2, (k - 1 : Nat), 0, 0, 0, List.replicate 64 77⟩ = (bad 0, ⟨(zeroBs k).set (k - 1) (List.replicate 64 77), [], 1⟩) := by
      show wrS ⟨zeroBs k, [], 1⟩ ((k - 1 : Nat) : Int) (List.replicate 64 77) = _
      unfold wrS
      rw [if_pos ⟨List.length_replicate, ⟨by omega, by show ((k - 1 : Nat) : Int) < ((zeroBs k).length : Nat); omega⟩⟩]; rfl
    have ok1 := stepS_ok (x := ⟨2, (k - 1 : Nat), 0, 0, 0, List.replicate 64 77⟩) ok0 (by rw [List.length_replicate]; decide)
    rw [e1] at hv hM2 ok1
    obtain ⟨b0, rfl, _⟩ := hv
    simp (disch := (refine ofP ?_; decide)) only [go_sem, show (bad 0).2.2 = 0 from rfl, show (bad 0).2.1 = 0 from rfl]
    refine do12 (x := ⟨5, 0, 0, 0, 0, []⟩) (dv := .nils) hM2 ok1 rfl (fun h => absurd h (by decide)) (by decide) fun v H3 F3 hv hM3 u3 => ?_
    have e2 : stepS ⟨(zeroBs k).set (k - 1) (List.replicate 64 77), [], 1⟩ ⟨5, 0, 0, 0, 0, []⟩ = (([], 1, 0), ⟨(zeroBs k).set (k - 1) (List.replicate 64 77), [⟨1, (zeroBs k).set (k - 1) (List.replicate 64 77), List.replicate ((zeroBs k).set (k - 1) (List.replicate 64 77)).length false⟩], 2⟩) := rfl
    have ok2 := stepS_ok (x := ⟨5, 0, 0, 0, 0, []⟩) ok1 (by decide)
    rw [e2] at hv hM3 ok2
    obtain ⟨b1, rfl, _⟩ := hv
    have hB : ((zeroBs k).set (k - 1) (List.replicate 64 77)).length = k := by rw [List.length_set, hzl]
    generalize hBd : (zeroBs k).set (k - 1) (List.replicate 64 77) = B at *
    have first0 : First ⟨B, [⟨1, B, List.replicate B.length false⟩], 2⟩ 1 B := rfl
    simp (disch := (refine ofP ?_; first | assumption | decide | omega | (simp only [new_next, set_next] <;> omega) | with_unfolding_all exact ofR rfl | with_unfolding_all exact ofNt rfl)) only [go_sem, show (([], 1, 0) : Out).2.2 = 0 from rfl, show (([], 1, 0) : Out).2.1 = 1 from rfl]
    refine loopE 81129638376827749832831843483648 (by kernel_rfl) (fun r G H' => ∃ (i : Nat) (m : MS) (F : Nat → Prop), i ≤ l.length ∧ r = l.length - i ∧ G.get 14 = some (.int .i64 (i : Int)) ∧ MOK H' (noHp.next + 1) m F ∧ m.ok ∧ First m 1 B ∧ m.bs.length = k) l.length ⟨0, _, _, Nat.zero_le _, (Nat.sub_zero _).symm, (by simp (disch := (refine ofP ?_; first | assumption | decide | omega | (simp only [new_next, set_next] <;> omega) | with_unfolding_all exact ofR rfl | with_unfolding_all exact ofNt rfl)) only [go_sem]; first | done | rfl), hM3, ok2, first0, hB⟩ ?_
    rintro r G H' hG ⟨i, m, F, hi, rfl, g14, hM', hok', hfi, hbl⟩
    by_cases hlt : i < l.length
    · have hdi := hd _ (List.getElem_mem hlt)
      have fbox : Fr H' (setBlk (newBlk H' (Blk.cells [AV.int .i64 0, .int .i64 0, .int .i64 0, .int .i64 0, .int .i64 0, .nils] 34 true true)).2 H'.next (Blk.cells [.int .i64 l[i].kind, .int .i64 l[i].block, .int .i64 l[i].size, .int .i64 l[i].id, .int .i64 l[i].base, .lst 1 (l[i].data.map eB)] 34 true true)) := (Fr.alloc _ _).set (Nat.le_refl _) _
      by_cases hb7 : l[i].kind = 7
      · simp (disch := (refine ofP ?_; first | assumption | decide | omega)) only [go_sem, g14, hG, List.length_map, ia_lst_map, hb7]
        refine ⟨_, by omega, i + 1, m, F, hlt, rfl, ?_, hM'.keep ((Fr.alloc _ _).set (Nat.le_refl _) _), hok', hfi, hbl⟩
        rw [wrap_i64 (by omega) (by omega)]; rfl
      by_cases hb6 : l[i].kind = 6
      · by_cases hid : l[i].id = 1
        · simp (disch := (refine ofP ?_; first | assumption | decide | omega | (simp only [new_next, set_next] <;> omega) | with_unfolding_all exact ofR rfl | with_unfolding_all exact ofNt rfl)) only [go_sem, g14, hG, List.length_map, ia_lst_map, hb7, hb6, hid]
          refine ⟨_, by omega, i + 1, m, F, hlt, rfl, ?_, hM'.keep ((Fr.alloc _ _).set (Nat.le_refl _) _), hok', hfi, hbl⟩
          rw [wrap_i64 (by omega) (by omega)]; rfl
        · have d7 : decide (l[i].kind = 7) = false := decide_eq_false hb7
          have d6 : decide (l[i].kind = 6) = true := decide_eq_true hb6
          have did : decide (l[i].id = 1) = false := decide_eq_false hid
          simp (disch := (refine ofP ?_; first | assumption | decide | omega | (simp only [new_next, set_next] <;> omega) | assumption)) only [go_sem, g14, hG, List.length_map, ia_lst_map, d7, d6, did]
          obtain ⟨v, H2, H4, h1, h2, h3, h4, h5, h6⟩ := step_own (H := H') (x := l[i]) hdi
          rw [h1]
          simp (disch := (refine ofP ?_; first | assumption | decide | omega | (simp only [new_next, set_next] <;> omega) | with_unfolding_all exact ofR rfl | with_unfolding_all exact ofNt rfl)) only [go_sem, h2, h3, oneC_cells h4, h4, hG]
          refine do12 (x := l[i]) (dv := v) (hM'.keep h5) hok' h4 (fun _ => h6) hdi fun w H5 F5 hv hM5 u5 => ?_
          have hno : ¬ (l[i].kind = 6 ∧ l[i].id = 1) := fun h => hid h.2
          simp (disch := (refine ofP ?_; first | assumption | decide | omega | (simp only [new_next, set_next] <;> omega) | with_unfolding_all exact ofR rfl | with_unfolding_all exact ofNt rfl)) only [go_sem, hG, g14]
          refine ⟨_, by omega, i + 1, _, F5, hlt, rfl, ?_, hM5, stepS_ok hok' hdi, hfi.step hb7 hno, (stepS_len (hM'.zl)).trans hbl⟩
          rw [wrap_i64 (by omega) (by omega)]; rfl
      · have d7 : decide (l[i].kind = 7) = false := decide_eq_false hb7
        have d6 : decide (l[i].kind = 6) = false := decide_eq_false hb6
        simp (disch := (refine ofP ?_; first | assumption | decide | omega | (simp only [new_next, set_next] <;> omega) | assumption)) only [go_sem, g14, hG, List.length_map, ia_lst_map, d7, d6]
        obtain ⟨v, H2, H4, h1, h2, h3, h4, h5, h6⟩ := step_own (H := H') (x := l[i]) hdi
        rw [h1]
        simp (disch := (refine ofP ?_; first | assumption | decide | omega | (simp only [new_next, set_next] <;> omega) | with_unfolding_all exact ofR rfl | with_unfolding_all exact ofNt rfl)) only [go_sem, h2, h3, oneC_cells h4, h4, hG]
        refine do12 (x := l[i]) (dv := v) (hM'.keep h5) hok' h4 (fun _ => h6) hdi fun w H5 F5 hv hM5 u5 => ?_
        have hno : ¬ (l[i].kind = 6 ∧ l[i].id = 1) := fun h => hb6 h.1
        simp (disch := (refine ofP ?_; first | assumption | decide | omega | (simp only [new_next, set_next] <;> omega) | with_unfolding_all exact ofR rfl | with_unfolding_all exact ofNt rfl)) only [go_sem, hG, g14]
        refine ⟨_, by omega, i + 1, _, F5, hlt, rfl, ?_, hM5, stepS_ok hok' hdi, hfi.step hb7 hno, (stepS_len (hM'.zl)).trans hbl⟩
        rw [wrap_i64 (by omega) (by omega)]; rfl
    · obtain rfl : i = l.length := by omega
      simp (disch := (refine ofP ?_; first | decide | omega)) only [go_sem, g14, hG, List.length_map]
      clear g14 hM2 hM3 u2 u3 hM0 hM e1 e2 ok0 ok1 ok2
      refine loopE 10889035660340392416221305742027579654160 (by kernel_rfl) (fun r G' H'' => ∃ (j : Nat) (F : Nat → Prop), j ≤ k ∧ r = k - j ∧ G'.get 16 = some (.int .i64 (j : Int)) ∧ MOK H'' (noHp.next + 1) m F) k ⟨0, _, Nat.zero_le _, (Nat.sub_zero _).symm, (by simp (disch := (refine ofP ?_; first | assumption | decide | omega | (simp only [new_next, set_next] <;> omega) | with_unfolding_all exact ofR rfl | with_unfolding_all exact ofNt rfl)) only [go_sem]; first | done | rfl), hM'⟩ ?_
      rintro r G' H'' hG' ⟨j, F', hj, rfl, g16, hM''⟩
      by_cases hjk : j < k
      · have hjk' : (j : Int) < (k : Int) := by omega
        have hpk : peekS m 1 (j : Nat) = (B.getD j [], 0, 0) := hfi.peek (by rw [hbl]; exact hjk)
        simp (disch := (refine ofP ?_; first | assumption | decide | omega | (simp only [new_next, set_next] <;> omega) | with_unfolding_all exact ofR rfl | with_unfolding_all exact ofNt rfl)) only [go_sem, g16, hG', hG, hjk', hjk]
        refine data20 (c := 0) ?_
        by_cases hjl : j = k - 1
        · have hjl' : (j : Int) = ((k - 1 : Nat) : Int) := by rw [hjl]
          have hBj : B.getD j [] = List.replicate 64 77 := by
            rw [← hBd, hjl, List.getD_eq_getElem?_getD, List.getElem?_set, if_pos rfl, if_pos (by omega)]; rfl
          simp (disch := (refine ofP ?_; decide)) only [go_sem, g16, hG', hG, hnw, hjl']
          refine data20 (c := 77) ?_
          simp (disch := (refine ofP ?_; first | assumption | decide | omega | (simp only [new_next, set_next] <;> omega) | with_unfolding_all exact ofR rfl | with_unfolding_all exact ofNt rfl)) only [go_sem, g16, hG', hG, hnw]
          have es : stepS m ⟨9, (j : Nat), 0, 1, 0, []⟩ = ((List.replicate 64 77, 0, 0), m) := by
            show (peekS m 1 (j : Nat), m) = _
            rw [hpk, hBj]
          refine do12 (x := ⟨9, (j : Nat), 0, 1, 0, []⟩) (dv := .nils) hM'' hok' rfl (fun h => absurd h (show ¬ ((9 : Int) = 2 ∨ (9 : Int) = 11) by decide)) (by show 0 ≤ _; decide) fun w H5 F5 hv hM5 u5 => ?_
          rw [es] at hv hM5
          obtain ⟨b, rfl, hb⟩ := hv
          simp (disch := (refine ofP ?_; first | assumption | decide | omega | (simp only [new_next, set_next] <;> omega) | with_unfolding_all exact ofR rfl | with_unfolding_all exact ofNt rfl)) only [go_sem, g16, hG', hG, hjl']
          refine bytes14 (a := List.replicate 64 77) hb (.inl rfl) ?_
          simp (disch := (refine ofP ?_; first | assumption | decide | omega | (simp only [new_next, set_next] <;> omega) | with_unfolding_all exact ofR rfl | with_unfolding_all exact ofNt rfl)) only [go_sem, g16, hG', hG]
          refine ⟨_, by omega, j + 1, F5, by omega, rfl, ?_, hM5⟩
          rw [wrap_i64 (by omega) (by omega)]; first | done | rfl | (rw [hjl]; rfl)
        · have hjl' : ¬ (j : Int) = ((k - 1 : Nat) : Int) := by omega
          have hBj : B.getD j [] = List.replicate 64 0 := by
            rw [← hBd, List.getD_eq_getElem?_getD, List.getElem?_set, if_neg (by omega)]
            unfold zeroBs
            rw [List.getElem?_replicate, if_pos hjk]; rfl
          simp (disch := (refine ofP ?_; decide)) only [go_sem, g16, hG', hG, hnw, hjl']
          have es : stepS m ⟨9, (j : Nat), 0, 1, 0, []⟩ = ((List.replicate 64 0, 0, 0), m) := by
            show (peekS m 1 (j : Nat), m) = _
            rw [hpk, hBj]
          refine do12 (x := ⟨9, (j : Nat), 0, 1, 0, []⟩) (dv := .nils) hM'' hok' rfl (fun h => absurd h (show ¬ ((9 : Int) = 2 ∨ (9 : Int) = 11) by decide)) (by show 0 ≤ _; decide) fun w H5 F5 hv hM5 u5 => ?_
          rw [es] at hv hM5
          obtain ⟨b, rfl, hb⟩ := hv
          simp (disch := (refine ofP ?_; first | assumption | decide | omega | (simp only [new_next, set_next] <;> omega) | with_unfolding_all exact ofR rfl | with_unfolding_all exact ofNt rfl)) only [go_sem, g16, hG', hG, hjl']
          refine bytes14 (a := List.replicate 64 0) hb (.inl rfl) ?_
          simp (disch := (refine ofP ?_; first | assumption | decide | omega | (simp only [new_next, set_next] <;> omega) | with_unfolding_all exact ofR rfl | with_unfolding_all exact ofNt rfl)) only [go_sem, g16, hG', hG]
          refine ⟨_, by omega, j + 1, F5, by omega, rfl, ?_, hM5⟩
          rw [wrap_i64 (by omega) (by omega)]; first | done | rfl | (rw [hjl]; rfl)
      · have hjk' : ¬ (j : Int) < (k : Int) := by omega
        simp (disch := (refine ofP ?_; first | assumption | decide | omega | (simp only [new_next, set_next] <;> omega) | with_unfolding_all exact ofR rfl | with_unfolding_all exact ofNt rfl)) only [go_sem, g16, hG', hG, hjk', hjk]
        refine wcall2_true rfl ?_
        simp (disch := (refine ofP ?_; decide)) only [go_sem]
        exact .inl rfl
end
end Go.Ev

namespace Go.Ev
open Go.Proofs Go.RowKit Go.ChangeShapes Go.WideShapes Go.ChangeAt
noncomputable section
set_option maxRecDepth 100000
section
variable {H : Type} {enc : TypeId × Value → H} {W : World}
theorem c3 : Try.prog.cellsOf 3 = 1 := by kernel_rfl
theorem c5 : Try.prog.cellsOf 5 = 1 := by kernel_rfl
theorem c22 : Try.prog.cellsOf 22 = 1 := by kernel_rfl
theorem c32 : Try.prog.cellsOf 32 = 1 := by kernel_rfl
theorem c34 : Try.prog.cellsOf 34 = 6 := by kernel_rfl
theorem b5 : Try.prog.bytesOf 5 = 1 := by kernel_rfl
theorem b34 : Try.prog.bytesOf 34 = 64 := by kernel_rfl
noncomputable def hd1 (cs : List AV) : AV := match cs with | [c] => c | _ => .undef
theorem hd1_cells : ∀ cs : List AV, cs.length = 1 → flatL cs = true → (hd1 cs).cells = cs
  | [c], _, h => by
    have h : oneC c = true := by
      rw [flatL_cons'] at h
      revert h; cases oneC c <;> intro h <;> first | rfl | cases h
    exact oneC_cells h
@[reducible] noncomputable def TrO (enc : TypeId × Value → H) (W : World) (fuel : Nat) (t : TypeId) (cs : List Value) := DataW.trod enc Try.prog W 0 (fun _ => true) true fuel t cs
@[reducible] def Wt (t : TypeId) (d : DataW H) : Prop := (d.weights Try.prog t).all (· ≤ reachBytes) = true
theorem el_int {fuel : Nat} {cs : List Value} {x : DataW H × List MemPlace} (h : TrO enc W fuel 3 cs = some x) : ∃ a : Int, cs = [.int .i64 a] := by
  obtain ⟨m, rfl, _, _⟩ := DataW.trod_int Try.underlying3 h
  exact ⟨m, rfl⟩
theorem el_byte {fuel : Nat} {cs : List Value} {x : DataW H × List MemPlace} (h : TrO enc W fuel 5 cs = some x) : ∃ c : UInt8, cs.map (absV W.heap.size) = [eB c] := by
  obtain ⟨m, rfl, _, hw⟩ := DataW.trod_int Try.underlying5 h
  have hm : 0 ≤ m ∧ m < 256 := by
    have := hw
    simp [Lit.wf, IntKind.min, IntKind.max, IntKind.signed, IntKind.bits] at this
    omega
  refine ⟨UInt8.ofNat m.toNat, ?_⟩
  show [AV.int .u8 m] = [AV.int .u8 _]
  have : (UInt8.ofNat m.toNat).toNat = m.toNat := by
    simp; omega
  rw [this]
  congr 2; omega
theorem op_bytes {fuel : Nat} {v : Value} {x : DataW H × List MemPlace} (h : TrO enc W fuel 32 [v] = some x) (hw : Wt 32 x.1) : ∃ l : List UInt8, VR false noMp (absH W) (.lst 1 (l.map eB)) (absV W.heap.size v) ∧ oneC (absV W.heap.size v) = true ∧ conc (idSg W.heap.size) (absV W.heap.size v) = some v ∧ l.length ≤ 140737488351232 := by
  obtain ⟨l, _, h1, h2, h3, _, h5⟩ := open_lstQ (eA := eB) (mk := hd1) (Inv := fun _ => True) (Q := fun _ => True) Try.underlying32 c5 (by decide) hd1_cells (fun fuel cs x hl hx _ => by
    obtain ⟨a, ha⟩ := el_byte hx
    exact ⟨a, trivial, by rw [ha]; exact VR.int, by rw [ha]; rfl⟩) h (fun _ _ _ _ _ => trivial)
  refine ⟨l, h1, h2, h3, ?_⟩
  rcases h5 with rfl | ⟨es, rs, hx, hl⟩
  · decide
  · rw [hx] at hw
    have := (wt_slice Try.underlying32 hw).1
    rw [b5, hl, Nat.mul_one] at this
    exact this
theorem el_stp {fuel : Nat} {cs : List Value} {x : DataW H × List MemPlace} (hl : cs.length = 6) (h : TrO enc W fuel 34 cs = some x) (hw : Wt 34 x.1) : ∃ s : Stp, s.data.length ≤ 140737488351232 ∧ VR false noMp (absH W) (eStp s) (.agg (cs.map (absV W.heap.size))) ∧ flatL (cs.map (absV W.heap.size)) = true := by
  obtain ⟨xs, n, _, hxa, _, hxs, hf⟩ := DataW.trod_struct Try.underlying34 h
  have hxs : xs.length = 6 := hxs
  rw [hxa] at hw
  obtain ⟨v0, v1, v2, v3, v4, v5, rfl⟩ : ∃ a b c d e f, cs = [a, b, c, d, e, f] := by
    match cs, hl with
    | [a, b, c, d, e, f], _ => exact ⟨a, b, c, d, e, f, rfl⟩
  have a0 := hf 0 _ rfl
  have a1 := hf 1 _ rfl
  have a2 := hf 2 _ rfl
  have a3 := hf 3 _ rfl
  have a4 := hf 4 _ rfl
  have a5 := hf 5 _ rfl
  rw [List.getElem?_eq_getElem (by omega)] at a0 a1 a2 a3 a4 a5
  change DataW.trod enc Try.prog W 0 (fun _ => true) true n 3 (List.take (Try.prog.cellsOf 3) [v0, v1, v2, v3, v4, v5]) = _ at a0
  change DataW.trod enc Try.prog W 0 (fun _ => true) true n 3 (List.take (Try.prog.cellsOf 3) [v1, v2, v3, v4, v5]) = _ at a1
  change DataW.trod enc Try.prog W 0 (fun _ => true) true n 3 (List.take (Try.prog.cellsOf 3) [v2, v3, v4, v5]) = _ at a2
  change DataW.trod enc Try.prog W 0 (fun _ => true) true n 3 (List.take (Try.prog.cellsOf 3) [v3, v4, v5]) = _ at a3
  change DataW.trod enc Try.prog W 0 (fun _ => true) true n 3 (List.take (Try.prog.cellsOf 3) [v4, v5]) = _ at a4
  change DataW.trod enc Try.prog W 0 (fun _ => true) true n 32 (List.take (Try.prog.cellsOf 32) [v5]) = _ at a5
  rw [c3] at a0 a1 a2 a3 a4
  rw [c32] at a5
  obtain ⟨m0, e0⟩ := el_int a0
  obtain ⟨m1, e1⟩ := el_int a1
  obtain ⟨m2, e2⟩ := el_int a2
  obtain ⟨m3, e3⟩ := el_int a3
  obtain ⟨m4, e4⟩ := el_int a4
  simp at e0 e1 e2 e3 e4
  subst e0 e1 e2 e3 e4
  have hw5 : Wt 32 (xs[5]'(by omega)).1 := wt_each (wt_struct Try.underlying34 hw) 5 32 _ rfl (by rw [List.getElem?_map, List.getElem?_eq_getElem (by omega)]; rfl)
  obtain ⟨l, r1, o1, _, hle⟩ := op_bytes a5 hw5
  refine ⟨⟨m0, m1, m2, m3, m4, l⟩, hle, VR.agg_mk (VRL.cons.2 ⟨_, _, VR.int, VRL.cons.2 ⟨_, _, VR.int, VRL.cons.2 ⟨_, _, VR.int, VRL.cons.2 ⟨_, _, VR.int, VRL.cons.2 ⟨_, _, VR.int, VRL.cons.2 ⟨_, _, r1, VRL.nil.2 rfl, rfl⟩, rfl⟩, rfl⟩, rfl⟩, rfl⟩, rfl⟩), ?_⟩
  show flatL [_, _, _, _, _, absV W.heap.size v5] = true
  rw [flatL_cons', flatL_cons', flatL_cons', flatL_cons', flatL_cons', flatL_cons', o1]; rfl
theorem op_stps {fuel : Nat} {v : Value} {x : DataW H × List MemPlace} (h : TrO enc W fuel 22 [v] = some x) (hw : Wt 22 x.1) : ∃ l : List Stp, (∀ s ∈ l, s.data.length ≤ 140737488351232) ∧ VR false noMp (absH W) (.lst 6 (l.map eStp)) (absV W.heap.size v) ∧ conc (idSg W.heap.size) (absV W.heap.size v) = some v ∧ l.length < 9223372036854775807 := by
  obtain ⟨l, hI, h1, h2, h3, _, h5⟩ := open_lstQ (eA := eStp) (mk := .agg) (Inv := fun s : Stp => s.data.length ≤ 140737488351232) (Q := Wt 34) Try.underlying22 c34 (by decide) (fun _ _ _ => rfl) (fun fuel cs x hl hx hq => el_stp hl hx hq) h (fun es rs he d hd => by
    rw [he] at hw
    exact (wt_slice Try.underlying22 hw).2 d hd)
  refine ⟨l, hI, h1, h3, ?_⟩
  rcases h5 with rfl | ⟨es, rs, hx, hl⟩
  · decide
  · rw [hx] at hw
    have := (wt_slice Try.underlying22 hw).1
    rw [b34, hl] at this
    have h : l.length * 64 ≤ 140737488351232 := this
    omega
theorem open_steps {v : Value} {d : DataW H} {ps : List MemPlace} (h : DataW.Trod enc Try.prog W 0 (fun _ => true) true 22 v d ps) (hw : Wt 22 d) (hv : ∃ base, Value.okWide Try.prog W .any base 22 v) :
    ∃ l : List Stp, (∀ s ∈ l, s.data.length ≤ 140737488351232) ∧ VR false noMp (absH W) (.lst 6 (l.map eStp)) (absV W.heap.size v) ∧ conc (idSg W.heap.size) (absV W.heap.size v) = some v ∧ l.length < 9223372036854775807 := by
  obtain ⟨base, hv⟩ := hv
  obtain ⟨fuel, h⟩ := h
  rcases ok_slice Try.underlying22 hv with rfl | ⟨b, o, len, cap, rfl, _, _⟩
  · exact op_stps h hw
  · exact op_stps h hw
theorem open_u8 {v : Value} {d : DataW H} {ps : List MemPlace} (h : DataW.Trod enc Try.prog W 0 (fun _ => true) true 5 v d ps) (hv : ∃ base, Value.okWide Try.prog W .any base 5 v) : ∃ c : UInt8, v = .int .u8 c.toNat := by
  obtain ⟨base, hv⟩ := hv
  obtain ⟨n, rfl, _, _, hw⟩ := open_int Try.underlying5 hv h
  have hm : 0 ≤ n ∧ n < 256 := by
    simp [Lit.wf, IntKind.min, IntKind.max, IntKind.signed, IntKind.bits] at hw
    omega
  refine ⟨UInt8.ofNat n.toNat, ?_⟩
  have : (UInt8.ofNat n.toNat).toNat = n.toNat := by simp; omega
  rw [this]; congr 1; omega
end
end
end Go.Ev

namespace Go.Proofs.Ytajekleknljggaa.modelKeeps
open Go.ChangeShapes Go.WideShapes Go.ChangeAt Go.RowKit Go.Ev
theorem own : ownKnob Try.prog.godebug = none := by kernel_rfl
theorem laidOut : laidOutB Try.prog = true := by kernel_rfl
theorem baseOk : EnvOk (envOf Try.prog) Try.prog := envOk_of (by kernel_rfl) (by kernel_rfl) (Checked.mixed Try.checked)
theorem envOk : EnvOk E1 Try.prog := envV_ok baseOk fun f hf => by
  obtain rfl : f = 9 := by simpa [wk] using hf
  exact ⟨299, wakes29⟩
set_option maxRecDepth 100000 in
theorem lifted (os : Os) (started : os.Started) (H : Type) (enc : TypeId × Value → H) :
    ReturnsInHanded {} Try.checked os 7 .any (Rows.modelKeepsSpec.pre6 enc Try.prog Try.f7 Rows.modelKeepsRow.domain false) (Rows.modelKeepsSpec.post enc Try.prog Try.f7 false true false false) := by
  refine law_liftedW (C := Try.checked) started own (by kernel_rfl) Try.func7
    (ChangeSpec.witness6 (enc := enc) (C := Try.checked) false ⟨#[], #[.int .u8 0, .slice none 0 0], []⟩ 12 (by kernel_rfl) (by kernel_rfl) (by kernel_rfl) (by kernel_rfl))
    (tb := 4) (by kernel_rfl) Try.underlying4 laidOut ?_ rfl ?_ ?_
  · intro t ht
    have ht : t = 5 ∨ t = 22 := by simpa [show Try.f7.params = #[5, 22] from rfl] using ht
    rcases ht with rfl | rfl <;> exact ⟨by kernel_rfl, of_decide_eq_true (by kernel_rfl)⟩
  · intro ds hd
    match ds, hd with
    | [d0, d1], _ => rfl
  · intro W args ds ps hA hval hwt
    have hA : DataW.TrodAll enc Try.prog W 0 (fun _ => true) true [5, 22] args.toList ds ps := hA
    have hwt : (DataW.weightsEach Try.prog [5, 22] ds).all (· ≤ reachBytes) = true := hwt
    obtain ⟨v0, vs0, d0, ds0, p0, q0, hargs, rfl, rfl, h0, r0⟩ := trodAll_cons hA
    obtain ⟨v1, vs1, d1, ds1, p1, q1, rfl, rfl, rfl, h1, r1⟩ := trodAll_cons r0
    obtain ⟨rfl, rfl, rfl⟩ := trodAll_nil r1
    obtain rfl : args = #[v0, v1] := by cases args; simp_all
    obtain ⟨c, rfl⟩ := open_u8 h0 (hval 0 5 v0 rfl rfl)
    obtain ⟨l, hd, hx, hcx, hl⟩ := open_steps h1 (wt_each hwt 1 22 _ rfl rfl) (hval 1 22 v1 rfl rfl)
    refine calls_of envOk rfl (avs := [.int .u8 c.toNat, absV W.heap.size v1]) ?_ (top2 (VRL.cons.2 ⟨_, _, VR.int, VRL.cons.2 ⟨_, _, hx, VRL.nil.2 rfl, rfl⟩, rfl⟩) (law7 hl hd))
    exact concL_cons.2 ⟨_, _, rfl, concL_cons.2 ⟨_, _, hcx, rfl, rfl⟩, rfl⟩
set_option maxHeartbeats 4000000 in
set_option maxRecDepth 100000 in
theorem closed : joinedFacts Try.pinned.checked.prog 7 Try.f7 Rows.modelKeepsSpec Rows.modelKeepsRow = true := by
  unfold joinedFacts
  rw [Bool.and_eq_true, Bool.and_eq_true]
  repeat rw [Bool.and_eq_true]
  and_intros
  all_goals (as_aux_lemma => kernel_rfl)
theorem over : Rows.modelKeepsRow.holds Try.pinned (OpenSpec.ofChange Rows.modelKeepsSpec) :=
  OpenClaim.holds_of_wide 7 Try.f7 rfl rfl rfl rfl rfl rfl rfl ⟨rfl, rfl, rfl, rfl, rfl⟩ rfl rfl rfl rfl rfl (by kernel_rfl) Try.func7 closed
    (of_decide_eq_true (by kernel_rfl)) (by unfold Func.isWrapper; first | (rw [if_pos (by decide +kernel)]; kernel_rfl) | (rw [if_neg (by decide +kernel)]; exact ⟨rfl, rfl⟩))
    (fun os started H enc _ => lifted os started H enc)

/-- The statement. -/
theorem proved : Rows.ModelKeepsSaid := over
#print axioms proved
end Go.Proofs.Ytajekleknljggaa.modelKeeps
