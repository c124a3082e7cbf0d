/-
  What the functions on runs compute, the program's and the document's, for all inputs of at most so many elements. Conditions: lengths and numbers within bounds, as each theorem says.
-/
import Derived.Test.YtbciigjndoaoeaaTy
set_option linter.unusedVariables false
set_option linter.unusedSimpArgs false
namespace Go.Ev
open Go.Proofs
noncomputable section
set_option maxRecDepth 100000
theorem fn8 : EE.fn 8 = some Try.f8 := by kernel_rfl
theorem fn9 : EE.fn 9 = some Try.f9 := by kernel_rfl
theorem gr36 : grows EE 36 = true := by kernel_rfl
theorem gr3 : grows EE 3 = true := by kernel_rfl

/-! The runs of numbers, in plain words. -/
def goesOn (l : List Int) (i : Nat) : Prop := 0 < i ∧ l.getD (i - 1) 0 < 4611686018427387904 ∧ l.getD i 0 = l.getD (i - 1) 0 + 1
instance (l : List Int) (i : Nat) : Decidable (goesOn l i) := by unfold goesOn; infer_instance
def bump (acc : List (Int × Int)) : List (Int × Int) := acc.set (acc.length - 1) ((acc.getD (acc.length - 1) (0, 0)).1, (acc.getD (acc.length - 1) (0, 0)).2 + 1)
def ofN (l : List Int) : Nat → List (Int × Int)
  | 0 => []
  | i + 1 => if goesOn l i then bump (ofN l i) else ofN l i ++ [(l.getD i 0, 1)]

theorem ofN_len (l : List Int) : ∀ i, (ofN l i).length ≤ i ∧ (0 < i → 0 < (ofN l i).length)
  | 0 => ⟨Nat.le_refl _, fun h => h⟩
  | i + 1 => by
    have ih := ofN_len l i
    unfold ofN
    split
    · rename_i h
      have := ih.2 h.1
      unfold bump
      simp; omega
    · simp; omega
theorem ofN_count (l : List Int) : ∀ i, ∀ p ∈ ofN l i, 1 ≤ p.2 ∧ p.2 ≤ i
  | 0, p, h => by simp [ofN] at h
  | i + 1, p, h => by
    have ih := ofN_count l i
    unfold ofN at h
    split at h
    · rename_i hg
      have hl := (ofN_len l i).2 hg.1
      unfold bump at h
      obtain ⟨j, hj, rfl⟩ := List.getElem_of_mem h
      rw [List.getElem_set]
      split
      · have h1 := ih _ (List.getElem_mem (show (ofN l i).length - 1 < (ofN l i).length by omega))
        rw [getD_lt (by omega)]
        simp only; omega
      · have h1 := ih _ (List.getElem_mem (show j < (ofN l i).length by simpa using hj))
        omega
    · rcases List.mem_append.1 h with h | h
      · have := ih p h; omega
      · simp only [List.mem_singleton] at h; subst h; simp only; omega

theorem ofN_t {l : List Int} {i : Nat} (h : goesOn l i) : ofN l (i + 1) = bump (ofN l i) := if_pos h
theorem ofN_f {l : List Int} {i : Nat} (h : ¬ goesOn l i) : ofN l (i + 1) = ofN l i ++ [(l.getD i 0, 1)] := if_neg h
theorem flat_e2_set (acc : List (Int × Int)) (j : Nat) (hj : j < acc.length) (c : Int) : (acc.flatMap e2).set (j * 2 + 1) (.int .i64 c) = (acc.set j ((acc.getD j (0, 0)).1, c)).flatMap e2 := by
  induction acc generalizing j with
  | nil => simp at hj
  | cons a acc ih =>
    cases j with
    | zero => rfl
    | succ j =>
      have := ih j (by simpa using hj)
      show ((e2 a) ++ acc.flatMap e2).set ((j + 1) * 2 + 1) _ = (e2 a) ++ _
      rw [show (j + 1) * 2 + 1 = (j * 2 + 1) + 2 by omega]
      show (.int .i64 a.1) :: (.int .i64 a.2) :: (acc.flatMap e2).set (j * 2 + 1) _ = _
      rw [this]; rfl

theorem of_ok {H : Hp} {x : AV} {l : List Int} {K : AV → Hp → Prop} (hx : RdN .i64 H x l) (hb : l.length ≤ 1000)
    (hr : ∀ a ∈ l, -9223372036854775808 ≤ a ∧ a < 9223372036854775808) (hk : ∀ v H', Fr H H' → Own H' H.next 36 2 v (ofN l l.length).length ((ofN l l.length).flatMap e2) → K v H') : WCall EE (.func 8 [] []) [x] H K := by
  refine enter rfl fn8 rfl rfl rfl rfl rfl ?_
  change wpC EE _ _ _ _ _ (KR EE _ _)
  simp (decide := true) only [go_sem, tyE, hx.len (E := EE) (e := 3)]
  refine wloop (fun r G H' => ∃ (i : Nat) (out : AV), i ≤ l.length ∧ r = l.length - i ∧ G.get 0 = some x ∧ G.get 6 = some x ∧ G.get 7 = some (.int .i64 l.length) ∧ G.get 8 = some (.int .i64 i) ∧ G.get 3 = some out ∧
    Fr H H' ∧ Own H' H.next 36 2 out (ofN l i).length ((ofN l i).flatMap e2)) l.length ?_ ?_
  · simp (decide := true) only [go_sem]
    exact ⟨0, .nils, by omega, rfl, rfl, rfl, Fr.refl _, Own.nil⟩
  rintro r G H' ⟨i, out, hi, rfl, g0, g6, g7, g8, g3, hf, ho⟩
  have hx' := hx.keep hf
  by_cases hlt : i < l.length
  · have h1 : decide ((i : Int) < l.length) = true := by simp [hlt]
    have hri := hr _ (List.getElem_mem hlt)
    have hgi : l.getD i 0 = l[i] := getD_lt hlt
    have hlen := ofN_len l i
    by_cases hg : goesOn l i
    · obtain ⟨hp, hq, hs⟩ := hg
      have hpl : i - 1 < l.length := by omega
      have hrp := hr _ (List.getElem_mem hpl)
      rw [getD_lt hpl] at hq hs
      rw [hgi] at hs
      have hn : (ofN l i).length - 1 < (ofN l i).length := by have := hlen.2 hp; omega
      have hcnt := ofN_count l i _ (List.getElem_mem hn)
      have hP : RdP H' out (ofN l i) := ho.rds e2_len
      have hget := RdP.at1 hP hn
      have hw : wrapI .i64 ((i : Int) - 1) = ((i - 1 : Nat) : Int) := by rw [wrap_i64 (by omega) (by omega)]; omega
      have hw2 : wrapI .i64 (l[i - 1] + 1) = l[i - 1] + 1 := wrap_i64 (by omega) (by omega)
      have hw3 : wrapI .i64 (((ofN l i).length : Int) - 1) = (((ofN l i).length - 1 : Nat) : Int) := by rw [wrap_i64 (by omega) (by omega)]; omega
      have hw4 : wrapI .i64 ((ofN l i)[(ofN l i).length - 1].2 + 1) = (ofN l i)[(ofN l i).length - 1].2 + 1 := wrap_i64 (by omega) (by omega)
      have hpos : decide (0 < (i : Int)) = true := by simp; omega
      obtain ⟨H2, hput, ho2, hf2, hn2, hk2⟩ := ho.put (i := ((ofN l i).length - 1) * 2 + 1) (by omega) (x := .int .i64 ((ofN l i)[(ofN l i).length - 1].2 + 1)) rfl
      rw [flat_e2_set _ _ hn, getD_lt hn] at ho2
      rw [← Nat.add_assoc] at hput
      simp (decide := true) only [go_sem, tyE, g0, g6, g7, g8, g3, h1, hx'.idx hlt, RdN.at hx' hlt, Nat.mul_one, Nat.add_zero, hpos, hw, hw2, hw3, hw4, hx'.idx hpl, RdN.at hx' hpl, hq, hs, hP.len (E := EE) (e := 36), hP.idx hn, hget, hput, ← Nat.add_assoc,
        wrap_i64 (n := (i : Int) + 1) (by omega) (by omega)]
      have hgo : goesOn l i := ⟨hp, by rw [getD_lt hpl]; exact hq, by rw [getD_lt hpl, hgi]; exact hs⟩
      refine ⟨l.length - (i + 1), by omega, i + 1, out, by omega, rfl, rfl, rfl, hf.frb hf2, ?_⟩
      rw [ofN_t hgo]
      unfold bump
      rw [getD_lt hn, List.length_set]
      exact ho2
    · have hc : i = 0 ∨ (0 < i ∧ ¬ l.getD (i - 1) 0 < 4611686018427387904) ∨ (0 < i ∧ l.getD (i - 1) 0 < 4611686018427387904 ∧ l.getD i 0 ≠ l.getD (i - 1) 0 + 1) := by
        by_cases h0 : 0 < i
        · by_cases h1 : l.getD (i - 1) 0 < 4611686018427387904
          · exact .inr (.inr ⟨h0, h1, fun h2 => hg ⟨h0, h1, h2⟩⟩)
          · exact .inr (.inl ⟨h0, h1⟩)
        · exact .inl (by omega)
      obtain ⟨H2, happ, ho2, hf2, hn2, _⟩ := (ho.keep (Fr.alloc H' (.cells [.int .i64 l[i], .int .i64 1] 36 true true))).append (E := EE) (m := 1) (new := [.int .i64 l[i], .int .i64 1]) (by simp only [tyE]) (by decide) (by decide) rfl rfl
        (growOk_grows gr36 (by omega)) (Nat.le_trans hf.1 (Nat.le_succ _))
      have hres : Own H2 H.next 36 2 (.slice (newBlk H' (.cells [.int .i64 l[i], .int .i64 1] 36 true true)).2.next 0 ((ofN l i).length + 1) (.rest 0 2 ((ofN l i).length + 1))) (ofN l (i + 1)).length ((ofN l (i + 1)).flatMap e2) := by
        rw [ofN_f hg, hgi, List.length_append, List.flatMap_append]; exact ho2
      have hfr : Fr H H2 := (hf.newT _).frb hf2
      have hk22 : kindOf EE 23 = .slice 36 := by simp only [tyE]
      have wi : wrapI .i64 ((i : Int) + 1) = (i : Int) + 1 := wrap_i64 (by omega) (by omega)
      have wm : 0 < i → wrapI .i64 ((i : Int) - 1) = ((i - 1 : Nat) : Int) := fun h => by rw [wrap_i64 (by omega) (by omega)]; omega
      have hcn := cells_new' (H := H') (e := 36) (x := true) (l := [.int .i64 l[i], .int .i64 1]) (k := 2) rfl
      rcases hc with h0 | ⟨h0, hc1⟩ | ⟨h0, hc1, hc2⟩
      · have hpos : decide (0 < (i : Int)) = false := by simp; omega
        simp (decide := true) only [go_sem, tyE, g0, g6, g7, g8, g3, h1, hx'.idx hlt, RdN.at hx' hlt, Nat.mul_one, Nat.one_mul, w_buildSlice hk22, fpStep_a, setE_all, Nat.zero_mul, appArgs_def hk22 hk22, hcn, happ, wi, hpos]
        exact ⟨l.length - (i + 1), by omega, i + 1, _, by omega, rfl, rfl, rfl, hfr, hres⟩
      · have hpos : decide (0 < (i : Int)) = true := by simp; omega
        have hpl : i - 1 < l.length := by omega
        have hc1 : decide (l[i - 1] < 4611686018427387904) = false := by rw [getD_lt hpl] at hc1; simpa using hc1
        simp (decide := true) only [go_sem, tyE, g0, g6, g7, g8, g3, h1, hx'.idx hlt, RdN.at hx' hlt, Nat.mul_one, Nat.one_mul, w_buildSlice hk22, fpStep_a, setE_all, Nat.zero_mul, appArgs_def hk22 hk22, hcn, happ, wi, hpos, wm h0, hx'.idx hpl, RdN.at hx' hpl, hc1]
        exact ⟨l.length - (i + 1), by omega, i + 1, _, by omega, rfl, rfl, rfl, hfr, hres⟩
      · have hpos : decide (0 < (i : Int)) = true := by simp; omega
        have hpl : i - 1 < l.length := by omega
        have hrp := hr _ (List.getElem_mem hpl)
        rw [getD_lt hpl] at hc1
        rw [getD_lt hpl, hgi] at hc2
        have hc3 : decide (l[i - 1] < 4611686018427387904) = true := by simpa using hc1
        have hc4 : decide (l[i] = l[i - 1] + 1) = false := by simpa using hc2
        simp (decide := true) only [go_sem, tyE, g0, g6, g7, g8, g3, h1, hx'.idx hlt, RdN.at hx' hlt, Nat.mul_one, Nat.one_mul, w_buildSlice hk22, fpStep_a, setE_all, Nat.zero_mul, appArgs_def hk22 hk22, hcn, happ, wi, hpos, wm h0, hx'.idx hpl, RdN.at hx' hpl, hc3, hc4, wrap_i64 (n := l[i - 1] + 1) (by omega) (by omega)]
        exact ⟨l.length - (i + 1), by omega, i + 1, _, by omega, rfl, rfl, rfl, hfr, hres⟩
  · obtain rfl : i = l.length := by omega
    have h1 : decide ((l.length : Int) < l.length) = false := by simp
    simp (decide := true) only [go_sem, tyE, g0, g6, g7, g8, g3, h1]
    exact hk _ _ hf ho
end
end Go.Ev

namespace Go.Ev
open Go.Proofs
noncomputable section
set_option maxRecDepth 100000
theorem ofr_ok {H : Hp} {x : AV} {l : List Int} {K : AV → Hp → Prop} (hx : RdN .i64 H x l) (hb : l.length ≤ 1000)
    (hr : ∀ a ∈ l, -9223372036854775808 ≤ a ∧ a < 9223372036854775808) (hk : ∀ v H', Fr H H' → Own H' H.next 36 2 v (ofN l l.length).length ((ofN l l.length).flatMap e2) → K v H') : WCall EE (.func 9 [] []) [x] H K := by
  refine enter rfl fn9 rfl rfl rfl rfl rfl ?_
  change wpC EE _ _ _ _ _ (KR EE _ _)
  simp (decide := true) only [go_sem, tyE, hx.len (E := EE) (e := 3)]
  refine wloop (fun r G H' => ∃ (i : Nat) (out : AV), i ≤ l.length ∧ r = l.length - i ∧ G.get 0 = some x ∧ G.get 4 = some (.int .i64 i) ∧ G.get 3 = some out ∧
    Fr H H' ∧ Own H' H.next 36 2 out (ofN l i).length ((ofN l i).flatMap e2)) l.length ?_ ?_
  · simp (decide := true) only [go_sem]
    exact ⟨0, .nils, by omega, rfl, rfl, rfl, Fr.refl _, Own.nil⟩
  rintro r G H' ⟨i, out, hi, rfl, g0, g4, g3, hf, ho⟩
  have hx' := hx.keep hf
  by_cases hlt : i < l.length
  · have h1 : decide ((i : Int) < l.length) = true := by simp [hlt]
    have hri := hr _ (List.getElem_mem hlt)
    have hgi : l.getD i 0 = l[i] := getD_lt hlt
    have hlen := ofN_len l i
    by_cases hg : goesOn l i
    · obtain ⟨hp, hq, hs⟩ := hg
      have hpl : i - 1 < l.length := by omega
      have hrp := hr _ (List.getElem_mem hpl)
      rw [getD_lt hpl] at hq hs
      rw [hgi] at hs
      have hn : (ofN l i).length - 1 < (ofN l i).length := by have := hlen.2 hp; omega
      have hcnt := ofN_count l i _ (List.getElem_mem hn)
      have hP : RdP H' out (ofN l i) := ho.rds e2_len
      have hget := RdP.at1 hP hn
      have hw : wrapI .i64 ((i : Int) - 1) = ((i - 1 : Nat) : Int) := by rw [wrap_i64 (by omega) (by omega)]; omega
      have hw2 : wrapI .i64 (l[i - 1] + 1) = l[i - 1] + 1 := wrap_i64 (by omega) (by omega)
      have hw3 : wrapI .i64 (((ofN l i).length : Int) - 1) = (((ofN l i).length - 1 : Nat) : Int) := by rw [wrap_i64 (by omega) (by omega)]; omega
      have hw4 : wrapI .i64 ((ofN l i)[(ofN l i).length - 1].2 + 1) = (ofN l i)[(ofN l i).length - 1].2 + 1 := wrap_i64 (by omega) (by omega)
      have hpos : decide (0 < (i : Int)) = true := by simp; omega
      obtain ⟨H2, hput, ho2, hf2, hn2, hk2⟩ := ho.put (i := ((ofN l i).length - 1) * 2 + 1) (by omega) (x := .int .i64 ((ofN l i)[(ofN l i).length - 1].2 + 1)) rfl
      rw [flat_e2_set _ _ hn, getD_lt hn] at ho2
      rw [← Nat.add_assoc] at hput
      simp (decide := true) only [go_sem, tyE, g0, g4, g3, hx'.len (E := EE) (e := 3), h1]
      refine wpDraw_of (by kernel_rfl) ?_
      simp (decide := true) only [go_sem, tyE, g0, g4, g3, hx'.len (E := EE) (e := 3), h1, hx'.idx hlt, RdN.at hx' hlt, Nat.mul_one, Nat.add_zero, hpos, hw, hw2, hw3, hw4, hx'.idx hpl, RdN.at hx' hpl, hq, hs, hP.len (E := EE) (e := 36), hP.idx hn, hget, hput, ← Nat.add_assoc,
        wrap_i64 (n := (i : Int) + 1) (by omega) (by omega)]
      have hgo : goesOn l i := ⟨hp, by rw [getD_lt hpl]; exact hq, by rw [getD_lt hpl, hgi]; exact hs⟩
      refine ⟨l.length - (i + 1), by omega, i + 1, out, by omega, rfl, rfl, rfl, hf.frb hf2, ?_⟩
      rw [ofN_t hgo]
      unfold bump
      rw [getD_lt hn, List.length_set]
      exact ho2
    · have hc : i = 0 ∨ (0 < i ∧ ¬ l.getD (i - 1) 0 < 4611686018427387904) ∨ (0 < i ∧ l.getD (i - 1) 0 < 4611686018427387904 ∧ l.getD i 0 ≠ l.getD (i - 1) 0 + 1) := by
        by_cases h0 : 0 < i
        · by_cases h1 : l.getD (i - 1) 0 < 4611686018427387904
          · exact .inr (.inr ⟨h0, h1, fun h2 => hg ⟨h0, h1, h2⟩⟩)
          · exact .inr (.inl ⟨h0, h1⟩)
        · exact .inl (by omega)
      obtain ⟨H2, happ, ho2, hf2, hn2, _⟩ := (ho.keep (Fr.alloc H' (.cells [.int .i64 l[i], .int .i64 1] 36 true true))).append (E := EE) (m := 1) (new := [.int .i64 l[i], .int .i64 1]) (by simp only [tyE]) (by decide) (by decide) rfl rfl
        (growOk_grows gr36 (by omega)) (Nat.le_trans hf.1 (Nat.le_succ _))
      have hres : Own H2 H.next 36 2 (.slice (newBlk H' (.cells [.int .i64 l[i], .int .i64 1] 36 true true)).2.next 0 ((ofN l i).length + 1) (.rest 0 2 ((ofN l i).length + 1))) (ofN l (i + 1)).length ((ofN l (i + 1)).flatMap e2) := by
        rw [ofN_f hg, hgi, List.length_append, List.flatMap_append]; exact ho2
      have hfr : Fr H H2 := (hf.newT _).frb hf2
      have hk22 : kindOf EE 23 = .slice 36 := by simp only [tyE]
      have wi : wrapI .i64 ((i : Int) + 1) = (i : Int) + 1 := wrap_i64 (by omega) (by omega)
      have wm : 0 < i → wrapI .i64 ((i : Int) - 1) = ((i - 1 : Nat) : Int) := fun h => by rw [wrap_i64 (by omega) (by omega)]; omega
      have hcn := cells_new' (H := H') (e := 36) (x := true) (l := [.int .i64 l[i], .int .i64 1]) (k := 2) rfl
      rcases hc with h0 | ⟨h0, hc1⟩ | ⟨h0, hc1, hc2⟩
      · have hpos : decide (0 < (i : Int)) = false := by simp; omega
        simp (decide := true) only [go_sem, tyE, g0, g4, g3, hx'.len (E := EE) (e := 3), h1]
        refine wpDraw_of (by kernel_rfl) ?_
        simp (decide := true) only [go_sem, tyE, g0, g4, g3, hx'.len (E := EE) (e := 3), h1, hx'.idx hlt, RdN.at hx' hlt, Nat.mul_one, Nat.one_mul, w_buildSlice hk22, fpStep_a, setE_all, Nat.zero_mul, appArgs_def hk22 hk22, hcn, happ, wi, hpos]
        exact ⟨l.length - (i + 1), by omega, i + 1, _, by omega, rfl, rfl, rfl, hfr, hres⟩
      · have hpos : decide (0 < (i : Int)) = true := by simp; omega
        have hpl : i - 1 < l.length := by omega
        have hc1 : decide (l[i - 1] < 4611686018427387904) = false := by rw [getD_lt hpl] at hc1; simpa using hc1
        simp (decide := true) only [go_sem, tyE, g0, g4, g3, hx'.len (E := EE) (e := 3), h1]
        refine wpDraw_of (by kernel_rfl) ?_
        simp (decide := true) only [go_sem, tyE, g0, g4, g3, hx'.len (E := EE) (e := 3), h1, hx'.idx hlt, RdN.at hx' hlt, Nat.mul_one, Nat.one_mul, w_buildSlice hk22, fpStep_a, setE_all, Nat.zero_mul, appArgs_def hk22 hk22, hcn, happ, wi, hpos, wm h0, hx'.idx hpl, RdN.at hx' hpl, hc1]
        exact ⟨l.length - (i + 1), by omega, i + 1, _, by omega, rfl, rfl, rfl, hfr, hres⟩
      · have hpos : decide (0 < (i : Int)) = true := by simp; omega
        have hpl : i - 1 < l.length := by omega
        have hrp := hr _ (List.getElem_mem hpl)
        rw [getD_lt hpl] at hc1
        rw [getD_lt hpl, hgi] at hc2
        have hc3 : decide (l[i - 1] < 4611686018427387904) = true := by simpa using hc1
        have hc4 : decide (l[i] = l[i - 1] + 1) = false := by simpa using hc2
        simp (decide := true) only [go_sem, tyE, g0, g4, g3, hx'.len (E := EE) (e := 3), h1]
        refine wpDraw_of (by kernel_rfl) ?_
        simp (decide := true) only [go_sem, tyE, g0, g4, g3, hx'.len (E := EE) (e := 3), h1, hx'.idx hlt, RdN.at hx' hlt, Nat.mul_one, Nat.one_mul, w_buildSlice hk22, fpStep_a, setE_all, Nat.zero_mul, appArgs_def hk22 hk22, hcn, happ, wi, hpos, wm h0, hx'.idx hpl, RdN.at hx' hpl, hc3, hc4, wrap_i64 (n := l[i - 1] + 1) (by omega) (by omega)]
        exact ⟨l.length - (i + 1), by omega, i + 1, _, by omega, rfl, rfl, rfl, hfr, hres⟩
  · obtain rfl : i = l.length := by omega
    have h1 : decide ((l.length : Int) < l.length) = false := by simp
    simp (decide := true) only [go_sem, tyE, g0, g4, g3, hx'.len (E := EE) (e := 3), h1]
    exact hk _ _ hf ho
end
end Go.Ev

namespace Go.Ev
open Go.Proofs
noncomputable section
set_option maxRecDepth 100000
theorem fn10 : EE.fn 10 = some Try.f10 := by kernel_rfl

theorem ints_ok {H : Hp} {x y : AV} {l m : List Int} {K : AV → Hp → Prop} (hx : RdN .i64 H x l) (hy : RdN .i64 H y m) (hb : l.length < 2 ^ 62) (hk : K (.bool (decide (l = m))) H) : WCall EE (.func 10 [] []) [x, y] H K := by
  refine enter rfl fn10 rfl rfl rfl rfl rfl ?_
  change wpC EE _ _ _ _ _ (KR EE _ _)
  have X := hx.len (E := EE) (e := 3)
  have Y := hy.len (E := EE) (e := 3)
  simp (decide := true) only [go_sem, tyE, X, Y]
  by_cases hl : l.length = m.length
  · have hl' : decide ((l.length : Int) ≠ m.length) = false := by simp [hl]
    simp (decide := true) only [go_sem, tyE, hl']
    refine wloop (fun r G H' => ∃ i : Nat, H' = H ∧ G.get 0 = some x ∧ G.get 1 = some y ∧ G.get 5 = some (.int .i64 i) ∧ i ≤ l.length ∧ r = l.length - i ∧ l.take i = m.take i) l.length ?_ ?_
    · simp (decide := true) only [go_sem]
      exact ⟨0, rfl, by omega, rfl, rfl⟩
    rintro r G H' ⟨i, rfl, g0, g1, g5, hi, rfl, ht⟩
    by_cases hlt : i < l.length
    · have h1 : decide ((i : Int) < l.length) = true := by simp [hlt]
      simp (decide := true) only [go_sem, tyE, g0, g1, g5, X, Y, h1]
      refine wpDraw_of (by kernel_rfl) ?_
      have hm := hl ▸ hlt
      simp (decide := true) only [go_sem, tyE, g0, g1, g5, hx.idx hlt, hy.idx hm, RdN.at hx hlt, RdN.at hy hm, Nat.mul_one]
      by_cases he : l[i] = m[i]
      · have he' : decide (l[i] ≠ m[i]) = false := by simp [he]
        simp (decide := true) only [go_sem, he', g0, g1, g5, wrap_i64 (n := (i : Int) + 1) (by omega) (by omega)]
        refine ⟨l.length - (i + 1), by omega, i + 1, rfl, by omega, rfl, ?_⟩
        rw [List.take_add_one, List.take_add_one, ht, List.getElem?_eq_getElem hlt, List.getElem?_eq_getElem hm, he]
      · have he' : decide (l[i] ≠ m[i]) = true := by simp [he]
        simp (decide := true) only [go_sem, he', g5]
        have : l ≠ m := fun h => he (by simp [h])
        simpa [this] using hk
    · have h1 : decide ((i : Int) < l.length) = false := by simp [hlt]
      simp (decide := true) only [go_sem, tyE, g0, g1, g5, X, Y, h1]
      have : l = m := by
        rw [List.take_of_length_le (by omega), List.take_of_length_le (by omega)] at ht; exact ht
      simpa [this] using hk
  · have hl' : decide ((l.length : Int) ≠ m.length) = true := by simp; omega
    simp (decide := true) only [go_sem, hl']
    have : l ≠ m := fun h => hl (by rw [h])
    simpa [this] using hk
theorem fn7 : EE.fn 7 = some Try.f7 := by kernel_rfl

theorem same_ok {H : Hp} {x y : AV} {l m : List (Int × Int)} {K : AV → Hp → Prop} (hx : RdP H x l) (hy : RdP H y m) (hb : l.length < 2 ^ 62) (hk : K (.bool (decide (l = m))) H) : WCall EE (.func 7 [] []) [x, y] H K := by
  refine enter rfl fn7 rfl rfl rfl rfl rfl ?_
  change wpC EE _ _ _ _ _ (KR EE _ _)
  have X := hx.len (E := EE) (e := 36)
  have Y := hy.len (E := EE) (e := 36)
  simp (decide := true) only [go_sem, tyE, X, Y]
  by_cases hl : l.length = m.length
  · have hl' : decide ((l.length : Int) ≠ m.length) = false := by simp [hl]
    simp (decide := true) only [go_sem, tyE, hl']
    refine wloop (fun r G H' => ∃ i : Nat, H' = H ∧ G.get 0 = some x ∧ G.get 1 = some y ∧ G.get 5 = some (.int .i64 i) ∧ i ≤ l.length ∧ r = l.length - i ∧ l.take i = m.take i) l.length ?_ ?_
    · simp (decide := true) only [go_sem]
      exact ⟨0, rfl, by omega, rfl, rfl⟩
    rintro r G H' ⟨i, rfl, g0, g1, g5, hi, rfl, ht⟩
    by_cases hlt : i < l.length
    · have h1 : decide ((i : Int) < l.length) = true := by simp [hlt]
      simp (decide := true) only [go_sem, tyE, g0, g1, g5, X, Y, h1]
      refine wpDraw_of (by kernel_rfl) ?_
      have hm := hl ▸ hlt
      simp (decide := true) only [go_sem, tyE, g0, g1, g5, hx.idx hlt, hy.idx hm, Rds.at hx hlt, Rds.at hy hm, e2, eqAgg_2]
      by_cases he : l[i] = m[i]
      · have he' : (!(decide (l[i].1 = m[i].1) && decide (l[i].2 = m[i].2))) = false := by simp [he]
        simp (decide := true) only [go_sem, he', g0, g1, g5, wrap_i64 (n := (i : Int) + 1) (by omega) (by omega)]
        refine ⟨l.length - (i + 1), by omega, i + 1, rfl, by omega, rfl, ?_⟩
        rw [List.take_add_one, List.take_add_one, ht, List.getElem?_eq_getElem hlt, List.getElem?_eq_getElem hm, he]
      · have he' : (!(decide (l[i].1 = m[i].1) && decide (l[i].2 = m[i].2))) = true := by
          have : ¬ (l[i].1 = m[i].1 ∧ l[i].2 = m[i].2) := fun h => he (Prod.ext h.1 h.2)
          by_cases h1 : l[i].1 = m[i].1 <;> by_cases h2 : l[i].2 = m[i].2 <;> simp_all
        simp (decide := true) only [go_sem, he', g5]
        have : l ≠ m := fun h => he (by simp [h])
        simpa [this] using hk
    · have h1 : decide ((i : Int) < l.length) = false := by simp [hlt]
      simp (decide := true) only [go_sem, tyE, g0, g1, g5, X, Y, h1]
      have : l = m := by
        rw [List.take_of_length_le (by omega), List.take_of_length_le (by omega)] at ht; exact ht
      simpa [this] using hk
  · have hl' : decide ((l.length : Int) ≠ m.length) = true := by simp; omega
    simp (decide := true) only [go_sem, hl']
    have : l ≠ m := fun h => hl (by rw [h])
    simpa [this] using hk
end
end Go.Ev

namespace Go.Ev
open Go.Proofs
noncomputable section
set_option maxRecDepth 100000
theorem fn13 : EE.fn 13 = some Try.f13 := by kernel_rfl
theorem fn14 : EE.fn 14 = some Try.f14 := by kernel_rfl

/-! Whether runs lie apart. -/
def fre (l : List (Int × Int)) (i : Nat) : Int := if i = 0 then 0 else (l.getD (i - 1) (0, 0)).1 + (l.getD (i - 1) (0, 0)).2
def okAt (l : List (Int × Int)) (n : Int) (i : Nat) : Prop := 1 ≤ (l.getD i (0, 0)).2 ∧ fre l i ≤ (l.getD i (0, 0)).1 ∧ (l.getD i (0, 0)).1 < n ∧ (l.getD i (0, 0)).2 ≤ n - (l.getD i (0, 0)).1 ∧ (0 < i → (l.getD i (0, 0)).1 ≠ fre l i)
def goodP (l : List (Int × Int)) (n : Int) : Prop := ∀ i, i < l.length → okAt l n i
instance (l : List (Int × Int)) (n : Int) : Decidable (goodP l n) := Classical.propDecidable _

theorem fre_bd {l : List (Int × Int)} {n : Int} {i : Nat} (h : ∀ j, j < i → okAt l n j) : 0 ≤ fre l i ∧ (0 < i → fre l i ≤ n) := by
  induction i with
  | zero => exact ⟨by simp [fre], fun h => by omega⟩
  | succ i ih =>
    have h1 := ih fun j hj => h j (by omega)
    obtain ⟨a, b, c, d, _⟩ := h i (by omega)
    have : fre l (i + 1) = (l.getD i (0, 0)).1 + (l.getD i (0, 0)).2 := by unfold fre; rw [if_neg (by omega)]; rfl
    rw [this]
    exact ⟨by omega, fun _ => by omega⟩

theorem good_ok {H : Hp} {x : AV} {l : List (Int × Int)} {n : Int} {K : AV → Hp → Prop} (hx : RdP H x l) (hb : l.length ≤ 100000) (hn : -9223372036854775808 ≤ n ∧ n < 9223372036854775808)
    (hk : ∀ H', Fr H H' → K (.bool (decide (goodP l n))) H') : WCall EE (.func 13 [] []) [x, .int .i64 n] H K := by
  refine enter rfl fn13 rfl rfl rfl rfl rfl ?_
  change wpC EE _ _ _ _ _ (KR EE _ _)
  simp (decide := true) only [go_sem, tyE, hx.len (E := EE) (e := 36)]
  refine wloop (fun r G H' => ∃ i : Nat, i ≤ l.length ∧ r = l.length - i ∧ G.get 1 = some (.int .i64 n) ∧ G.get 8 = some x ∧ G.get 9 = some (.int .i64 l.length) ∧ G.get 10 = some (.int .i64 i) ∧ G.get 5 = some (.int .i64 (fre l i)) ∧
    Fr H H' ∧ ∀ j, j < i → okAt l n j) l.length ?_ ?_
  · simp (decide := true) only [go_sem]
    exact ⟨0, by omega, rfl, rfl, by simp [fre], Fr.refl _, fun j hj => by omega⟩
  rintro r G H' ⟨i, hi, rfl, g1, g8, g9, g10, g5, hf, hj⟩
  have hx' := hx.keep hf
  by_cases hlt : i < l.length
  · have h0 : decide ((i : Int) < l.length) = true := by simp [hlt]
    have hfr : Fr H (setBlk (newBlk H' (.cells [.int .i64 0, .int .i64 0] 36 true true)).2 H'.next (.cells [.int .i64 l[i].1, .int .i64 l[i].2] 36 true true)) := (hf.newT _).set hf.1 _
    have hbad : ¬ okAt l n i → goodP l n → False := fun h k => h (k i hlt)
    have hfin : ∀ H', Fr H H' → ¬ okAt l n i → K (.bool false) H' := fun H' hf' h => by
      have := hk H' hf'
      rw [show decide (goodP l n) = false from decide_eq_false fun k => h (k i hlt)] at this
      exact this
    have hgd : l.getD i (0, 0) = l[i] := getD_lt hlt
    have hbd := fre_bd hj
    have ok_def : okAt l n i ↔ 1 ≤ l[i].2 ∧ fre l i ≤ l[i].1 ∧ l[i].1 < n ∧ l[i].2 ≤ n - l[i].1 ∧ (0 < i → l[i].1 ≠ fre l i) := by unfold okAt; rw [hgd]
    have hcn : ∀ a b : Int, (.int .i64 a : AV) = .int .i64 b ↔ a = b := fun a b => by simp
    have wi : wrapI .i64 ((i : Int) + 1) = (i : Int) + 1 := wrap_i64 (by omega) (by omega)
    by_cases c1 : l[i].2 < 1
    · simp (decide := true) only [go_sem, tyE, Nat.add_zero, Nat.zero_add, Rds.at hx' hlt, e2, g1, g8, g9, g10, g5, h0, hx'.idx hlt, c1]
      exact hfin _ hfr fun h => by rw [ok_def] at h; omega
    by_cases c2 : l[i].1 < fre l i
    · simp (decide := true) only [go_sem, tyE, Nat.add_zero, Nat.zero_add, Rds.at hx' hlt, e2, g1, g8, g9, g10, g5, h0, hx'.idx hlt, c1, c2]
      exact hfin _ hfr fun h => by rw [ok_def] at h; omega
    by_cases c3 : n ≤ l[i].1
    · simp (decide := true) only [go_sem, tyE, Nat.add_zero, Nat.zero_add, Rds.at hx' hlt, e2, g1, g8, g9, g10, g5, h0, hx'.idx hlt, c1, c2, c3]
      exact hfin _ hfr fun h => by rw [ok_def] at h; omega
    have wn : wrapI .i64 (n - l[i].1) = n - l[i].1 := wrap_i64 (by omega) (by omega)
    by_cases c4 : n - l[i].1 < l[i].2
    · simp (decide := true) only [go_sem, tyE, Nat.add_zero, Nat.zero_add, Rds.at hx' hlt, e2, g1, g8, g9, g10, g5, h0, hx'.idx hlt, c1, c2, c3, wn, c4]
      exact hfin _ hfr fun h => by rw [ok_def] at h; omega
    have wc : wrapI .i64 (l[i].1 + l[i].2) = l[i].1 + l[i].2 := wrap_i64 (by omega) (by omega)
    have hnext : fre l (i + 1) = l[i].1 + l[i].2 := by unfold fre; rw [if_neg (by omega), show i + 1 - 1 = i from rfl, hgd]
    have hend : okAt l n i → ∃ m', m' < l.length - i ∧ ∃ i_1 : Nat, i_1 ≤ l.length ∧ m' = l.length - i_1 ∧ some (AV.int .i64 ((i : Int) + 1)) = some (AV.int .i64 i_1) ∧ some (AV.int .i64 (l[i].1 + l[i].2)) = some (AV.int .i64 (fre l i_1)) ∧
        Fr H (setBlk (newBlk H' (.cells [.int .i64 0, .int .i64 0] 36 true true)).2 H'.next (.cells [.int .i64 l[i].1, .int .i64 l[i].2] 36 true true)) ∧ ∀ j, j < i_1 → okAt l n j := fun h =>
      ⟨l.length - (i + 1), by omega, i + 1, by omega, rfl, rfl, by rw [hnext], hfr, fun j hj' => by
        by_cases h' : j < i
        · exact hj j h'
        · obtain rfl : j = i := by omega
          exact h⟩
    by_cases c5 : 0 < i
    · have c5' : (0 : Int) < i := by omega
      by_cases c6 : l[i].1 = fre l i
      · have c6' : decide (l[i].1 = fre l i) = true := decide_eq_true c6
        simp (decide := true) only [go_sem, tyE, Nat.add_zero, Nat.zero_add, Rds.at hx' hlt, e2, g1, g8, g9, g10, g5, h0, hx'.idx hlt, c1, c2, c3, wn, c4, c5', c6']
        exact hfin _ hfr fun h => by rw [ok_def] at h; exact h.2.2.2.2 c5 c6
      · simp (decide := true) only [go_sem, tyE, Nat.add_zero, Nat.zero_add, Rds.at hx' hlt, e2, g1, g8, g9, g10, g5, h0, hx'.idx hlt, c1, c2, c3, wn, c4, c5', c6, wc, wi]
        exact hend (ok_def.2 ⟨by omega, by omega, by omega, by omega, fun _ => c6⟩)
    · have c5' : ¬ (0 : Int) < i := by omega
      simp (decide := true) only [go_sem, tyE, Nat.add_zero, Nat.zero_add, Rds.at hx' hlt, e2, g1, g8, g9, g10, g5, h0, hx'.idx hlt, c1, c2, c3, wn, c4, c5', wc, wi]
      exact hend (ok_def.2 ⟨by omega, by omega, by omega, by omega, fun h => absurd h c5⟩)
  · obtain rfl : i = l.length := by omega
    have h1 : decide ((l.length : Int) < l.length) = false := by simp
    simp (decide := true) only [go_sem, tyE, g1, g8, g9, g10, g5, h1]
    have := hk H' hf
    rw [show decide (goodP l n) = true from decide_eq_true fun j hj' => hj j hj'] at this
    exact this
end
end Go.Ev

namespace Go.Ev
open Go.Proofs
noncomputable section
set_option maxRecDepth 100000
def enr (l : List (Int × Int)) (i : Nat) : Int := if i = 0 then -1 else fre l i
theorem goodr_ok {H : Hp} {x : AV} {l : List (Int × Int)} {n : Int} {K : AV → Hp → Prop} (hx : RdP H x l) (hb : l.length ≤ 100000) (hn : -9223372036854775808 ≤ n ∧ n < 9223372036854775808)
    (hk : K (.bool (decide (goodP l n))) H) : WCall EE (.func 14 [] []) [x, .int .i64 n] H K := by
  refine enter rfl fn14 rfl rfl rfl rfl rfl ?_
  change wpC EE _ _ _ _ _ (KR EE _ _)
  simp (decide := true) only [go_sem, tyE, un_neg]
  refine wloop (fun r G H' => ∃ i : Nat, i ≤ l.length ∧ r = l.length - i ∧ H' = H ∧ G.get 0 = some x ∧ G.get 1 = some (.int .i64 n) ∧ G.get 6 = some (.int .i64 i) ∧ G.get 5 = some (.int .i64 (enr l i)) ∧
    ∀ j, j < i → okAt l n j) l.length ?_ ?_
  · simp (decide := true) only [go_sem]
    exact ⟨0, by omega, rfl, rfl, by simp [enr], fun j hj => by omega⟩
  rintro r G H' ⟨i, hi, rfl, rfl, g0, g1, g6, g5, hj⟩
  by_cases hlt : i < l.length
  · have h0 : decide ((i : Int) < l.length) = true := by simp [hlt]
    have hfin : ¬ okAt l n i → K (.bool false) H' := fun h => by
      have := hk
      rw [show decide (goodP l n) = false from decide_eq_false fun k => h (k i hlt)] at this
      exact this
    have hgd : l.getD i (0, 0) = l[i] := getD_lt hlt
    have hbd := fre_bd hj
    have ok_def : okAt l n i ↔ 1 ≤ l[i].2 ∧ fre l i ≤ l[i].1 ∧ l[i].1 < n ∧ l[i].2 ≤ n - l[i].1 ∧ (0 < i → l[i].1 ≠ fre l i) := by unfold okAt; rw [hgd]
    have wi : wrapI .i64 ((i : Int) + 1) = (i : Int) + 1 := wrap_i64 (by omega) (by omega)
    have henr : 0 < i → enr l i = fre l i := fun h => if_neg (by omega)
    by_cases c1 : l[i].2 < 1
    · simp (decide := true) only [go_sem, tyE, g0, g1, g6, g5, hx.len (E := EE) (e := 36), h0]
      refine wpDraw_of (by kernel_rfl) ?_
      simp (decide := true) only [go_sem, tyE, Nat.add_zero, Nat.zero_add, RdP.at0 hx hlt, RdP.at1 hx hlt, g0, g1, g6, g5, hx.idx hlt, c1]
      exact hfin fun h => by rw [ok_def] at h; omega
    by_cases c2 : l[i].1 < 0
    · simp (decide := true) only [go_sem, tyE, g0, g1, g6, g5, hx.len (E := EE) (e := 36), h0]
      refine wpDraw_of (by kernel_rfl) ?_
      simp (decide := true) only [go_sem, tyE, Nat.add_zero, Nat.zero_add, RdP.at0 hx hlt, RdP.at1 hx hlt, g0, g1, g6, g5, hx.idx hlt, c1, c2]
      exact hfin fun h => by rw [ok_def] at h; omega
    by_cases c3 : n ≤ l[i].1
    · simp (decide := true) only [go_sem, tyE, g0, g1, g6, g5, hx.len (E := EE) (e := 36), h0]
      refine wpDraw_of (by kernel_rfl) ?_
      simp (decide := true) only [go_sem, tyE, Nat.add_zero, Nat.zero_add, RdP.at0 hx hlt, RdP.at1 hx hlt, g0, g1, g6, g5, hx.idx hlt, c1, c2, c3]
      exact hfin fun h => by rw [ok_def] at h; omega
    have wn : wrapI .i64 (n - l[i].1) = n - l[i].1 := wrap_i64 (by omega) (by omega)
    by_cases c4 : n - l[i].1 < l[i].2
    · simp (decide := true) only [go_sem, tyE, g0, g1, g6, g5, hx.len (E := EE) (e := 36), h0]
      refine wpDraw_of (by kernel_rfl) ?_
      simp (decide := true) only [go_sem, tyE, Nat.add_zero, Nat.zero_add, RdP.at0 hx hlt, RdP.at1 hx hlt, g0, g1, g6, g5, hx.idx hlt, c1, c2, c3, wn, c4]
      exact hfin fun h => by rw [ok_def] at h; omega
    have wc : wrapI .i64 (l[i].1 + l[i].2) = l[i].1 + l[i].2 := wrap_i64 (by omega) (by omega)
    have hnext : enr l (i + 1) = l[i].1 + l[i].2 := by unfold enr fre; rw [if_neg (by omega), if_neg (by omega), show i + 1 - 1 = i from rfl, hgd]
    have hend : okAt l n i → ∃ m', m' < l.length - i ∧ ∃ i_1 : Nat, i_1 ≤ l.length ∧ m' = l.length - i_1 ∧ some (AV.int .i64 ((i : Int) + 1)) = some (AV.int .i64 i_1) ∧ some (AV.int .i64 (l[i].1 + l[i].2)) = some (AV.int .i64 (enr l i_1)) ∧
        ∀ j, j < i_1 → okAt l n j := fun h =>
      ⟨l.length - (i + 1), by omega, i + 1, by omega, rfl, rfl, by rw [hnext], fun j hj' => by
        by_cases h' : j < i
        · exact hj j h'
        · obtain rfl : j = i := by omega
          exact h⟩
    by_cases c5 : 0 < i
    · have c5' : (0 : Int) < i := by omega
      by_cases c6 : l[i].1 ≤ enr l i
      · simp (decide := true) only [go_sem, tyE, g0, g1, g6, g5, hx.len (E := EE) (e := 36), h0]
        refine wpDraw_of (by kernel_rfl) ?_
        simp (decide := true) only [go_sem, tyE, Nat.add_zero, Nat.zero_add, RdP.at0 hx hlt, RdP.at1 hx hlt, g0, g1, g6, g5, hx.idx hlt, c1, c2, c3, wn, c4, c5', c6]
        exact hfin fun h => by rw [ok_def] at h; rw [henr c5] at c6; exact h.2.2.2.2 c5 (by omega)
      · simp (decide := true) only [go_sem, tyE, g0, g1, g6, g5, hx.len (E := EE) (e := 36), h0]
        refine wpDraw_of (by kernel_rfl) ?_
        simp (decide := true) only [go_sem, tyE, Nat.add_zero, Nat.zero_add, RdP.at0 hx hlt, RdP.at1 hx hlt, g0, g1, g6, g5, hx.idx hlt, c1, c2, c3, wn, c4, c5', c6]
        refine wpDraw_of (by kernel_rfl) ?_
        simp (decide := true) only [go_sem, tyE, Nat.add_zero, Nat.zero_add, RdP.at0 hx hlt, RdP.at1 hx hlt, g0, g1, g6, g5, hx.idx hlt, wc, wi]
        rw [henr c5] at c6
        exact hend (ok_def.2 ⟨by omega, by omega, by omega, by omega, fun _ => by omega⟩)
    · have c5' : ¬ (0 : Int) < i := by omega
      simp (decide := true) only [go_sem, tyE, g0, g1, g6, g5, hx.len (E := EE) (e := 36), h0]
      refine wpDraw_of (by kernel_rfl) ?_
      simp (decide := true) only [go_sem, tyE, Nat.add_zero, Nat.zero_add, RdP.at0 hx hlt, RdP.at1 hx hlt, g0, g1, g6, g5, hx.idx hlt, c1, c2, c3, wn, c4, c5']
      refine wpDraw_of (by kernel_rfl) ?_
      simp (decide := true) only [go_sem, tyE, Nat.add_zero, Nat.zero_add, RdP.at0 hx hlt, RdP.at1 hx hlt, g0, g1, g6, g5, hx.idx hlt, wc, wi]
      have hz : fre l i = 0 := by unfold fre; rw [if_pos (by omega)]
      exact hend (ok_def.2 ⟨by omega, by omega, by omega, by omega, fun h => absurd h c5⟩)
  · obtain rfl : i = l.length := by omega
    have h1 : decide ((l.length : Int) < l.length) = false := by simp
    simp (decide := true) only [go_sem, tyE, g0, g1, g6, g5, hx.len (E := EE) (e := 36), h1]
    have := hk
    rw [show decide (goodP l n) = true from decide_eq_true fun j hj' => hj j hj'] at this
    exact this
end
end Go.Ev

namespace Go.Ev
open Go.Proofs
noncomputable section
set_option maxRecDepth 100000
theorem fn11 : EE.fn 11 = some Try.f11 := by kernel_rfl
theorem fn12 : EE.fn 12 = some Try.f12 := by kernel_rfl

/-! The numbers of runs. -/
def skips (p : Int × Int) : Prop := p.1 < 0 ∨ 65535 < p.1 ∨ p.2 < 1 ∨ 4096 < p.2
instance (p : Int × Int) : Decidable (skips p) := by unfold skips; infer_instance
def more (out : List Int) (f : Int) (k : Nat) : List Int := (out ++ (List.range k).map fun j => f + (j : Nat)).take 65536
def blk (out : List Int) (p : Int × Int) : List Int := if skips p then out else more out p.1 p.2.toNat
def blocksN (l : List (Int × Int)) (i : Nat) : List Int := (l.take i).foldl blk []

theorem more_len (out : List Int) (f : Int) (k : Nat) : (more out f k).length ≤ 65536 := by unfold more; simp; omega
theorem more_zero {out : List Int} (f : Int) (h : out.length ≤ 65536) : more out f 0 = out := by unfold more; rw [List.range_zero, List.map_nil, List.append_nil, List.take_of_length_le h]
theorem more_succ {out : List Int} {f : Int} {k : Nat} (h : (more out f k).length < 65536) : more out f (k + 1) = more out f k ++ [f + (k : Nat)] := by
  unfold more at h ⊢
  have h1 : (out ++ (List.range k).map fun j => f + (j : Nat)).length < 65536 := by
    rw [List.length_take] at h; omega
  rw [List.range_succ, List.map_append, ← List.append_assoc, List.take_of_length_le (by simp at h1 ⊢; omega), List.take_of_length_le (by omega)]
  rfl
theorem more_full {out : List Int} {f : Int} {k m : Nat} (h : (more out f k).length = 65536) (hm : k ≤ m) : more out f m = more out f k := by
  unfold more at h ⊢
  obtain ⟨d, rfl⟩ : ∃ d, m = k + d := ⟨m - k, by omega⟩
  rw [List.range_add, List.map_append, ← List.append_assoc, List.take_append_of_le_length (by rw [List.length_take] at h; omega)]
theorem blk_len {out : List Int} {p : Int × Int} (h : out.length ≤ 65536) : (blk out p).length ≤ 65536 := by
  unfold blk; split
  · exact h
  · exact more_len _ _ _
theorem blk_full {out : List Int} {p : Int × Int} (h : out.length = 65536) : blk out p = out := by
  unfold blk more; split
  · rfl
  · rw [List.take_append_of_le_length (by omega), List.take_of_length_le (by omega)]
theorem fold_full {out : List Int} (h : out.length = 65536) : ∀ l : List (Int × Int), l.foldl blk out = out
  | [] => rfl
  | p :: l => by rw [List.foldl_cons, blk_full h, fold_full h l]
theorem blocksN_succ {l : List (Int × Int)} {i : Nat} (h : i < l.length) : blocksN l (i + 1) = blk (blocksN l i) l[i] := by
  unfold blocksN
  rw [List.take_succ_eq_append_getElem h, List.foldl_append]; rfl
theorem blocksN_len (l : List (Int × Int)) : ∀ i, (blocksN l i).length ≤ 65536 := by
  have : ∀ (l : List (Int × Int)) (out : List Int), out.length ≤ 65536 → (l.foldl blk out).length ≤ 65536 := by
    intro l
    induction l with
    | nil => exact fun _ h => h
    | cons p l ih => intro out h; exact ih _ (blk_len h)
  exact fun i => this _ _ (by simp)
theorem blocksN_full {l : List (Int × Int)} {i : Nat} (h : (blocksN l i).length = 65536) (hi : i ≤ l.length) : blocksN l l.length = blocksN l i := by
  unfold blocksN at h ⊢
  rw [List.take_length]
  conv => lhs; rw [← List.take_append_drop i l, List.foldl_append]
  exact fold_full h _

/-- One number more. -/
theorem own_push {H H' : Hp} {out : AV} {o : List Int} {a : Int} (hf : Fr H H') (ho : Own H' H.next 3 1 out o.length (o.map (.int .i64))) (hl : o.length < 65536) :
    ∃ H2, evAppend EE (newBlk H' (.cells [.int .i64 a] 3 true true)).2 3 out 1 [.int .i64 a] = some (.slice (newBlk H' (.cells [.int .i64 a] 3 true true)).2.next 0 (o.length + 1) (.rest 0 1 (o.length + 1)), H2) ∧
      Own H2 H.next 3 1 (.slice (newBlk H' (.cells [.int .i64 a] 3 true true)).2.next 0 (o.length + 1) (.rest 0 1 (o.length + 1))) (o ++ [a]).length ((o ++ [a]).map (.int .i64)) ∧ Fr H H2 ∧ H2.next = H'.next + 2 ∧
      (∀ b, (out = .nils ∨ b ≠ sB out) → b < H'.next → H2.m.get b = H'.m.get b) ∧ cellsAt (newBlk H' (.cells [.int .i64 a] 3 true true)).2 H'.next 0 1 = some [.int .i64 a] := by
  obtain ⟨H2, happ, ho2, hf2, hn2, hk2⟩ := (ho.keep (Fr.alloc H' (.cells [.int .i64 a] 3 true true))).append (E := EE) (m := 1) (new := [.int .i64 a]) (by simp only [tyE]) (by decide) (by decide) rfl rfl
    (growOk_grows gr3 (by omega)) (Nat.le_trans hf.1 (Nat.le_succ _))
  refine ⟨H2, happ, ?_, (hf.newT _).frb hf2, hn2, fun b h1 h2 => ?_, cells_new' rfl⟩
  · rw [List.length_append, List.map_append]; exact ho2
  · rw [hk2 b h1 (by rw [new_next]; omega), new_get, if_neg (by omega)]

theorem blocks_ok {H : Hp} {x : AV} {l : List (Int × Int)} {K : AV → Hp → Prop} (hx : RdP H x l) (hb : l.length ≤ 100000)
    (hk : ∀ v H', Fr H H' → Own H' H.next 3 1 v (blocksN l l.length).length ((blocksN l l.length).map (.int .i64)) → K v H') : WCall EE (.func 11 [] []) [x] H K := by
  refine enter rfl fn11 rfl rfl rfl rfl rfl ?_
  change wpC EE _ _ _ _ _ (KR EE _ _)
  simp (decide := true) only [go_sem, tyE, hx.len (E := EE) (e := 36)]
  refine wloop (fun r G H' => ∃ (i : Nat) (out : AV), i ≤ l.length ∧ r = l.length - i ∧ G.get 7 = some x ∧ G.get 8 = some (.int .i64 l.length) ∧ G.get 9 = some (.int .i64 i) ∧ G.get 3 = some out ∧
    Fr H H' ∧ Own H' H.next 3 1 out (blocksN l i).length ((blocksN l i).map (.int .i64))) l.length ?_ ?_
  · simp (decide := true) only [go_sem]
    exact ⟨0, .nils, by omega, rfl, rfl, rfl, Fr.refl _, Own.nil⟩
  rintro r G H' ⟨i, out, hi, rfl, g7, g8, g9, g3, hf, ho⟩
  have hx' := hx.keep hf
  have hk23 : kindOf EE 22 = .slice 3 := by simp only [tyE]
  by_cases hlt : i < l.length
  · have h0 : decide ((i : Int) < l.length) = true := by simp [hlt]
    have hfr : Fr H (setBlk (newBlk H' (.cells [.int .i64 0, .int .i64 0] 36 true true)).2 H'.next (.cells [.int .i64 l[i].1, .int .i64 l[i].2] 36 true true)) := (hf.newT _).set hf.1 _
    have hfr' : Fr H' (setBlk (newBlk H' (.cells [.int .i64 0, .int .i64 0] 36 true true)).2 H'.next (.cells [.int .i64 l[i].1, .int .i64 l[i].2] 36 true true)) := ((Fr.refl H').newT _).set (Nat.le_refl _) _
    have wi : wrapI .i64 ((i : Int) + 1) = (i : Int) + 1 := wrap_i64 (by omega) (by omega)
    have hskip : skips l[i] → ∃ m', m' < l.length - i ∧ ∃ (i_1 : Nat) (out_1 : AV), i_1 ≤ l.length ∧ m' = l.length - i_1 ∧ some (AV.int .i64 ((i : Int) + 1)) = some (AV.int .i64 i_1) ∧ some out = some out_1 ∧
        Fr H (setBlk (newBlk H' (.cells [.int .i64 0, .int .i64 0] 36 true true)).2 H'.next (.cells [.int .i64 l[i].1, .int .i64 l[i].2] 36 true true)) ∧
        Own (setBlk (newBlk H' (.cells [.int .i64 0, .int .i64 0] 36 true true)).2 H'.next (.cells [.int .i64 l[i].1, .int .i64 l[i].2] 36 true true)) H.next 3 1 out_1 (blocksN l i_1).length ((blocksN l i_1).map (.int .i64)) := fun h =>
      ⟨l.length - (i + 1), by omega, i + 1, out, by omega, rfl, rfl, rfl, hfr, by rw [blocksN_succ hlt, show blk (blocksN l i) l[i] = blocksN l i from if_pos h]; exact ho.keep hfr'⟩
    by_cases c1 : l[i].1 < 0
    · simp (decide := true) only [go_sem, tyE, Nat.add_zero, Nat.zero_add, Rds.at hx' hlt, e2, g7, g8, g9, g3, h0, hx'.idx hlt, c1, wi]
      exact hskip (.inl c1)
    by_cases c2 : 65535 < l[i].1
    · simp (decide := true) only [go_sem, tyE, Nat.add_zero, Nat.zero_add, Rds.at hx' hlt, e2, g7, g8, g9, g3, h0, hx'.idx hlt, c1, c2, wi]
      exact hskip (.inr (.inl c2))
    by_cases c3 : l[i].2 < 1
    · simp (decide := true) only [go_sem, tyE, Nat.add_zero, Nat.zero_add, Rds.at hx' hlt, e2, g7, g8, g9, g3, h0, hx'.idx hlt, c1, c2, c3, wi]
      exact hskip (.inr (.inr (.inl c3)))
    by_cases c4 : 4096 < l[i].2
    · simp (decide := true) only [go_sem, tyE, Nat.add_zero, Nat.zero_add, Rds.at hx' hlt, e2, g7, g8, g9, g3, h0, hx'.idx hlt, c1, c2, c3, c4, wi]
      exact hskip (.inr (.inr (.inr c4)))
    simp (decide := true) only [go_sem, tyE, Nat.add_zero, Nat.zero_add, Rds.at hx' hlt, e2, g7, g8, g9, g3, h0, hx'.idx hlt, c1, c2, c3, c4]
    have hns : ¬ skips l[i] := fun h => by rcases h with h | h | h | h <;> contradiction
    have hstep : blocksN l (i + 1) = more (blocksN l i) l[i].1 l[i].2.toNat := by rw [blocksN_succ hlt]; exact if_neg hns
    have hc : ((l[i].2.toNat : Nat) : Int) = l[i].2 := by omega
    refine wloop (fun r G Hc => ∃ (k : Nat) (out : AV), k ≤ l[i].2.toNat ∧ r = l[i].2.toNat - k ∧ G.get 7 = some x ∧ G.get 8 = some (.int .i64 l.length) ∧ G.get 9 = some (.int .i64 i) ∧ G.get 3 = some out ∧ G.get 5 = some (.ptr H'.next 0) ∧ G.get 32 = some (.int .i64 l[i].2) ∧
      G.get 33 = some (.int .i64 k) ∧ Fr H Hc ∧ Own Hc H.next 3 1 out (more (blocksN l i) l[i].1 k).length ((more (blocksN l i) l[i].1 k).map (.int .i64)) ∧ Hc.m.get H'.next = some (.cells [.int .i64 l[i].1, .int .i64 l[i].2] 36 true true) ∧ H'.next < Hc.next ∧ (out = .nils ∨ H'.next ≠ sB out)) l[i].2.toNat ?_ ?_
    · simp (decide := true) only [go_sem, g7, g8, g9, g3]
      refine ⟨0, out, by omega, rfl, rfl, rfl, hfr, ?_, by rw [set_get, if_pos rfl], by show H'.next < H'.next + 1; omega, ?_⟩
      · rw [more_zero _ (blocksN_len l i)]; exact ho.keep hfr'
      · rcases ho.2 with ⟨h, _⟩ | ⟨b, y, _, hb2, rfl, _⟩
        · exact .inl h
        · exact .inr (by show H'.next ≠ b; omega)
    rintro r G Hc ⟨k, out, hkl, rfl, g7, g8, g9, g3, g5, g32, g33, hf, ho, hloc, hnx, hne⟩
    by_cases hkt : k < l[i].2.toNat
    · have d0 : (k : Int) < l[i].2 := by omega
      have hml := more_len (blocksN l i) l[i].1 k
      have hlen := ho.isSl.len (E := EE) (e := 3)
      by_cases hfull : (more (blocksN l i) l[i].1 k).length = 65536
      · have d1 : decide (((more (blocksN l i) l[i].1 k).length : Int) = 65536) = true := by simp; omega
        simp (decide := true) only [go_sem, tyE, g7, g8, g9, g3, g5, g32, g33, d0, d1, hlen]
        have e1 : blocksN l l.length = more (blocksN l i) l[i].1 k := by
          have : blocksN l (i + 1) = more (blocksN l i) l[i].1 k := by rw [hstep, more_full hfull (by omega)]
          rw [← this]
          exact blocksN_full (by rw [this]; exact hfull) (by omega)
        exact hk _ _ hf (by rw [e1]; exact ho)
      · have d1 : decide (((more (blocksN l i) l[i].1 k).length : Int) = 65536) = false := by simp; omega
        have hm := more_succ (out := blocksN l i) (f := l[i].1) (k := k) (by omega)
        obtain ⟨H2, happ, ho2, hf2, hn2, hk2, hcn⟩ := own_push (a := l[i].1 + (k : Nat)) hf ho (by omega)
        have hl0 : cellAt Hc H'.next 0 = some (.int .i64 l[i].1) := by rw [cellAt_def, hloc]; rfl
        have wa : wrapI .i64 (l[i].1 + (k : Nat)) = l[i].1 + (k : Nat) := wrap_i64 (by omega) (by omega)
        have wk : wrapI .i64 ((k : Int) + 1) = (k : Int) + 1 := wrap_i64 (by omega) (by omega)
        simp (decide := true) only [go_sem, tyE, Nat.add_zero, Nat.mul_one, g7, g8, g9, g3, g5, g32, g33, d0, d1, hlen, hl0, wa, w_buildSlice hk23, appArgs_def hk23 hk23, Nat.zero_mul, hcn, happ, wk]
        refine ⟨l[i].2.toNat - (k + 1), by omega, k + 1, _, by omega, rfl, rfl, rfl, hf2, by rw [hm]; exact ho2, ?_, by omega, .inr ?_⟩
        · rw [hk2 _ hne hnx]; exact hloc
        · show H'.next ≠ Hc.next + 1; omega
    · obtain rfl : k = l[i].2.toNat := by omega
      have d0 : ¬ ((l[i].2.toNat : Nat) : Int) < l[i].2 := by omega
      simp (decide := true) only [go_sem, tyE, g7, g8, g9, g3, g5, g32, g33, d0, wi]
      exact ⟨l.length - (i + 1), by omega, i + 1, out, by omega, rfl, rfl, rfl, hf, by rw [hstep]; exact ho⟩
  · obtain rfl : i = l.length := by omega
    have h1 : decide ((l.length : Int) < l.length) = false := by simp
    simp (decide := true) only [go_sem, tyE, g7, g8, g9, g3, h1]
    exact hk _ _ hf ho
end
end Go.Ev

namespace Go.Ev
open Go.Proofs
noncomputable section
set_option maxRecDepth 100000
theorem blocksr_ok {H : Hp} {x : AV} {l : List (Int × Int)} {K : AV → Hp → Prop} (hx : RdP H x l) (hb : l.length ≤ 100000)
    (hk : ∀ v H', Fr H H' → Own H' H.next 3 1 v (blocksN l l.length).length ((blocksN l l.length).map (.int .i64)) → K v H') : WCall EE (.func 12 [] []) [x] H K := by
  refine enter rfl fn12 rfl rfl rfl rfl rfl ?_
  change wpC EE _ _ _ _ _ (KR EE _ _)
  simp (decide := true) only [go_sem, tyE]
  refine wloop (fun r G H' => ∃ (i : Nat) (out : AV), i ≤ l.length ∧ r = l.length - i ∧ G.get 0 = some x ∧ G.get 4 = some (.int .i64 i) ∧ G.get 3 = some out ∧
    Fr H H' ∧ Own H' H.next 3 1 out (blocksN l i).length ((blocksN l i).map (.int .i64))) l.length ?_ ?_
  · simp (decide := true) only [go_sem]
    exact ⟨0, .nils, by omega, rfl, rfl, rfl, Fr.refl _, Own.nil⟩
  rintro r G H' ⟨i, out, hi, rfl, g0, g4, g3, hf, ho⟩
  have hx' := hx.keep hf
  have hk23 : kindOf EE 22 = .slice 3 := by simp only [tyE]
  by_cases hlt : i < l.length
  · have h0 : decide ((i : Int) < l.length) = true := by simp [hlt]
    have wi : wrapI .i64 ((i : Int) + 1) = (i : Int) + 1 := wrap_i64 (by omega) (by omega)
    have hskip : skips l[i] → ∃ m', m' < l.length - i ∧ ∃ (i_1 : Nat) (out_1 : AV), i_1 ≤ l.length ∧ m' = l.length - i_1 ∧ some (AV.int .i64 ((i : Int) + 1)) = some (AV.int .i64 i_1) ∧ some out = some out_1 ∧
        Fr H H' ∧ Own H' H.next 3 1 out_1 (blocksN l i_1).length ((blocksN l i_1).map (.int .i64)) := fun h =>
      ⟨l.length - (i + 1), by omega, i + 1, out, by omega, rfl, rfl, rfl, hf, by rw [blocksN_succ hlt, show blk (blocksN l i) l[i] = blocksN l i from if_pos h]; exact ho⟩
    by_cases c1 : l[i].1 < 0
    · simp (decide := true) only [go_sem, tyE, Nat.add_zero, RdP.at0 hx' hlt, RdP.at1 hx' hlt, g0, g4, g3, hx'.len (E := EE) (e := 36), h0, hx'.idx hlt, c1, wi]
      exact hskip (.inl c1)
    by_cases c2 : 65535 < l[i].1
    · simp (decide := true) only [go_sem, tyE, Nat.add_zero, RdP.at0 hx' hlt, RdP.at1 hx' hlt, g0, g4, g3, hx'.len (E := EE) (e := 36), h0, hx'.idx hlt, c1, c2, wi]
      exact hskip (.inr (.inl c2))
    by_cases c3 : l[i].2 < 1
    · simp (decide := true) only [go_sem, tyE, Nat.add_zero, RdP.at0 hx' hlt, RdP.at1 hx' hlt, g0, g4, g3, hx'.len (E := EE) (e := 36), h0, hx'.idx hlt, c1, c2, c3, wi]
      exact hskip (.inr (.inr (.inl c3)))
    by_cases c4 : 4096 < l[i].2
    · simp (decide := true) only [go_sem, tyE, Nat.add_zero, RdP.at0 hx' hlt, RdP.at1 hx' hlt, g0, g4, g3, hx'.len (E := EE) (e := 36), h0, hx'.idx hlt, c1, c2, c3, c4, wi]
      exact hskip (.inr (.inr (.inr c4)))
    simp (decide := true) only [go_sem, tyE, Nat.add_zero, RdP.at0 hx' hlt, RdP.at1 hx' hlt, g0, g4, g3, hx'.len (E := EE) (e := 36), h0, hx'.idx hlt, c1, c2, c3, c4]
    have hns : ¬ skips l[i] := fun h => by rcases h with h | h | h | h <;> contradiction
    have hstep : blocksN l (i + 1) = more (blocksN l i) l[i].1 l[i].2.toNat := by rw [blocksN_succ hlt]; exact if_neg hns
    refine wloop (fun r G Hc => ∃ (k : Nat) (out : AV), k ≤ l[i].2.toNat ∧ r = l[i].2.toNat - k ∧ G.get 0 = some x ∧ G.get 4 = some (.int .i64 i) ∧ G.get 3 = some out ∧ G.get 5 = some (.int .i64 k) ∧
      Fr H Hc ∧ Own Hc H.next 3 1 out (more (blocksN l i) l[i].1 k).length ((more (blocksN l i) l[i].1 k).map (.int .i64))) l[i].2.toNat ?_ ?_
    · simp (decide := true) only [go_sem, g0, g4, g3]
      exact ⟨0, out, by omega, rfl, rfl, rfl, hf, by rw [more_zero _ (blocksN_len l i)]; exact ho⟩
    rintro r G Hc ⟨k, out, hkl, rfl, g0, g4, g3, g5, hf, ho⟩
    have hx'' := hx.keep hf
    by_cases hkt : k < l[i].2.toNat
    · have d0 : (k : Int) < l[i].2 := by omega
      have hml := more_len (blocksN l i) l[i].1 k
      have hlen := ho.isSl.len (E := EE) (e := 3)
      by_cases hfull : (more (blocksN l i) l[i].1 k).length = 65536
      · have d1 : decide (((more (blocksN l i) l[i].1 k).length : Int) < 65536) = false := by simp; omega
        simp (decide := true) only [go_sem, tyE, Nat.add_zero, Nat.mul_one, RdP.at0 hx'' hlt, RdP.at1 hx'' hlt, hx''.idx hlt, g0, g4, g3, g5, d0, d1, hlen, wi]
        have e1 : blocksN l (i + 1) = more (blocksN l i) l[i].1 k := by rw [hstep, more_full hfull (by omega)]
        exact ⟨l.length - (i + 1), by omega, i + 1, out, by omega, rfl, rfl, rfl, hf, by rw [e1]; exact ho⟩
      · have d1 : decide (((more (blocksN l i) l[i].1 k).length : Int) < 65536) = true := by simp; omega
        have hm := more_succ (out := blocksN l i) (f := l[i].1) (k := k) (by omega)
        obtain ⟨H2, happ, ho2, hf2, hn2, hk2, hcn⟩ := own_push (a := l[i].1 + (k : Nat)) hf ho (by omega)
        have wa : wrapI .i64 (l[i].1 + (k : Nat)) = l[i].1 + (k : Nat) := wrap_i64 (by omega) (by omega)
        have wk : wrapI .i64 ((k : Int) + 1) = (k : Int) + 1 := wrap_i64 (by omega) (by omega)
        simp (decide := true) only [go_sem, tyE, Nat.add_zero, Nat.mul_one, RdP.at0 hx'' hlt, RdP.at1 hx'' hlt, hx''.idx hlt, g0, g4, g3, g5, d0, d1, hlen, wa, w_buildSlice hk23, appArgs_def hk23 hk23, Nat.zero_mul, hcn, happ, wk]
        exact ⟨l[i].2.toNat - (k + 1), by omega, k + 1, _, by omega, rfl, rfl, rfl, hf2, by rw [hm]; exact ho2⟩
    · obtain rfl : k = l[i].2.toNat := by omega
      have d0 : ¬ ((l[i].2.toNat : Nat) : Int) < l[i].2 := by omega
      simp (decide := true) only [go_sem, tyE, Nat.add_zero, Nat.mul_one, RdP.at0 hx'' hlt, RdP.at1 hx'' hlt, hx''.idx hlt, g0, g4, g3, g5, d0, wi]
      exact ⟨l.length - (i + 1), by omega, i + 1, out, by omega, rfl, rfl, rfl, hf, by rw [hstep]; exact ho⟩
  · obtain rfl : i = l.length := by omega
    have h1 : decide ((l.length : Int) < l.length) = false := by simp
    simp (decide := true) only [go_sem, tyE, g0, g4, g3, hx'.len (E := EE) (e := 36), h1]
    exact hk _ _ hf ho
end
end Go.Ev

namespace Go.Ev
open Go.Proofs
noncomputable section
set_option maxRecDepth 100000
theorem fn3 : EE.fn 3 = some Try.f3 := by kernel_rfl

/-- A copy. -/
theorem copy_own {H H' : Hp} {x : AV} {e sz : Nat} {α : Type} {enc : α → List AV} {l : List α} (hx : Rds sz enc H x l) (hf : Fr H H') (hsz : sizeT EE e = sz) (hpos : 0 < sz) (hl : l.length ≤ 1000000) (hg : grows EE e = true) (hfl : flatL (l.flatMap enc) = true) :
    srcCells EE (newBlk H' (.cells [] e true true)).2 e x = some (l.length, l.flatMap enc) ∧
    ∃ v H2, evAppend EE (newBlk H' (.cells [] e true true)).2 e (.slice H'.next 0 0 (.ex 0)) l.length (l.flatMap enc) = some (v, H2) ∧ Rds sz enc H2 v l ∧ Fr H H2 ∧ Fr H' H2 := by
  have hx' := (hx.keep hf).keep (Fr.alloc H' (.cells [] e true true))
  refine ⟨hx'.src hsz, ?_⟩
  obtain ⟨v, H2, h1, h2, h3, _⟩ := (own_new0 (e := e) (sz := sz) H' H'.next (Nat.le_refl _)).appendAny (E := EE) (m := l.length) (new := l.flatMap enc) hsz hpos (flat_len hx.2.2.1 l) hfl (growOk_grows hg (by omega)) (Nat.le_succ _)
  rw [Nat.zero_add, List.nil_append] at h2
  exact ⟨v, H2, h1, h2.rds hx.2.2.1, (hf.newT _).frb (h3.mono hf.1), (Fr.alloc H' _).frb h3⟩

end
end Go.Ev
