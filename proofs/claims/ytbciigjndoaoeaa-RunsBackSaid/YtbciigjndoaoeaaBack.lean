/-
  RunsBack: whatever bytes and runs come in, the statement is true, and nothing that was there has turned. No conditions.
-/
import Derived.Test.YtbciigjndoaoeaaRuns2
import Derived.Test.YtbciigjndoaoeaaW15
import Derived.Test.YtbciigjndoaoeaaRows
import Derived.WalkKit
import Derived.ProofKit
import Derived.OpenShut
set_option linter.unusedVariables false
set_option linter.unusedSimpArgs false
namespace Go.Ev
open Go.Proofs
noncomputable section
set_option maxRecDepth 100000
theorem fn5 : EE.fn 5 = some Try.f5 := by kernel_rfl

theorem apartR_app : ∀ (a b : List (Int × Int)), apartR (a ++ b) → apartR b
  | [], _, h => h
  | _ :: a, b, h => apartR_app a b (apartR_tail h)
theorem apart_idx {l : List (Int × Int)} (h : apartR l.reverse) {i : Nat} (h0 : 0 < i) (hi : i < l.length) : (l[i]).1 ≠ (l[i - 1]).1 + (l[i - 1]).2 := by
  have h1 : l = l.take (i - 1) ++ (l[i - 1] :: l[i] :: l.drop (i + 1)) := by
    have e1 := List.drop_eq_getElem_cons (show i - 1 < l.length by omega)
    have e2 := List.drop_eq_getElem_cons hi
    rw [show i - 1 + 1 = i by omega] at e1
    rw [← e2, ← e1, List.take_append_drop]
  rw [h1] at h
  simp only [List.reverse_append, List.reverse_cons, List.append_assoc] at h
  exact (apartR_app _ _ h).2.1
theorem ex_len (p : Int × Int) : (ex p).length = p.2.toNat := by simp [ex]
theorem expd_app (a b : List (Int × Int)) : expd (a ++ b) = expd a ++ expd b := List.flatMap_append
theorem expd_one (p : Int × Int) : expd [p] = ex p := by simp [expd]
theorem expd_cons (p : Int × Int) (l : List (Int × Int)) : expd (p :: l) = ex p ++ expd l := List.flatMap_cons
theorem expd_take {l : List (Int × Int)} {i : Nat} (hi : i < l.length) : (expd (l.take (i + 1))).length = (expd (l.take i)).length + l[i].2.toNat := by
  rw [List.take_succ_eq_append_getElem hi, expd_app, expd_one, List.length_append, ex_len]
theorem expd_at {l : List (Int × Int)} {i k : Nat} (hi : i < l.length) (hk : k < l[i].2.toNat) : (expd l)[(expd (l.take i)).length + k]? = some (l[i].1 + (k : Nat)) := by
  have h1 : expd l = expd (l.take i) ++ (ex l[i] ++ expd (l.drop (i + 1))) := by
    rw [← expd_cons, ← List.drop_eq_getElem_cons hi, ← expd_app, List.take_append_drop]
  rw [h1, List.getElem?_append_right (by omega), List.getElem?_append_left (by rw [ex_len]; omega)]
  rw [show (expd (l.take i)).length + k - (expd (l.take i)).length = k by omega]
  simp [ex, hk]

theorem law5 {H : Hp} {x : AV} {l : List Int} (hx : RdN .u16 H x l) (hr : ∀ a ∈ l, 0 ≤ a ∧ a < 65536) (hl : (l.length : Int) < 9223372036854775808) : WCall EE (.func 5 [] []) [x] H fun v _ => v = .bool true := by
  refine enter rfl fn5 rfl rfl rfl rfl rfl ?_
  change wpC EE _ _ _ _ _ (KR EE _ _)
  have X := hx.len (E := EE) (e := 34)
  by_cases c1 : (300 : Int) < l.length
  · simp (decide := true) only [go_sem, tyE, X, c1]
    refine wcall_true rfl ?_
    simp (decide := true) only [go_sem, tyE]
  simp (decide := true) only [go_sem, tyE, X, c1]
  have k22 : kindOf EE 22 = .slice 3 := by simp only [tyE]
  have k34 : kindOf EE 34 = .int .u16 := by simp only [tyE]
  have k3 : kindOf EE 3 = .int .i64 := by simp only [tyE]
  refine wloop (fun r G H' => ∃ (i : Nat) (v : AV), i ≤ l.length ∧ r = l.length - i ∧ G.get 0 = some x ∧ G.get 4 = some (.int .i64 i) ∧ G.get 3 = some v ∧ Fr H H' ∧ Own H' H.next 3 1 v (l.take i).length ((l.take i).map (.int .i64))) l.length ?_ ?_
  · simp (decide := true) only [go_sem]
    exact ⟨0, .nils, by omega, rfl, rfl, rfl, Fr.refl _, Own.nil⟩
  rintro r G H' ⟨i, v, hi, rfl, g0, g4, g3, hf, ho⟩
  have hx' := hx.keep hf
  by_cases hlt : i < l.length
  · have d0 : (i : Int) < l.length := by omega
    have hb := hr _ (List.getElem_mem hlt)
    have hts : l.take (i + 1) = l.take i ++ [l[i]] := List.take_succ_eq_append_getElem hlt
    obtain ⟨H2, happ, ho2, hf2, hn2, hk2, hcn⟩ := own_push (a := l[i]) hf ho (by simp; omega)
    simp (decide := true) only [go_sem, tyE, Nat.mul_one, Nat.zero_mul, g0, g4, g3, X, d0, hx'.idx hlt, RdN.at hx' hlt, w_conv_int k34 k3, wrap_i64 (n := l[i]) (by omega) (by omega), w_buildSlice k22, appArgs_def k22 k22, hcn, happ, wrap_i64 (n := (i : Int) + 1) (by omega) (by omega)]
    exact ⟨l.length - (i + 1), by omega, i + 1, _, by omega, rfl, rfl, rfl, hf2, by rw [hts]; exact ho2⟩
  obtain rfl : i = l.length := by omega
  have d0 : ¬ (l.length : Int) < l.length := by omega
  rw [List.take_length] at ho
  rw [← flat_e1] at ho
  have hin := ho.rds e1_len
  simp (decide := true) only [go_sem, tyE, g0, g4, g3, X, d0]
  refine of_ok hin (by omega) (fun a ha => by have := hr a ha; omega) fun v2 H2 hf2 ho2 => ?_
  have hR := ho2.rds e2_len
  have hin2 := hin.keep hf2
  obtain ⟨hap, hexp⟩ := ofN_what (l := l) fun a ha => by have := hr a ha; omega
  have hcnt := ofN_count l l.length
  have hlen := ofN_len l l.length
  generalize ofN l l.length = rs at hR hap hexp hcnt hlen
  have R := hR.len (E := EE) (e := 36)
  have I := hin2.len (E := EE) (e := 3)
  simp (decide := true) only [go_sem, tyE]
  refine wloop (fun r G Hc => ∃ i : Nat, i ≤ rs.length ∧ r = rs.length - i ∧ Hc = H2 ∧ G.get 3 = some v ∧ G.get 5 = some v2 ∧ G.get 7 = some (.int .i64 i) ∧ G.get 6 = some (.int .i64 (expd (rs.take i)).length)) rs.length ?_ ?_
  · simp (decide := true) only [go_sem, g3]
    exact ⟨0, by omega, rfl, rfl, rfl⟩
  rintro r G Hc ⟨i, hi, rfl, rfl, g3, g5, g7, g6⟩
  by_cases hlt : i < rs.length
  · have d1 : (i : Int) < rs.length := by omega
    have hc := hcnt _ (List.getElem_mem hlt)
    have wi : wrapI .i64 ((i : Int) + 1) = (i : Int) + 1 := wrap_i64 (by omega) (by omega)
    have d2 : ¬ rs[i].2 < 1 := by omega
    have htake := expd_take hlt
    have hle : (expd (rs.take (i + 1))).length ≤ l.length := by
      have : (expd rs).length = (expd (rs.take (i + 1))).length + (expd (rs.drop (i + 1))).length := by rw [← List.length_append, ← expd_app, List.take_append_drop]
      rw [hexp] at this; omega
    have hcc : ((rs[i].2.toNat : Nat) : Int) = rs[i].2 := by omega
    simp (decide := true) only [go_sem, tyE, g3, g5, g7, g6, R, d1]
    refine wpDraw_of (by kernel_rfl) ?_
    by_cases hp : 0 < i
    have hpl : i - 1 < rs.length := by omega
    have hc' := hcnt _ (List.getElem_mem hpl)
    have hne := apart_idx hap hp hlt
    have hr1 := hr
    have d3 : (0 : Int) < i := by omega
    have wm : wrapI .i64 ((i : Int) - 1) = ((i - 1 : Nat) : Int) := by rw [wrap_i64 (by omega) (by omega)]; omega
    have hfrom : -9223372036854775808 ≤ rs[i - 1].1 ∧ rs[i - 1].1 < 65536 := by
      have h1 := expd_at (l := rs) hpl (k := 0) (by omega)
      rw [hexp] at h1
      obtain ⟨h2, h3⟩ := List.getElem?_eq_some_iff.1 h1
      have := hr _ (List.getElem_mem h2)
      rw [h3] at this
      simp at this; omega
    have wa : wrapI .i64 (rs[i - 1].1 + rs[i - 1].2) = rs[i - 1].1 + rs[i - 1].2 := wrap_i64 (by omega) (by omega)
    have d4 : decide (rs[i].1 = rs[i - 1].1 + rs[i - 1].2) = false := by simpa using hne
    simp (decide := true) only [go_sem, tyE, Nat.add_zero, g3, g5, g7, g6, hR.idx hlt, RdP.at0 hR hlt, RdP.at1 hR hlt, hR.idx hpl, RdP.at0 hR hpl, RdP.at1 hR hpl, d2, d3, wm, wa, d4]
    rotate_left
    have d3 : ¬ (0 : Int) < i := by omega
    simp (decide := true) only [go_sem, tyE, Nat.add_zero, g3, g5, g7, g6, hR.idx hlt, RdP.at0 hR hlt, RdP.at1 hR hlt, d2, d3]
    all_goals
      refine wloop (fun r G Hc' => ∃ k : Nat, k ≤ rs[i].2.toNat ∧ r = rs[i].2.toNat - k ∧ Hc' = Hc ∧ G.get 3 = some v ∧ G.get 5 = some v2 ∧ G.get 7 = some (.int .i64 i) ∧ G.get 8 = some (.int .i64 k) ∧ G.get 6 = some (.int .i64 ((expd (rs.take i)).length + k : Nat))) rs[i].2.toNat ?_ ?_
      · simp (decide := true) only [go_sem, g3, g5, g7, g6]
        exact ⟨0, by omega, rfl, rfl, rfl⟩
      rintro r G Hc' ⟨k, hk, rfl, rfl, g3, g5, g7, g8, g6⟩
      by_cases hkt : k < rs[i].2.toNat
      · have e0 : (k : Int) < rs[i].2 := by omega
        have hat := expd_at hlt hkt
        rw [hexp] at hat
        obtain ⟨hal, hav⟩ := List.getElem?_eq_some_iff.1 hat
        have e1 : ¬ ((l.length : Int) ≤ ((expd (rs.take i)).length + k : Nat)) := by omega
        have hval := hr _ (List.getElem_mem hal)
        rw [hav] at hval
        have e2' : wrapI .i64 (rs[i].1 + (k : Nat)) = rs[i].1 + (k : Nat) := wrap_i64 (by omega) (by omega)
        have e3 : decide (l[(expd (rs.take i)).length + k] ≠ rs[i].1 + (k : Nat)) = false := by simp [hav]
        have e4 : wrapI .i64 (((expd (rs.take i)).length + k : Nat) + 1) = ((expd (rs.take i)).length + (k + 1) : Nat) := by rw [wrap_i64 (by omega) (by omega)]; omega
        simp (decide := true) only [go_sem, tyE, Nat.add_zero, g3, g5, g7, g8, g6, hR.idx hlt, RdP.at1 hR hlt, e0]
        refine wpDraw_of (by kernel_rfl) ?_
        simp (decide := true) only [go_sem, tyE, Nat.add_zero, Nat.mul_one, g3, g5, g7, g8, g6, I, hR.idx hlt, RdP.at0 hR hlt, hin2.idx hal, RdN.at hin2 hal, e1, e2', e3, e4, wrap_i64 (n := (k : Int) + 1) (by omega) (by omega)]
        exact ⟨rs[i].2.toNat - (k + 1), by omega, k + 1, by omega, rfl, rfl, rfl⟩
      · obtain rfl : k = rs[i].2.toNat := by omega
        have e0 : ¬ ((rs[i].2.toNat : Nat) : Int) < rs[i].2 := by omega
        simp (decide := true) only [go_sem, tyE, Nat.add_zero, g3, g5, g7, g8, g6, hR.idx hlt, RdP.at1 hR hlt, e0, wi]
        exact ⟨rs.length - (i + 1), by omega, i + 1, by omega, rfl, rfl, by rw [htake]⟩
  · obtain rfl : i = rs.length := by omega
    have d1 : ¬ (rs.length : Int) < rs.length := by omega
    rw [List.take_length, hexp] at g6
    simp (decide := true) only [go_sem, tyE, g3, g5, g7, g6, R, I, d1, eq_self]
    refine wcall_true rfl ?_
    simp (decide := true) only [go_sem, tyE]
theorem fn4 : EE.fn 4 = some Try.f4 := by kernel_rfl

theorem fold_blk : ∀ (m : List (Int × Int)) (out : List Int), (∀ p ∈ m, ¬ skips p) → (out ++ expd m).length ≤ 65536 → m.foldl blk out = out ++ expd m
  | [], out, _, _ => by simp [expd]
  | p :: m, out, hs, hl => by
    rw [expd_cons] at hl ⊢
    have hb : blk out p = out ++ ex p := by
      unfold blk; rw [if_neg (hs p (by simp))]
      unfold more
      have : (List.range p.2.toNat).map (fun j => p.1 + (j : Nat)) = ex p := rfl
      rw [this, List.take_of_length_le (by simp at hl ⊢; omega)]
    rw [List.foldl_cons, hb, fold_blk m (out ++ ex p) (fun q hq => hs q (by simp [hq])) (by rw [List.append_assoc]; exact hl), List.append_assoc]
theorem blocks_expd {m : List (Int × Int)} (hs : ∀ p ∈ m, ¬ skips p) (hl : (expd m).length ≤ 65536) : blocksN m m.length = expd m := by
  unfold blocksN
  rw [List.take_length, fold_blk m [] hs (by simpa using hl)]; rfl

theorem expd_mem {l : List (Int × Int)} {i : Nat} (hi : i < l.length) {k : Nat} (hk : k < l[i].2.toNat) : l[i].1 + (k : Nat) ∈ expd l := by
  obtain ⟨h1, h2⟩ := List.getElem?_eq_some_iff.1 (expd_at hi hk)
  rw [← h2]; exact List.getElem_mem h1

/-- The runs of numbers that rise lie apart. -/
theorem good_of_inc {l : List Int} {n : Int} (hi : l.Pairwise (· < ·)) (hb : ∀ a ∈ l, 0 ≤ a ∧ a < n) (hn : n ≤ 4611686018427387904) : goodP (ofN l l.length) n := by
  obtain ⟨hap, hexp⟩ := ofN_what (l := l) fun a ha => by have := hb a ha; omega
  have hcnt := ofN_count l l.length
  generalize ofN l l.length = rs at hap hexp hcnt
  intro i hlt
  have hgd : rs.getD i (0, 0) = rs[i] := getD_lt hlt
  unfold okAt
  rw [hgd]
  have hc := hcnt _ (List.getElem_mem hlt)
  have h1 := hb _ (hexp ▸ expd_mem hlt (k := 0) (by omega))
  have h2 := hb _ (hexp ▸ expd_mem hlt (k := rs[i].2.toNat - 1) (by omega))
  have hfre : fre rs i ≤ rs[i].1 := by
    by_cases h0 : i = 0
    · unfold fre; rw [if_pos h0]; simp at h1; omega
    · have hpl : i - 1 < rs.length := by omega
      have hc' := hcnt _ (List.getElem_mem hpl)
      obtain ⟨a1, a2⟩ := List.getElem?_eq_some_iff.1 (expd_at (l := rs) hpl (k := rs[i - 1].2.toNat - 1) (by omega))
      obtain ⟨b1, b2⟩ := List.getElem?_eq_some_iff.1 (expd_at (l := rs) hlt (k := 0) (by omega))
      have ht := expd_take (l := rs) hpl
      rw [show i - 1 + 1 = i by omega] at ht
      have hinc : (expd rs).Pairwise (· < ·) := hexp ▸ hi
      have := List.pairwise_iff_getElem.1 hinc _ _ a1 b1 (by omega)
      rw [a2, b2] at this
      unfold fre; rw [if_neg h0, getD_lt hpl]
      simp at this; omega
  refine ⟨by omega, hfre, by simp at h1; omega, by omega, fun h0 => ?_⟩
  have := apart_idx hap h0 hlt
  unfold fre; rw [if_neg (by omega), getD_lt (show i - 1 < rs.length by omega)]
  exact this

theorem apart_of_idx : ∀ (r : List (Int × Int)), (∀ p ∈ r, 1 ≤ p.2) → (∀ i (hi : i + 1 < r.length), (r[i]).1 ≠ (r[i + 1]).1 + (r[i + 1]).2) → apartR r
  | [], _, _ => trivial
  | [p], h, _ => h p (by simp)
  | q :: p :: r, h, hg => ⟨h q (by simp), hg 0 (by simp), apart_of_idx (p :: r) (fun x hx => h x (by simp [hx])) fun i hi => hg (i + 1) (by simpa using hi)⟩

/-- Runs that lie apart are the runs of their numbers. -/
theorem of_good {m : List (Int × Int)} {n : Int} (hg : goodP m n) (hn : n ≤ 60000) (hc : n ≤ 4096) : apartR m.reverse ∧ (∀ p ∈ m, ¬ skips p) ∧ (expd m).length ≤ n.toNat ∧ ∀ a ∈ expd m, 0 ≤ a ∧ a < n := by
  have hbd : ∀ i, i ≤ m.length → 0 ≤ fre m i ∧ (0 < i → fre m i ≤ n) := fun i hi => fre_bd fun j hj => hg j (by omega)
  have each : ∀ i (hi : i < m.length), 1 ≤ m[i].2 ∧ 0 ≤ m[i].1 ∧ fre m i ≤ m[i].1 ∧ m[i].1 < n ∧ m[i].2 ≤ n - m[i].1 ∧ (0 < i → m[i].1 ≠ fre m i) := by
    intro i hi
    have := hg i hi
    unfold okAt at this
    rw [getD_lt hi] at this
    obtain ⟨a, b, c, d, e⟩ := this
    have := (hbd i (by omega)).1
    exact ⟨a, by omega, b, c, d, e⟩
  refine ⟨?_, fun p hp => ?_, ?_, fun a ha => ?_⟩
  · refine apart_of_idx _ (fun p hp => ?_) fun i hi => ?_
    · obtain ⟨i, hi, rfl⟩ := List.getElem_of_mem (List.mem_reverse.1 hp)
      exact (each i hi).1
    · have hi' : i + 1 < m.length := by simpa using hi
      rw [List.getElem_reverse, List.getElem_reverse]
      have := (each (m.length - 1 - i) (by omega)).2.2.2.2.2 (by omega)
      unfold fre at this
      rw [if_neg (by omega), getD_lt (by omega)] at this
      simp only [show m.length - 1 - (i + 1) = m.length - 1 - i - 1 by omega]
      exact this
  · obtain ⟨i, hi, rfl⟩ := List.getElem_of_mem hp
    obtain ⟨a, b, c, d, e, _⟩ := each i hi
    rintro (h | h | h | h) <;> omega
  · have : ∀ i, i ≤ m.length → ((expd (m.take i)).length : Int) ≤ fre m i := by
      intro i
      induction i with
      | zero => intro _; simp [expd, fre]
      | succ i ih =>
        intro hi
        have hlt : i < m.length := by omega
        have h1 := ih (by omega)
        obtain ⟨a, b, c, d, e, _⟩ := each i hlt
        rw [expd_take hlt]
        have : fre m (i + 1) = m[i].1 + m[i].2 := by unfold fre; rw [if_neg (by omega), show i + 1 - 1 = i from rfl, getD_lt hlt]
        rw [this]; omega
    have h1 := this m.length (Nat.le_refl _)
    rw [List.take_length] at h1
    by_cases h0 : 0 < m.length
    · have := (hbd m.length (Nat.le_refl _)).2 h0; omega
    · have : m = [] := List.eq_nil_of_length_eq_zero (by omega)
      subst this; simp [expd]
  · obtain ⟨p, hp, ha⟩ := List.mem_flatMap.1 ha
    obtain ⟨i, hi, rfl⟩ := List.getElem_of_mem hp
    obtain ⟨a', b, c, d, e, _⟩ := each i hi
    obtain ⟨k, hk, rfl⟩ := List.mem_map.1 ha
    have := List.mem_range.1 hk
    omega

theorem inc_push {l : List Int} {v : Int} (hi : l.Pairwise (· < ·)) (hb : ∀ a ∈ l, 0 ≤ a ∧ a ≤ v) (hv : 0 ≤ v) (hl : ∀ h : 0 < l.length, l[l.length - 1] ≠ v) : (l ++ [v]).Pairwise (· < ·) ∧ ∀ a ∈ l ++ [v], 0 ≤ a ∧ a ≤ v := by
  refine ⟨List.pairwise_append.2 ⟨hi, by simp, fun a ha b hb' => ?_⟩, fun a ha => ?_⟩
  · simp at hb'; subst hb'
    obtain ⟨i, hlt, rfl⟩ := List.getElem_of_mem ha
    have h1 := hl (by omega)
    have h2 := hb _ (List.getElem_mem (show l.length - 1 < l.length by omega))
    by_cases he : i = l.length - 1
    · subst he; omega
    · have := List.pairwise_iff_getElem.1 hi i (l.length - 1) hlt (by omega) (by omega)
      omega
  · rcases List.mem_append.1 ha with h | h
    · exact hb a h
    · simp at h; subst h; omega
theorem inc_len {l : List Int} {v : Int} (hi : l.Pairwise (· < ·)) (hb : ∀ a ∈ l, 0 ≤ a ∧ a ≤ v) (hv : 0 ≤ v + 1) : (l.length : Int) ≤ v + 1 := by
  have : ∀ i (h : i < l.length), (i : Int) ≤ l[i] := by
    intro i
    induction i with
    | zero => intro h; exact (hb _ (List.getElem_mem h)).1
    | succ i ih =>
      intro h
      have := ih (by omega)
      have := List.pairwise_iff_getElem.1 hi i (i + 1) (by omega) h (by omega)
      omega
  by_cases h0 : 0 < l.length
  · have h1 := this (l.length - 1) (by omega)
    have := hb _ (List.getElem_mem (show l.length - 1 < l.length by omega))
    omega
  · omega

theorem law4 {H : Hp} {x y : AV} {l : List Int} {m : List (Int × Int)} (hx : RdN .u8 H x l) (hy : RdP H y m) (hr : ∀ a ∈ l, 0 ≤ a ∧ a < 256) (hl : (l.length : Int) < 9223372036854775808) (hm : (m.length : Int) < 9223372036854775808) :
    WCall EE (.func 4 [] []) [x, y] H fun v _ => v = .bool true := by
  refine enter rfl fn4 rfl rfl rfl rfl rfl ?_
  change wpC EE _ _ _ _ _ (KR EE _ _)
  have X := hx.len (E := EE) (e := 5)
  have Y := hy.len (E := EE) (e := 36)
  by_cases c1 : (300 : Int) < l.length
  · simp (decide := true) only [go_sem, tyE, X, Y, c1]
    refine wcall_true rfl ?_
    simp (decide := true) only [go_sem, tyE]
  by_cases c2 : (30 : Int) < m.length
  · simp (decide := true) only [go_sem, tyE, X, Y, c1, c2]
    refine wcall_true rfl ?_
    simp (decide := true) only [go_sem, tyE]
  simp (decide := true) only [go_sem, tyE, X, Y, c1, c2]
  have k22 : kindOf EE 22 = .slice 3 := by simp only [tyE]
  have k5 : kindOf EE 5 = .int .u8 := by simp only [tyE]
  have k3 : kindOf EE 3 = .int .i64 := by simp only [tyE]
  refine wloop (fun r G H' => ∃ (i : Nat) (v : AV), i ≤ l.length ∧ r = l.length - i ∧ G.get 0 = some x ∧ G.get 1 = some y ∧ G.get 7 = some (.int .i64 i) ∧ G.get 5 = some v ∧ G.get 6 = some .nils ∧ Fr H H' ∧ Own H' H.next 3 1 v (l.take i).length ((l.take i).map (.int .i64))) l.length ?_ ?_
  · simp (decide := true) only [go_sem]
    exact ⟨0, .nils, by omega, rfl, rfl, rfl, Fr.refl _, Own.nil⟩
  rintro r G H' ⟨i, v, hi, rfl, g0, g1, g7, g5, g6, hf, ho⟩
  have hx' := hx.keep hf
  by_cases hlt : i < l.length
  · have d0 : (i : Int) < l.length := by omega
    have hb := hr _ (List.getElem_mem hlt)
    have hts : l.take (i + 1) = l.take i ++ [l[i]] := List.take_succ_eq_append_getElem hlt
    obtain ⟨H2, happ, ho2, hf2, hn2, hk2, hcn⟩ := own_push (a := l[i]) hf ho (by simp; omega)
    simp (decide := true) only [go_sem, tyE, Nat.mul_one, Nat.zero_mul, g0, g1, g7, g5, g6, X, d0, hx'.idx hlt, RdN.at hx' hlt, w_conv_int k5 k3, wrap_i64 (n := l[i]) (by omega) (by omega), w_buildSlice k22, appArgs_def k22 k22, hcn, happ, wrap_i64 (n := (i : Int) + 1) (by omega) (by omega)]
    exact ⟨l.length - (i + 1), by omega, i + 1, _, by omega, rfl, rfl, rfl, hf2, by rw [hts]; exact ho2⟩
  obtain rfl : i = l.length := by omega
  have d0 : ¬ (l.length : Int) < l.length := by omega
  rw [List.take_length] at ho
  rw [← flat_e1] at ho
  have hin := ho.rds e1_len
  have hbnd : Bd H' v l.length := hin.2.1
  simp (decide := true) only [go_sem, tyE, g0, g1, g7, g5, g6, X, d0]
  -- the numbers that rise
  refine wloop (fun r G H2 => ∃ (u : Nat) (w : AV) (rise : List Int), u ≤ 256 ∧ r = 256 - u ∧ G.get 0 = some x ∧ G.get 1 = some y ∧ G.get 5 = some v ∧ G.get 8 = some (.int .i64 u) ∧ G.get 6 = some w ∧ Fr H' H2 ∧
    Own H2 H'.next 3 1 w rise.length (rise.map (.int .i64)) ∧ rise.Pairwise (· < ·) ∧ ∀ a ∈ rise, 0 ≤ a ∧ a < u) 256 ?_ ?_
  · simp (decide := true) only [go_sem, g0, g1, g5, g6]
    exact ⟨0, .nils, [], by omega, rfl, rfl, rfl, Fr.refl _, Own.nil, List.Pairwise.nil, by simp⟩
  rintro r G H2 ⟨u, w, rise, hu, rfl, g0, g1, g5, g8, g6, hf2, ho2, hinc, hbr⟩
  by_cases hut : u < 256
  · have e0 : (u : Int) < 256 := by omega
    simp (decide := true) only [go_sem, tyE, g0, g1, g5, g8, g6, e0]
    refine wloop (fun r G H3 => ∃ (j : Nat) (w : AV) (rise : List Int), j ≤ l.length ∧ r = l.length - j ∧ G.get 0 = some x ∧ G.get 1 = some y ∧ G.get 5 = some v ∧ G.get 8 = some (.int .i64 u) ∧ G.get 9 = some (.int .i64 j) ∧ G.get 6 = some w ∧ Fr H' H3 ∧
      Own H3 H'.next 3 1 w rise.length (rise.map (.int .i64)) ∧ rise.Pairwise (· < ·) ∧ ∀ a ∈ rise, 0 ≤ a ∧ a ≤ u) l.length ?_ ?_
    · simp (decide := true) only [go_sem, g0, g1, g5, g8, g6]
      exact ⟨0, w, rise, by omega, rfl, rfl, rfl, hf2, ho2, hinc, fun a ha => by have := hbr a ha; omega⟩
    rintro r G H3 ⟨j, w, rise, hj, rfl, g0, g1, g5, g8, g9, g6, hf3, ho3, hinc, hbr⟩
    have hx3 := (hx.keep hf).keep hf3
    have hlr := inc_len hinc hbr (by omega)
    have W := ho3.isSl.len (E := EE) (e := 3)
    by_cases hjt : j < l.length
    · have f0 : (j : Int) < l.length := by omega
      have hb := hr _ (List.getElem_mem hjt)
      have wj : wrapI .i64 ((j : Int) + 1) = (j : Int) + 1 := wrap_i64 (by omega) (by omega)
      have wl : wrapI .i64 l[j] = l[j] := wrap_i64 (by omega) (by omega)
      by_cases f1 : l[j] = u
      · by_cases f2 : rise.length = 0
        · have f2' : decide ((rise.length : Int) = 0) = true := by simp; exact List.eq_nil_of_length_eq_zero f2
          have f1' : decide (l[j] = (u : Int)) = true := decide_eq_true f1
          obtain ⟨H4, happ, ho4, hf4, _, _, hcn⟩ := own_push (a := (u : Int)) hf3 ho3 (by omega)
          obtain ⟨hinc', hbr'⟩ := inc_push hinc hbr (by omega) (fun h => by omega)
          simp (decide := true) only [go_sem, tyE, Nat.mul_one, Nat.zero_mul, g0, g1, g5, g8, g9, g6, X, W, f0, f1', f2', hx3.idx hjt, RdN.at hx3 hjt, w_conv_int k5 k3, wl, w_buildSlice k22, appArgs_def k22 k22, hcn, happ, wj]
          exact ⟨l.length - (j + 1), by omega, j + 1, _, rise ++ [(u : Int)], by omega, rfl, rfl, rfl, hf4, ho4, hinc', hbr'⟩
        · have hlast : rise.length - 1 < rise.length := by omega
          have f2' : decide ((rise.length : Int) = 0) = false := by simp; exact fun h => f2 (by rw [h]; rfl)
          have f1' : decide (l[j] = (u : Int)) = true := decide_eq_true f1
          have wr : wrapI .i64 ((rise.length : Int) - 1) = ((rise.length - 1 : Nat) : Int) := by rw [wrap_i64 (by omega) (by omega)]; omega
          have ho3' := ho3
          rw [← flat_e1] at ho3'
          have hR := ho3'.rds e1_len
          by_cases f3 : rise[rise.length - 1] = u
          · have f3' : decide (rise[rise.length - 1] ≠ (u : Int)) = false := by simp [f3]
            simp (decide := true) only [go_sem, tyE, Nat.mul_one, g0, g1, g5, g8, g9, g6, X, W, f0, f1', f2', hx3.idx hjt, RdN.at hx3 hjt, w_conv_int k5 k3, wl, wr, hR.idx hlast, RdN.at hR hlast, f3', wj]
            exact ⟨l.length - (j + 1), by omega, j + 1, w, rise, by omega, rfl, rfl, rfl, hf3, ho3, hinc, hbr⟩
          · have f3' : decide (rise[rise.length - 1] ≠ (u : Int)) = true := by simp [f3]
            obtain ⟨H4, happ, ho4, hf4, _, _, hcn⟩ := own_push (a := (u : Int)) hf3 ho3 (by omega)
            obtain ⟨hinc', hbr'⟩ := inc_push hinc hbr (by omega) (fun _ => f3)
            simp (decide := true) only [go_sem, tyE, Nat.mul_one, Nat.zero_mul, g0, g1, g5, g8, g9, g6, X, W, f0, f1', f2', hx3.idx hjt, RdN.at hx3 hjt, w_conv_int k5 k3, wl, wr, hR.idx hlast, RdN.at hR hlast, f3', w_buildSlice k22, appArgs_def k22 k22, hcn, happ, wj]
            exact ⟨l.length - (j + 1), by omega, j + 1, _, rise ++ [(u : Int)], by omega, rfl, rfl, rfl, hf4, ho4, hinc', hbr'⟩
      · have f1' : decide (l[j] = (u : Int)) = false := decide_eq_false f1
        simp (decide := true) only [go_sem, tyE, Nat.mul_one, g0, g1, g5, g8, g9, g6, X, W, f0, f1', hx3.idx hjt, RdN.at hx3 hjt, w_conv_int k5 k3, wl, wj]
        exact ⟨l.length - (j + 1), by omega, j + 1, w, rise, by omega, rfl, rfl, rfl, hf3, ho3, hinc, hbr⟩
    · obtain rfl : j = l.length := by omega
      have f0 : ¬ (l.length : Int) < l.length := by omega
      simp (decide := true) only [go_sem, tyE, g0, g1, g5, g8, g9, g6, X, f0, wrap_i64 (n := (u : Int) + 1) (by omega) (by omega)]
      exact ⟨256 - (u + 1), by omega, u + 1, w, rise, by omega, rfl, rfl, rfl, hf3, ho3, hinc, fun a ha => by have := hbr a ha; omega⟩
  obtain rfl : u = 256 := by omega
  have e0 : ¬ ((256 : Nat) : Int) < 256 := by omega
  simp (decide := true) only [go_sem, tyE, g0, g1, g5, g8, g6, e0]
  have hlr := inc_len (v := 255) hinc (fun a ha => by have := hbr a ha; omega) (by omega)
  rw [← flat_e1] at ho2
  have hrise := ho2.rds e1_len
  obtain ⟨hap, hexp⟩ := ofN_what (l := l) fun a ha => by have := hr a ha; omega
  have hcnt := ofN_count l l.length
  have hlen := ofN_len l l.length
  have hsk : ∀ p ∈ ofN l l.length, ¬ skips p := by
    intro p hp
    obtain ⟨i, hi, rfl⟩ := List.getElem_of_mem hp
    have h1 := hcnt _ (List.getElem_mem hi)
    have h2 := hr _ (hexp ▸ expd_mem hi (k := 0) (by omega))
    rintro (h | h | h | h) <;> simp at h2 <;> omega
  have hbe : blocksN (ofN l l.length) (ofN l l.length).length = l := by rw [blocks_expd hsk (by rw [hexp]; omega), hexp]
  refine of_ok (hin.keep hf2) (by omega) (fun a ha => by have := hr a ha; omega) fun v1 H4 hf4 ho4 => ?_
  simp (decide := true) only [go_sem, tyE, g0, g1, g5, g6]
  refine blocks_ok (ho4.rds e2_len) (by omega) fun v2 H5 hf5 ho5 => ?_
  simp (decide := true) only [go_sem, tyE, g0, g1, g5, g6]
  rw [← flat_e1, hbe] at ho5
  refine ints_ok (ho5.rds e1_len) (((hin.keep hf2).keep hf4).keep hf5) (by omega) ?_
  simp (decide := true) only [go_sem, tyE, eq_self, g0, g1, g5, g6]
  refine of_ok ((hrise.keep hf4).keep hf5) (by omega) (fun a ha => by have := hbr a ha; omega) fun v3 H6 hf6 ho6 => ?_
  simp (decide := true) only [go_sem, tyE, g0, g1, g5, g6]
  have hg1 := good_of_inc (n := 256) hinc (fun a ha => by have := hbr a ha; omega) (by omega)
  refine good_ok (ho6.rds e2_len) (by have := (ofN_len rise rise.length).1; omega) (by omega) fun H7 hf7 => ?_
  rw [show decide (goodP (ofN rise rise.length) 256) = true from decide_eq_true hg1]
  simp (decide := true) only [go_sem, tyE, g0, g1, g5, g6]
  have hy7 := ((((hy.keep hf).keep hf2).keep (hf4.trans hf5)).keep hf6).keep hf7
  refine good_ok hy7 (by omega) (by omega) fun H8 hf8 => ?_
  by_cases hg : goodP m 200
  · rw [show decide (goodP m 200) = true from decide_eq_true hg]
    simp (decide := true) only [go_sem, tyE, g0, g1, g5, g6]
    obtain ⟨q1, q2, q3, q4⟩ := of_good hg (by omega) (by omega)
    have hy8 := hy7.keep hf8
    refine blocks_ok hy8 (by omega) fun v4 H9 hf9 ho9 => ?_
    simp (decide := true) only [go_sem, tyE, g0, g1, g5, g6]
    have hbl := blocks_expd q2 (Nat.le_trans q3 (by decide))
    have hml : (expd m).length ≤ 1000 := Nat.le_trans q3 (by decide)
    rw [← flat_e1, hbl] at ho9
    refine of_ok (ho9.rds e1_len) hml (fun a ha => by have := q4 a ha; omega) fun v5 H10 hf10 ho10 => ?_
    simp (decide := true) only [go_sem, tyE, g0, g1, g5, g6]
    rw [ofN_expd q1 fun a ha => by have := q4 a ha; omega] at ho10
    refine same_ok (ho10.rds e2_len) ((hy8.keep hf9).keep hf10) (by omega) ?_
    simp (decide := true) only [go_sem, tyE, eq_self, g0, g1, g5, g6]
    refine wcall_true rfl ?_
    simp (decide := true) only [go_sem, tyE, g0, g1, g5, g6]
  · rw [show decide (goodP m 200) = false from decide_eq_false hg]
    simp (decide := true) only [go_sem, tyE, g0, g1, g5, g6]
    refine wcall_true rfl ?_
    simp (decide := true) only [go_sem, tyE, g0, g1, g5, g6]

/-! What comes in. -/
section
variable {H : Type} {enc : TypeId × Value → H} {W : World}
theorem elem_int {t : TypeId} {k : IntKind} (ht : Try.prog.underlying t = some (.int k)) : ∀ fuel cs x, DataW.trod enc Try.prog W 0 (fun _ => true) true fuel t cs = some x → ∃ a : Int, (Lit.int k a).wf = true ∧ cs.map (absV W.heap.size) = e1 k a := by
  intro fuel cs x h
  obtain ⟨m, rfl, _, hw⟩ := DataW.trod_int ht h
  exact ⟨m, hw, rfl⟩
theorem elem_pair {t t0 t1 : TypeId} {f0 f1 : Field} (ht : Try.prog.underlying t = some (.struct #[f0, f1])) (h0 : f0.offset = 0) (h1 : f1.offset = 1) (ht0 : f0.type = t0) (ht1 : f1.type = t1) (hu0 : Try.prog.underlying t0 = some (.int .i64)) (hu1 : Try.prog.underlying t1 = some (.int .i64))
    (hc : Try.prog.cellsOf t = 2) (hc0 : Try.prog.cellsOf t0 = 1) (hc1 : Try.prog.cellsOf t1 = 1) :
    ∀ fuel cs x, DataW.trod enc Try.prog W 0 (fun _ => true) true fuel t cs = some x → ∃ a : Int × Int, ((Lit.int .i64 a.1).wf = true ∧ (Lit.int .i64 a.2).wf = true) ∧ cs.map (absV W.heap.size) = e2 a := by
  intro fuel cs x h
  obtain ⟨xs, n, _, _, hl, hxs, hf⟩ := DataW.trod_struct ht h
  have hxs : xs.length = 2 := hxs
  have a0 := hf 0 f0 rfl
  have a1 := hf 1 f1 rfl
  rw [h0, ht0, hc0, List.getElem?_eq_getElem (by omega)] at a0
  rw [h1, ht1, hc1, List.getElem?_eq_getElem (by omega)] at a1
  obtain ⟨m0, e0, _, w0⟩ := DataW.trod_int hu0 a0
  obtain ⟨m1, e1, _, w1⟩ := DataW.trod_int hu1 a1
  rw [hc] at hl
  match cs, hl with
  | [c0, c1], _ =>
    simp at e0 e1
    subst e0 e1
    exact ⟨(m0, m1), ⟨w0, w1⟩, rfl⟩
theorem wf_bd {a : Int} (h : (Lit.int .i64 a).wf = true) : -9223372036854775808 ≤ a ∧ a < 9223372036854775808 := by
  simp [Lit.wf, IntKind.min, IntKind.max, IntKind.signed, IntKind.bits] at h
  omega
theorem wf_u16 {a : Int} (h : (Lit.int .u16 a).wf = true) : 0 ≤ a ∧ a < 65536 := by
  simp [Lit.wf, IntKind.min, IntKind.max, IntKind.signed, IntKind.bits] at h
  omega
theorem wf_u8 {a : Int} (h : (Lit.int .u8 a).wf = true) : 0 ≤ a ∧ a < 256 := by
  simp [Lit.wf, IntKind.min, IntKind.max, IntKind.signed, IntKind.bits] at h
  omega
end
end
end Go.Ev

namespace Go.Proofs.Ytbciigjndoaoeaa.runsBack
open Go.ChangeShapes Go.WideShapes Go.ChangeAt Go.RowKit Go.Ev
theorem own : ownKnob Try.prog.godebug = none := by kernel_rfl
theorem laidOut : laidOutB Try.prog = true := by kernel_rfl
theorem envOk : EnvOk EE Try.prog := envV_ok baseOk fun f hf => by
  obtain rfl : f = 6 := by simpa [wk] using hf
  exact ⟨99, wakes15⟩
theorem c5 : Try.prog.cellsOf 5 = 1 := by kernel_rfl
theorem c3 : Try.prog.cellsOf 3 = 1 := by kernel_rfl
theorem c36 : Try.prog.cellsOf 36 = 2 := by kernel_rfl
set_option maxRecDepth 100000 in
theorem lifted (os : Os) (started : os.Started) (H : Type) (enc : TypeId × Value → H) :
    ReturnsInHanded {} Try.checked os 4 .any (Rows.runsBackSpec.pre6 enc Try.prog Try.f4 Rows.runsBackRow.domain false) (Rows.runsBackSpec.post enc Try.prog Try.f4 false true false false) := by
  refine law_lifted (C := Try.checked) started own (by kernel_rfl) Try.func4
    (ChangeSpec.witness6 (enc := enc) (C := Try.checked) false ⟨#[], #[.slice none 0 0, .slice none 0 0], []⟩ 8 (by kernel_rfl) (by kernel_rfl) (by kernel_rfl) (by kernel_rfl))
    (tb := 4) (by kernel_rfl) Try.underlying4 laidOut ?_ rfl ?_ ?_
  · intro t ht
    have ht : t = 31 ∨ t = 23 := by simpa [show Try.f4.params = #[31, 23] from rfl] using ht
    rcases ht with rfl | rfl <;> exact ⟨by kernel_rfl, of_decide_eq_true (by kernel_rfl)⟩
  · intro ds hd
    match ds, hd with
    | [d0, d1], _ => rfl
  · intro W args ds ps hA hval
    have hA : DataW.TrodAll enc Try.prog W 0 (fun _ => true) true [31, 23] args.toList ds ps := hA
    obtain ⟨v0, vs0, d0, ds0, p0, q0, hargs, rfl, rfl, h0, r0⟩ := trodAll_cons hA
    obtain ⟨v1, vs1, d1, ds1, p1, q1, rfl, rfl, rfl, h1, r1⟩ := trodAll_cons r0
    obtain ⟨rfl, rfl, rfl⟩ := trodAll_nil r1
    obtain rfl : args = #[v0, v1] := by cases args; simp_all
    obtain ⟨l, hl, hx, hcx, hlx⟩ := open_rds Try.underlying31 c5 (fun _ => rfl) (fun _ => rfl) (elem_int Try.underlying5) h0 (hval 0 31 v0 rfl rfl)
    obtain ⟨m, hm, hy, hcy, hly⟩ := open_rds Try.underlying23 c36 (fun _ => rfl) (fun _ => rfl) (elem_pair Try.underlying36 rfl rfl rfl rfl Try.underlying3 Try.underlying3 c36 c3 c3) h1 (hval 1 23 v1 rfl rfl)
    refine calls_of envOk (avs := [absV W.heap.size v0, absV W.heap.size v1]) ?_ (law4 hx hy (fun a ha => wf_u8 (hl a ha)) hlx hly)
    exact concL_cons.2 ⟨_, _, hcx, concL_cons.2 ⟨_, _, hcy, rfl, rfl⟩, rfl⟩

theorem over : Rows.runsBackRow.holds Try.pinned (OpenSpec.ofChange Rows.runsBackSpec) :=
  OpenClaim.holds_of_wide 4 Try.f4 rfl rfl rfl rfl rfl rfl rfl ⟨rfl, rfl, rfl, rfl, rfl⟩ rfl rfl rfl rfl rfl (by kernel_rfl) Try.func4 (by kernel_rfl)
    (of_decide_eq_true (by kernel_rfl)) (by unfold Func.isWrapper; first | (rw [if_pos (by decide +kernel)]; kernel_rfl) | (rw [if_neg (by decide +kernel)]; exact ⟨rfl, rfl⟩))
    (fun os started H enc _ => lifted os started H enc)

/-- The statement. -/
theorem proved : Rows.RunsBackSaid := over
#print axioms proved
end Go.Proofs.Ytbciigjndoaoeaa.runsBack
