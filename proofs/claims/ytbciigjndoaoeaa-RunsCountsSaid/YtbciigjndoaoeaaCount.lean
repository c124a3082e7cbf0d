/-
  RunsCounts: whatever numbers come in, the statement is true, and nothing that was there has turned. No conditions.
-/
import Derived.Test.YtbciigjndoaoeaaRuns2
import Derived.Test.YtbciigjndoaoeaaW15
import Derived.Test.YtbciigjndoaoeaaRows
import Derived.WalkKit
import Derived.ProofKit
import Derived.OpenShut
set_option linter.unusedVariables false
set_option linter.unusedSimpArgs false
namespace Go.Ev
open Go.Proofs
noncomputable section
set_option maxRecDepth 100000
theorem fn5 : EE.fn 5 = some Try.f5 := by kernel_rfl

theorem apartR_app : ∀ (a b : List (Int × Int)), apartR (a ++ b) → apartR b
  | [], _, h => h
  | _ :: a, b, h => apartR_app a b (apartR_tail h)
theorem apart_idx {l : List (Int × Int)} (h : apartR l.reverse) {i : Nat} (h0 : 0 < i) (hi : i < l.length) : (l[i]).1 ≠ (l[i - 1]).1 + (l[i - 1]).2 := by
  have h1 : l = l.take (i - 1) ++ (l[i - 1] :: l[i] :: l.drop (i + 1)) := by
    have e1 := List.drop_eq_getElem_cons (show i - 1 < l.length by omega)
    have e2 := List.drop_eq_getElem_cons hi
    rw [show i - 1 + 1 = i by omega] at e1
    rw [← e2, ← e1, List.take_append_drop]
  rw [h1] at h
  simp only [List.reverse_append, List.reverse_cons, List.append_assoc] at h
  exact (apartR_app _ _ h).2.1
theorem ex_len (p : Int × Int) : (ex p).length = p.2.toNat := by simp [ex]
theorem expd_app (a b : List (Int × Int)) : expd (a ++ b) = expd a ++ expd b := List.flatMap_append
theorem expd_one (p : Int × Int) : expd [p] = ex p := by simp [expd]
theorem expd_cons (p : Int × Int) (l : List (Int × Int)) : expd (p :: l) = ex p ++ expd l := List.flatMap_cons
theorem expd_take {l : List (Int × Int)} {i : Nat} (hi : i < l.length) : (expd (l.take (i + 1))).length = (expd (l.take i)).length + l[i].2.toNat := by
  rw [List.take_succ_eq_append_getElem hi, expd_app, expd_one, List.length_append, ex_len]
theorem expd_at {l : List (Int × Int)} {i k : Nat} (hi : i < l.length) (hk : k < l[i].2.toNat) : (expd l)[(expd (l.take i)).length + k]? = some (l[i].1 + (k : Nat)) := by
  have h1 : expd l = expd (l.take i) ++ (ex l[i] ++ expd (l.drop (i + 1))) := by
    rw [← expd_cons, ← List.drop_eq_getElem_cons hi, ← expd_app, List.take_append_drop]
  rw [h1, List.getElem?_append_right (by omega), List.getElem?_append_left (by rw [ex_len]; omega)]
  rw [show (expd (l.take i)).length + k - (expd (l.take i)).length = k by omega]
  simp [ex, hk]

theorem law5 {H : Hp} {x : AV} {l : List Int} (hx : RdN .u16 H x l) (hr : ∀ a ∈ l, 0 ≤ a ∧ a < 65536) (hl : (l.length : Int) < 9223372036854775808) : WCall EE (.func 5 [] []) [x] H fun v _ => v = .bool true := by
  refine enter rfl fn5 rfl rfl rfl rfl rfl ?_
  change wpC EE _ _ _ _ _ (KR EE _ _)
  have X := hx.len (E := EE) (e := 34)
  by_cases c1 : (300 : Int) < l.length
  · simp (decide := true) only [go_sem, tyE, X, c1]
    refine wcall_true rfl ?_
    simp (decide := true) only [go_sem, tyE]
  simp (decide := true) only [go_sem, tyE, X, c1]
  have k22 : kindOf EE 22 = .slice 3 := by simp only [tyE]
  have k34 : kindOf EE 34 = .int .u16 := by simp only [tyE]
  have k3 : kindOf EE 3 = .int .i64 := by simp only [tyE]
  refine wloop (fun r G H' => ∃ (i : Nat) (v : AV), i ≤ l.length ∧ r = l.length - i ∧ G.get 0 = some x ∧ G.get 4 = some (.int .i64 i) ∧ G.get 3 = some v ∧ Fr H H' ∧ Own H' H.next 3 1 v (l.take i).length ((l.take i).map (.int .i64))) l.length ?_ ?_
  · simp (decide := true) only [go_sem]
    exact ⟨0, .nils, by omega, rfl, rfl, rfl, Fr.refl _, Own.nil⟩
  rintro r G H' ⟨i, v, hi, rfl, g0, g4, g3, hf, ho⟩
  have hx' := hx.keep hf
  by_cases hlt : i < l.length
  · have d0 : (i : Int) < l.length := by omega
    have hb := hr _ (List.getElem_mem hlt)
    have hts : l.take (i + 1) = l.take i ++ [l[i]] := List.take_succ_eq_append_getElem hlt
    obtain ⟨H2, happ, ho2, hf2, hn2, hk2, hcn⟩ := own_push (a := l[i]) hf ho (by simp; omega)
    simp (decide := true) only [go_sem, tyE, Nat.mul_one, Nat.zero_mul, g0, g4, g3, X, d0, hx'.idx hlt, RdN.at hx' hlt, w_conv_int k34 k3, wrap_i64 (n := l[i]) (by omega) (by omega), w_buildSlice k22, appArgs_def k22 k22, hcn, happ, wrap_i64 (n := (i : Int) + 1) (by omega) (by omega)]
    exact ⟨l.length - (i + 1), by omega, i + 1, _, by omega, rfl, rfl, rfl, hf2, by rw [hts]; exact ho2⟩
  obtain rfl : i = l.length := by omega
  have d0 : ¬ (l.length : Int) < l.length := by omega
  rw [List.take_length] at ho
  rw [← flat_e1] at ho
  have hin := ho.rds e1_len
  simp (decide := true) only [go_sem, tyE, g0, g4, g3, X, d0]
  refine of_ok hin (by omega) (fun a ha => by have := hr a ha; omega) fun v2 H2 hf2 ho2 => ?_
  have hR := ho2.rds e2_len
  have hin2 := hin.keep hf2
  obtain ⟨hap, hexp⟩ := ofN_what (l := l) fun a ha => by have := hr a ha; omega
  have hcnt := ofN_count l l.length
  have hlen := ofN_len l l.length
  generalize ofN l l.length = rs at hR hap hexp hcnt hlen
  have R := hR.len (E := EE) (e := 36)
  have I := hin2.len (E := EE) (e := 3)
  simp (decide := true) only [go_sem, tyE]
  refine wloop (fun r G Hc => ∃ i : Nat, i ≤ rs.length ∧ r = rs.length - i ∧ Hc = H2 ∧ G.get 3 = some v ∧ G.get 5 = some v2 ∧ G.get 7 = some (.int .i64 i) ∧ G.get 6 = some (.int .i64 (expd (rs.take i)).length)) rs.length ?_ ?_
  · simp (decide := true) only [go_sem, g3]
    exact ⟨0, by omega, rfl, rfl, rfl⟩
  rintro r G Hc ⟨i, hi, rfl, rfl, g3, g5, g7, g6⟩
  by_cases hlt : i < rs.length
  · have d1 : (i : Int) < rs.length := by omega
    have hc := hcnt _ (List.getElem_mem hlt)
    have wi : wrapI .i64 ((i : Int) + 1) = (i : Int) + 1 := wrap_i64 (by omega) (by omega)
    have d2 : ¬ rs[i].2 < 1 := by omega
    have htake := expd_take hlt
    have hle : (expd (rs.take (i + 1))).length ≤ l.length := by
      have : (expd rs).length = (expd (rs.take (i + 1))).length + (expd (rs.drop (i + 1))).length := by rw [← List.length_append, ← expd_app, List.take_append_drop]
      rw [hexp] at this; omega
    have hcc : ((rs[i].2.toNat : Nat) : Int) = rs[i].2 := by omega
    simp (decide := true) only [go_sem, tyE, g3, g5, g7, g6, R, d1]
    refine wpDraw_of (by kernel_rfl) ?_
    by_cases hp : 0 < i
    have hpl : i - 1 < rs.length := by omega
    have hc' := hcnt _ (List.getElem_mem hpl)
    have hne := apart_idx hap hp hlt
    have hr1 := hr
    have d3 : (0 : Int) < i := by omega
    have wm : wrapI .i64 ((i : Int) - 1) = ((i - 1 : Nat) : Int) := by rw [wrap_i64 (by omega) (by omega)]; omega
    have hfrom : -9223372036854775808 ≤ rs[i - 1].1 ∧ rs[i - 1].1 < 65536 := by
      have h1 := expd_at (l := rs) hpl (k := 0) (by omega)
      rw [hexp] at h1
      obtain ⟨h2, h3⟩ := List.getElem?_eq_some_iff.1 h1
      have := hr _ (List.getElem_mem h2)
      rw [h3] at this
      simp at this; omega
    have wa : wrapI .i64 (rs[i - 1].1 + rs[i - 1].2) = rs[i - 1].1 + rs[i - 1].2 := wrap_i64 (by omega) (by omega)
    have d4 : decide (rs[i].1 = rs[i - 1].1 + rs[i - 1].2) = false := by simpa using hne
    simp (decide := true) only [go_sem, tyE, Nat.add_zero, g3, g5, g7, g6, hR.idx hlt, RdP.at0 hR hlt, RdP.at1 hR hlt, hR.idx hpl, RdP.at0 hR hpl, RdP.at1 hR hpl, d2, d3, wm, wa, d4]
    rotate_left
    have d3 : ¬ (0 : Int) < i := by omega
    simp (decide := true) only [go_sem, tyE, Nat.add_zero, g3, g5, g7, g6, hR.idx hlt, RdP.at0 hR hlt, RdP.at1 hR hlt, d2, d3]
    all_goals
      refine wloop (fun r G Hc' => ∃ k : Nat, k ≤ rs[i].2.toNat ∧ r = rs[i].2.toNat - k ∧ Hc' = Hc ∧ G.get 3 = some v ∧ G.get 5 = some v2 ∧ G.get 7 = some (.int .i64 i) ∧ G.get 8 = some (.int .i64 k) ∧ G.get 6 = some (.int .i64 ((expd (rs.take i)).length + k : Nat))) rs[i].2.toNat ?_ ?_
      · simp (decide := true) only [go_sem, g3, g5, g7, g6]
        exact ⟨0, by omega, rfl, rfl, rfl⟩
      rintro r G Hc' ⟨k, hk, rfl, rfl, g3, g5, g7, g8, g6⟩
      by_cases hkt : k < rs[i].2.toNat
      · have e0 : (k : Int) < rs[i].2 := by omega
        have hat := expd_at hlt hkt
        rw [hexp] at hat
        obtain ⟨hal, hav⟩ := List.getElem?_eq_some_iff.1 hat
        have e1 : ¬ ((l.length : Int) ≤ ((expd (rs.take i)).length + k : Nat)) := by omega
        have hval := hr _ (List.getElem_mem hal)
        rw [hav] at hval
        have e2' : wrapI .i64 (rs[i].1 + (k : Nat)) = rs[i].1 + (k : Nat) := wrap_i64 (by omega) (by omega)
        have e3 : decide (l[(expd (rs.take i)).length + k] ≠ rs[i].1 + (k : Nat)) = false := by simp [hav]
        have e4 : wrapI .i64 (((expd (rs.take i)).length + k : Nat) + 1) = ((expd (rs.take i)).length + (k + 1) : Nat) := by rw [wrap_i64 (by omega) (by omega)]; omega
        simp (decide := true) only [go_sem, tyE, Nat.add_zero, g3, g5, g7, g8, g6, hR.idx hlt, RdP.at1 hR hlt, e0]
        refine wpDraw_of (by kernel_rfl) ?_
        simp (decide := true) only [go_sem, tyE, Nat.add_zero, Nat.mul_one, g3, g5, g7, g8, g6, I, hR.idx hlt, RdP.at0 hR hlt, hin2.idx hal, RdN.at hin2 hal, e1, e2', e3, e4, wrap_i64 (n := (k : Int) + 1) (by omega) (by omega)]
        exact ⟨rs[i].2.toNat - (k + 1), by omega, k + 1, by omega, rfl, rfl, rfl⟩
      · obtain rfl : k = rs[i].2.toNat := by omega
        have e0 : ¬ ((rs[i].2.toNat : Nat) : Int) < rs[i].2 := by omega
        simp (decide := true) only [go_sem, tyE, Nat.add_zero, g3, g5, g7, g8, g6, hR.idx hlt, RdP.at1 hR hlt, e0, wi]
        exact ⟨rs.length - (i + 1), by omega, i + 1, by omega, rfl, rfl, by rw [htake]⟩
  · obtain rfl : i = rs.length := by omega
    have d1 : ¬ (rs.length : Int) < rs.length := by omega
    rw [List.take_length, hexp] at g6
    simp (decide := true) only [go_sem, tyE, g3, g5, g7, g6, R, I, d1, eq_self]
    refine wcall_true rfl ?_
    simp (decide := true) only [go_sem, tyE]

/-! What comes in. -/
section
variable {H : Type} {enc : TypeId × Value → H} {W : World}
theorem elem_int {t : TypeId} {k : IntKind} (ht : Try.prog.underlying t = some (.int k)) : ∀ fuel cs x, DataW.trod enc Try.prog W 0 (fun _ => true) true fuel t cs = some x → ∃ a : Int, (Lit.int k a).wf = true ∧ cs.map (absV W.heap.size) = e1 k a := by
  intro fuel cs x h
  obtain ⟨m, rfl, _, hw⟩ := DataW.trod_int ht h
  exact ⟨m, hw, rfl⟩
theorem elem_pair {t t0 t1 : TypeId} {f0 f1 : Field} (ht : Try.prog.underlying t = some (.struct #[f0, f1])) (h0 : f0.offset = 0) (h1 : f1.offset = 1) (ht0 : f0.type = t0) (ht1 : f1.type = t1) (hu0 : Try.prog.underlying t0 = some (.int .i64)) (hu1 : Try.prog.underlying t1 = some (.int .i64))
    (hc : Try.prog.cellsOf t = 2) (hc0 : Try.prog.cellsOf t0 = 1) (hc1 : Try.prog.cellsOf t1 = 1) :
    ∀ fuel cs x, DataW.trod enc Try.prog W 0 (fun _ => true) true fuel t cs = some x → ∃ a : Int × Int, ((Lit.int .i64 a.1).wf = true ∧ (Lit.int .i64 a.2).wf = true) ∧ cs.map (absV W.heap.size) = e2 a := by
  intro fuel cs x h
  obtain ⟨xs, n, _, _, hl, hxs, hf⟩ := DataW.trod_struct ht h
  have hxs : xs.length = 2 := hxs
  have a0 := hf 0 f0 rfl
  have a1 := hf 1 f1 rfl
  rw [h0, ht0, hc0, List.getElem?_eq_getElem (by omega)] at a0
  rw [h1, ht1, hc1, List.getElem?_eq_getElem (by omega)] at a1
  obtain ⟨m0, e0, _, w0⟩ := DataW.trod_int hu0 a0
  obtain ⟨m1, e1, _, w1⟩ := DataW.trod_int hu1 a1
  rw [hc] at hl
  match cs, hl with
  | [c0, c1], _ =>
    simp at e0 e1
    subst e0 e1
    exact ⟨(m0, m1), ⟨w0, w1⟩, rfl⟩
theorem wf_bd {a : Int} (h : (Lit.int .i64 a).wf = true) : -9223372036854775808 ≤ a ∧ a < 9223372036854775808 := by
  simp [Lit.wf, IntKind.min, IntKind.max, IntKind.signed, IntKind.bits] at h
  omega
theorem wf_u16 {a : Int} (h : (Lit.int .u16 a).wf = true) : 0 ≤ a ∧ a < 65536 := by
  simp [Lit.wf, IntKind.min, IntKind.max, IntKind.signed, IntKind.bits] at h
  omega
theorem wf_u8 {a : Int} (h : (Lit.int .u8 a).wf = true) : 0 ≤ a ∧ a < 256 := by
  simp [Lit.wf, IntKind.min, IntKind.max, IntKind.signed, IntKind.bits] at h
  omega
end
end
end Go.Ev

namespace Go.Proofs.Ytbciigjndoaoeaa.runsCounts
open Go.ChangeShapes Go.WideShapes Go.ChangeAt Go.RowKit Go.Ev
theorem own : ownKnob Try.prog.godebug = none := by kernel_rfl
theorem laidOut : laidOutB Try.prog = true := by kernel_rfl
theorem envOk : EnvOk EE Try.prog := envV_ok baseOk fun f hf => by
  obtain rfl : f = 6 := by simpa [wk] using hf
  exact ⟨99, wakes15⟩
theorem c34 : Try.prog.cellsOf 34 = 1 := by kernel_rfl
set_option maxRecDepth 100000 in
theorem lifted (os : Os) (started : os.Started) (H : Type) (enc : TypeId × Value → H) :
    ReturnsInHanded {} Try.checked os 5 .any (Rows.runsCountsSpec.pre6 enc Try.prog Try.f5 Rows.runsCountsRow.domain false) (Rows.runsCountsSpec.post enc Try.prog Try.f5 false true false false) := by
  refine law_lifted (C := Try.checked) started own (by kernel_rfl) Try.func5
    (ChangeSpec.witness6 (enc := enc) (C := Try.checked) false ⟨#[], #[.slice none 0 0], []⟩ 8 (by kernel_rfl) (by kernel_rfl) (by kernel_rfl) (by kernel_rfl))
    (tb := 4) (by kernel_rfl) Try.underlying4 laidOut ?_ rfl ?_ ?_
  · intro t ht
    have ht : t = 33 := by simpa [show Try.f5.params = #[33] from rfl] using ht
    subst ht
    exact ⟨by kernel_rfl, of_decide_eq_true (by kernel_rfl)⟩
  · intro ds hd
    match ds, hd with
    | [d0], _ => rfl
  · intro W args ds ps hA hval
    have hA : DataW.TrodAll enc Try.prog W 0 (fun _ => true) true [33] args.toList ds ps := hA
    obtain ⟨v0, vs0, d0, ds0, p0, q0, hargs, rfl, rfl, h0, r0⟩ := trodAll_cons hA
    obtain ⟨rfl, rfl, rfl⟩ := trodAll_nil r0
    obtain rfl : args = #[v0] := by cases args; simp_all
    obtain ⟨l, hl, hx, hcx, hlx⟩ := open_rds Try.underlying33 c34 (fun _ => rfl) (fun _ => rfl) (elem_int Try.underlying34) h0 (hval 0 33 v0 rfl rfl)
    refine calls_of envOk (avs := [absV W.heap.size v0]) ?_ (law5 hx (fun a ha => wf_u16 (hl a ha)) hlx)
    exact concL_cons.2 ⟨_, _, hcx, rfl, rfl⟩

theorem over : Rows.runsCountsRow.holds Try.pinned (OpenSpec.ofChange Rows.runsCountsSpec) :=
  OpenClaim.holds_of_wide 5 Try.f5 rfl rfl rfl rfl rfl rfl rfl ⟨rfl, rfl, rfl, rfl, rfl⟩ rfl rfl rfl rfl rfl (by kernel_rfl) Try.func5 (by kernel_rfl)
    (of_decide_eq_true (by kernel_rfl)) (by unfold Func.isWrapper; first | (rw [if_pos (by decide +kernel)]; kernel_rfl) | (rw [if_neg (by decide +kernel)]; exact ⟨rfl, rfl⟩))
    (fun os started H enc _ => lifted os started H enc)

/-- The statement. -/
theorem proved : Rows.RunsCountsSaid := over
#print axioms proved
end Go.Proofs.Ytbciigjndoaoeaa.runsCounts
