/-
  RunsTell: whatever numbers, runs and bound come in, the statement is true, and nothing that was there has turned. No conditions.
-/
import Derived.Test.YtbciigjndoaoeaaRuns
import Derived.Test.YtbciigjndoaoeaaW15
import Derived.Test.YtbciigjndoaoeaaRows
import Derived.WalkKit
import Derived.ProofKit
import Derived.OpenShut
set_option linter.unusedVariables false
set_option linter.unusedSimpArgs false
namespace Go.Ev
open Go.Proofs
noncomputable section
set_option maxRecDepth 100000
theorem law3 {H : Hp} {x y : AV} {l : List Int} {m : List (Int × Int)} {n : Int} (hx : RdN .i64 H x l) (hy : RdP H y m) (hr : ∀ a ∈ l, -9223372036854775808 ≤ a ∧ a < 9223372036854775808)
    (hn : -9223372036854775808 ≤ n ∧ n < 9223372036854775808) (hl : (l.length : Int) < 9223372036854775808) (hm : (m.length : Int) < 9223372036854775808) : WCall EE (.func 3 [] []) [x, y, .int .i64 n] H fun v _ => v = .bool true := by
  refine enter rfl fn3 rfl rfl rfl rfl rfl ?_
  change wpC EE _ _ _ _ _ (KR EE _ _)
  have X := hx.len (E := EE) (e := 3)
  have Y := hy.len (E := EE) (e := 36)
  by_cases c1 : (500 : Int) < l.length
  · simp (decide := true) only [go_sem, tyE, X, Y, c1]
    refine wcall_true rfl ?_
    simp (decide := true) only [go_sem, tyE]
  by_cases c2 : (40 : Int) < m.length
  · simp (decide := true) only [go_sem, tyE, X, Y, c1, c2]
    refine wcall_true rfl ?_
    simp (decide := true) only [go_sem, tyE]
  have k22 : kindOf EE 22 = .slice 3 := by simp only [tyE]
  have k23 : kindOf EE 23 = .slice 36 := by simp only [tyE]
  obtain ⟨s1, v1, H1, a1, r1, f1, f1'⟩ := copy_own (e := 3) hx (Fr.refl H) (by simp only [tyE]) (by decide) (by omega) gr3 flatL_e1
  obtain ⟨s2, v2, H2, a2, r2, f2, f2'⟩ := copy_own (e := 36) hy f1 (by simp only [tyE]) (by decide) (by omega) gr36 flatL_e2
  simp (decide := true) only [go_sem, tyE, X, Y, c1, c2, w_buildSlice k22, w_buildSlice k23, appArgs_def k22 k22, appArgs_def k23 k23, s1, a1, s2, a2]
  refine of_ok (r1.keep f2') (by omega) hr fun w1 H3 f3 o1 => ?_
  simp (decide := true) only [go_sem, tyE]
  refine ofr_ok (hx.keep (f2.trans f3)) (by omega) hr fun w2 H4 f4 o2 => ?_
  simp (decide := true) only [go_sem, tyE]
  refine same_ok ((o1.rds e2_len).keep f4) (o2.rds e2_len) (by have := (ofN_len l l.length).1; omega) ?_
  simp (decide := true) only [go_sem, tyE, eq_self]
  refine blocks_ok ((r2.keep f3).keep f4) (by omega) fun w3 H5 f5 o3 => ?_
  simp (decide := true) only [go_sem, tyE]
  refine blocksr_ok (hy.keep ((f2.trans (f3.trans f4)).trans f5)) (by omega) fun w4 H6 f6 o4 => ?_
  simp (decide := true) only [go_sem, tyE]
  rw [← flat_e1] at o3 o4
  refine ints_ok ((o3.rds e1_len).keep f6) (o4.rds e1_len) (by have := blocksN_len m m.length; omega) ?_
  simp (decide := true) only [go_sem, tyE, eq_self]
  refine good_ok ((((r2.keep f3).keep f4).keep f5).keep f6) (by omega) hn fun H7 f7 => ?_
  simp (decide := true) only [go_sem, tyE]
  refine goodr_ok (hy.keep ((((f2.trans (f3.trans f4)).trans f5).trans f6).trans f7)) (by omega) hn ?_
  simp (decide := true) only [go_sem, tyE, beq_self_eq_true]
  refine ints_ok ((((((r1.keep f2').keep f3).keep f4).keep f5).keep f6).keep f7) (hx.keep ((((f2.trans (f3.trans f4)).trans f5).trans f6).trans f7)) (by omega) ?_
  simp (decide := true) only [go_sem, tyE, eq_self]
  refine same_ok (((((r2.keep f3).keep f4).keep f5).keep f6).keep f7) (hy.keep ((((f2.trans (f3.trans f4)).trans f5).trans f6).trans f7)) (by omega) ?_
  simp (decide := true) only [go_sem, tyE, eq_self]
  refine wcall_true rfl ?_
  simp (decide := true) only [go_sem, tyE]

/-! What comes in. -/
section
variable {H : Type} {enc : TypeId × Value → H} {W : World}
theorem elem_int {t : TypeId} {k : IntKind} (ht : Try.prog.underlying t = some (.int k)) : ∀ fuel cs x, DataW.trod enc Try.prog W 0 (fun _ => true) true fuel t cs = some x → ∃ a : Int, (Lit.int k a).wf = true ∧ cs.map (absV W.heap.size) = e1 k a := by
  intro fuel cs x h
  obtain ⟨m, rfl, _, hw⟩ := DataW.trod_int ht h
  exact ⟨m, hw, rfl⟩
theorem elem_pair {t t0 t1 : TypeId} {f0 f1 : Field} (ht : Try.prog.underlying t = some (.struct #[f0, f1])) (h0 : f0.offset = 0) (h1 : f1.offset = 1) (ht0 : f0.type = t0) (ht1 : f1.type = t1) (hu0 : Try.prog.underlying t0 = some (.int .i64)) (hu1 : Try.prog.underlying t1 = some (.int .i64))
    (hc : Try.prog.cellsOf t = 2) (hc0 : Try.prog.cellsOf t0 = 1) (hc1 : Try.prog.cellsOf t1 = 1) :
    ∀ fuel cs x, DataW.trod enc Try.prog W 0 (fun _ => true) true fuel t cs = some x → ∃ a : Int × Int, ((Lit.int .i64 a.1).wf = true ∧ (Lit.int .i64 a.2).wf = true) ∧ cs.map (absV W.heap.size) = e2 a := by
  intro fuel cs x h
  obtain ⟨xs, n, _, _, hl, hxs, hf⟩ := DataW.trod_struct ht h
  have hxs : xs.length = 2 := hxs
  have a0 := hf 0 f0 rfl
  have a1 := hf 1 f1 rfl
  rw [h0, ht0, hc0, List.getElem?_eq_getElem (by omega)] at a0
  rw [h1, ht1, hc1, List.getElem?_eq_getElem (by omega)] at a1
  obtain ⟨m0, e0, _, w0⟩ := DataW.trod_int hu0 a0
  obtain ⟨m1, e1, _, w1⟩ := DataW.trod_int hu1 a1
  rw [hc] at hl
  match cs, hl with
  | [c0, c1], _ =>
    simp at e0 e1
    subst e0 e1
    exact ⟨(m0, m1), ⟨w0, w1⟩, rfl⟩
theorem wf_bd {a : Int} (h : (Lit.int .i64 a).wf = true) : -9223372036854775808 ≤ a ∧ a < 9223372036854775808 := by
  simp [Lit.wf, IntKind.min, IntKind.max, IntKind.signed, IntKind.bits] at h
  omega
end
end
end Go.Ev

namespace Go.Proofs.Ytbciigjndoaoeaa.runsTell
open Go.ChangeShapes Go.WideShapes Go.ChangeAt Go.RowKit Go.Ev
theorem own : ownKnob Try.prog.godebug = none := by kernel_rfl
theorem laidOut : laidOutB Try.prog = true := by kernel_rfl
theorem envOk : EnvOk EE Try.prog := envV_ok baseOk fun f hf => by
  obtain rfl : f = 6 := by simpa [wk] using hf
  exact ⟨99, wakes15⟩
theorem c3 : Try.prog.cellsOf 3 = 1 := by kernel_rfl
theorem c36 : Try.prog.cellsOf 36 = 2 := by kernel_rfl
set_option maxRecDepth 100000 in
theorem lifted (os : Os) (started : os.Started) (H : Type) (enc : TypeId × Value → H) :
    ReturnsInHanded {} Try.checked os 3 .any (Rows.runsTellSpec.pre6 enc Try.prog Try.f3 Rows.runsTellRow.domain false) (Rows.runsTellSpec.post enc Try.prog Try.f3 false true false false) := by
  refine law_lifted (C := Try.checked) started own (by kernel_rfl) Try.func3
    (ChangeSpec.witness6 (enc := enc) (C := Try.checked) false ⟨#[], #[.slice none 0 0, .slice none 0 0, .int .i64 0], []⟩ 8 (by kernel_rfl) (by kernel_rfl) (by kernel_rfl) (by kernel_rfl))
    (tb := 4) (by kernel_rfl) Try.underlying4 laidOut ?_ rfl ?_ ?_
  · intro t ht
    have ht : t = 22 ∨ t = 23 ∨ t = 3 := by simpa [show Try.f3.params = #[22, 23, 3] from rfl] using ht
    rcases ht with rfl | rfl | rfl <;> exact ⟨by kernel_rfl, of_decide_eq_true (by kernel_rfl)⟩
  · intro ds hd
    match ds, hd with
    | [d0, d1, d2], _ => rfl
  · intro W args ds ps hA hval
    have hA : DataW.TrodAll enc Try.prog W 0 (fun _ => true) true [22, 23, 3] args.toList ds ps := hA
    obtain ⟨v0, vs0, d0, ds0, p0, q0, hargs, rfl, rfl, h0, r0⟩ := trodAll_cons hA
    obtain ⟨v1, vs1, d1, ds1, p1, q1, rfl, rfl, rfl, h1, r1⟩ := trodAll_cons r0
    obtain ⟨v2, vs2, d2, ds2, p2, q2, rfl, rfl, rfl, h2, r2⟩ := trodAll_cons r1
    obtain ⟨rfl, rfl, rfl⟩ := trodAll_nil r2
    obtain rfl : args = #[v0, v1, v2] := by cases args; simp_all
    obtain ⟨b2, hv2⟩ := hval 2 3 v2 rfl rfl
    obtain ⟨n, rfl, rfl, rfl, w2⟩ := open_int Try.underlying3 hv2 h2
    obtain ⟨l, hl, hx, hcx, hlx⟩ := open_rds Try.underlying22 c3 (fun _ => rfl) (fun _ => rfl) (elem_int Try.underlying3) h0 (hval 0 22 v0 rfl rfl)
    obtain ⟨m, hm, hy, hcy, hly⟩ := open_rds Try.underlying23 c36 (fun _ => rfl) (fun _ => rfl) (elem_pair Try.underlying36 rfl rfl rfl rfl Try.underlying3 Try.underlying3 c36 c3 c3) h1 (hval 1 23 v1 rfl rfl)
    refine calls_of envOk (avs := [absV W.heap.size v0, absV W.heap.size v1, .int .i64 n]) ?_ (law3 hx hy (fun a ha => wf_bd (hl a ha)) (wf_bd w2) hlx hly)
    exact concL_cons.2 ⟨_, _, hcx, concL_cons.2 ⟨_, _, hcy, rfl, rfl⟩, rfl⟩

theorem over : Rows.runsTellRow.holds Try.pinned (OpenSpec.ofChange Rows.runsTellSpec) :=
  OpenClaim.holds_of_wide 3 Try.f3 rfl rfl rfl rfl rfl rfl rfl ⟨rfl, rfl, rfl, rfl, rfl⟩ rfl rfl rfl rfl rfl (by kernel_rfl) Try.func3 (by kernel_rfl)
    (of_decide_eq_true (by kernel_rfl)) (by unfold Func.isWrapper; first | (rw [if_pos (by decide +kernel)]; kernel_rfl) | (rw [if_neg (by decide +kernel)]; exact ⟨rfl, rfl⟩))
    (fun os started H enc _ => lifted os started H enc)

/-- The statement. -/
theorem proved : Rows.RunsTellSaid := over
#print axioms proved
end Go.Proofs.Ytbciigjndoaoeaa.runsTell
