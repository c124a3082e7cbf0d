/-
  KeepNone: whatever comes in, the statement is true, and nothing that was there has turned. No conditions.
-/
import Derived.Test.YtkbfagkgiogllaaGreatKTy
import Derived.Test.YtkbfagkgiogllaaGreatW19
import Derived.Test.YtkbfagkgiogllaaGreatRows
import Derived.WalkKit
import Derived.ProofKit
import Derived.OpenShut
set_option linter.unusedVariables false
set_option linter.unusedSimpArgs false
namespace Go.Ev
open Go.Proofs
noncomputable section
set_option maxRecDepth 100000
theorem csum {f : FuncId} {g : List AV → Hp → Option (AV × Hp)} (hs : EE.sum f = some g) {xs : List AV} {H H' : Hp} {v : AV} (hg : g xs H = some (v, H')) {K : AV → Hp → Prop} (h : K v H') : callJ EE (.func f [] []) xs H K := wcall_sum hs hg h
theorem fn3 : EE.fn 3 = some Tryz.f3 := by kernel_rfl
theorem fn8 : EE.fn 8 = some Tryz.f8 := by kernel_rfl
theorem fn9 : EE.fn 9 = some Tryz.f9 := by kernel_rfl
theorem fn11 : EE.fn 11 = some Tryz.f11 := by kernel_rfl
theorem fn34 : EE.fn 34 = some Tryz.f34 := by kernel_rfl
theorem latest_nil {H : Hp} {n : Int} {K : AV → Hp → Prop} (hk : ∀ H', Fr H H' → K (.tuple [.agg [.int .i64 0, .nils, .nils], .bool false]) H') : WCall EE (.func 34 [] []) [.nilp, .int .i64 n] H K := by
  refine enterS (fun _ => rfl) rfl (N := 44) rfl fn34 rfl rfl rfl rfl rfl ?_
  change wpC EE _ _ _ _ _ (KR EE _ _)
  simp (disch := (refine ofP ?_; first | assumption | decide | omega | (simp only [new_next, set_next] <;> omega) | with_unfolding_all exact ofR rfl | with_unfolding_all exact ofNt rfl)) only [go_sem, tyE]
  refine csum rfl rfl ?_
  by_cases c1 : n < 0
  · simp (disch := (refine ofP ?_; first | assumption | decide | omega | (simp only [new_next, set_next] <;> omega) | with_unfolding_all exact ofR rfl | with_unfolding_all exact ofNt rfl)) only [go_sem, tyE, c1]
    exact hk _ (((Fr.refl H).newT _).set (by omega) _)
  · have c2 : 0 ≤ n := by omega
    simp (disch := (refine ofP ?_; first | assumption | decide | omega | (simp only [new_next, set_next] <;> omega) | with_unfolding_all exact ofR rfl | with_unfolding_all exact ofNt rfl)) only [go_sem, tyE, c1]
    refine csum rfl rfl ?_
    simp (disch := (refine ofP ?_; first | assumption | decide | omega | (simp only [new_next, set_next] <;> omega) | with_unfolding_all exact ofR rfl | with_unfolding_all exact ofNt rfl)) only [go_sem, tyE, c1, c2]
    exact hk _ (((Fr.refl H).newT _).set (by omega) _)
theorem inslot_nil {H : Hp} {n : Int} {K : AV → Hp → Prop} (hk : ∀ H', Fr H H' → K (.bool false) H') : WCall EE (.func 8 [] []) [.nilp, .int .i64 n] H K := by
  refine enterS (fun _ => rfl) rfl (N := 45) rfl fn8 rfl rfl rfl rfl rfl ?_
  change wpC EE _ _ _ _ _ (KR EE _ _)
  simp (disch := (refine ofP ?_; first | assumption | decide | omega | (simp only [new_next, set_next] <;> omega) | with_unfolding_all exact ofR rfl | with_unfolding_all exact ofNt rfl)) only [go_sem, tyE]
  refine latest_nil fun H1 f1 => ?_
  simp (disch := (refine ofP ?_; first | assumption | decide | omega | (simp only [new_next, set_next] <;> omega) | with_unfolding_all exact ofR rfl | with_unfolding_all exact ofNt rfl)) only [go_sem, tyE]
  have hnx := f1.nx
  exact hk _ ((f1.newT _).set (by omega) _)
theorem onslow_nil {H : Hp} {n : Int} {K : AV → Hp → Prop} (hk : ∀ H', Fr H H' → K (.bool false) H') : WCall EE (.func 9 [] []) [.nilp, .int .i64 n] H K := by
  refine enterS (fun _ => rfl) rfl (N := 20) rfl fn9 rfl rfl rfl rfl rfl ?_
  change wpC EE _ _ _ _ _ (KR EE _ _)
  simp (disch := (refine ofP ?_; first | assumption | decide | omega | (simp only [new_next, set_next] <;> omega) | with_unfolding_all exact ofR rfl | with_unfolding_all exact ofNt rfl)) only [go_sem, tyE]
  refine latest_nil fun H1 f1 => ?_
  simp (disch := (refine ofP ?_; first | assumption | decide | omega | (simp only [new_next, set_next] <;> omega) | with_unfolding_all exact ofR rfl | with_unfolding_all exact ofNt rfl)) only [go_sem, tyE]
  have hnx := f1.nx
  exact hk _ ((f1.newT _).set (by omega) _)
theorem copy_nil {H : Hp} {v : AV} {K : AV → Hp → Prop} (hk : K (.int .i64 1) H) : WCall EE (.func 11 [] []) [.nilp, v] H K := by
  refine enterS (fun _ => rfl) rfl (N := 126) rfl fn11 rfl rfl rfl rfl rfl ?_
  change wpC EE _ _ _ _ _ (KR EE _ _)
  simp (disch := (refine ofP ?_; first | assumption | decide | omega | (simp only [new_next, set_next] <;> omega) | with_unfolding_all exact ofR rfl | with_unfolding_all exact ofNt rfl)) only [go_sem, tyE]
  exact hk
theorem law3 {H : Hp} {n : Int} {v : AV} {l : List Int} (hx : RdN .i64 H v l) (hl : (l.length : Int) < 9223372036854775808) :
    WCall EE (.func 3 [] []) [.int .i64 n, v] H fun v _ => v = .bool true := by
  refine enterS (fun _ => rfl) rfl (N := 30) rfl fn3 rfl rfl rfl rfl rfl ?_
  change wpC EE _ _ _ _ _ (KR EE _ _)
  have X := hx.len (E := EE) (e := 3)
  by_cases c1 : (100 : Int) < l.length
  · simp (disch := (refine ofP ?_; first | assumption | decide | omega | (simp only [new_next, set_next] <;> omega) | with_unfolding_all exact ofR rfl | with_unfolding_all exact ofNt rfl)) only [go_sem, tyE, X, c1]
    refine csum rfl rfl ?_
    simp (disch := (refine ofP ?_; first | assumption | decide | omega | (simp only [new_next, set_next] <;> omega) | with_unfolding_all exact ofR rfl | with_unfolding_all exact ofNt rfl)) only [go_sem, tyE]
  simp (disch := (refine ofP ?_; first | assumption | decide | omega | (simp only [new_next, set_next] <;> omega) | with_unfolding_all exact ofR rfl | with_unfolding_all exact ofNt rfl)) only [go_sem, tyE, X, c1]
  refine inslot_nil fun H1 f1 => ?_
  simp (disch := (refine ofP ?_; first | assumption | decide | omega | (simp only [new_next, set_next] <;> omega) | with_unfolding_all exact ofR rfl | with_unfolding_all exact ofNt rfl)) only [go_sem, tyE]
  refine onslow_nil fun H2 f2 => ?_
  simp (disch := (refine ofP ?_; first | assumption | decide | omega | (simp only [new_next, set_next] <;> omega) | with_unfolding_all exact ofR rfl | with_unfolding_all exact ofNt rfl)) only [go_sem, tyE]
  refine csum rfl rfl ?_
  simp (disch := (refine ofP ?_; first | assumption | decide | omega | (simp only [new_next, set_next] <;> omega) | with_unfolding_all exact ofR rfl | with_unfolding_all exact ofNt rfl)) only [go_sem, tyE]
  refine copy_nil ?_
  simp (disch := (refine ofP ?_; first | assumption | decide | omega | (simp only [new_next, set_next] <;> omega) | with_unfolding_all exact ofR rfl | with_unfolding_all exact ofNt rfl)) only [go_sem, tyE]
  refine csum rfl rfl ?_
  simp (disch := (refine ofP ?_; first | assumption | decide | omega | (simp only [new_next, set_next] <;> omega) | with_unfolding_all exact ofR rfl | with_unfolding_all exact ofNt rfl)) only [go_sem, tyE]
open Go.RowKit Go.ChangeShapes Go.WideShapes Go.ChangeAt
section
variable {H : Type} {enc : TypeId × Value → H} {W : World}
theorem elem_int {t : TypeId} {k : IntKind} (ht : Tryz.prog.underlying t = some (.int k)) : ∀ fuel cs x, DataW.trod enc Tryz.prog W 0 (fun _ => true) true fuel t cs = some x → ∃ a : Int, (Lit.int k a).wf = true ∧ cs.map (absV W.heap.size) = e1 k a := by
  intro fuel cs x h
  obtain ⟨m, rfl, _, hw⟩ := DataW.trod_int ht h
  exact ⟨m, hw, rfl⟩
theorem c3 : Tryz.prog.cellsOf 3 = 1 := by kernel_rfl
end
end
end Go.Ev

namespace Go.Proofs.YtkbfagkgiogllaaGreat.keepNone
open Go.ChangeShapes Go.WideShapes Go.ChangeAt Go.RowKit Go.Ev
theorem own : ownKnob Tryz.prog.godebug = none := by kernel_rfl
theorem laidOut : laidOutB Tryz.prog = true := by kernel_rfl
theorem envOk0 : EnvOk (envV Tryz.prog wk) Tryz.prog := envV_ok2 Sm.baseOk fun f hf => by
  obtain rfl : f = 7 := by simpa [wk] using hf
  exact ⟨Sm.ES2, 299, Sm.es2Ok, rfl, wakes7⟩
set_option maxRecDepth 100000 in
theorem envOk : EnvOk EE Tryz.prog := by
  refine withMemo_ok (n := 99) (withMemo_ok (n := 99) (withMemo_ok (n := 99) envOk0 Sm.baseOk rfl ?_) Sm.baseOk rfl ?_) Sm.baseOk rfl ?_
  · intro p hp
    simp only [tState, List.mem_cons, List.mem_nil_iff, or_false] at hp
    subst hp
    exact ⟨by kernel_rfl, by kernel_rfl⟩
  · intro p hp
    simp only [tGeom, List.mem_cons, List.mem_nil_iff, or_false] at hp
    subst hp
    exact ⟨by kernel_rfl, by kernel_rfl⟩
  · intro p hp
    simp only [tAll, List.mem_cons, List.mem_nil_iff, or_false] at hp
    subst hp
    exact ⟨by kernel_rfl, by kernel_rfl⟩
set_option maxRecDepth 100000 in
theorem lifted (os : Os) (started : os.Started) (H : Type) (enc : TypeId × Value → H) :
    ReturnsInHanded {} Tryz.checked os 3 .any (Rows.keepNoneSpec.pre6 enc Tryz.prog Tryz.f3 Rows.keepNoneRow.domain false) (Rows.keepNoneSpec.post enc Tryz.prog Tryz.f3 false true false false) := by
  refine law_lifted (C := Tryz.checked) started own (by kernel_rfl) Tryz.func3
    (ChangeSpec.witness6 (enc := enc) (C := Tryz.checked) false ⟨#[], #[.int .i64 0, .slice none 0 0], []⟩ 8 (by kernel_rfl) (by kernel_rfl) (by kernel_rfl) (by kernel_rfl))
    (tb := 4) (by kernel_rfl) Tryz.underlying4 laidOut ?_ rfl ?_ ?_
  · intro t ht
    have ht : t = 3 ∨ t = 22 := by simpa [show Tryz.f3.params = #[3, 22] from rfl] using ht
    rcases ht with rfl | rfl <;> exact ⟨by kernel_rfl, of_decide_eq_true (by kernel_rfl)⟩
  · intro ds hd
    match ds, hd with
    | [d0, d1], _ => rfl
  · intro W args ds ps hA hval
    have hA : DataW.TrodAll enc Tryz.prog W 0 (fun _ => true) true [3, 22] args.toList ds ps := hA
    obtain ⟨v0, vs0, d0, ds0, p0, q0, hargs, rfl, rfl, h0, r0⟩ := trodAll_cons hA
    obtain ⟨v1, vs1, d1, ds1, p1, q1, rfl, rfl, rfl, h1, r1⟩ := trodAll_cons r0
    obtain ⟨rfl, rfl, rfl⟩ := trodAll_nil r1
    obtain rfl : args = #[v0, v1] := by cases args; simp_all
    obtain ⟨b0, hv0⟩ := hval 0 3 v0 rfl rfl
    obtain ⟨n, rfl, rfl, rfl, w2⟩ := open_int Tryz.underlying3 hv0 h0
    obtain ⟨l, hl, hx, hcx, hlx⟩ := open_rds Tryz.underlying22 c3 (fun _ => rfl) (fun _ => rfl) (elem_int Tryz.underlying3) h1 (hval 1 22 v1 rfl rfl)
    refine calls_of envOk rfl (avs := [.int .i64 n, absV W.heap.size v1]) ?_ (law3 hx hlx)
    exact concL_cons.2 ⟨_, _, rfl, concL_cons.2 ⟨_, _, hcx, rfl, rfl⟩, rfl⟩
set_option maxHeartbeats 4000000 in
set_option maxRecDepth 100000 in
theorem closed : joinedFacts Tryz.pinned.checked.prog 3 Tryz.f3 Rows.keepNoneSpec Rows.keepNoneRow = true := by
  unfold joinedFacts
  rw [Bool.and_eq_true, Bool.and_eq_true]
  repeat rw [Bool.and_eq_true]
  and_intros
  all_goals (as_aux_lemma => kernel_rfl)
theorem over : Rows.keepNoneRow.holds Tryz.pinned (OpenSpec.ofChange Rows.keepNoneSpec) :=
  OpenClaim.holds_of_wide 3 Tryz.f3 rfl rfl rfl rfl rfl rfl rfl ⟨rfl, rfl, rfl, rfl, rfl⟩ rfl rfl rfl rfl rfl (by kernel_rfl) Tryz.func3 closed
    (of_decide_eq_true (by kernel_rfl)) (by unfold Func.isWrapper; first | (rw [if_pos (by decide +kernel)]; kernel_rfl) | (rw [if_neg (by decide +kernel)]; exact ⟨rfl, rfl⟩))
    (fun os started H enc _ => lifted os started H enc)

/-- The statement. -/
theorem proved : Rows.KeepNoneSaid := over
#print axioms proved
end Go.Proofs.YtkbfagkgiogllaaGreat.keepNone
