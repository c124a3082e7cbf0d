/-
  DestageNone: whatever the slot, without a core nothing is destaged: the statement is true for every input. No conditions.
-/
import Derived.Test.YtjpmmbbdmodjdaaGreatTy
import Derived.Test.YtjpmmbbdmodjdaaGreatW20
import Derived.Test.YtjpmmbbdmodjdaaGreatRows
import Derived.WalkKit
import Derived.ProofKit
import Derived.OpenShut
namespace Go.Ev
open Go.Proofs
noncomputable section
set_option maxRecDepth 100000
theorem fn4 : EE.fn 4 = some Tryz.f4 := by kernel_rfl
theorem fn13 : EE.fn 13 = some Tryz.f13 := by kernel_rfl
theorem fn14 : EE.fn 14 = some Tryz.f14 := by kernel_rfl
theorem fn33 : EE.fn 33 = some Tryz.f33 := by kernel_rfl
theorem fn35 : EE.fn 35 = some Tryz.f35 := by kernel_rfl
theorem fn48 : EE.fn 48 = some Tryz.f48 := by kernel_rfl

theorem map_nil {H : Hp} {K : AV → Hp → Prop} (hk : K .nilp H) : WCall EE (.func 33 [] []) [.nilp] H K := by
  refine enter rfl fn33 rfl rfl rfl rfl rfl ?_
  change wpC EE _ _ _ _ _ (KR EE _ _)
  simp (decide := true) only [go_sem, tyE]
  exact hk
theorem block_nil {H : Hp} {n : Int} {K : AV → Hp → Prop} (hk : K (.tuple [.int .i64 0, .bool false, .bool false]) H) : WCall EE (.func 35 [] []) [.nilp, .int .i64 n] H K := by
  refine enter rfl fn35 rfl rfl rfl rfl rfl ?_
  change wpC EE _ _ _ _ _ (KR EE _ _)
  simp (decide := true) only [go_sem, tyE]
  exact hk
theorem dirty_nil {H : Hp} {K : AV → Hp → Prop} (hk : K .nils H) : WCall EE (.func 48 [] []) [.nilp] H K := by
  refine enter rfl fn48 rfl rfl rfl rfl rfl ?_
  change wpC EE _ _ _ _ _ (KR EE _ _)
  simp (decide := true) only [go_sem, tyE]
  exact hk
theorem tick_nil {H : Hp} {n : Int} {K : AV → Hp → Prop} (hk : K (.tuple [.int .i64 (-1), .int .i64 1]) H) : WCall EE (.func 13 [] []) [.nilp, .int .i64 n] H K := by
  refine enter rfl fn13 rfl rfl rfl rfl rfl ?_
  change wpC EE _ _ _ _ _ (KR EE _ _)
  simp (decide := true) only [go_sem, tyE]
  refine map_nil ?_
  simp (decide := true) only [go_sem, tyE]
  refine dirty_nil ?_
  by_cases h : n < 0
  · simp (decide := true) only [go_sem, tyE, h, decide_true]
    exact hk
  · have h2 : (0 : Int) ≤ n := by omega
    simp (decide := true) only [go_sem, tyE, h, h2, decide_true, decide_false]
    exact hk
theorem one_nil {H : Hp} {n : Int} {K : AV → Hp → Prop} (hk : K (.int .i64 1) H) : WCall EE (.func 14 [] []) [.nilp, .int .i64 n] H K := by
  refine enter rfl fn14 rfl rfl rfl rfl rfl ?_
  change wpC EE _ _ _ _ _ (KR EE _ _)
  simp (decide := true) only [go_sem, tyE]
  refine map_nil ?_
  simp (decide := true) only [go_sem, tyE]
  refine block_nil ?_
  simp (decide := true) only [go_sem, tyE]
  exact hk
theorem law4 {H : Hp} {n : Int} : WCall EE (.func 4 [] []) [.int .i64 n] H fun v _ => v = .bool true := by
  refine enter rfl fn4 rfl rfl rfl rfl rfl ?_
  change wpC EE _ _ _ _ _ (KR EE _ _)
  simp (decide := true) only [go_sem, tyE]
  refine tick_nil ?_
  simp (decide := true) only [go_sem, tyE]
  refine one_nil ?_
  simp (decide := true) only [go_sem, tyE]
  refine wcall_true rfl ?_
  simp (decide := true) only [go_sem, tyE]
end
end Go.Ev

namespace Go.Proofs.YtjpmmbbdmodjdaaGreat.destageNone
open Go.ChangeShapes Go.WideShapes Go.ChangeAt Go.RowKit Go.Ev
theorem own : ownKnob Tryz.prog.godebug = none := by kernel_rfl
theorem laidOut : laidOutB Tryz.prog = true := by kernel_rfl
theorem envOk : EnvOk EE Tryz.prog := envV_ok baseOk fun f hf => by
  obtain rfl : f = 15 := by simpa [wk] using hf
  exact ⟨299, wakes20⟩
set_option maxRecDepth 100000 in
theorem lifted (os : Os) (started : os.Started) (H : Type) (enc : TypeId × Value → H) :
    ReturnsInHanded {} Tryz.checked os 4 .any (Rows.destageNoneSpec.pre6 enc Tryz.prog Tryz.f4 Rows.destageNoneRow.domain false) (Rows.destageNoneSpec.post enc Tryz.prog Tryz.f4 false true false false) := by
  refine law_lifted (C := Tryz.checked) started own (by kernel_rfl) Tryz.func4
    (ChangeSpec.witness6 (enc := enc) (C := Tryz.checked) false ⟨#[], #[.int .i64 0], []⟩ 8 (by kernel_rfl) (by kernel_rfl) (by kernel_rfl) (by kernel_rfl))
    (tb := 4) (by kernel_rfl) Tryz.underlying4 laidOut ?_ rfl ?_ ?_
  · intro t ht
    obtain rfl : t = 3 := by simpa [show Tryz.f4.params = #[3] from rfl] using ht
    exact ⟨by kernel_rfl, of_decide_eq_true (by kernel_rfl)⟩
  · intro ds hd
    match ds, hd with
    | [d], _ => rfl
  · intro W args ds ps hA hval
    have hA : DataW.TrodAll enc Tryz.prog W 0 (fun _ => true) true [3] args.toList ds ps := hA
    obtain ⟨v0, vs0, d0, ds0, p0, q0, hargs, rfl, rfl, h0, r0⟩ := trodAll_cons hA
    obtain ⟨rfl, rfl, rfl⟩ := trodAll_nil r0
    obtain rfl : args = #[v0] := by cases args; simp_all
    obtain ⟨b, hv⟩ := hval 0 3 v0 rfl rfl
    obtain ⟨a0, rfl, rfl, rfl, w0⟩ := open_int Tryz.underlying3 hv h0
    exact calls_of envOk (avs := [.int .i64 a0]) rfl law4

theorem over : Rows.destageNoneRow.holds Tryz.pinned (OpenSpec.ofChange Rows.destageNoneSpec) :=
  OpenClaim.holds_of_wide 4 Tryz.f4 rfl rfl rfl rfl rfl rfl rfl ⟨rfl, rfl, rfl, rfl, rfl⟩ rfl rfl rfl rfl rfl (by kernel_rfl) Tryz.func4 (by kernel_rfl)
    (of_decide_eq_true (by kernel_rfl)) (by unfold Func.isWrapper; first | (rw [if_pos (by decide +kernel)]; kernel_rfl) | (rw [if_neg (by decide +kernel)]; exact ⟨rfl, rfl⟩))
    (fun os started H enc _ => lifted os started H enc)

/-- The statement. -/
theorem proved : Rows.DestageNoneSaid := over
#print axioms proved
end Go.Proofs.YtjpmmbbdmodjdaaGreat.destageNone
