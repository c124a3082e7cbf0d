/-
  SnapNone: whatever the numbers, the statement is true, and nothing that was there has turned. No conditions.
-/
import Derived.Test.YtjpmmbbdmodjdaaGreatTy23
import Derived.Test.YtjpmmbbdmodjdaaGreatW23
import Derived.Test.YtjpmmbbdmodjdaaGreatRows
import Derived.WalkKit
import Derived.ProofKit
import Derived.OpenShut
namespace Go.Ev
open Go.Proofs
noncomputable section
set_option maxRecDepth 100000
theorem fn6 : EE.fn 6 = some Tryz.f6 := by kernel_rfl
theorem fn20 : EE.fn 20 = some Tryz.f20 := by kernel_rfl
theorem fn21 : EE.fn 21 = some Tryz.f21 := by kernel_rfl
theorem fn22 : EE.fn 22 = some Tryz.f22 := by kernel_rfl

theorem take_nil {H : Hp} {K : AV → Hp → Prop} (hk : K (.tuple [.int .i64 0, .int .i64 1]) H) : WCall EE (.func 20 [] []) [.nilp] H K := by
  refine enter rfl fn20 rfl rfl rfl rfl rfl ?_
  change wpC EE _ _ _ _ _ (KR EE _ _)
  simp (decide := true) only [go_sem, tyE]
  exact hk
theorem drop_nil {H : Hp} {n : Int} {K : AV → Hp → Prop} (hk : K (.int .i64 1) H) : WCall EE (.func 22 [] []) [.nilp, .int .i64 n] H K := by
  refine enter rfl fn22 rfl rfl rfl rfl rfl ?_
  change wpC EE _ _ _ _ _ (KR EE _ _)
  simp (decide := true) only [go_sem, tyE]
  exact hk
theorem peek_nil {H : Hp} {n m : Int} {K : AV → Hp → Prop} (hk : ∀ H', Fr H H' → K (.tuple [.agg (List.replicate 64 (.int .u8 0)), .int .i64 1]) H') : WCall EE (.func 21 [] []) [.nilp, .int .i64 n, .int .i64 m] H K := by
  refine enter rfl fn21 rfl rfl rfl rfl rfl ?_
  change wpC EE _ _ _ _ _ (KR EE _ _)
  simp (decide := true) only [go_sem, tyE, mem, takeE_all (List.length_replicate), storeN_a (List.length_replicate), flat_rep one_i, setE_all (show (List.replicate 64 (AV.int .u8 0)).length = (List.replicate 64 (AV.int .u8 0)).length by simp)]
  exact hk _ (Fr.set (Fr.set (((Fr.refl H).newT _).newT _) (Nat.le_refl _) _) (Nat.le_succ _) _)
theorem law6 {H : Hp} {n m : Int} : WCall EE (.func 6 [] []) [.int .i64 n, .int .i64 m] H fun v _ => v = .bool true := by
  refine enter rfl fn6 rfl rfl rfl rfl rfl ?_
  change wpC EE _ _ _ _ _ (KR EE _ _)
  simp (decide := true) only [go_sem, tyE, mem]
  refine take_nil ?_
  simp (decide := true) only [go_sem, tyE, mem]
  refine peek_nil fun H' hf => ?_
  simp (decide := true) only [go_sem, tyE, mem, takeE_all (List.length_replicate), storeN_a (List.length_replicate), flat_rep one_i, setE_all (show (List.replicate 64 (AV.int .u8 0)).length = (List.replicate 64 (AV.int .u8 0)).length by simp), eqAgg_rep]
  refine drop_nil ?_
  simp (decide := true) only [go_sem, tyE, mem]
  refine wcall_true rfl ?_
  simp (decide := true) only [go_sem, tyE]
end
end Go.Ev

namespace Go.Proofs.YtjpmmbbdmodjdaaGreat.snapNone
open Go.ChangeShapes Go.WideShapes Go.ChangeAt Go.RowKit Go.Ev
theorem own : ownKnob Tryz.prog.godebug = none := by kernel_rfl
theorem laidOut : laidOutB Tryz.prog = true := by kernel_rfl
theorem envOk : EnvOk EE Tryz.prog := envV_ok baseOk fun f hf => by
  obtain rfl : f = 23 := by simpa [wk] using hf
  exact ⟨299, wakes23⟩
set_option maxRecDepth 100000 in
theorem lifted (os : Os) (started : os.Started) (H : Type) (enc : TypeId × Value → H) :
    ReturnsInHanded {} Tryz.checked os 6 .any (Rows.snapNoneSpec.pre6 enc Tryz.prog Tryz.f6 Rows.snapNoneRow.domain false) (Rows.snapNoneSpec.post enc Tryz.prog Tryz.f6 false true false false) := by
  refine law_lifted (C := Tryz.checked) started own (by kernel_rfl) Tryz.func6
    (ChangeSpec.witness6 (enc := enc) (C := Tryz.checked) false ⟨#[], #[.int .i64 0, .int .i64 0], []⟩ 8 (by kernel_rfl) (by kernel_rfl) (by kernel_rfl) (by kernel_rfl))
    (tb := 4) (by kernel_rfl) Tryz.underlying4 laidOut ?_ rfl ?_ ?_
  · intro t ht
    obtain rfl : t = 3 := by simpa [show Tryz.f6.params = #[3, 3] from rfl] using ht
    exact ⟨by kernel_rfl, of_decide_eq_true (by kernel_rfl)⟩
  · intro ds hd
    match ds, hd with
    | [d0, d1], _ => rfl
  · intro W args ds ps hA hval
    have hA : DataW.TrodAll enc Tryz.prog W 0 (fun _ => true) true [3, 3] args.toList ds ps := hA
    obtain ⟨v0, vs0, d0, ds0, p0, q0, hargs, rfl, rfl, h0, r0⟩ := trodAll_cons hA
    obtain ⟨v1, vs1, d1, ds1, p1, q1, rfl, rfl, rfl, h1, r1⟩ := trodAll_cons r0
    obtain ⟨rfl, rfl, rfl⟩ := trodAll_nil r1
    obtain rfl : args = #[v0, v1] := by cases args; simp_all
    obtain ⟨b0, hv0⟩ := hval 0 3 v0 rfl rfl
    obtain ⟨a0, rfl, rfl, rfl, w0⟩ := open_int Tryz.underlying3 hv0 h0
    obtain ⟨b1, hv1⟩ := hval 1 3 v1 rfl rfl
    obtain ⟨a1, rfl, rfl, rfl, w1⟩ := open_int Tryz.underlying3 hv1 h1
    exact calls_of envOk (avs := [.int .i64 a0, .int .i64 a1]) rfl law6

theorem over : Rows.snapNoneRow.holds Tryz.pinned (OpenSpec.ofChange Rows.snapNoneSpec) :=
  OpenClaim.holds_of_wide 6 Tryz.f6 rfl rfl rfl rfl rfl rfl rfl ⟨rfl, rfl, rfl, rfl, rfl⟩ rfl rfl rfl rfl rfl (by kernel_rfl) Tryz.func6 (by kernel_rfl)
    (of_decide_eq_true (by kernel_rfl)) (by unfold Func.isWrapper; first | (rw [if_pos (by decide +kernel)]; kernel_rfl) | (rw [if_neg (by decide +kernel)]; exact ⟨rfl, rfl⟩))
    (fun os started H enc _ => lifted os started H enc)

/-- The statement. -/
theorem proved : Rows.SnapNoneSaid := over
#print axioms proved
end Go.Proofs.YtjpmmbbdmodjdaaGreat.snapNone
