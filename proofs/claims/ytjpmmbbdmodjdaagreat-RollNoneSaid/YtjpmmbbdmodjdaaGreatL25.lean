/-
  RollNone: whatever the numbers, the statement is true, and nothing that was there has turned. No conditions.
-/
import Derived.Test.YtjpmmbbdmodjdaaGreatTy25
import Derived.Test.YtjpmmbbdmodjdaaGreatW25
import Derived.Test.YtjpmmbbdmodjdaaGreatRows
import Derived.WalkKit
import Derived.ProofKit
import Derived.OpenShut
namespace Go.Ev
open Go.Proofs
noncomputable section
set_option maxRecDepth 100000
theorem fn7 : EE.fn 7 = some Tryz.f7 := by kernel_rfl
theorem fn24 : EE.fn 24 = some Tryz.f24 := by kernel_rfl
theorem fn25 : EE.fn 25 = some Tryz.f25 := by kernel_rfl
theorem fn62 : EE.fn 62 = some Tryz.f62 := by kernel_rfl
theorem fn109 : EE.fn 109 = some Tryz.f109 := by kernel_rfl

theorem indexFunc_nil {H : Hp} {f : AV} {K : AV → Hp → Prop} (hk : K (.int .i64 (-1)) H) : WCall EE (.func 109 [] []) [.nils, f] H K := by
  refine enter rfl fn109 rfl rfl rfl rfl rfl ?_
  change wpC EE _ _ _ _ _ (KR EE _ _)
  simp (decide := true) only [go_sem, tyE]
  refine wloop (fun r G H' => G.get 7 = some (.int .i64 0) ∧ G.get 8 = some (.int .i64 0) ∧ H' = H) 0 ?_ ?_
  · simp (decide := true) only [go_sem]
  rintro r G H' ⟨g7, g8, rfl⟩
  simp (decide := true) only [go_sem, tyE, g7, g8]
  exact hk
theorem index_nil {H : Hp} {n : Int} {K : AV → Hp → Prop} (hk : ∀ H', Fr H H' → K (.int .i64 (-1)) H') : WCall EE (.func 62 [] []) [.nils, .int .i64 n] H K := by
  refine enter rfl fn62 rfl rfl rfl rfl rfl ?_
  change wpC EE _ _ _ _ _ (KR EE _ _)
  simp (decide := true) only [go_sem, tyE, mem]
  refine indexFunc_nil ?_
  simp (decide := true) only [go_sem, tyE, mem]
  exact hk _ ((Fr.refl H).newT _)
theorem pairs_nil {H : Hp} {n : Int} {K : AV → Hp → Prop} (hk : ∀ H', Fr H H' → K (.tuple [.nils, .nils, .int .i64 13]) H') : WCall EE (.func 24 [] []) [.agg [.nils, .nils, .int .i64 0, .int .i64 0, .int .i64 0, .nils], .int .i64 n] H K := by
  refine enter rfl fn24 rfl rfl rfl rfl rfl ?_
  change wpC EE _ _ _ _ _ (KR EE _ _)
  simp (decide := true) only [go_sem, tyE, mem]
  refine index_nil fun H' hf => ?_
  simp (decide := true) only [go_sem, tyE, mem]
  exact hk _ (Fr.set ((((Fr.refl H).newT _).trans hf).newT _) (Nat.le_trans (Nat.le_succ _) hf.1) _)
theorem to_nil {H : Hp} {n : Int} {K : AV → Hp → Prop} (hk : K (.int .i64 1) H) : WCall EE (.func 25 [] []) [.nilp, .int .i64 n] H K := by
  refine enter rfl fn25 rfl rfl rfl rfl rfl ?_
  change wpC EE _ _ _ _ _ (KR EE _ _)
  simp (decide := true) only [go_sem, tyE]
  exact hk
theorem law7 {H : Hp} {n : Int} : WCall EE (.func 7 [] []) [.int .i64 n] H fun v _ => v = .bool true := by
  refine enter rfl fn7 rfl rfl rfl rfl rfl ?_
  change wpC EE _ _ _ _ _ (KR EE _ _)
  simp (decide := true) only [go_sem, tyE, mem]
  refine pairs_nil fun H' hf => ?_
  simp (decide := true) only [go_sem, tyE, mem]
  refine to_nil ?_
  simp (decide := true) only [go_sem, tyE, mem]
  refine wcall_true rfl ?_
  simp (decide := true) only [go_sem, tyE]
end
end Go.Ev

namespace Go.Proofs.YtjpmmbbdmodjdaaGreat.rollNone
open Go.ChangeShapes Go.WideShapes Go.ChangeAt Go.RowKit Go.Ev
theorem own : ownKnob Tryz.prog.godebug = none := by kernel_rfl
theorem laidOut : laidOutB Tryz.prog = true := by kernel_rfl
theorem envOk : EnvOk EE Tryz.prog := envV_ok baseOk fun f hf => by
  obtain rfl : f = 26 := by simpa [wk] using hf
  exact ⟨299, wakes25⟩
set_option maxRecDepth 100000 in
theorem lifted (os : Os) (started : os.Started) (H : Type) (enc : TypeId × Value → H) :
    ReturnsInHanded {} Tryz.checked os 7 .any (Rows.rollNoneSpec.pre6 enc Tryz.prog Tryz.f7 Rows.rollNoneRow.domain false) (Rows.rollNoneSpec.post enc Tryz.prog Tryz.f7 false true false false) := by
  refine law_lifted (C := Tryz.checked) started own (by kernel_rfl) Tryz.func7
    (ChangeSpec.witness6 (enc := enc) (C := Tryz.checked) false ⟨#[], #[.int .i64 0], []⟩ 8 (by kernel_rfl) (by kernel_rfl) (by kernel_rfl) (by kernel_rfl))
    (tb := 4) (by kernel_rfl) Tryz.underlying4 laidOut ?_ rfl ?_ ?_
  · intro t ht
    obtain rfl : t = 3 := by simpa [show Tryz.f7.params = #[3] from rfl] using ht
    exact ⟨by kernel_rfl, of_decide_eq_true (by kernel_rfl)⟩
  · intro ds hd
    match ds, hd with
    | [d0], _ => rfl
  · intro W args ds ps hA hval
    have hA : DataW.TrodAll enc Tryz.prog W 0 (fun _ => true) true [3] args.toList ds ps := hA
    obtain ⟨v0, vs0, d0, ds0, p0, q0, hargs, rfl, rfl, h0, r0⟩ := trodAll_cons hA
    obtain ⟨rfl, rfl, rfl⟩ := trodAll_nil r0
    obtain rfl : args = #[v0] := by cases args; simp_all
    obtain ⟨b0, hv0⟩ := hval 0 3 v0 rfl rfl
    obtain ⟨a0, rfl, rfl, rfl, w0⟩ := open_int Tryz.underlying3 hv0 h0
    exact calls_of envOk (avs := [.int .i64 a0]) rfl law7

theorem over : Rows.rollNoneRow.holds Tryz.pinned (OpenSpec.ofChange Rows.rollNoneSpec) :=
  OpenClaim.holds_of_wide 7 Tryz.f7 rfl rfl rfl rfl rfl rfl rfl ⟨rfl, rfl, rfl, rfl, rfl⟩ rfl rfl rfl rfl rfl (by kernel_rfl) Tryz.func7 (by kernel_rfl)
    (of_decide_eq_true (by kernel_rfl)) (by unfold Func.isWrapper; first | (rw [if_pos (by decide +kernel)]; kernel_rfl) | (rw [if_neg (by decide +kernel)]; exact ⟨rfl, rfl⟩))
    (fun os started H enc _ => lifted os started H enc)

/-- The statement. -/
theorem proved : Rows.RollNoneSaid := over
#print axioms proved
end Go.Proofs.YtjpmmbbdmodjdaaGreat.rollNone
