/-
  CacheNone: whatever the numbers, the statement is true, and nothing that was there has turned. No conditions.
-/
import Derived.Test.YtjpmmbbdmodjdaaGreatTy21
import Derived.Test.YtjpmmbbdmodjdaaGreatW21
import Derived.Test.YtjpmmbbdmodjdaaGreatRows
import Derived.WalkKit
import Derived.ProofKit
import Derived.OpenShut
namespace Go.Ev
open Go.Proofs
noncomputable section
set_option maxRecDepth 100000
theorem fn5 : EE.fn 5 = some Tryz.f5 := by kernel_rfl
theorem fn16 : EE.fn 16 = some Tryz.f16 := by kernel_rfl
theorem fn17 : EE.fn 17 = some Tryz.f17 := by kernel_rfl
theorem fn18 : EE.fn 18 = some Tryz.f18 := by kernel_rfl
theorem fn41 : EE.fn 41 = some Tryz.f41 := by kernel_rfl
theorem fn54 : EE.fn 54 = some Tryz.f54 := by kernel_rfl

theorem fill_ok {H : Hp} {v : Int} {K : AV → Hp → Prop} (hk : ∀ H', Fr H H' → K (.agg (List.replicate 64 (.int .u8 v))) H') : WCall EE (.func 18 [] []) [.int .u8 v] H K := by
  refine enter rfl fn18 rfl rfl rfl rfl rfl ?_
  change wpC EE _ _ _ _ _ (KR EE _ _)
  simp (decide := true) only [go_sem, tyE, mem]
  refine wloop (fun r G H' => ∃ i : Nat, i ≤ 64 ∧ r = 64 - i ∧ G.get 0 = some (.int .u8 v) ∧ G.get 2 = some (.ptr H.next 0) ∧ G.get 3 = some (.ptr (H.next + 1) 0) ∧ G.get 4 = some (.int .i64 i) ∧ Fr H H' ∧
    H'.m.get H.next = some (.cells (List.replicate 64 (.int .u8 0)) 34 true true) ∧ H'.m.get (H.next + 1) = some (.cells (List.replicate i (.int .u8 v) ++ List.replicate (64 - i) (.int .u8 0)) 34 true true)) 64 ?_ ?_
  · refine ⟨0, by omega, rfl, ?_⟩
    simp (decide := true) only [go_sem, tyE, mem]
    exact ⟨rfl, ((Fr.refl H).newT _).newT _, rfl⟩
  rintro r G H' ⟨i, hi, rfl, g0, g2, g3, g4, hf, hb, hc⟩
  by_cases hlt : i < 64
  · have h1 : decide ((i : Int) < 64) = true := by simp; omega
    simp (decide := true) only [go_sem, tyE, mem, g0, g2, g3, g4, h1, ia_arr hlt, hc, Nat.mul_one, Nat.zero_add, setE_one (show i < (List.replicate i (AV.int .u8 v) ++ List.replicate (64 - i) (AV.int .u8 0)).length by simp; omega), wrap_i64 (n := (i : Int) + 1) (by omega) (by omega)]
    refine ⟨64 - (i + 1), by omega, i + 1, by omega, rfl, rfl, hf.set (by omega) _, hb, ?_⟩
    congr 2
    rw [List.set_append_right _ _ (by simp), List.length_replicate, Nat.sub_self, show 64 - i = (63 - i) + 1 by omega, List.replicate_succ, List.set_cons_zero, List.replicate_succ', List.append_assoc]
    rw [show 64 - (i + 1) = 63 - i by omega]; rfl
  · obtain rfl : i = 64 := by omega
    have hc : H'.m.get (H.next + 1) = some (.cells (List.replicate 64 (.int .u8 v)) 34 true true) := by rw [hc]; simp
    simp (decide := true) only [go_sem, tyE, mem, g0, g2, g3, g4, hb, hc, takeE_all (List.length_replicate), storeN_a (List.length_replicate), flat_rep one_i, setE_all (show (List.replicate 64 (AV.int .u8 0)).length = (List.replicate 64 (AV.int .u8 v)).length by simp)]
    exact hk _ (hf.set (Nat.le_refl _) _)

theorem geom_nil {H : Hp} {K : AV → Hp → Prop} (hk : ∀ H', Fr H H' → K (.agg [.int .i64 0, .int .i64 0, .int .i64 0, .int .i64 0, .int .i64 0]) H') : WCall EE (.func 41 [] []) [.nilp] H K := by
  refine enter rfl fn41 rfl rfl rfl rfl rfl ?_
  change wpC EE _ _ _ _ _ (KR EE _ _)
  simp (decide := true) only [go_sem, tyE, mem, storeN_a, setE_all]
  exact hk _ (((Fr.refl H).newT _).set (Nat.le_refl _) _)
theorem has_nil {H : Hp} {n : Int} {K : AV → Hp → Prop} (hk : ∀ H', Fr H H' → K (.bool false) H') : WCall EE (.func 54 [] []) [.nilp, .int .i64 n] H K := by
  refine enter rfl fn54 rfl rfl rfl rfl rfl ?_
  change wpC EE _ _ _ _ _ (KR EE _ _)
  by_cases h : 0 ≤ n
  · simp (decide := true) only [go_sem, tyE, h]
    refine geom_nil fun H' hf => ?_
    have h2 : ¬ n < 0 := by omega
    simp (decide := true) only [go_sem, tyE, h2]
    exact hk _ hf
  · simp (decide := true) only [go_sem, tyE, h]
    exact hk _ (Fr.refl _)
theorem read_nil {H : Hp} {n : Int} {K : AV → Hp → Prop} (hk : ∀ H', Fr H H' → K (.tuple [.agg (List.replicate 64 (.int .u8 0)), .int .i64 1]) H') : WCall EE (.func 16 [] []) [.nilp, .int .i64 n] H K := by
  refine enter rfl fn16 rfl rfl rfl rfl rfl ?_
  change wpC EE _ _ _ _ _ (KR EE _ _)
  simp (decide := true) only [go_sem, tyE, mem]
  refine has_nil fun H' hf => ?_
  have hb : H'.m.get H.next = some (.cells (List.replicate 64 (.int .u8 0)) 34 true true) := by
    rw [hf.2 _ (by simp only [mem]; omega)]; simp only [mem]
  simp (decide := true) only [go_sem, tyE, mem, hb, takeE_all (List.length_replicate), storeN_a (List.length_replicate), flat_rep one_i, setE_all (show (List.replicate 64 (AV.int .u8 0)).length = (List.replicate 64 (AV.int .u8 0)).length by simp)]
  exact hk _ (Fr.set (((Fr.refl H).newT _).trans hf) (Nat.le_refl _) _)
theorem write_nil {H : Hp} {n : Int} {l : List AV} {K : AV → Hp → Prop} (hk : ∀ H', Fr H H' → K (.int .i64 1) H') : WCall EE (.func 17 [] []) [.nilp, .int .i64 n, .agg l] H K := by
  refine enter rfl fn17 rfl rfl rfl rfl rfl ?_
  change wpC EE _ _ _ _ _ (KR EE _ _)
  simp (decide := true) only [go_sem, tyE, mem]
  refine has_nil fun H' hf => ?_
  simp (decide := true) only [go_sem, tyE, mem]
  exact hk _ (((Fr.refl H).newT _).trans hf)
theorem law5 {H : Hp} {n : Int} : WCall EE (.func 5 [] []) [.int .i64 n] H fun v _ => v = .bool true := by
  refine enter rfl fn5 rfl rfl rfl rfl rfl ?_
  change wpC EE _ _ _ _ _ (KR EE _ _)
  simp (decide := true) only [go_sem, tyE, mem]
  refine read_nil fun H' hf => ?_
  simp (decide := true) only [go_sem, tyE, mem, takeE_all (List.length_replicate), storeN_a (List.length_replicate), flat_rep one_i, setE_all (show (List.replicate 64 (AV.int .u8 0)).length = (List.replicate 64 (AV.int .u8 0)).length by simp), eqAgg_rep]
  refine fill_ok fun H' hf => ?_
  simp (decide := true) only [go_sem, tyE, mem]
  refine write_nil fun H' hf => ?_
  simp (decide := true) only [go_sem, tyE, mem]
  refine wcall_true rfl ?_
  simp (decide := true) only [go_sem, tyE]
end
end Go.Ev

namespace Go.Proofs.YtjpmmbbdmodjdaaGreat.cacheNone
open Go.ChangeShapes Go.WideShapes Go.ChangeAt Go.RowKit Go.Ev
theorem own : ownKnob Tryz.prog.godebug = none := by kernel_rfl
theorem laidOut : laidOutB Tryz.prog = true := by kernel_rfl
theorem envOk : EnvOk EE Tryz.prog := envV_ok baseOk fun f hf => by
  obtain rfl : f = 19 := by simpa [wk] using hf
  exact ⟨299, wakes21⟩
set_option maxRecDepth 100000 in
theorem lifted (os : Os) (started : os.Started) (H : Type) (enc : TypeId × Value → H) :
    ReturnsInHanded {} Tryz.checked os 5 .any (Rows.cacheNoneSpec.pre6 enc Tryz.prog Tryz.f5 Rows.cacheNoneRow.domain false) (Rows.cacheNoneSpec.post enc Tryz.prog Tryz.f5 false true false false) := by
  refine law_lifted (C := Tryz.checked) started own (by kernel_rfl) Tryz.func5
    (ChangeSpec.witness6 (enc := enc) (C := Tryz.checked) false ⟨#[], #[.int .i64 0], []⟩ 8 (by kernel_rfl) (by kernel_rfl) (by kernel_rfl) (by kernel_rfl))
    (tb := 4) (by kernel_rfl) Tryz.underlying4 laidOut ?_ rfl ?_ ?_
  · intro t ht
    obtain rfl : t = 3 := by simpa [show Tryz.f5.params = #[3] from rfl] using ht
    exact ⟨by kernel_rfl, of_decide_eq_true (by kernel_rfl)⟩
  · intro ds hd
    match ds, hd with
    | [d0], _ => rfl
  · intro W args ds ps hA hval
    have hA : DataW.TrodAll enc Tryz.prog W 0 (fun _ => true) true [3] args.toList ds ps := hA
    obtain ⟨v0, vs0, d0, ds0, p0, q0, hargs, rfl, rfl, h0, r0⟩ := trodAll_cons hA
    obtain ⟨rfl, rfl, rfl⟩ := trodAll_nil r0
    obtain rfl : args = #[v0] := by cases args; simp_all
    obtain ⟨b0, hv0⟩ := hval 0 3 v0 rfl rfl
    obtain ⟨a0, rfl, rfl, rfl, w0⟩ := open_int Tryz.underlying3 hv0 h0
    exact calls_of envOk (avs := [.int .i64 a0]) rfl law5

theorem over : Rows.cacheNoneRow.holds Tryz.pinned (OpenSpec.ofChange Rows.cacheNoneSpec) :=
  OpenClaim.holds_of_wide 5 Tryz.f5 rfl rfl rfl rfl rfl rfl rfl ⟨rfl, rfl, rfl, rfl, rfl⟩ rfl rfl rfl rfl rfl (by kernel_rfl) Tryz.func5 (by kernel_rfl)
    (of_decide_eq_true (by kernel_rfl)) (by unfold Func.isWrapper; first | (rw [if_pos (by decide +kernel)]; kernel_rfl) | (rw [if_neg (by decide +kernel)]; exact ⟨rfl, rfl⟩))
    (fun os started H enc _ => lifted os started H enc)

/-- The statement. -/
theorem proved : Rows.CacheNoneSaid := over
#print axioms proved
end Go.Proofs.YtjpmmbbdmodjdaaGreat.cacheNone
