/-
  ModelNone: whatever step comes in, the statement is true, and nothing that was there has turned. No conditions.
-/
import Derived.Test.YtjpmmbbdmodjdaaTy
import Derived.Test.YtjpmmbbdmodjdaaW29
import Derived.Test.YtjpmmbbdmodjdaaRows
import Derived.WalkKit
import Derived.ProofKit
import Derived.OpenShut
set_option linter.unusedVariables false
set_option linter.unusedSimpArgs false
namespace Go.Ev
open Go.Proofs
noncomputable section
set_option maxRecDepth 100000

theorem fn3 : EE.fn 3 = some Try.f3 := by kernel_rfl
theorem fn5 : EE.fn 5 = some Try.f5 := by kernel_rfl
theorem fn6 : EE.fn 6 = some Try.f6 := by kernel_rfl
theorem fn7 : EE.fn 7 = some Try.f7 := by kernel_rfl
theorem fn8 : EE.fn 8 = some Try.f8 := by kernel_rfl

theorem blocks_nil {H : Hp} {K : AV → Hp → Prop} (hk : K .nils H) : WCall EE (.func 7 [] []) [.nilp] H K := by
  refine enter rfl fn7 rfl rfl rfl rfl rfl ?_
  change wpC EE _ _ _ _ _ (KR EE _ _)
  simp (decide := true) only [go_sem, tyE]
  exact hk
theorem ids_nil {H : Hp} {K : AV → Hp → Prop} (hk : K .nils H) : WCall EE (.func 8 [] []) [.nilp] H K := by
  refine enter rfl fn8 rfl rfl rfl rfl rfl ?_
  change wpC EE _ _ _ _ _ (KR EE _ _)
  simp (decide := true) only [go_sem, tyE]
  exact hk
theorem new_none {H : Hp} {K : AV → Hp → Prop} (hk : K (.tuple [.nilp, .int .i64 1]) H) : WCall EE (.func 6 [] []) [.int .i64 0] H K := by
  refine enter rfl fn6 rfl rfl rfl rfl rfl ?_
  change wpC EE _ _ _ _ _ (KR EE _ _)
  simp (decide := true) only [go_sem, tyE]
  exact hk
theorem do_nil {H : Hp} {a b c d e : Int} {v : AV} {l : List Int} (hx : RdN .u8 H v l) {K : AV → Hp → Prop} (hk : ∀ H', Fr H H' → K (.tuple [.nils, .int .i64 0, .int .i64 1]) H') :
    WCall EE (.func 5 [] []) [.nilp, .agg [.int .i64 a, .int .i64 b, .int .i64 c, .int .i64 d, .int .i64 e, v]] H K := by
  refine enter rfl fn5 rfl rfl rfl rfl rfl ?_
  change wpC EE _ _ _ _ _ (KR EE _ _)
  simp (decide := true) only [go_sem, tyE]
  refine hk _ ?_

  exact (Fr.refl H).newT _
theorem law3 {H : Hp} {a b c d e : Int} {v : AV} {l : List Int} (hx : RdN .u8 H v l) (hl : (l.length : Int) < 9223372036854775808) :
    WCall EE (.func 3 [] []) [.agg [.int .i64 a, .int .i64 b, .int .i64 c, .int .i64 d, .int .i64 e, v]] H fun v _ => v = .bool true := by
  refine enter rfl fn3 rfl rfl rfl rfl rfl ?_
  change wpC EE _ _ _ _ _ (KR EE _ _)
  have X := hx.len (E := EE) (e := 5)
  by_cases c1 : (5000 : Int) < l.length
  · simp (decide := true) only [go_sem, tyE, X, c1]
    refine wcall_true rfl ?_
    simp (decide := true) only [go_sem, tyE]
  simp (decide := true) only [go_sem, tyE, X, c1]
  refine do_nil (hx.keep ?_) fun H1 f1 => ?_
  · exact (Fr.refl H).newT _
  simp (decide := true) only [go_sem, tyE]
  refine new_none ?_
  simp (decide := true) only [go_sem, tyE]
  refine blocks_nil ?_
  simp (decide := true) only [go_sem, tyE]
  refine ids_nil ?_
  simp (decide := true) only [go_sem, tyE]
  refine wcall_true rfl ?_
  simp (decide := true) only [go_sem, tyE]
open Go.RowKit Go.ChangeShapes Go.WideShapes Go.ChangeAt

section
variable {H : Type} {enc : TypeId × Value → H} {W : World}
theorem elem_int {t : TypeId} {k : IntKind} (ht : Try.prog.underlying t = some (.int k)) : ∀ fuel cs x, DataW.trod enc Try.prog W 0 (fun _ => true) true fuel t cs = some x → ∃ a : Int, (Lit.int k a).wf = true ∧ cs.map (absV W.heap.size) = e1 k a := by
  intro fuel cs x h
  obtain ⟨m, rfl, _, hw⟩ := DataW.trod_int ht h
  exact ⟨m, hw, rfl⟩
theorem c3 : Try.prog.cellsOf 3 = 1 := by kernel_rfl
theorem c5 : Try.prog.cellsOf 5 = 1 := by kernel_rfl
theorem c22 : Try.prog.cellsOf 22 = 1 := by kernel_rfl
theorem c24 : Try.prog.cellsOf 24 = 6 := by kernel_rfl
theorem ts24 : Try.prog.cellTypes Try.prog.depth 24 = some [3, 3, 3, 3, 3, 22] := by kernel_rfl
theorem five {α : Type} : ∀ {l : List α}, l.length = 6 → ∃ a b c d e f, l = [a, b, c, d, e, f]
  | [a, b, c, d, e, f], _ => ⟨a, b, c, d, e, f, rfl⟩
/-- A step that came in: five numbers, and a slice of bytes. -/
theorem open_step {v : Value} {d : DataW H} {ps : List MemPlace} (h : DataW.Trod enc Try.prog W 0 (fun _ => true) true 24 v d ps) (hv : ∃ base, Value.okWide Try.prog W .any base 24 v) :
    ∃ (a0 a1 a2 a3 a4 : Int) (w : AV) (l : List Int), RdN .u8 (absH W) w l ∧ (l.length : Int) < 9223372036854775808 ∧
      conc (idSg W.heap.size) (.agg [.int .i64 a0, .int .i64 a1, .int .i64 a2, .int .i64 a3, .int .i64 a4, w]) = some v := by
  obtain ⟨base, hv⟩ := hv
  obtain ⟨fuel, h⟩ := h
  unfold Value.okWide at hv
  rw [Try.underlying24] at hv
  obtain ⟨cs, rfl, hsz, ts, hts, _, hrow⟩ := hv
  rw [ts24] at hts
  cases hts
  rw [c24] at hsz
  obtain ⟨v0, v1, v2, v3, v4, v5, hcs⟩ := five (l := cs.toList) (by simpa using hsz)
  obtain ⟨xs, n, _, _, hl, hxs, hf⟩ := DataW.trod_struct Try.underlying24 h
  have hxs : xs.length = 6 := hxs
  have hcells : (Value.agg cs).cells.toList = [v0, v1, v2, v3, v4, v5] := hcs
  have a0 := hf 0 _ rfl
  have a1 := hf 1 _ rfl
  have a2 := hf 2 _ rfl
  have a3 := hf 3 _ rfl
  have a4 := hf 4 _ rfl
  have a5 := hf 5 _ rfl
  rw [hcells] at a0 a1 a2 a3 a4 a5
  rw [List.getElem?_eq_getElem (by omega)] at a0 a1 a2 a3 a4 a5
  change DataW.trod enc Try.prog W 0 (fun _ => true) true n 3 (List.take (Try.prog.cellsOf 3) [v0, v1, v2, v3, v4, v5]) = _ at a0
  change DataW.trod enc Try.prog W 0 (fun _ => true) true n 3 (List.take (Try.prog.cellsOf 3) [v1, v2, v3, v4, v5]) = _ at a1
  change DataW.trod enc Try.prog W 0 (fun _ => true) true n 3 (List.take (Try.prog.cellsOf 3) [v2, v3, v4, v5]) = _ at a2
  change DataW.trod enc Try.prog W 0 (fun _ => true) true n 3 (List.take (Try.prog.cellsOf 3) [v3, v4, v5]) = _ at a3
  change DataW.trod enc Try.prog W 0 (fun _ => true) true n 3 (List.take (Try.prog.cellsOf 3) [v4, v5]) = _ at a4
  change DataW.trod enc Try.prog W 0 (fun _ => true) true n 22 (List.take (Try.prog.cellsOf 22) [v5]) = _ at a5
  rw [c3] at a0 a1 a2 a3 a4
  rw [c22] at a5
  obtain ⟨m0, e0, _, _⟩ := DataW.trod_int Try.underlying3 a0
  obtain ⟨m1, e1', _, _⟩ := DataW.trod_int Try.underlying3 a1
  obtain ⟨m2, e2', _, _⟩ := DataW.trod_int Try.underlying3 a2
  obtain ⟨m3, e3, _, _⟩ := DataW.trod_int Try.underlying3 a3
  obtain ⟨m4, e4, _, _⟩ := DataW.trod_int Try.underlying3 a4
  simp at e0 e1' e2' e3 e4
  subst e0 e1' e2' e3 e4
  have h5 : cs[5]? = some v5 := by rw [← Array.getElem?_toList, hcs]; rfl
  obtain ⟨u, hu, hok⟩ := hrow 5 v5 h5
  cases hu
  have hok5 : Value.okWide Try.prog W .any base 22 v5 := by unfold Value.okWide; rw [Try.underlying22]; exact hok
  have ht5 : DataW.Trod enc Try.prog W 0 (fun _ => true) true 22 v5 xs[5].1 xs[5].2 := by
    refine ⟨n, ?_⟩
    have : v5.cells.toList = [v5] := by
      rcases ok_slice Try.underlying22 hok5 with rfl | ⟨b, o, len, cap, rfl, _, _⟩ <;> rfl
    rw [this]; exact a5
  obtain ⟨l, _, hx, hcx, hlx⟩ := open_rds Try.underlying22 c5 (fun _ => rfl) (fun _ => rfl) (elem_int Try.underlying5) ht5 ⟨base, hok5⟩
  refine ⟨m0, m1, m2, m3, m4, _, l, hx, hlx, ?_⟩
  have hconc : concL (idSg W.heap.size) [.int .i64 m0, .int .i64 m1, .int .i64 m2, .int .i64 m3, .int .i64 m4, absV W.heap.size v5] = some cs.toList := by
    rw [hcs]; simp [concL, conc, hcx]
  simp only [conc, hconc]; simp
end
end
end Go.Ev

namespace Go.Proofs.Ytjpmmbbdmodjdaa.modelNone
open Go.ChangeShapes Go.WideShapes Go.ChangeAt Go.RowKit Go.Ev
theorem own : ownKnob Try.prog.godebug = none := by kernel_rfl
theorem laidOut : laidOutB Try.prog = true := by kernel_rfl
theorem envOk : EnvOk EE Try.prog := envV_ok baseOk fun f hf => by
  obtain rfl : f = 4 := by simpa [wk] using hf
  exact ⟨99, wakes29⟩
set_option maxRecDepth 100000 in
theorem lifted (os : Os) (started : os.Started) (H : Type) (enc : TypeId × Value → H) :
    ReturnsInHanded {} Try.checked os 3 .any (Rows.modelNoneSpec.pre6 enc Try.prog Try.f3 Rows.modelNoneRow.domain false) (Rows.modelNoneSpec.post enc Try.prog Try.f3 false true false false) := by
  refine law_lifted (C := Try.checked) started own (by kernel_rfl) Try.func3
    (ChangeSpec.witness6 (enc := enc) (C := Try.checked) false ⟨#[], #[.agg #[.int .i64 0, .int .i64 0, .int .i64 0, .int .i64 0, .int .i64 0, .slice none 0 0]], []⟩ 8 (by kernel_rfl) (by kernel_rfl) (by kernel_rfl) (by kernel_rfl))
    (tb := 4) (by kernel_rfl) Try.underlying4 laidOut ?_ rfl ?_ ?_
  · intro t ht
    have ht : t = 24 := by simpa [show Try.f3.params = #[24] from rfl] using ht
    subst ht
    exact ⟨by kernel_rfl, of_decide_eq_true (by kernel_rfl)⟩
  · intro ds hd
    match ds, hd with
    | [d0], _ => rfl
  · intro W args ds ps hA hval
    have hA : DataW.TrodAll enc Try.prog W 0 (fun _ => true) true [24] args.toList ds ps := hA
    obtain ⟨v0, vs0, d0, ds0, p0, q0, hargs, rfl, rfl, h0, r0⟩ := trodAll_cons hA
    obtain ⟨rfl, rfl, rfl⟩ := trodAll_nil r0
    obtain rfl : args = #[v0] := by cases args; simp_all
    obtain ⟨a0, a1, a2, a3, a4, w, l, hx, hlx, hc⟩ := open_step h0 (hval 0 24 v0 rfl rfl)
    refine calls_of envOk (avs := [.agg [.int .i64 a0, .int .i64 a1, .int .i64 a2, .int .i64 a3, .int .i64 a4, w]]) ?_ (law3 hx hlx)
    exact concL_cons.2 ⟨_, _, hc, rfl, rfl⟩

theorem over : Rows.modelNoneRow.holds Try.pinned (OpenSpec.ofChange Rows.modelNoneSpec) :=
  OpenClaim.holds_of_wide 3 Try.f3 rfl rfl rfl rfl rfl rfl rfl ⟨rfl, rfl, rfl, rfl, rfl⟩ rfl rfl rfl rfl rfl (by kernel_rfl) Try.func3 (by kernel_rfl)
    (of_decide_eq_true (by kernel_rfl)) (by unfold Func.isWrapper; first | (rw [if_pos (by decide +kernel)]; kernel_rfl) | (rw [if_neg (by decide +kernel)]; exact ⟨rfl, rfl⟩))
    (fun os started H enc _ => lifted os started H enc)

/-- The statement. -/
theorem proved : Rows.ModelNoneSaid := over
#print axioms proved
end Go.Proofs.Ytjpmmbbdmodjdaa.modelNone
