/-
  VolumeNone: whatever step comes in, the statement is true, and nothing that was there has turned. No conditions.
-/
import Derived.Test.YtkbfagkgiogllaaGreatTy
import Derived.Test.YtkbfagkgiogllaaGreatW28
import Derived.Test.YtkbfagkgiogllaaGreatRows
import Derived.WalkKit
import Derived.ProofKit
import Derived.OpenShut
set_option linter.unusedVariables false
set_option linter.unusedSimpArgs false
namespace Go.Ev
open Go.Proofs
noncomputable section
set_option maxRecDepth 100000
theorem csum {f : FuncId} {g : List AV → Hp → Option (AV × Hp)} (hs : EE.sum f = some g) {xs : List AV} {H H' : Hp} {v : AV} (hg : g xs H = some (v, H')) {K : AV → Hp → Prop} (h : K v H') : callJ EE (.func f [] []) xs H K := wcall_sum hs hg h
theorem fn6 : EE.fn 6 = some Tryz.f6 := by kernel_rfl
theorem fn24 : EE.fn 24 = some Tryz.f24 := by kernel_rfl
theorem do_nil {H : Hp} {a b c d e : Int} {v : AV} {l : List Int} (hx : RdN .u8 H v l) {K : AV → Hp → Prop} (hk : ∀ H', Fr H H' → K (.tuple [.nils, .int .i64 0, .int .i64 1]) H') :
    WCall EE (.func 24 [] []) [.nilp, .agg [.int .i64 a, .int .i64 b, .int .i64 c, .int .i64 d, .int .i64 e, v]] H K := by
  refine enterS (fun _ => rfl) rfl (N := 32) rfl fn24 rfl rfl rfl rfl rfl ?_
  change wpC EE _ _ _ _ _ (KR EE _ _)
  simp (disch := (refine ofP ?_; first | assumption | decide | omega | (simp only [new_next, set_next] <;> omega) | with_unfolding_all exact ofR rfl | with_unfolding_all exact ofNt rfl)) only [go_sem, tyE]
  refine hk _ ?_
  exact (((((((Fr.refl H).newT _).newT _).newT _).newT _).set (by omega) _).set (by omega) _).set (by omega) _
theorem law6 {H : Hp} {a b c d e : Int} {v : AV} {l : List Int} (hx : RdN .u8 H v l) (hl : (l.length : Int) < 9223372036854775808) :
    WCall EE (.func 6 [] []) [.agg [.int .i64 a, .int .i64 b, .int .i64 c, .int .i64 d, .int .i64 e, v]] H fun v _ => v = .bool true := by
  refine enterS (fun _ => rfl) rfl (N := 73) rfl fn6 rfl rfl rfl rfl rfl ?_
  change wpC EE _ _ _ _ _ (KR EE _ _)
  have hz : eqAgg (some (false, 4)) (.agg [.int .i64 0, .int .i64 0, .int .i64 0, .int .i64 0]) (.agg [.int .i64 0, .int .i64 0, .int .i64 0, .int .i64 0]) = some true := by kernel_rfl
  have X := hx.len (E := EE) (e := 5)
  by_cases c1 : (5000 : Int) < l.length
  · simp (disch := (refine ofP ?_; first | assumption | decide | omega | (simp only [new_next, set_next] <;> omega) | with_unfolding_all exact ofR rfl | with_unfolding_all exact ofNt rfl)) only [go_sem, tyE, X, c1]
    refine csum rfl rfl ?_
    simp (disch := (refine ofP ?_; first | assumption | decide | omega | (simp only [new_next, set_next] <;> omega) | with_unfolding_all exact ofR rfl | with_unfolding_all exact ofNt rfl)) only [go_sem, tyE]
  simp (disch := (refine ofP ?_; first | assumption | decide | omega | (simp only [new_next, set_next] <;> omega) | with_unfolding_all exact ofR rfl | with_unfolding_all exact ofNt rfl)) only [go_sem, tyE, X, c1]
  refine do_nil (hx.keep ((Fr.refl H).newT _)) fun H1 f1 => ?_
  simp (disch := (refine ofP ?_; first | assumption | decide | omega | (simp only [new_next, set_next] <;> omega) | with_unfolding_all exact ofR rfl | with_unfolding_all exact ofNt rfl)) only [go_sem, tyE]
  refine csum rfl rfl ?_
  simp (disch := (refine ofP ?_; first | assumption | decide | omega | (simp only [new_next, set_next] <;> omega) | with_unfolding_all exact ofR rfl | with_unfolding_all exact ofNt rfl)) only [go_sem, tyE]
  refine csum rfl rfl ?_
  simp (disch := (refine ofP ?_; first | assumption | decide | omega | (simp only [new_next, set_next] <;> omega) | with_unfolding_all exact ofR rfl | with_unfolding_all exact ofNt rfl)) only [go_sem, tyE]
  refine csum rfl rfl ?_
  simp (disch := (refine ofP ?_; first | assumption | decide | omega | (simp only [new_next, set_next] <;> omega) | with_unfolding_all exact ofR rfl | with_unfolding_all exact ofNt rfl)) only [go_sem, tyE]
  refine csum (g := sumR (memoG tStat)) rfl (v := .agg [.int .i64 0, .int .i64 0, .int .i64 0, .int .i64 0]) (H' := H1) rfl ?_
  simp (disch := (refine ofP ?_; first | assumption | decide | omega | (simp only [new_next, set_next] <;> omega) | with_unfolding_all exact ofR rfl | with_unfolding_all exact ofNt rfl)) only [go_sem, tyE, hz]
  refine csum rfl rfl ?_
  simp (disch := (refine ofP ?_; first | assumption | decide | omega | (simp only [new_next, set_next] <;> omega) | with_unfolding_all exact ofR rfl | with_unfolding_all exact ofNt rfl)) only [go_sem, tyE]
  refine csum rfl rfl ?_
  simp (disch := (refine ofP ?_; first | assumption | decide | omega | (simp only [new_next, set_next] <;> omega) | with_unfolding_all exact ofR rfl | with_unfolding_all exact ofNt rfl)) only [go_sem, tyE]
open Go.RowKit Go.ChangeShapes Go.WideShapes Go.ChangeAt

section
variable {H : Type} {enc : TypeId × Value → H} {W : World}
theorem elem_int {t : TypeId} {k : IntKind} (ht : Tryz.prog.underlying t = some (.int k)) : ∀ fuel cs x, DataW.trod enc Tryz.prog W 0 (fun _ => true) true fuel t cs = some x → ∃ a : Int, (Lit.int k a).wf = true ∧ cs.map (absV W.heap.size) = e1 k a := by
  intro fuel cs x h
  obtain ⟨m, rfl, _, hw⟩ := DataW.trod_int ht h
  exact ⟨m, hw, rfl⟩
theorem c3 : Tryz.prog.cellsOf 3 = 1 := by kernel_rfl
theorem c5 : Tryz.prog.cellsOf 5 = 1 := by kernel_rfl
theorem c34 : Tryz.prog.cellsOf 34 = 1 := by kernel_rfl
theorem c54 : Tryz.prog.cellsOf 54 = 6 := by kernel_rfl
theorem ts54 : Tryz.prog.cellTypes Tryz.prog.depth 54 = some [3, 3, 3, 3, 3, 34] := by kernel_rfl
theorem five {α : Type} : ∀ {l : List α}, l.length = 6 → ∃ a b c d e f, l = [a, b, c, d, e, f]
  | [a, b, c, d, e, f], _ => ⟨a, b, c, d, e, f, rfl⟩
/-- A step that came in: five numbers, and a slice of bytes. -/
theorem open_step {v : Value} {d : DataW H} {ps : List MemPlace} (h : DataW.Trod enc Tryz.prog W 0 (fun _ => true) true 54 v d ps) (hv : ∃ base, Value.okWide Tryz.prog W .any base 54 v) :
    ∃ (a0 a1 a2 a3 a4 : Int) (w : AV) (l : List Int), RdN .u8 (absH W) w l ∧ (l.length : Int) < 9223372036854775808 ∧
      conc (idSg W.heap.size) (.agg [.int .i64 a0, .int .i64 a1, .int .i64 a2, .int .i64 a3, .int .i64 a4, w]) = some v := by
  obtain ⟨base, hv⟩ := hv
  obtain ⟨fuel, h⟩ := h
  unfold Value.okWide at hv
  rw [Tryz.underlying54] at hv
  obtain ⟨cs, rfl, hsz, ts, hts, _, hrow⟩ := hv
  rw [ts54] at hts
  cases hts
  rw [c54] at hsz
  obtain ⟨v0, v1, v2, v3, v4, v5, hcs⟩ := five (l := cs.toList) (by simpa using hsz)
  obtain ⟨xs, n, _, _, hl, hxs, hf⟩ := DataW.trod_struct Tryz.underlying54 h
  have hxs : xs.length = 6 := hxs
  have hcells : (Value.agg cs).cells.toList = [v0, v1, v2, v3, v4, v5] := hcs
  have a0 := hf 0 _ rfl
  have a1 := hf 1 _ rfl
  have a2 := hf 2 _ rfl
  have a3 := hf 3 _ rfl
  have a4 := hf 4 _ rfl
  have a5 := hf 5 _ rfl
  rw [hcells] at a0 a1 a2 a3 a4 a5
  rw [List.getElem?_eq_getElem (by omega)] at a0 a1 a2 a3 a4 a5
  change DataW.trod enc Tryz.prog W 0 (fun _ => true) true n 3 (List.take (Tryz.prog.cellsOf 3) [v0, v1, v2, v3, v4, v5]) = _ at a0
  change DataW.trod enc Tryz.prog W 0 (fun _ => true) true n 3 (List.take (Tryz.prog.cellsOf 3) [v1, v2, v3, v4, v5]) = _ at a1
  change DataW.trod enc Tryz.prog W 0 (fun _ => true) true n 3 (List.take (Tryz.prog.cellsOf 3) [v2, v3, v4, v5]) = _ at a2
  change DataW.trod enc Tryz.prog W 0 (fun _ => true) true n 3 (List.take (Tryz.prog.cellsOf 3) [v3, v4, v5]) = _ at a3
  change DataW.trod enc Tryz.prog W 0 (fun _ => true) true n 3 (List.take (Tryz.prog.cellsOf 3) [v4, v5]) = _ at a4
  change DataW.trod enc Tryz.prog W 0 (fun _ => true) true n 34 (List.take (Tryz.prog.cellsOf 34) [v5]) = _ at a5
  rw [c3] at a0 a1 a2 a3 a4
  rw [c34] at a5
  obtain ⟨m0, e0, _, _⟩ := DataW.trod_int Tryz.underlying3 a0
  obtain ⟨m1, e1', _, _⟩ := DataW.trod_int Tryz.underlying3 a1
  obtain ⟨m2, e2', _, _⟩ := DataW.trod_int Tryz.underlying3 a2
  obtain ⟨m3, e3, _, _⟩ := DataW.trod_int Tryz.underlying3 a3
  obtain ⟨m4, e4, _, _⟩ := DataW.trod_int Tryz.underlying3 a4
  simp at e0 e1' e2' e3 e4
  subst e0 e1' e2' e3 e4
  have h5 : cs[5]? = some v5 := by rw [← Array.getElem?_toList, hcs]; rfl
  obtain ⟨u, hu, hok⟩ := hrow 5 v5 h5
  cases hu
  have hok5 : Value.okWide Tryz.prog W .any base 34 v5 := by unfold Value.okWide; rw [Tryz.underlying34]; exact hok
  have ht5 : DataW.Trod enc Tryz.prog W 0 (fun _ => true) true 34 v5 xs[5].1 xs[5].2 := by
    refine ⟨n, ?_⟩
    have : v5.cells.toList = [v5] := by
      rcases ok_slice Tryz.underlying34 hok5 with rfl | ⟨b, o, len, cap, rfl, _, _⟩ <;> rfl
    rw [this]; exact a5
  obtain ⟨l, _, hx, hcx, hlx⟩ := open_rds Tryz.underlying34 c5 (fun _ => rfl) (fun _ => rfl) (elem_int Tryz.underlying5) ht5 ⟨base, hok5⟩
  refine ⟨m0, m1, m2, m3, m4, _, l, hx, hlx, ?_⟩
  have hconc : concL (idSg W.heap.size) [.int .i64 m0, .int .i64 m1, .int .i64 m2, .int .i64 m3, .int .i64 m4, absV W.heap.size v5] = some cs.toList := by
    rw [hcs]; simp [concL, conc, hcx]
  simp only [conc, hconc]; simp
end
end
end Go.Ev

namespace Go.Proofs.YtkbfagkgiogllaaGreat.volumeNone
open Go.ChangeShapes Go.WideShapes Go.ChangeAt Go.RowKit Go.Ev
theorem own : ownKnob Tryz.prog.godebug = none := by kernel_rfl
theorem laidOut : laidOutB Tryz.prog = true := by kernel_rfl
theorem envOk0 : EnvOk (envV Tryz.prog wk) Tryz.prog := envV_ok2 Sm.baseOk fun f hf => by
  obtain rfl : f = 23 := by simpa [wk] using hf
  exact ⟨Sm.ES, 299, Sm.esOk, rfl, wakes23⟩
set_option maxRecDepth 100000 in
theorem envOk : EnvOk EE Tryz.prog := by
  refine withMemo_ok (n := 99) (withMemo_ok (n := 99) (withMemo_ok (n := 99) (withMemo_ok (n := 99) (withMemo_ok (n := 99) envOk0 Sm.baseOk rfl ?_) Sm.baseOk rfl ?_) Sm.baseOk rfl ?_) Sm.baseOk rfl ?_) Sm.baseOk rfl ?_
  · intro p hp
    simp only [tSmall, List.mem_cons, List.mem_nil_iff, or_false] at hp
    subst hp
    exact ⟨by kernel_rfl, by kernel_rfl⟩
  · intro p hp
    simp only [tOpen, List.mem_cons, List.mem_nil_iff, or_false] at hp
    subst hp
    exact ⟨by kernel_rfl, by kernel_rfl⟩
  · intro p hp
    simp only [tFmt, List.mem_cons, List.mem_nil_iff, or_false] at hp
    subst hp
    exact ⟨by kernel_rfl, by kernel_rfl⟩
  · intro p hp
    simp only [tStat, List.mem_cons, List.mem_nil_iff, or_false] at hp
    subst hp
    exact ⟨by kernel_rfl, by kernel_rfl⟩
  · intro p hp
    simp only [tCore, List.mem_cons, List.mem_nil_iff, or_false] at hp
    subst hp
    exact ⟨by kernel_rfl, by kernel_rfl⟩
set_option maxRecDepth 100000 in
theorem lifted (os : Os) (started : os.Started) (H : Type) (enc : TypeId × Value → H) :
    ReturnsInHanded {} Tryz.checked os 6 .any (Rows.volumeNoneSpec.pre6 enc Tryz.prog Tryz.f6 Rows.volumeNoneRow.domain false) (Rows.volumeNoneSpec.post enc Tryz.prog Tryz.f6 false true false false) := by
  refine law_lifted (C := Tryz.checked) started own (by kernel_rfl) Tryz.func6
    (ChangeSpec.witness6 (enc := enc) (C := Tryz.checked) false ⟨#[], #[.agg #[.int .i64 0, .int .i64 0, .int .i64 0, .int .i64 0, .int .i64 0, .slice none 0 0]], []⟩ 8 (by kernel_rfl) (by kernel_rfl) (by kernel_rfl) (by kernel_rfl))
    (tb := 4) (by kernel_rfl) Tryz.underlying4 laidOut ?_ rfl ?_ ?_
  · intro t ht
    have ht : t = 54 := by simpa [show Tryz.f6.params = #[54] from rfl] using ht
    subst ht
    exact ⟨by kernel_rfl, of_decide_eq_true (by kernel_rfl)⟩
  · intro ds hd
    match ds, hd with
    | [d0], _ => rfl
  · intro W args ds ps hA hval
    have hA : DataW.TrodAll enc Tryz.prog W 0 (fun _ => true) true [54] args.toList ds ps := hA
    obtain ⟨v0, vs0, d0, ds0, p0, q0, hargs, rfl, rfl, h0, r0⟩ := trodAll_cons hA
    obtain ⟨rfl, rfl, rfl⟩ := trodAll_nil r0
    obtain rfl : args = #[v0] := by cases args; simp_all
    obtain ⟨a0, a1, a2, a3, a4, w, l, hx, hlx, hc⟩ := open_step h0 (hval 0 54 v0 rfl rfl)
    refine calls_of envOk rfl (avs := [.agg [.int .i64 a0, .int .i64 a1, .int .i64 a2, .int .i64 a3, .int .i64 a4, w]]) ?_ (law6 hx hlx)
    exact concL_cons.2 ⟨_, _, hc, rfl, rfl⟩

set_option maxHeartbeats 4000000 in
set_option maxRecDepth 100000 in
theorem closed : joinedFacts Tryz.pinned.checked.prog 6 Tryz.f6 Rows.volumeNoneSpec Rows.volumeNoneRow = true := by
  unfold joinedFacts
  rw [Bool.and_eq_true, Bool.and_eq_true]
  repeat rw [Bool.and_eq_true]
  and_intros
  all_goals (as_aux_lemma => kernel_rfl)
theorem over : Rows.volumeNoneRow.holds Tryz.pinned (OpenSpec.ofChange Rows.volumeNoneSpec) :=
  OpenClaim.holds_of_wide 6 Tryz.f6 rfl rfl rfl rfl rfl rfl rfl ⟨rfl, rfl, rfl, rfl, rfl⟩ rfl rfl rfl rfl rfl (by kernel_rfl) Tryz.func6 closed
    (of_decide_eq_true (by kernel_rfl)) (by unfold Func.isWrapper; first | (rw [if_pos (by decide +kernel)]; kernel_rfl) | (rw [if_neg (by decide +kernel)]; exact ⟨rfl, rfl⟩))
    (fun os started H enc _ => lifted os started H enc)

/-- The statement. -/
theorem proved : Rows.VolumeNoneSaid := over
#print axioms proved
end Go.Proofs.YtkbfagkgiogllaaGreat.volumeNone
