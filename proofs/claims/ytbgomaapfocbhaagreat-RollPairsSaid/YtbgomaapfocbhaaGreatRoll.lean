/-
  RollPairs: whatever comes in, the statement is true, and nothing that was there has turned. No conditions.
-/
import Derived.Test.YtbgomaapfocbhaaGreatPB
import Derived.Test.YtbgomaapfocbhaaGreatW25
import Derived.Test.YtbgomaapfocbhaaGreatChecked
import Derived.Test.YtbgomaapfocbhaaGreatRows
import Derived.WalkKit
import Derived.ProofKit
import Derived.OpenShut
import Derived.Eval
set_option linter.unusedVariables false
set_option linter.unusedSimpArgs false
namespace Go.Ev
open Go.Proofs Go.RowKit Go.ChangeShapes Go.WideShapes Go.ChangeAt
noncomputable section
set_option maxRecDepth 100000
section
variable {H : Type} {enc : TypeId × Value → H} {W : World}
theorem c3 : Tryz.prog.cellsOf 3 = 1 := by kernel_rfl
theorem c5 : Tryz.prog.cellsOf 5 = 1 := by kernel_rfl
theorem c22 : Tryz.prog.cellsOf 22 = 1 := by kernel_rfl
theorem c23 : Tryz.prog.cellsOf 23 = 1 := by kernel_rfl
theorem c24 : Tryz.prog.cellsOf 24 = 1 := by kernel_rfl
theorem c26 : Tryz.prog.cellsOf 26 = 3 := by kernel_rfl
theorem c28 : Tryz.prog.cellsOf 28 = 6 := by kernel_rfl
theorem c41 : Tryz.prog.cellsOf 41 = 1 := by kernel_rfl
theorem c43 : Tryz.prog.cellsOf 43 = 3 := by kernel_rfl
theorem c71 : Tryz.prog.cellsOf 71 = 2 := by kernel_rfl
noncomputable def hd1 (cs : List AV) : AV := match cs with | [c] => c | _ => .undef
theorem hd1_cells : ∀ cs : List AV, cs.length = 1 → flatL cs = true → (hd1 cs).cells = cs
  | [c], _, h => by
    have h : oneC c = true := by
      rw [flatL_cons'] at h
      revert h; cases oneC c <;> intro h <;> first | rfl | cases h
    exact oneC_cells h
@[reducible] noncomputable def TrO (enc : TypeId × Value → H) (W : World) (fuel : Nat) (t : TypeId) (cs : List Value) := DataW.trod enc Tryz.prog W 0 (fun _ => true) true fuel t cs
theorem el_int {fuel : Nat} {cs : List Value} {x : DataW H × List MemPlace} (h : TrO enc W fuel 3 cs = some x) : ∃ a : Int, cs = [.int .i64 a] := by
  obtain ⟨m, rfl, _, _⟩ := DataW.trod_int Tryz.underlying3 h
  exact ⟨m, rfl⟩
theorem el_byte {fuel : Nat} {cs : List Value} {x : DataW H × List MemPlace} (h : TrO enc W fuel 5 cs = some x) : ∃ c : UInt8, cs.map (absV W.heap.size) = [eB c] := by
  obtain ⟨m, rfl, _, hw⟩ := DataW.trod_int Tryz.underlying5 h
  have hm : 0 ≤ m ∧ m < 256 := by
    have := hw
    simp [Lit.wf, IntKind.min, IntKind.max, IntKind.signed, IntKind.bits] at this
    omega
  refine ⟨UInt8.ofNat m.toNat, ?_⟩
  show [AV.int .u8 m] = [AV.int .u8 _]
  have : (UInt8.ofNat m.toNat).toNat = m.toNat := by
    simp; omega
  rw [this]
  congr 2; omega
theorem el_pair {fuel : Nat} {cs : List Value} {x : DataW H × List MemPlace} (hl : cs.length = 2) (h : TrO enc W fuel 71 cs = some x) : ∃ p : Int × Int, cs.map (absV W.heap.size) = [.int .i64 p.1, .int .i64 p.2] := by
  obtain ⟨xs, n, _, _, _, hxs, hf⟩ := DataW.trod_struct Tryz.underlying71 h
  have hxs : xs.length = 2 := hxs
  obtain ⟨v0, v1, rfl⟩ : ∃ a b, cs = [a, b] := by
    match cs, hl with
    | [a, b], _ => exact ⟨a, b, rfl⟩
  have a0 := hf 0 _ rfl
  have a1 := hf 1 _ rfl
  rw [List.getElem?_eq_getElem (by omega)] at a0 a1
  change DataW.trod enc Tryz.prog W 0 (fun _ => true) true n 3 (List.take (Tryz.prog.cellsOf 3) [v0, v1]) = _ at a0
  change DataW.trod enc Tryz.prog W 0 (fun _ => true) true n 3 (List.take (Tryz.prog.cellsOf 3) [v1]) = _ at a1
  rw [c3] at a0 a1
  obtain ⟨m0, e0⟩ := el_int a0
  obtain ⟨m1, e1⟩ := el_int a1
  simp at e0 e1
  subst e0 e1
  exact ⟨(m0, m1), rfl⟩
theorem op_ints {fuel : Nat} {v : Value} {x : DataW H × List MemPlace} (h : TrO enc W fuel 22 [v] = some x) : ∃ l : List Int, VR false noMp (absH W) (.lst 1 (l.map eI)) (absV W.heap.size v) ∧ oneC (absV W.heap.size v) = true ∧ conc (idSg W.heap.size) (absV W.heap.size v) = some v := by
  obtain ⟨l, _, h1, h2, h3, _⟩ := open_lst (eA := eI) (mk := hd1) (Inv := fun _ => True) Tryz.underlying22 c3 (by decide) hd1_cells (fun fuel cs x hl hx => by
    obtain ⟨a, rfl⟩ := el_int hx
    exact ⟨a, trivial, VR.int, rfl⟩) h
  exact ⟨l, h1, h2, h3⟩
theorem op_bytes {fuel : Nat} {v : Value} {x : DataW H × List MemPlace} (h : TrO enc W fuel 41 [v] = some x) : ∃ l : List UInt8, VR false noMp (absH W) (.lst 1 (l.map eB)) (absV W.heap.size v) ∧ oneC (absV W.heap.size v) = true ∧ conc (idSg W.heap.size) (absV W.heap.size v) = some v := by
  obtain ⟨l, _, h1, h2, h3, _⟩ := open_lst (eA := eB) (mk := hd1) (Inv := fun _ => True) Tryz.underlying41 c5 (by decide) hd1_cells (fun fuel cs x hl hx => by
    obtain ⟨a, ha⟩ := el_byte hx
    exact ⟨a, trivial, by rw [ha]; exact VR.int, by rw [ha]; rfl⟩) h
  exact ⟨l, h1, h2, h3⟩
theorem op_pairs {fuel : Nat} {v : Value} {x : DataW H × List MemPlace} (h : TrO enc W fuel 24 [v] = some x) : ∃ l : List (Int × Int), VR false noMp (absH W) (.lst 2 (l.map ePr)) (absV W.heap.size v) ∧ oneC (absV W.heap.size v) = true ∧ conc (idSg W.heap.size) (absV W.heap.size v) = some v := by
  obtain ⟨l, _, h1, h2, h3, _⟩ := open_lst (eA := ePr) (mk := .agg) (Inv := fun _ => True) Tryz.underlying24 c71 (by decide) (fun _ _ _ => rfl) (fun fuel cs x hl hx => by
    obtain ⟨a, ha⟩ := el_pair hl hx
    exact ⟨a, trivial, by rw [ha]; exact (VR.plain rfl).2 rfl, by rw [ha]; rfl⟩) h
  exact ⟨l, h1, h2, h3⟩
theorem el_snap {fuel : Nat} {cs : List Value} {x : DataW H × List MemPlace} (hl : cs.length = 3) (h : TrO enc W fuel 43 cs = some x) : ∃ s : Snp, VR false noMp (absH W) (eSnap s) (.agg (cs.map (absV W.heap.size))) ∧ flatL (cs.map (absV W.heap.size)) = true := by
  obtain ⟨xs, n, _, _, _, hxs, hf⟩ := DataW.trod_struct Tryz.underlying43 h
  have hxs : xs.length = 3 := hxs
  obtain ⟨v0, v1, v2, rfl⟩ : ∃ a b c, cs = [a, b, c] := by
    match cs, hl with
    | [a, b, c], _ => exact ⟨a, b, c, rfl⟩
  have a0 := hf 0 _ rfl
  have a1 := hf 1 _ rfl
  have a2 := hf 2 _ rfl
  rw [List.getElem?_eq_getElem (by omega)] at a0 a1 a2
  change DataW.trod enc Tryz.prog W 0 (fun _ => true) true n 3 (List.take (Tryz.prog.cellsOf 3) [v0, v1, v2]) = _ at a0
  change DataW.trod enc Tryz.prog W 0 (fun _ => true) true n 41 (List.take (Tryz.prog.cellsOf 41) [v1, v2]) = _ at a1
  change DataW.trod enc Tryz.prog W 0 (fun _ => true) true n 24 (List.take (Tryz.prog.cellsOf 24) [v2]) = _ at a2
  rw [c3] at a0
  rw [c41] at a1
  rw [c24] at a2
  obtain ⟨m0, e0⟩ := el_int a0
  simp at e0
  subst e0
  obtain ⟨l1, r1, o1, _⟩ := op_bytes a1
  obtain ⟨l2, r2, o2, _⟩ := op_pairs a2
  refine ⟨⟨m0, l1, l2⟩, VR.agg_mk (VRL.cons.2 ⟨_, _, VR.int, VRL.cons.2 ⟨_, _, r1, VRL.cons.2 ⟨_, _, r2, VRL.nil.2 rfl, rfl⟩, rfl⟩, rfl⟩), ?_⟩
  show flatL [_, absV W.heap.size v1, absV W.heap.size v2] = true
  rw [flatL_cons', flatL_cons', flatL_cons', o1, o2]; rfl
theorem op_snaps {fuel : Nat} {v : Value} {x : DataW H × List MemPlace} (h : TrO enc W fuel 23 [v] = some x) : ∃ l : List Snp, VR false noMp (absH W) (.lst 3 (l.map eSnap)) (absV W.heap.size v) ∧ oneC (absV W.heap.size v) = true ∧ conc (idSg W.heap.size) (absV W.heap.size v) = some v ∧ (l.length : Int) < 9223372036854775808 := by
  obtain ⟨l, _, h1, h2, h3, h4⟩ := open_lst (eA := eSnap) (mk := .agg) (Inv := fun _ => True) Tryz.underlying23 c43 (by decide) (fun _ _ _ => rfl) (fun fuel cs x hl hx => by
    obtain ⟨s, h1, h2⟩ := el_snap hl hx
    exact ⟨s, trivial, h1, h2⟩) h
  exact ⟨l, h1, h2, h3, h4⟩
/-- A state that came in. -/
theorem open_state {v : Value} {d : DataW H} {ps : List MemPlace} (h : DataW.Trod enc Tryz.prog W 0 (fun _ => true) true 28 v d ps) (hv : ∃ base, Value.okWide Tryz.prog W .any base 28 v) :
    ∃ (s : Ste) (w : AV), VR false noMp (absH W) (eSte s) w ∧ (s.snaps.length : Int) < 9223372036854775808 ∧ conc (idSg W.heap.size) w = some v := by
  obtain ⟨base, hv⟩ := hv
  obtain ⟨fuel, h⟩ := h
  unfold Value.okWide at hv
  rw [Tryz.underlying28] at hv
  obtain ⟨cs, rfl, hsz, _⟩ := hv
  rw [c28] at hsz
  obtain ⟨v0, v1, v2, v3, v4, v5, hcs⟩ : ∃ a b c d e f, cs.toList = [a, b, c, d, e, f] := by
    have : cs.toList.length = 6 := by simpa using hsz
    match cs.toList, this with
    | [a, b, c, d, e, f], _ => exact ⟨a, b, c, d, e, f, rfl⟩
  obtain ⟨xs, n, _, _, _, hxs, hf⟩ := DataW.trod_struct Tryz.underlying28 h
  have hxs : xs.length = 4 := hxs
  have hcells : (Value.agg cs).cells.toList = [v0, v1, v2, v3, v4, v5] := hcs
  have a0 := hf 0 _ rfl
  have a1 := hf 1 _ rfl
  have a2 := hf 2 _ rfl
  have a3 := hf 3 _ rfl
  rw [hcells] at a0 a1 a2 a3
  rw [List.getElem?_eq_getElem (by omega)] at a0 a1 a2 a3
  change DataW.trod enc Tryz.prog W 0 (fun _ => true) true n 22 (List.take (Tryz.prog.cellsOf 22) [v0, v1, v2, v3, v4, v5]) = _ at a0
  change DataW.trod enc Tryz.prog W 0 (fun _ => true) true n 23 (List.take (Tryz.prog.cellsOf 23) [v1, v2, v3, v4, v5]) = _ at a1
  change DataW.trod enc Tryz.prog W 0 (fun _ => true) true n 3 (List.take (Tryz.prog.cellsOf 3) [v2, v3, v4, v5]) = _ at a2
  change DataW.trod enc Tryz.prog W 0 (fun _ => true) true n 26 (List.take (Tryz.prog.cellsOf 26) [v3, v4, v5]) = _ at a3
  rw [c22] at a0
  rw [c23] at a1
  rw [c3] at a2
  rw [c26] at a3
  obtain ⟨ys, m, _, _, _, hys, hg⟩ := DataW.trod_struct Tryz.underlying26 a3
  have hys : ys.length = 3 := hys
  have b0 := hg 0 _ rfl
  have b1 := hg 1 _ rfl
  have b2 := hg 2 _ rfl
  rw [List.getElem?_eq_getElem (by omega)] at b0 b1 b2
  change DataW.trod enc Tryz.prog W 0 (fun _ => true) true m 3 (List.take (Tryz.prog.cellsOf 3) [v3, v4, v5]) = _ at b0
  change DataW.trod enc Tryz.prog W 0 (fun _ => true) true m 3 (List.take (Tryz.prog.cellsOf 3) [v4, v5]) = _ at b1
  change DataW.trod enc Tryz.prog W 0 (fun _ => true) true m 24 (List.take (Tryz.prog.cellsOf 24) [v5]) = _ at b2
  rw [c3] at b0 b1
  rw [c24] at b2
  obtain ⟨l0, r0, _, k0⟩ := op_ints a0
  obtain ⟨l1, r1, _, k1, hl1⟩ := op_snaps a1
  obtain ⟨m2, e2⟩ := el_int a2
  obtain ⟨m3, e3⟩ := el_int b0
  obtain ⟨m4, e4⟩ := el_int b1
  obtain ⟨l5, r5, _, k5⟩ := op_pairs b2
  simp at e2 e3 e4
  subst e2 e3 e4
  refine ⟨⟨l0, l1, m2, m3, m4, l5⟩, .agg [absV W.heap.size v0, absV W.heap.size v1, .int .i64 m2, .int .i64 m3, .int .i64 m4, absV W.heap.size v5], ?_, hl1, ?_⟩
  · exact VR.agg_mk (VRL.cons.2 ⟨_, _, r0, VRL.cons.2 ⟨_, _, r1, VRL.cons.2 ⟨_, _, VR.int, VRL.cons.2 ⟨_, _, VR.int, VRL.cons.2 ⟨_, _, VR.int, VRL.cons.2 ⟨_, _, r5, VRL.nil.2 rfl, rfl⟩, rfl⟩, rfl⟩, rfl⟩, rfl⟩, rfl⟩)
  · have hconc : concL (idSg W.heap.size) [absV W.heap.size v0, absV W.heap.size v1, .int .i64 m2, .int .i64 m3, .int .i64 m4, absV W.heap.size v5] = some cs.toList := by
      rw [hcs]; simp [concL, conc, k0, k1, k5]
    simp only [conc, hconc]; simp
end
end
end Go.Ev

namespace Go.Proofs.YtbgomaapfocbhaaGreat.rollPairs
open Go.ChangeShapes Go.WideShapes Go.ChangeAt Go.RowKit Go.Ev
theorem own : ownKnob Tryz.prog.godebug = none := by kernel_rfl
theorem laidOut : laidOutB Tryz.prog = true := by kernel_rfl
theorem baseOk : EnvOk (envOf Tryz.prog) Tryz.prog := envOk_of (by kernel_rfl) (by kernel_rfl) (Checked.mixed Tryz.checked)
theorem envOk : EnvOk E1 Tryz.prog := envV_ok baseOk fun f hf => by
  obtain rfl : f = 5 := by simpa [wk] using hf
  exact ⟨299, wakes25⟩
set_option maxRecDepth 100000 in
theorem lifted (os : Os) (started : os.Started) (H : Type) (enc : TypeId × Value → H) :
    ReturnsInHanded {} Tryz.checked os 3 .any (Rows.rollPairsSpec.pre6 enc Tryz.prog Tryz.f3 Rows.rollPairsRow.domain false) (Rows.rollPairsSpec.post enc Tryz.prog Tryz.f3 false true false false) := by
  refine law_lifted (C := Tryz.checked) started own (by kernel_rfl) Tryz.func3
    (ChangeSpec.witness6 (enc := enc) (C := Tryz.checked) false ⟨#[], #[.agg #[.slice none 0 0, .slice none 0 0, .int .i64 0, .int .i64 0, .int .i64 0, .slice none 0 0], .int .i64 0], []⟩ 12 (by kernel_rfl) (by kernel_rfl) (by kernel_rfl) (by kernel_rfl))
    (tb := 4) (by kernel_rfl) Tryz.underlying4 laidOut ?_ rfl ?_ ?_
  · intro t ht
    have ht : t = 28 ∨ t = 3 := by simpa [show Tryz.f3.params = #[28, 3] from rfl] using ht
    rcases ht with rfl | rfl <;> exact ⟨by kernel_rfl, of_decide_eq_true (by kernel_rfl)⟩
  · intro ds hd
    match ds, hd with
    | [d0, d1], _ => rfl
  · intro W args ds ps hA hval
    have hA : DataW.TrodAll enc Tryz.prog W 0 (fun _ => true) true [28, 3] args.toList ds ps := hA
    obtain ⟨v0, vs0, d0, ds0, p0, q0, hargs, rfl, rfl, h0, r0⟩ := trodAll_cons hA
    obtain ⟨v1, vs1, d1, ds1, p1, q1, rfl, rfl, rfl, h1, r1⟩ := trodAll_cons r0
    obtain ⟨rfl, rfl, rfl⟩ := trodAll_nil r1
    obtain rfl : args = #[v0, v1] := by cases args; simp_all
    obtain ⟨b1, hv1⟩ := hval 1 3 v1 rfl rfl
    obtain ⟨n, rfl, rfl, rfl, w2⟩ := open_int Tryz.underlying3 hv1 h1
    obtain ⟨s, w, hx, hl, hcx⟩ := open_state h0 (hval 0 28 v0 rfl rfl)
    refine calls_of envOk rfl (avs := [w, .int .i64 n]) ?_ (top2 (VRL.cons.2 ⟨_, _, hx, VRL.cons.2 ⟨_, _, VR.int, VRL.nil.2 rfl, rfl⟩, rfl⟩) (law3 (id := n) hl))
    exact concL_cons.2 ⟨_, _, hcx, concL_cons.2 ⟨_, _, rfl, rfl, rfl⟩, rfl⟩
set_option maxHeartbeats 4000000 in
set_option maxRecDepth 100000 in
theorem closed : joinedFacts Tryz.pinned.checked.prog 3 Tryz.f3 Rows.rollPairsSpec Rows.rollPairsRow = true := by
  unfold joinedFacts
  rw [Bool.and_eq_true, Bool.and_eq_true]
  repeat rw [Bool.and_eq_true]
  and_intros
  all_goals (as_aux_lemma => kernel_rfl)
theorem over : Rows.rollPairsRow.holds Tryz.pinned (OpenSpec.ofChange Rows.rollPairsSpec) :=
  OpenClaim.holds_of_wide 3 Tryz.f3 rfl rfl rfl rfl rfl rfl rfl ⟨rfl, rfl, rfl, rfl, rfl⟩ rfl rfl rfl rfl rfl (by kernel_rfl) Tryz.func3 closed
    (of_decide_eq_true (by kernel_rfl)) (by unfold Func.isWrapper; first | (rw [if_pos (by decide +kernel)]; kernel_rfl) | (rw [if_neg (by decide +kernel)]; exact ⟨rfl, rfl⟩))
    (fun os started H enc _ => lifted os started H enc)

/-- The statement. -/
theorem proved : Rows.RollPairsSaid := over
#print axioms proved
end Go.Proofs.YtbgomaapfocbhaaGreat.rollPairs
