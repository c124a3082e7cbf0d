/-
  The check of bytes, and the bytes of numbers, as plain arithmetic. No conditions.
-/
import Derived.Test.YtkbfagkgiogllaaGreatSmTy
set_option linter.unusedVariables false
set_option linter.unusedSimpArgs false
namespace Go.Ev.Sm
open Go.Proofs
noncomputable section
set_option maxRecDepth 100000
theorem fn337 : E1.fn 337 = some Tryz.f337 := by kernel_rfl
theorem fn297 : E1.fn 297 = some Tryz.f297 := by kernel_rfl
theorem fn219 : E1.fn 219 = some Tryz.f219 := by kernel_rfl
def eB (c : UInt8) : AV := .int .u8 (c.toNat : Int)
theorem eB_def (c : UInt8) : eB c = .int .u8 (c.toNat : Int) := rfl
attribute [go_sem] eB_def
theorem values337 {H : Hp} {bb y : Nat} {xs : List UInt8} {K : AV → Hp → Prop} (I : Nat → Hp → Prop) (hb : cellAt H bb 0 = some (.lst 1 (xs.map eB))) (hlen : xs.length < 9223372036854775807) (h0 : I 0 H)
    (hs : ∀ i (hi : i < xs.length) H', I i H' → Call (.yield y) [eB xs[i]] H' fun v H'' => (v = .bool true ∧ I (i + 1) H'') ∨ (v = .bool false ∧ K (.tuple []) H'')) (hn : ∀ H', I xs.length H' → K (.tuple []) H') :
    Call (.func 337 [] [.ptr bb 0]) [.yield y] H K := by
  refine enterE (N := 16) rfl fn337 rfl rfl rfl rfl rfl fun hwf => ?_
  simp (disch := (refine ofP ?_; first | assumption | decide | omega | (simp only [new_next, set_next] <;> omega) | with_unfolding_all exact ofR rfl | with_unfolding_all exact ofNt rfl)) only [go_sem, hb, List.length_map]
  refine loopE 65424 (by kernel_rfl) (fun r G H' => ∃ i : Nat, i ≤ xs.length ∧ r = xs.length - i ∧ G.get 7 = some (.int .i64 i) ∧ I i H') xs.length ⟨0, Nat.zero_le _, rfl, rfl, h0⟩ ?_
  rintro r G H' hG ⟨i, hi, rfl, g7, hI⟩
  by_cases hlt : i < xs.length
  · simp (disch := (refine ofP ?_; first | assumption | decide | omega | (simp only [new_next, set_next] <;> omega) | with_unfolding_all exact ofR rfl | with_unfolding_all exact ofNt rfl)) only [go_sem, g7, hG, ia_lst_map]
    refine (hs i hlt H' hI).mono ?_
    rintro v H'' (⟨rfl, hI'⟩ | ⟨rfl, hk⟩)
    · simp (disch := (refine ofP ?_; first | assumption | decide | omega | (simp only [new_next, set_next] <;> omega) | with_unfolding_all exact ofR rfl | with_unfolding_all exact ofNt rfl)) only [go_sem, g7, hG, wrap_i64]
      exact ⟨_, by omega, i + 1, hlt, rfl, rfl, hI'⟩
    · simp (disch := (refine ofP ?_; first | assumption | decide | omega | (simp only [new_next, set_next] <;> omega) | with_unfolding_all exact ofR rfl | with_unfolding_all exact ofNt rfl)) only [go_sem]
      exact .inl hk
  · simp (disch := (refine ofP ?_; first | assumption | decide | omega | (simp only [new_next, set_next] <;> omega) | with_unfolding_all exact ofR rfl | with_unfolding_all exact ofNt rfl)) only [go_sem, g7, hG]
    obtain rfl : i = xs.length := by omega
    exact .inl (hn H' hI)
theorem wrap_u64_nat (n : Nat) : wrapI .u64 (n : Int) = ((n % 18446744073709551616 : Nat) : Int) := rfl
theorem modn_u64 {n : Nat} (h : n < 18446744073709551616) : modn .u64 (n : Int) = n := by
  show (n % 18446744073709551616) = n
  exact Nat.mod_eq_of_lt h
def fnvStep (h : Nat) (c : UInt8) : Nat := ((h ^^^ c.toNat) * 1099511628211) % 18446744073709551616
def fnvMore (h : Nat) (l : List UInt8) : Nat := l.foldl fnvStep h
theorem fnvStep_lt (h : Nat) (c : UInt8) : fnvStep h c < 18446744073709551616 := Nat.mod_lt _ (by decide)
theorem fnvMore_lt {h : Nat} (hh : h < 18446744073709551616) (l : List UInt8) : fnvMore h l < 18446744073709551616 := by
  unfold fnvMore
  induction l generalizing h with
  | nil => exact hh
  | cons c l ih => exact ih (fnvStep_lt h c)
theorem fnv_step {h : Nat} (hh : h < 18446744073709551616) (c : UInt8) : wrapI .u64 (wrapI .u64 (Int.ofNat (Nat.xor (modn .u64 (h : Int)) (modn .u64 (wrapI .u64 (c.toNat : Int))))) * 1099511628211) = (fnvStep h c : Int) := by
  have hc : c.toNat < 256 := c.toNat_lt
  have e1 : wrapI .u64 (c.toNat : Int) = (c.toNat : Int) := by rw [wrap_u64_nat, Nat.mod_eq_of_lt (by omega)]
  rw [e1, modn_u64 hh, modn_u64 (by omega)]
  have hx : Nat.xor h c.toNat < 2 ^ 64 := Nat.xor_lt_two_pow hh (by omega)
  show wrapI .u64 (wrapI .u64 ((Nat.xor h c.toNat : Nat) : Int) * 1099511628211) = _
  rw [wrap_u64_nat, Nat.mod_eq_of_lt hx]
  show wrapI .u64 (((Nat.xor h c.toNat * 1099511628211 : Nat)) : Int) = _
  rw [wrap_u64_nat]; rfl
theorem fnvMore_take {h : Nat} {l : List UInt8} {i : Nat} (hi : i < l.length) : fnvMore h (l.take (i + 1)) = fnvStep (fnvMore h (l.take i)) l[i] := by
  unfold fnvMore
  rw [List.take_add_one, List.getElem?_eq_getElem hi, List.foldl_append, Option.toList_some, List.foldl_cons, List.foldl_nil]
theorem more_ok {H : Hp} {h : Nat} {l : List UInt8} {K : AV → Hp → Prop} (hh : h < 18446744073709551616) (hl : l.length < 9223372036854775807) (hk : K (.int .u64 (fnvMore h l)) H) : Call (.func 219 [] []) [.int .u64 h, .lst 1 (l.map eB)] H K := by
  refine enterE (N := 15) rfl fn219 rfl rfl rfl rfl rfl fun hwf => ?_
  simp (disch := (refine ofP ?_; first | assumption | decide | omega | (simp only [new_next, set_next] <;> omega) | with_unfolding_all exact ofR rfl | with_unfolding_all exact ofNt rfl)) only [go_sem]
  refine enterE (N := 4) rfl fn297 rfl rfl rfl rfl rfl fun _ => ?_
  simp (disch := (refine ofP ?_; first | assumption | decide | omega | (simp only [new_next, set_next] <;> omega) | with_unfolding_all exact ofR rfl | with_unfolding_all exact ofNt rfl)) only [go_sem]
  left
  simp (disch := (refine ofP ?_; first | assumption | decide | omega | (simp only [new_next, set_next] <;> omega) | with_unfolding_all exact ofR rfl | with_unfolding_all exact ofNt rfl)) only [go_sem]
  generalize hLB : Blk.loop _ _ _ _ _ _ _ _ _ = LB
  refine values337 (fun i H' => Fr H H' ∧ H.next + 3 ≤ H'.next ∧ H'.m.get H.next = some (.cells [.int .u64 (fnvMore h (l.take i))] 221 true true) ∧ H'.m.get (H.next + 1 + 1) = some LB) (by simp (disch := (refine ofP ?_; first | assumption | decide | omega | (simp only [new_next, set_next] <;> omega) | with_unfolding_all exact ofR rfl | with_unfolding_all exact ofNt rfl)) only [go_sem]) hl ?_ ?_ ?_
  · exact ⟨(((Fr.refl H).newT _).newT _).newT _, Nat.le_refl _, by simp (disch := (refine ofP ?_; first | assumption | decide | omega | (simp only [new_next, set_next] <;> omega) | with_unfolding_all exact ofR rfl | with_unfolding_all exact ofNt rfl)) only [go_sem]; rfl, by simp (disch := (refine ofP ?_; first | assumption | decide | omega | (simp only [new_next, set_next] <;> omega) | with_unfolding_all exact ofR rfl | with_unfolding_all exact ofNt rfl)) only [go_sem]⟩
  · rintro i hi H' ⟨hf, hn, h1, h2⟩
    subst hLB
    refine yieldE h2 ?_
    simp (disch := (refine ofP ?_; first | assumption | decide | omega | (simp only [new_next, set_next] <;> omega) | with_unfolding_all exact ofR rfl | with_unfolding_all exact ofNt rfl)) only [go_sem, kn h1, h2]
    refine .inl ⟨((hf.set (by omega) _).set (by omega) _).set (by omega) _, hn, ?_⟩
    have e := fnv_step (fnvMore_lt hh (l.take i)) l[i]
    rw [fnvMore_take hi, ← e]
  · rintro H' ⟨hf, hn, h1, h2⟩
    subst hLB
    simp (disch := (refine ofP ?_; first | assumption | decide | omega | (simp only [new_next, set_next] <;> omega) | with_unfolding_all exact ofR rfl | with_unfolding_all exact ofNt rfl)) only [go_sem, kn h1, h2]
    rw [List.take_length]
    exact .inr (.inl ⟨hf.set (by omega) _, _, FZ.int, hk⟩)
theorem fnvStep0_eq : fnvStep = fnvStep0 := rfl
/-- The check of bytes, for any run of this program. -/
theorem fnv_env {E : Env} (base : EnvOk (envOf Tryz.prog) Tryz.prog) (hE : EnvOk E Tryz.prog) (hz : ∀ t, (envOf Tryz.prog).ty t = E.ty t) : EnvOk (withSum E 219 (sumR fnvG)) Tryz.prog :=
  withSumR_ok (E1 := E1) hE (envV_ok base fun f hf => by cases hf) hz rfl
    (fnv_sum fun h bs hh hl => more_ok (H := noHp) (h := h) (l := bs) (K := fun v _ => v = .int .u64 ((bs.foldl fnvStep0 h : Nat) : Int)) hh hl rfl)
end
end Go.Ev.Sm
namespace Go.Ev.Sm
open Go.Proofs
noncomputable section
attribute [go_sem] Nat.zero_mul Nat.mul_one Nat.one_mul
set_option maxRecDepth 100000
theorem fn218 : E1.fn 218 = some Tryz.f218 := by kernel_rfl
theorem fn296 : E1.fn 296 = some Tryz.f296 := by kernel_rfl
theorem fn121 : E1.fn 121 = some Tryz.f121 := by kernel_rfl
/-- The bytes of a number, the lowest one first. -/
def leBytes (n : Nat) : Nat → List UInt8
  | 0 => []
  | k + 1 => UInt8.ofNat n :: leBytes (n / 256) k
theorem leBytes_len (n k : Nat) : (leBytes n k).length = k := by induction k generalizing n with
  | zero => rfl
  | succ k ih => show (leBytes (n / 256) k).length + 1 = _; rw [ih]
theorem leBytes_snoc (n k : Nat) : leBytes n (k + 1) = leBytes n k ++ [UInt8.ofNat (n / 256 ^ k)] := by
  induction k generalizing n with
  | zero => simp [leBytes]
  | succ k ih =>
    have e : n / 256 / 256 ^ k = n / 256 ^ (k + 1) := by rw [Nat.div_div_eq_div_mul, Nat.pow_succ, Nat.mul_comm]
    rw [show leBytes n (k + 1 + 1) = UInt8.ofNat n :: leBytes (n / 256) (k + 1) from rfl, ih, e]; rfl
theorem put_own {H : Hp} {n : Nat} {k : Int} {K : AV → Hp → Prop} (hn : n < 18446744073709551616) (h1 : 1 ≤ k) (h2 : k ≤ 16) (hk : ∀ v H', Acc EE H H' 5 1 v ((leBytes n k.toNat).map eB) → K v H') : Call (.func 121 [] []) [.int .u64 n, .int .i64 k] H K := by
  refine enterE (N := 22) rfl fn121 rfl rfl rfl rfl rfl fun hwf => ?_
  simp (disch := (refine ofP ?_; first | assumption | decide | omega | (simp only [new_next, set_next] <;> omega) | with_unfolding_all exact ofR rfl | with_unfolding_all exact ofNt rfl)) only [go_sem]
  refine enterE (N := 6) rfl fn218 rfl rfl rfl rfl rfl fun _ => ?_
  simp (disch := (refine ofP ?_; first | assumption | decide | omega | (simp only [new_next, set_next] <;> omega) | with_unfolding_all exact ofR rfl | with_unfolding_all exact ofNt rfl)) only [go_sem]
  left
  simp (disch := (refine ofP ?_; first | assumption | decide | omega | (simp only [new_next, set_next] <;> omega) | with_unfolding_all exact ofR rfl | with_unfolding_all exact ofNt rfl)) only [go_sem]
  refine enterE (N := 15) rfl fn296 rfl rfl rfl rfl rfl fun hw => ?_
  clear hw
  generalize hLB : Blk.loop _ _ _ _ _ _ _ _ _ = LB
  simp (disch := (refine ofP ?_; first | assumption | decide | omega | (simp only [new_next, set_next] <;> omega) | with_unfolding_all exact ofR rfl | with_unfolding_all exact ofNt rfl)) only [go_sem]
  refine loopE 32736 (by kernel_rfl) (fun r G H' => ∃ (i : Nat) (v : AV), i ≤ k.toNat ∧ r = k.toNat - i ∧ G.get 5 = some (.int .i64 i) ∧ Acc EE H H' 5 1 v ((leBytes n i).map eB) ∧ H.next + 4 ≤ H'.next ∧
    H'.m.get H.next = some (.cells [v] 34 true true) ∧ H'.m.get (H.next + 1) = some (.cells [.int .u64 ((n / 256 ^ i : Nat) : Int)] 221 true true) ∧ H'.m.get (H.next + 1 + 1 + 1) = some LB) k.toNat ?_ ?_
  · refine ⟨0, .nils, Nat.zero_le _, rfl, rfl, Acc.nil' ((((Fr.refl H).newT _).newT _).newT _ |>.newT _) ty5s (by decide) ty5g, Nat.le_refl _, ?_, ?_, ?_⟩
    · simp (disch := (refine ofP ?_; first | assumption | decide | omega | (simp only [new_next, set_next] <;> omega) | with_unfolding_all exact ofR rfl | with_unfolding_all exact ofNt rfl)) only [go_sem]
    · simp (disch := (refine ofP ?_; first | assumption | decide | omega | (simp only [new_next, set_next] <;> omega) | with_unfolding_all exact ofR rfl | with_unfolding_all exact ofNt rfl)) only [go_sem, Nat.pow_zero, Nat.div_one]
    · simp (disch := (refine ofP ?_; first | assumption | decide | omega | (simp only [new_next, set_next] <;> omega) | with_unfolding_all exact ofR rfl | with_unfolding_all exact ofNt rfl)) only [go_sem]
  rintro r G H' hG ⟨i, v, hi, rfl, g5, ho, hnx, m0, m1, m3⟩
  by_cases hlt : i < k.toNat
  · simp (disch := (refine ofP ?_; first | assumption | decide | omega | (simp only [new_next, set_next] <;> omega) | with_unfolding_all exact ofR rfl | with_unfolding_all exact ofNt rfl)) only [go_sem, g5, hG, kn m1]
    subst hLB
    refine yieldE m3 ?_
    have hlen : ((leBytes n i).map eB).length < 1048576 := by rw [List.length_map, leBytes_len]; omega
    have hA := fun z => (ho.other (z := z) m3 rfl (by omega)).push hlen
    have hP := fun (z : Blk) (x : AV) (hx : oneC x = true) => (ho.other (z := z) m3 rfl (by omega)).push_get hlen (new := [x]) rfl (by rw [flatL_cons', hx]; rfl)
    have hn := fun z x hx => (hP z x hx).1
    have hg3 := fun z x hx (hz : notE 5 z = true) => (hP z x hx).2 (H.next + 1 + 1 + 1) z (get_set_q rfl) hz hnx
    have hg0 := fun z x hx => (hP z x hx).2 H.next _ ((get_set_n (by omega)).trans m0) rfl (show H.next < H'.next by omega)
    have hg1 := fun z x hx => (hP z x hx).2 (H.next + 1) _ ((get_set_n (by omega)).trans m1) rfl (show H.next + 1 < H'.next by omega)
    simp (disch := (refine ofP ?_; first | assumption | decide | omega | (simp only [new_next, set_next] <;> omega) | with_unfolding_all exact ofR rfl | with_unfolding_all exact ofNt rfl)) only [go_sem, kn m0, m3, hA, hg3, hg0, hg1, g5, hG, wrap_i64, shr_lit (ki := .u64) (k' := .u64) (s := 8) rfl]
    have eW : wrapI .u8 ((n / 256 ^ i : Nat) : Int) = ((UInt8.ofNat (n / 256 ^ i)).toNat : Int) := by rw [wrap_u8_nat]; simp
    have hx1 : oneC (.int .u8 (wrapI .u8 ((n / 256 ^ i : Nat) : Int))) = true := rfl
    refine ⟨_, by omega, i + 1, .slice (H'.next + 1) 0 ((List.map eB (leBytes n i)).length + 1) (.rest 0 1 ((List.map eB (leBytes n i)).length + 1)), hlt, rfl, rfl, ?_, ?_, ?_, ?_⟩
    · rw [leBytes_snoc, List.map_append]
      exact (((Acc.other ((ho.other m3 rfl (by omega)).pushed hlen (eB (UInt8.ofNat (n / 256 ^ i))) (by rw [eW]; rfl) rfl rfl) (hg0 _ _ hx1) rfl (Nat.le_refl _)).other ((get_set_n (by omega)).trans (hg3 _ _ hx1 rfl)) rfl (by omega)).other ((get_set_n (by omega)).trans ((get_set_n (by omega)).trans (hg1 _ _ hx1))) rfl (by omega))
    · show _ ≤ (puH _ _ _ _ _).next
      rw [hn _ _ hx1]
      exact Nat.le_trans hnx (Nat.le_add_right _ 2)
    · rfl
    · rw [show n / 256 ^ (i + 1) = n / 256 ^ i / 2 ^ 8 from by rw [Nat.pow_succ, Nat.div_div_eq_div_mul]]
  · simp (disch := (refine ofP ?_; first | assumption | decide | omega | (simp only [new_next, set_next] <;> omega) | with_unfolding_all exact ofR rfl | with_unfolding_all exact ofNt rfl)) only [go_sem, g5, hG]
    obtain rfl : i = k.toNat := by omega
    subst hLB
    refine .inl ?_
    simp (disch := (refine ofP ?_; first | assumption | decide | omega | (simp only [new_next, set_next] <;> omega) | with_unfolding_all exact ofR rfl | with_unfolding_all exact ofNt rfl)) only [go_sem, m3, kn m0]
    exact .inl (hk _ _ (ho.other m3 rfl (by omega)))
theorem leB_eq (n k : Nat) : leB n k = leBytes n k := by induction k generalizing n with
  | zero => rfl
  | succ k ih => show UInt8.ofNat n :: leB (n / 256) k = UInt8.ofNat n :: leBytes (n / 256) k; rw [ih]
/-- The bytes of numbers, for any run of this program. -/
theorem put_env {E : Env} (base : EnvOk (envOf Tryz.prog) Tryz.prog) (hE : EnvOk E Tryz.prog) (hz : ∀ t, (envOf Tryz.prog).ty t = E.ty t) : EnvOk (withSum E 121 (sumO 5 1 putG)) Tryz.prog :=
  withSumO_ok (E1 := E1) hE (envV_ok base fun f hf => by cases hf) hz rfl (show sizeT E1 5 = 1 from ty5s)
    (put_sum fun n k hn h1 h2 => put_own (H := noHp) hn (by omega) (by omega) fun v H' h => by
      have := h.own
      rw [List.length_map, leBytes_len] at this
      rw [leB_eq]
      have e : catL (List.map eB (leBytes n k)) = (leBytes n k).map fun c => AV.int .u8 (c.toNat : Int) := catL_ints _
      rw [← e]
      exact this)
end
end Go.Ev.Sm
