/-
  Sets of numbers, tables, chains of snapshots: what the program and the document compute. No conditions.
-/
import Derived.Test.YtbgomaapfocbhaaGreatTy
set_option linter.unusedVariables false
set_option linter.unusedSimpArgs false
namespace Go.Ev
open Go.Proofs
noncomputable section
set_option maxRecDepth 100000
attribute [go_sem] Nat.mul_one Nat.one_mul Nat.zero_mul
def eB (c : UInt8) : AV := .int .u8 (c.toNat : Int)
theorem eB_def (c : UInt8) : eB c = .int .u8 (c.toNat : Int) := rfl
attribute [go_sem] eB_def
def eI (n : Int) : AV := .int .i64 n
theorem eI_def (n : Int) : eI n = .int .i64 n := rfl
theorem cells_eI (n : Int) : (eI n).cells = [.int .i64 n] := rfl
attribute [go_sem] cells_eI
/-- Which numbers are in a set of bytes. -/
def hasB (b : List UInt8) (n : Nat) : Bool := decide (((b.getD (n / 8) 0).toNat / 2 ^ (n % 8)) % 2 = 1)
theorem hasB_f {b : List UInt8} {n : Nat} (h : ¬ n / 8 < b.length) : hasB b n = false := by
  unfold hasB
  rw [List.getD_eq_getElem?_getD, List.getElem?_eq_none (by omega)]
  simp
theorem tdiv8 {n : Nat} : Int.tdiv (n : Int) 8 = ((n / 8 : Nat) : Int) := rfl
theorem tmod8 {n : Nat} : Int.tmod (n : Int) 8 = ((n % 8 : Nat) : Int) := rfl
theorem shr_nat {ki k' : IntKind} {m s : Nat} (h : s ≤ bitsn ki) : binInt .shr ki (m : Int) (.int k' (s : Int)) = some (.int ki ((m / 2 ^ s : Nat) : Int)) := by
  show ((natI (s : Int)).obind fun n => shiftBy .shr ki (m : Int) (minN n (bitsn ki))) = _
  rw [natI_nat]
  show some (AV.int ki (Int.fdiv (m : Int) (.ofNat (Nat.pow 2 (minN s (bitsn ki)))))) = _
  have : minN s (bitsn ki) = s := by unfold minN; rw [ble_iff.2 h]; rfl
  rw [this, show ((m : Int).fdiv (Int.ofNat (Nat.pow 2 s))) = ((m / 2 ^ s : Nat) : Int) from (Int.ofNat_fdiv m (2 ^ s)).symm]
theorem quo8 {x : Int} : binInt .quo .i64 x (.int .i64 8) = some (.int .i64 (wrapI .i64 (x.tdiv 8))) := bi_quo (by decide)
theorem rem8 {x : Int} : binInt .rem .i64 x (.int .i64 8) = some (.int .i64 (x.tmod 8)) := bi_rem (by decide)
attribute [go_sem] quo8 rem8
theorem and1_u8 {m : Nat} (h : m < 256) : wrapI .u8 (.ofNat (Nat.land (modn .u8 (m : Int)) (modn .u8 1))) = ((m % 2 : Nat) : Int) := by
  have e : modn .u8 (m : Int) = m := by show m % 256 = m; exact Nat.mod_eq_of_lt h
  have e1 : modn .u8 1 = 1 := rfl
  rw [e, e1]
  have : Nat.land m 1 = m % 2 := Nat.and_one_is_mod m
  rw [this]
  show wrapI .u8 ((m % 2 : Nat) : Int) = _
  rw [wrap_u8_nat, Nat.mod_eq_of_lt (by omega)]
theorem div_pow_lt {a k : Nat} (h : a < 256) : a / 2 ^ k < 256 := Nat.lt_of_le_of_lt (Nat.div_le_self _ _) h
theorem fn81 : E1.fn 81 = some Tryz.f81 := by kernel_rfl
theorem fn61 : E1.fn 61 = some Tryz.f61 := by kernel_rfl
theorem has81 {H : Hp} {b : List UInt8} {n : Nat} {K : AV → Hp → Prop} (hn : n < 4611686018427387904) (hk : K (.bool (hasB b n)) H) : Call (.func 81 [] []) [.lst 1 (b.map eB), .int .i64 n] H K := by
  refine enterE (N := 26) rfl fn81 rfl rfl rfl rfl rfl fun hwf => ?_
  by_cases h : n / 8 < b.length
  · have hb : ((b[n / 8]).toNat / 2 ^ (n % 8)) < 256 := div_pow_lt (b[n / 8]).toNat_lt
    have e : hasB b n = decide ((((b[n / 8].toNat / 2 ^ (n % 8)) % 2 : Nat) : Int) = 1) := by
      unfold hasB
      rw [List.getD_eq_getElem?_getD, List.getElem?_eq_getElem h, Option.getD_some]
      exact decide_eq_decide.2 ⟨fun h => by omega, fun h => by omega⟩
    rw [e] at hk
    simp (disch := (refine ofP ?_; first | assumption | decide | omega | (simp only [new_next, set_next] <;> omega) | with_unfolding_all exact ofR rfl | with_unfolding_all exact ofNt rfl)) only [go_sem, tdiv8, tmod8, wrap_i64, ia_lst_map, List.length_map, shr_nat (ki := .u8) (k' := .i64) (show n % 8 ≤ bitsn .u8 by rw [bits_u8]; omega), and1_u8]
    exact .inl hk
  · rw [hasB_f h] at hk
    simp (disch := (refine ofP ?_; first | assumption | decide | omega | (simp only [new_next, set_next] <;> omega) | with_unfolding_all exact ofR rfl | with_unfolding_all exact ofNt rfl)) only [go_sem, tdiv8, tmod8, wrap_i64, ia_lst_map, List.length_map]
    exact .inl hk
theorem has61 {H : Hp} {b : List UInt8} {n : Nat} {K : AV → Hp → Prop} (hn : n < 4611686018427387904) (hk : K (.bool (hasB b n)) H) : Call (.func 61 [] []) [.lst 1 (b.map eB), .int .i64 n] H K := by
  refine enterE (N := 27) rfl fn61 rfl rfl rfl rfl rfl fun hwf => ?_
  by_cases h : n / 8 < b.length
  · have hb : ((b[n / 8]).toNat / 2 ^ (n % 8)) < 256 := div_pow_lt (b[n / 8]).toNat_lt
    have e : hasB b n = decide ((((b[n / 8].toNat / 2 ^ (n % 8)) % 2 : Nat) : Int) = 1) := by
      unfold hasB
      rw [List.getD_eq_getElem?_getD, List.getElem?_eq_getElem h, Option.getD_some]
      exact decide_eq_decide.2 ⟨fun h => by omega, fun h => by omega⟩
    rw [e] at hk
    simp (disch := (refine ofP ?_; first | assumption | decide | omega | (simp only [new_next, set_next] <;> omega) | with_unfolding_all exact ofR rfl | with_unfolding_all exact ofNt rfl)) only [go_sem, tdiv8, tmod8, wrap_i64, show wrapI .u64 ((n % 8 : Nat) : Int) = ((n % 8 : Nat) : Int) from by rw [show wrapI .u64 ((n % 8 : Nat) : Int) = ((n % 8 % 18446744073709551616 : Nat) : Int) from rfl, Nat.mod_eq_of_lt (by omega)], ia_lst_map, List.length_map, shr_nat (ki := .u8) (k' := .u64) (show n % 8 ≤ bitsn .u8 by rw [bits_u8]; omega), and1_u8]
    exact .inl hk
  · rw [hasB_f h] at hk
    simp (disch := (refine ofP ?_; first | assumption | decide | omega | (simp only [new_next, set_next] <;> omega) | with_unfolding_all exact ofR rfl | with_unfolding_all exact ofNt rfl)) only [go_sem, tdiv8, tmod8, wrap_i64, ia_lst_map, List.length_map]
    exact .inl hk
end
end Go.Ev

namespace Go.Ev
open Go.Proofs
noncomputable section
set_option maxRecDepth 100000
/-- The place of the first one of which something is true; -1: there is none. -/
def fidx {α : Type} (p : α → Bool) (l : List α) : Int := match l.findIdx? p with | some i => (i : Int) | none => -1
theorem fidx_at {α : Type} {p : α → Bool} {l : List α} {i : Nat} (hi : i < l.length) (hp : p l[i] = true) (hno : ∀ j (hj : j < l.length), j < i → p l[j] = false) : fidx p l = i := by
  have : l.findIdx? p = some i := by
    rw [List.findIdx?_eq_some_iff_getElem]
    exact ⟨hi, hp, fun j hj => by rw [hno j (by omega) hj]; decide⟩
  unfold fidx
  rw [this]
theorem fidx_no {α : Type} {p : α → Bool} {l : List α} (hno : ∀ j (hj : j < l.length), p l[j] = false) : fidx p l = -1 := by
  have : l.findIdx? p = none := by
    rw [List.findIdx?_eq_none_iff]
    intro x hx
    obtain ⟨j, hj, rfl⟩ := List.getElem_of_mem hx
    exact hno j hj
  unfold fidx
  rw [this]
theorem fidx_cases {α : Type} (p : α → Bool) (l : List α) : (fidx p l = -1 ∧ ∀ j (hj : j < l.length), p l[j] = false) ∨ ∃ i, ∃ hi : i < l.length, fidx p l = i ∧ p l[i] = true := by
  unfold fidx
  cases h : l.findIdx? p with
  | none => exact .inl ⟨rfl, fun j hj => List.findIdx?_eq_none_iff.1 h _ (List.getElem_mem hj)⟩
  | some i =>
    obtain ⟨hi, hp, _⟩ := List.findIdx?_eq_some_iff_getElem.1 h
    exact .inr ⟨i, hi, rfl, hp⟩
/-- A pair of a table: the block, and where it stands. -/
def ePr (p : Int × Int) : AV := .agg [.int .i64 p.1, .int .i64 p.2]
theorem ePr_def (p : Int × Int) : ePr p = .agg [.int .i64 p.1, .int .i64 p.2] := rfl
theorem cells_ePr (p : Int × Int) : (ePr p).cells = [.int .i64 p.1, .int .i64 p.2] := rfl
/-- A snapshot. -/
structure Snp where
  id : Int
  ch : List UInt8
  tb : List (Int × Int)
def eSnap (s : Snp) : AV := .agg [.int .i64 s.id, .lst 1 (s.ch.map eB), .lst 2 (s.tb.map ePr)]
theorem eSnap_def (s : Snp) : eSnap s = .agg [.int .i64 s.id, .lst 1 (s.ch.map eB), .lst 2 (s.tb.map ePr)] := rfl
theorem cells_eSnap (s : Snp) : (eSnap s).cells = [.int .i64 s.id, .lst 1 (s.ch.map eB), .lst 2 (s.tb.map ePr)] := rfl
attribute [go_sem] cells_ePr cells_eSnap
theorem fn54 : E1.fn 54 = some Tryz.f54 := by kernel_rfl
theorem fn53 : E1.fn 53 = some Tryz.f53 := by kernel_rfl
theorem fn19 : E1.fn 19 = some Tryz.f19 := by kernel_rfl
theorem fn25 : E1.fn 25 = some Tryz.f25 := by kernel_rfl
theorem fn164 : E1.fn 164 = some Tryz.f164 := by kernel_rfl
theorem fn163 : E1.fn 163 = some Tryz.f163 := by kernel_rfl
theorem fn110 : E1.fn 110 = some Tryz.f110 := by kernel_rfl
theorem fn60 : E1.fn 60 = some Tryz.f60 := by kernel_rfl
theorem fn63 : E1.fn 63 = some Tryz.f63 := by kernel_rfl
theorem isId54 {H : Hp} {b : Nat} {id : Int} {s : Snp} {K : AV → Hp → Prop} (hb : H.m.get b = some (.cells [.int .i64 id] 3 true true)) (hlt : b < H.next) (hk : K (.bool (decide (s.id = id))) H) : Call (.func 54 [] [.ptr b 0]) [eSnap s] H K := by
  rw [eSnap_def]
  refine enterE (N := 8) rfl fn54 rfl rfl rfl rfl rfl fun hwf => ?_
  simp (disch := (refine ofP ?_; first | assumption | decide | omega | (simp only [new_next, set_next] <;> omega) | with_unfolding_all exact ofR rfl | with_unfolding_all exact ofNt rfl)) only [go_sem, fun z => get_new_n (H := H) (x := z) (Nat.ne_of_lt hlt), hb]
  exact .inr (.inl ⟨(Fr.refl H).newT _, _, FZ.scal rfl, hk⟩)
theorem isBlk164 {H : Hp} {b : Nat} {id : Int} {s : Int × Int} {K : AV → Hp → Prop} (hb : H.m.get b = some (.cells [.int .i64 id] 3 true true)) (hlt : b < H.next) (hk : K (.bool (decide (s.1 = id))) H) : Call (.func 164 [] [.ptr b 0]) [ePr s] H K := by
  rw [ePr_def]
  refine enterE (N := 8) rfl fn164 rfl rfl rfl rfl rfl fun hwf => ?_
  simp (disch := (refine ofP ?_; first | assumption | decide | omega | (simp only [new_next, set_next] <;> omega) | with_unfolding_all exact ofR rfl | with_unfolding_all exact ofNt rfl)) only [go_sem, fun z => get_new_n (H := H) (x := z) (Nat.ne_of_lt hlt), hb]
  exact .inr (.inl ⟨(Fr.refl H).newT _, _, FZ.scal rfl, hk⟩)
theorem idx53 {H : Hp} {b : Nat} {id : Int} {l : List Snp} {K : AV → Hp → Prop} (hb : H.m.get b = some (.cells [.int .i64 id] 3 true true)) (hlt0 : b < H.next) (hl : l.length < 4611686018427387904) (hk : K (.int .i64 (fidx (fun s => decide (s.id = id)) l)) H) : Call (.func 53 [] []) [.lst 3 (l.map eSnap), .func 54 [] [.ptr b 0]] H K := by
  refine enterE (N := 19) rfl fn53 rfl rfl rfl rfl rfl fun hwf => ?_
  simp (disch := (refine ofP ?_; first | assumption | decide | omega | (simp only [new_next, set_next] <;> omega) | with_unfolding_all exact ofR rfl | with_unfolding_all exact ofNt rfl)) only [go_sem, List.length_map]
  refine loopE 524080 (by kernel_rfl) (fun r G H' => H' = H ∧ ∃ i : Nat, i ≤ l.length ∧ r = l.length - i ∧ G.get 8 = some (.int .i64 i) ∧ ∀ j (hj : j < l.length), j < i → decide (l[j].id = id) = false) l.length ⟨rfl, 0, Nat.zero_le _, rfl, rfl, fun j _ h => absurd h (by omega)⟩ ?_
  rintro r G H' hG ⟨rfl, i, hi, rfl, g8, hno⟩
  by_cases hlt : i < l.length
  · simp (disch := (refine ofP ?_; first | assumption | decide | omega | (simp only [new_next, set_next] <;> omega) | with_unfolding_all exact ofR rfl | with_unfolding_all exact ofNt rfl)) only [go_sem, g8, hG, ia_lst_map]
    refine isId54 hb hlt0 ?_
    by_cases hp : l[i].id = id
    · simp (disch := (refine ofP ?_; first | assumption | decide | omega | (simp only [new_next, set_next] <;> omega) | with_unfolding_all exact ofR rfl | with_unfolding_all exact ofNt rfl)) only [go_sem, decide_t hp, g8, hG]
      rw [fidx_at hlt (decide_t hp) hno] at hk
      exact .inl hk
    · simp (disch := (refine ofP ?_; first | assumption | decide | omega | (simp only [new_next, set_next] <;> omega) | with_unfolding_all exact ofR rfl | with_unfolding_all exact ofNt rfl)) only [go_sem, decide_f hp, g8, hG, wrap_i64]
      refine ⟨_, by omega, i + 1, hlt, rfl, rfl, fun j hj h => ?_⟩
      by_cases hji : j = i
      · subst hji; exact decide_f hp
      · exact hno j hj (by omega)
  · simp (disch := (refine ofP ?_; first | assumption | decide | omega | (simp only [new_next, set_next] <;> omega) | with_unfolding_all exact ofR rfl | with_unfolding_all exact ofNt rfl)) only [go_sem, g8, hG]
    rw [fidx_no fun j hj => hno j hj (by omega)] at hk
    exact .inl hk
theorem index19 {H : Hp} {id : Int} {l : List Snp} {K : AV → Hp → Prop} (hl : l.length < 4611686018427387904) (hk : K (.int .i64 (fidx (fun s => decide (s.id = id)) l)) H) : Call (.func 19 [] []) [.lst 3 (l.map eSnap), .int .i64 id] H K := by
  refine enterE (N := 8) rfl fn19 rfl rfl rfl rfl rfl fun hwf => ?_
  simp (disch := (refine ofP ?_; first | assumption | decide | omega | (simp only [new_next, set_next] <;> omega) | with_unfolding_all exact ofR rfl | with_unfolding_all exact ofNt rfl)) only [go_sem]
  refine idx53 (id := id) (by simp (disch := (refine ofP ?_; first | assumption | decide | omega | (simp only [new_next, set_next] <;> omega) | with_unfolding_all exact ofR rfl | with_unfolding_all exact ofNt rfl)) only [go_sem]) (by simp (disch := (refine ofP ?_; first | assumption | decide | omega | (simp only [new_next, set_next] <;> omega) | with_unfolding_all exact ofR rfl | with_unfolding_all exact ofNt rfl)) only [go_sem]; omega) hl ?_
  simp (disch := (refine ofP ?_; first | assumption | decide | omega | (simp only [new_next, set_next] <;> omega) | with_unfolding_all exact ofR rfl | with_unfolding_all exact ofNt rfl)) only [go_sem]
  exact .inr (.inl ⟨(Fr.refl H).newT _, _, FZ.scal rfl, hk⟩)
theorem index25 {H : Hp} {id : Int} {l : List Snp} {K : AV → Hp → Prop} (hl : l.length < 4611686018427387904) (hk : K (.int .i64 (fidx (fun s => decide (s.id = id)) l)) H) : Call (.func 25 [] []) [.lst 3 (l.map eSnap), .int .i64 id] H K := by
  refine enterE (N := 20) rfl fn25 rfl rfl rfl rfl rfl fun hwf => ?_
  simp (disch := (refine ofP ?_; first | assumption | decide | omega | (simp only [new_next, set_next] <;> omega) | with_unfolding_all exact ofR rfl | with_unfolding_all exact ofNt rfl)) only [go_sem, List.length_map]
  refine loopE 1048560 (by kernel_rfl) (fun r G H' => H' = H ∧ ∃ i : Nat, i ≤ l.length ∧ r = l.length - i ∧ G.get 5 = some (.int .i64 i) ∧ ∀ j (hj : j < l.length), j < i → decide (l[j].id = id) = false) l.length ⟨rfl, 0, Nat.zero_le _, rfl, rfl, fun j _ h => absurd h (by omega)⟩ ?_
  rintro r G H' hG ⟨rfl, i, hi, rfl, g5, hno⟩
  by_cases hlt : i < l.length
  · by_cases hp : l[i].id = id
    · simp (disch := (refine ofP ?_; first | assumption | decide | omega | (simp only [new_next, set_next] <;> omega) | with_unfolding_all exact ofR rfl | with_unfolding_all exact ofNt rfl)) only [go_sem, decide_t hp, g5, hG, ia_lst_map, List.length_map]
      rw [fidx_at hlt (decide_t hp) hno] at hk
      exact .inl hk
    · simp (disch := (refine ofP ?_; first | assumption | decide | omega | (simp only [new_next, set_next] <;> omega) | with_unfolding_all exact ofR rfl | with_unfolding_all exact ofNt rfl)) only [go_sem, decide_f hp, g5, hG, wrap_i64, ia_lst_map, List.length_map]
      refine ⟨_, by omega, i + 1, hlt, rfl, rfl, fun j hj h => ?_⟩
      by_cases hji : j = i
      · subst hji; exact decide_f hp
      · exact hno j hj (by omega)
  · simp (disch := (refine ofP ?_; first | assumption | decide | omega | (simp only [new_next, set_next] <;> omega) | with_unfolding_all exact ofR rfl | with_unfolding_all exact ofNt rfl)) only [go_sem, g5, hG, List.length_map]
    rw [fidx_no fun j hj => hno j hj (by omega)] at hk
    exact .inl hk
/-- Where a block's first pair is. -/
def tIx (l : List (Int × Int)) (b : Int) : Int := fidx (fun p => decide (p.1 = b)) l
theorem idx163 {H : Hp} {b : Nat} {id : Int} {l : List (Int × Int)} {K : AV → Hp → Prop} (hb : H.m.get b = some (.cells [.int .i64 id] 3 true true)) (hlt0 : b < H.next) (hl : l.length < 4611686018427387904) (hk : K (.int .i64 (tIx l id)) H) : Call (.func 163 [] []) [.lst 2 (l.map ePr), .func 164 [] [.ptr b 0]] H K := by
  refine enterE (N := 19) rfl fn163 rfl rfl rfl rfl rfl fun hwf => ?_
  simp (disch := (refine ofP ?_; first | assumption | decide | omega | (simp only [new_next, set_next] <;> omega) | with_unfolding_all exact ofR rfl | with_unfolding_all exact ofNt rfl)) only [go_sem, List.length_map]
  refine loopE 524080 (by kernel_rfl) (fun r G H' => H' = H ∧ ∃ i : Nat, i ≤ l.length ∧ r = l.length - i ∧ G.get 8 = some (.int .i64 i) ∧ ∀ j (hj : j < l.length), j < i → decide (l[j].1 = id) = false) l.length ⟨rfl, 0, Nat.zero_le _, rfl, rfl, fun j _ h => absurd h (by omega)⟩ ?_
  rintro r G H' hG ⟨rfl, i, hi, rfl, g8, hno⟩
  by_cases hlt : i < l.length
  · simp (disch := (refine ofP ?_; first | assumption | decide | omega | (simp only [new_next, set_next] <;> omega) | with_unfolding_all exact ofR rfl | with_unfolding_all exact ofNt rfl)) only [go_sem, g8, hG, ia_lst_map]
    refine isBlk164 hb hlt0 ?_
    by_cases hp : l[i].1 = id
    · simp (disch := (refine ofP ?_; first | assumption | decide | omega | (simp only [new_next, set_next] <;> omega) | with_unfolding_all exact ofR rfl | with_unfolding_all exact ofNt rfl)) only [go_sem, decide_t hp, g8, hG]
      unfold tIx at hk
      rw [fidx_at hlt (decide_t hp) hno] at hk
      exact .inl hk
    · simp (disch := (refine ofP ?_; first | assumption | decide | omega | (simp only [new_next, set_next] <;> omega) | with_unfolding_all exact ofR rfl | with_unfolding_all exact ofNt rfl)) only [go_sem, decide_f hp, g8, hG, wrap_i64]
      refine ⟨_, by omega, i + 1, hlt, rfl, rfl, fun j hj h => ?_⟩
      by_cases hji : j = i
      · subst hji; exact decide_f hp
      · exact hno j hj (by omega)
  · simp (disch := (refine ofP ?_; first | assumption | decide | omega | (simp only [new_next, set_next] <;> omega) | with_unfolding_all exact ofR rfl | with_unfolding_all exact ofNt rfl)) only [go_sem, g8, hG]
    unfold tIx at hk
    rw [fidx_no fun j hj => hno j hj (by omega)] at hk
    exact .inl hk
theorem tindex110 {H : Hp} {id : Int} {l : List (Int × Int)} {K : AV → Hp → Prop} (hl : l.length < 4611686018427387904) (hk : K (.int .i64 (tIx l id)) H) : Call (.func 110 [] []) [.lst 2 (l.map ePr), .int .i64 id] H K := by
  refine enterE (N := 8) rfl fn110 rfl rfl rfl rfl rfl fun hwf => ?_
  simp (disch := (refine ofP ?_; first | assumption | decide | omega | (simp only [new_next, set_next] <;> omega) | with_unfolding_all exact ofR rfl | with_unfolding_all exact ofNt rfl)) only [go_sem]
  refine idx163 (id := id) (by simp (disch := (refine ofP ?_; first | assumption | decide | omega | (simp only [new_next, set_next] <;> omega) | with_unfolding_all exact ofR rfl | with_unfolding_all exact ofNt rfl)) only [go_sem]) (by simp (disch := (refine ofP ?_; first | assumption | decide | omega | (simp only [new_next, set_next] <;> omega) | with_unfolding_all exact ofR rfl | with_unfolding_all exact ofNt rfl)) only [go_sem]; omega) hl ?_
  simp (disch := (refine ofP ?_; first | assumption | decide | omega | (simp only [new_next, set_next] <;> omega) | with_unfolding_all exact ofR rfl | with_unfolding_all exact ofNt rfl)) only [go_sem]
  exact .inr (.inl ⟨(Fr.refl H).newT _, _, FZ.scal rfl, hk⟩)
theorem find63 {H : Hp} {id : Int} {l : List (Int × Int)} {K : AV → Hp → Prop} (hl : l.length < 4611686018427387904) (hk : K (.int .i64 (tIx l id)) H) : Call (.func 63 [] []) [.lst 2 (l.map ePr), .int .i64 id] H K := by
  refine enterE (N := 20) rfl fn63 rfl rfl rfl rfl rfl fun hwf => ?_
  simp (disch := (refine ofP ?_; first | assumption | decide | omega | (simp only [new_next, set_next] <;> omega) | with_unfolding_all exact ofR rfl | with_unfolding_all exact ofNt rfl)) only [go_sem, List.length_map]
  refine loopE 1048560 (by kernel_rfl) (fun r G H' => H' = H ∧ ∃ i : Nat, i ≤ l.length ∧ r = l.length - i ∧ G.get 5 = some (.int .i64 i) ∧ ∀ j (hj : j < l.length), j < i → decide (l[j].1 = id) = false) l.length ⟨rfl, 0, Nat.zero_le _, rfl, rfl, fun j _ h => absurd h (by omega)⟩ ?_
  rintro r G H' hG ⟨rfl, i, hi, rfl, g5, hno⟩
  unfold tIx at hk
  by_cases hlt : i < l.length
  · by_cases hp : l[i].1 = id
    · simp (disch := (refine ofP ?_; first | assumption | decide | omega | (simp only [new_next, set_next] <;> omega) | with_unfolding_all exact ofR rfl | with_unfolding_all exact ofNt rfl)) only [go_sem, decide_t hp, g5, hG, ia_lst_map, List.length_map]
      rw [fidx_at hlt (decide_t hp) hno] at hk
      exact .inl hk
    · simp (disch := (refine ofP ?_; first | assumption | decide | omega | (simp only [new_next, set_next] <;> omega) | with_unfolding_all exact ofR rfl | with_unfolding_all exact ofNt rfl)) only [go_sem, decide_f hp, g5, hG, wrap_i64, ia_lst_map, List.length_map]
      refine ⟨_, by omega, i + 1, hlt, rfl, rfl, fun j hj h => ?_⟩
      by_cases hji : j = i
      · subst hji; exact decide_f hp
      · exact hno j hj (by omega)
  · simp (disch := (refine ofP ?_; first | assumption | decide | omega | (simp only [new_next, set_next] <;> omega) | with_unfolding_all exact ofR rfl | with_unfolding_all exact ofNt rfl)) only [go_sem, g5, hG, List.length_map]
    rw [fidx_no fun j hj => hno j hj (by omega)] at hk
    exact .inl hk
/-- Where a block stands. -/
def tAt (l : List (Int × Int)) (b : Int) : Option Int := if 0 ≤ tIx l b then some (l.getD (tIx l b).toNat (0, 0)).2 else none
theorem tAt_cases (l : List (Int × Int)) (b : Int) : (tIx l b = -1 ∧ tAt l b = none) ∨ ∃ i, ∃ hi : i < l.length, tIx l b = i ∧ tAt l b = some l[i].2 := by
  unfold tAt
  rcases fidx_cases (fun p => decide (p.1 = b)) l with ⟨h, _⟩ | ⟨i, hi, h, _⟩
  · left
    have h : tIx l b = -1 := h
    rw [h]; exact ⟨rfl, rfl⟩
  · right
    have h : tIx l b = i := h
    refine ⟨i, hi, h, ?_⟩
    rw [h, if_pos (by omega), Int.toNat_natCast, getD_lt hi]
def eAt : Option Int → AV
  | none => .tuple [.int .i64 0, .bool false]
  | some a => .tuple [.int .i64 a, .bool true]
theorem find60 {H : Hp} {id : Int} {l : List (Int × Int)} {K : AV → Hp → Prop} (hl : l.length < 4611686018427387904) (hk : K (eAt (tAt l id)) H) : Call (.func 60 [] []) [.lst 2 (l.map ePr), .int .i64 id] H K := by
  refine enterE (N := 17) rfl fn60 rfl rfl rfl rfl rfl fun hwf => ?_
  simp (disch := (refine ofP ?_; first | assumption | decide | omega | (simp only [new_next, set_next] <;> omega) | with_unfolding_all exact ofR rfl | with_unfolding_all exact ofNt rfl)) only [go_sem]
  refine tindex110 hl ?_
  rcases tAt_cases l id with ⟨h, h2⟩ | ⟨i, hi, h, h2⟩
  · rw [h2] at hk
    simp (disch := (refine ofP ?_; first | assumption | decide | omega | (simp only [new_next, set_next] <;> omega) | with_unfolding_all exact ofR rfl | with_unfolding_all exact ofNt rfl)) only [go_sem, h]
    exact .inl hk
  · rw [h2] at hk
    simp (disch := (refine ofP ?_; first | assumption | decide | omega | (simp only [new_next, set_next] <;> omega) | with_unfolding_all exact ofR rfl | with_unfolding_all exact ofNt rfl)) only [go_sem, h, ia_lst_map]
    exact .inl hk
end
end Go.Ev

namespace Go.Ev
open Go.Proofs
noncomputable section
set_option maxRecDepth 100000
theorem fn106 : E1.fn 106 = some Tryz.f106 := by kernel_rfl
theorem fn58 : E1.fn 58 = some Tryz.f58 := by kernel_rfl
theorem fn62 : E1.fn 62 = some Tryz.f62 := by kernel_rfl
theorem eB_one (l : List UInt8) : ∀ x ∈ l.map eB, x.cells.length = 1 := fun x hx => by
  obtain ⟨c, _, rfl⟩ := List.mem_map.1 hx; rfl
theorem eB_flat (l : List UInt8) : flatL (catL (l.map eB)) = true := by
  rw [catL_map (g := fun c => [eB c]) fun _ => rfl]
  induction l with
  | nil => rfl
  | cons c l ih => exact ih
theorem clone106_e (H1 : Hp) (c o : Nat) (k : Cap) {K : AV → Hp → Prop} (hk : K (.slice H1.next 0 0 (.ex 0)) (newBlk H1 (.cells [] 5 true true)).2) : WCall E1 (.func 106 [] []) [.slice c o 0 k] H1 K := by
  refine enter (N := 8) rfl fn106 rfl rfl rfl rfl rfl ?_
  change wpC E1 _ _ _ _ _ _
  have k1 : kindOf E1 41 = .slice 5 := ty41k
  have k2 : ∀ {N M : Nat} {d : Option Tmp} {t : TypeId} {p : String} {a : Array Edge} {g : Option (Nat × Bool)} {s : St} {K : St → Prop} {n : Nat} {ps : List (Nat × Operand)} (hn : n * sizeT E1 5 ≤ 16777216), wpOp E1 N M ⟨d, .buildSlice 41 n ps.toArray, t, p, a, g⟩ s K = oP ((zeroT E1 5).obind fun z => (fillParts M (fun i => some (Nat.mul i (sizeT E1 5), sizeT E1 5)) s.T ps (repL n z.cells)).omap fun l => (Blk.cells l 5 true true, fun b : Nat => AV.slice b 0 n (.ex n))) (KNew N M s.T d s.H K) := fun hn => w_buildSlice k1 hn
  have k3 : sizeT E1 5 = 1 := ty5s
  have k4 : zeroT E1 5 = some (.int .u8 0) := ty5z
  have k5 : ∀ {H : Hp} {u x : AV}, bltEff .append E1 H [u, x] [41, 41] = (srcCells E1 H 5 x).obind fun p => evAppend E1 H 5 u p.1 p.2 := appArgs_def ty41k ty41k
  have k6 : ∀ {H : Hp} {b : Nat}, evAppend E1 H 5 (.slice b 0 0 (.ex 0)) 0 [] = some (.slice b 0 0 (.ex 0), H) := rfl
  have k7 : ∀ {H : Hp} {b o : Nat}, cellsAt H b o 0 = some [] := cellsAt_zero
  simp (disch := (refine ofP ?_; first | assumption | decide | omega | (simp only [new_next, set_next] <;> omega) | with_unfolding_all exact ofR rfl | with_unfolding_all exact ofNt rfl)) only [go_sem, k1, k2, k3, k4, k5, k6, k7]
  exact hk
theorem clone106_l (H1 : Hp) (ad : Addr) {K : AV → Hp → Prop} (hk : K (.slice H1.next 0 0 (.ex 0)) (newBlk H1 (.cells [] 5 true true)).2) : WCall E1 (.func 106 [] []) [.esl ad] H1 K := by
  refine enter (N := 8) rfl fn106 rfl rfl rfl rfl rfl ?_
  change wpC E1 _ _ _ _ _ _
  have k1 : kindOf E1 41 = .slice 5 := ty41k
  have k2 : ∀ {N M : Nat} {d : Option Tmp} {t : TypeId} {p : String} {a : Array Edge} {g : Option (Nat × Bool)} {s : St} {K : St → Prop} {n : Nat} {ps : List (Nat × Operand)} (hn : n * sizeT E1 5 ≤ 16777216), wpOp E1 N M ⟨d, .buildSlice 41 n ps.toArray, t, p, a, g⟩ s K = oP ((zeroT E1 5).obind fun z => (fillParts M (fun i => some (Nat.mul i (sizeT E1 5), sizeT E1 5)) s.T ps (repL n z.cells)).omap fun l => (Blk.cells l 5 true true, fun b : Nat => AV.slice b 0 n (.ex n))) (KNew N M s.T d s.H K) := fun hn => w_buildSlice k1 hn
  have k3 : sizeT E1 5 = 1 := ty5s
  have k4 : zeroT E1 5 = some (.int .u8 0) := ty5z
  have k5 : ∀ {H : Hp} {u x : AV}, bltEff .append E1 H [u, x] [41, 41] = (srcCells E1 H 5 x).obind fun p => evAppend E1 H 5 u p.1 p.2 := appArgs_def ty41k ty41k
  have k6 : ∀ {H : Hp} {b : Nat}, evAppend E1 H 5 (.slice b 0 0 (.ex 0)) 0 [] = some (.slice b 0 0 (.ex 0), H) := rfl
  have k7 : ∀ {H : Hp} {b o : Nat}, cellsAt H b o 0 = some [] := cellsAt_zero
  simp (disch := (refine ofP ?_; first | assumption | decide | omega | (simp only [new_next, set_next] <;> omega) | with_unfolding_all exact ofR rfl | with_unfolding_all exact ofNt rfl)) only [go_sem, k1, k2, k3, k4, k5, k6, k7]
  exact hk
/-- slices.Clone: a slice of its own. -/
theorem clone106_own {H : Hp} {l : List AV} {K : AV → Hp → Prop} (hb : l.length ≤ 1048576) (hc : ∀ x ∈ l, x.cells.length = 1) (hf : flatL (catL l) = true) (hl : l ≠ []) (hk : ∀ v H', Acc EE H H' 5 1 v l → K v H') : Call (.func 106 [] []) [.lst 1 l] H K := by
  refine enterE (N := 8) rfl fn106 rfl rfl rfl rfl rfl fun hwf => ?_
  cases l with
  | nil => exact absurd rfl hl
  | cons y l =>
    have ha := Acc.new0 (E := EE) (Fr.refl H) ty5s (by decide) ty5g
    have hc2 := (cat_seg hc).1
    have hm := ha.many (m := (y :: l).length) (by simpa using hb) (by simp) (catL (y :: l)) (by rw [hc2]) hf
    have hd := ha.manyed (m := (y :: l).length) (by simpa using hb) (by simp) (y :: l) rfl rfl hc hf
    simp (disch := (refine ofP ?_; first | assumption | decide | omega | (simp only [new_next, set_next] <;> omega) | with_unfolding_all exact ofR rfl | with_unfolding_all exact ofNt rfl)) only [go_sem, hm]
    exact .inl (hk _ _ hd)
theorem clone106_nil {H : Hp} {K : AV → Hp → Prop} (hk : K .nils H) : Call (.func 106 [] []) [.nils] H K := by
  refine enterE (N := 8) rfl fn106 rfl rfl rfl rfl rfl fun hwf => ?_
  simp (disch := (refine ofP ?_; first | assumption | decide | omega | (simp only [new_next, set_next] <;> omega) | with_unfolding_all exact ofR rfl | with_unfolding_all exact ofNt rfl)) only [go_sem]
  exact .inl hk
theorem clone106 {H : Hp} {l : List AV} {K : AV → Hp → Prop} (hb : l.length ≤ 1048576) (hc : ∀ x ∈ l, x.cells.length = 1) (hf : flatL (catL l) = true) (hp : ∀ x ∈ l, plainV x = true) (hk : K (.lst 1 l) H) (hk2 : l = [] → K .nils H) : Call (.func 106 [] []) [.lst 1 l] H K := by
  by_cases hl : l = []
  · subst hl
    exact call_empty (clone106_nil (hk2 rfl)) (fun H1 c o k => clone106_e H1 c o k ⟨rfl, rfl⟩) (fun H1 ad => clone106_l H1 ad ⟨rfl, rfl⟩) hk
  · exact WCall2.out fun hwf => clone106_own hb hc hf hl fun v H' ha => ha.out_plain hwf hp hk
/-- slices.Clone, whatever stands for no bytes. -/
theorem clone106z {H : Hp} {l : List AV} {K : AV → Hp → Prop} (hb : l.length ≤ 1048576) (hc : ∀ x ∈ l, x.cells.length = 1) (hf : flatL (catL l) = true) (hp : ∀ x ∈ l, plainV x = true) (hk : K (.lst 1 l) H) : Call (.func 106 [] []) [.lst 1 l] H K :=
  WCall2.out fun _ => clone106 hb hc hf hp (.inl hk) fun hl => .inr (.inl ⟨Fr.refl _, _, FZ.nils0 (sz := 1), by subst hl; exact hk⟩)
/-! The union of two sets. -/
def orTo (a b : List UInt8) : Nat → List UInt8
  | 0 => a
  | i + 1 => (orTo a b i).set i (a.getD i 0 ||| b.getD i 0)
theorem orTo_len (a b : List UInt8) (i : Nat) : (orTo a b i).length = a.length := by
  induction i with
  | zero => rfl
  | succ i ih => unfold orTo; rw [List.length_set, ih]
theorem orTo_get (a b : List UInt8) (i j : Nat) (h : i ≤ j) {hj : j < (orTo a b i).length} : (orTo a b i)[j] = a[j]'(by rw [orTo_len] at hj; exact hj) := by
  induction i with
  | zero => rfl
  | succ i ih =>
    have : (orTo a b (i + 1)) = (orTo a b i).set i (a.getD i 0 ||| b.getD i 0) := rfl
    simp only [this]
    rw [List.getElem_set_ne (by omega)]
    exact ih (by omega)
def orB (a b : List UInt8) : List UInt8 := if a.length < b.length then orTo b a a.length else orTo a b b.length
theorem orB_len (a b : List UInt8) : (orB a b).length = max a.length b.length := by
  unfold orB
  split <;> rw [orTo_len] <;> omega
theorem or_u8 {a b : UInt8} : wrapI .u8 (.ofNat (Nat.lor (modn .u8 (a.toNat : Int)) (modn .u8 (b.toNat : Int)))) = ((a ||| b).toNat : Int) := by
  have e : ∀ c : UInt8, modn .u8 (c.toNat : Int) = c.toNat := fun c => Nat.mod_eq_of_lt c.toNat_lt
  rw [e, e]
  have : Nat.lor a.toNat b.toNat = (a ||| b).toNat := rfl
  rw [this]
  show wrapI .u8 (((a ||| b).toNat : Nat) : Int) = _
  rw [wrap_u8_nat, Nat.mod_eq_of_lt (a ||| b).toNat_lt]
theorem or58 {H : Hp} {a b : List UInt8} {K : AV → Hp → Prop} (ha : a.length ≤ 1048576) (hb : b.length ≤ 1048576) (hk : K (.lst 1 ((orB a b).map eB)) H) : Call (.func 58 [] []) [.lst 1 (a.map eB), .lst 1 (b.map eB)] H K := by
  refine enterE (N := 33) rfl fn58 rfl rfl rfl rfl rfl fun hwf => ?_
  by_cases hsw : a.length < b.length
  · have hk : K (.lst 1 ((orTo b a a.length).map eB)) H := by unfold orB at hk; rw [if_pos hsw] at hk; exact hk
    have hxy : a.length ≤ b.length := by omega
    by_cases h0 : b = []
    · subst h0
      have h1 : a = [] := List.eq_nil_of_length_eq_zero (by simpa using hxy)
      subst h1
      simp (disch := (refine ofP ?_; first | assumption | decide | omega | (simp only [new_next, set_next] <;> omega) | with_unfolding_all exact ofR rfl | with_unfolding_all exact ofNt rfl)) only [go_sem, List.length_map, List.length_nil, List.map_nil]
      refine clone106z (by simp) (by simp) rfl (by simp) ?_
      simp (disch := (refine ofP ?_; first | assumption | decide | omega | (simp only [new_next, set_next] <;> omega) | with_unfolding_all exact ofR rfl | with_unfolding_all exact ofNt rfl)) only [go_sem, List.length_nil, List.map_nil]
      refine loopE 4294443200 (by kernel_rfl) (fun r G H' => H' = H ∧ G.get 19 = some (.int .i64 0)) 0 ⟨rfl, rfl⟩ ?_
      rintro r G H' hG ⟨rfl, g19⟩
      simp (disch := (refine ofP ?_; first | assumption | decide | omega | (simp only [new_next, set_next] <;> omega) | with_unfolding_all exact ofR rfl | with_unfolding_all exact ofNt rfl)) only [go_sem, g19, hG, show decide ((0 : Int) < ((0 : Nat) : Int)) = false from rfl, show decide ((0 : Int) < 0) = false from rfl]
      exact .inl hk
    have hLl : (b.map eB).length ≤ 1048576 := by simpa using hb
    simp (disch := (refine ofP ?_; first | assumption | decide | omega | (simp only [new_next, set_next] <;> omega) | with_unfolding_all exact ofR rfl | with_unfolding_all exact ofNt rfl)) only [go_sem, List.length_map]
    refine clone106_own hLl (eB_one _) (eB_flat _) (by simpa using h0) fun v H1 ho => ?_
    simp (disch := (refine ofP ?_; first | assumption | decide | omega | (simp only [new_next, set_next] <;> omega) | with_unfolding_all exact ofR rfl | with_unfolding_all exact ofNt rfl)) only [go_sem, List.length_map]
    refine loopE 4294443200 (by kernel_rfl) (fun r G H' => ∃ i : Nat, i ≤ a.length ∧ r = a.length - i ∧ G.get 19 = some (.int .i64 i) ∧ Acc EE H H' 5 1 v ((orTo b a i).map eB)) a.length ⟨0, Nat.zero_le _, rfl, rfl, ho⟩ ?_
    rintro r G H' hG ⟨i, hi, rfl, g19, ho⟩
    by_cases hlt : i < a.length
    · have hi1 : i < ((orTo b a i).map eB).length := by rw [List.length_map, orTo_len]; omega
      have hcell := ho.cell0 hi1
      have hput := fun (x : AV) (hx : oneC x = true) => ho.put0 hi1 hx
      have hset := ho.putted hi1 (o := 0) (by decide) (x := eB (b.getD i 0 ||| a.getD i 0)) rfl (eB (b.getD i 0 ||| a.getD i 0)) (by rw [List.getElem_map]; rfl)
      have e1 : ((orTo b a i).map eB)[i].cells[0]? = some (.int .u8 (b[i]'(by omega)).toNat) := by
        rw [List.getElem_map, orTo_get _ _ _ _ (Nat.le_refl _)]; rfl
      have e2 : b.getD i 0 = b[i]'(by omega) := getD_lt (by omega)
      have e3 : a.getD i 0 = a[i] := getD_lt hlt
      rw [e2, e3] at hset
      rw [e1] at hcell
      simp only [Nat.mul_one, Nat.add_zero] at hcell hput hset
      simp (disch := (refine ofP ?_; first | assumption | decide | omega | (simp only [new_next, set_next] <;> omega) | with_unfolding_all exact ofR rfl | with_unfolding_all exact ofNt rfl)) only [go_sem, g19, hG, ia_lst_map, wrap_i64, List.length_map, ho.idx hi1, hcell, hput, or_u8]
      refine ⟨_, by omega, i + 1, hlt, rfl, rfl, ?_⟩
      show Acc EE H _ 5 1 v (((orTo b a i).set i (b.getD i 0 ||| a.getD i 0)).map eB)
      rw [List.map_set, e2, e3]
      exact hset
    · simp (disch := (refine ofP ?_; first | assumption | decide | omega | (simp only [new_next, set_next] <;> omega) | with_unfolding_all exact ofR rfl | with_unfolding_all exact ofNt rfl)) only [go_sem, g19, hG]
      obtain rfl : i = a.length := by omega
      exact ho.out_plain hwf (plain_map fun _ => rfl) hk
  · have hk : K (.lst 1 ((orTo a b b.length).map eB)) H := by unfold orB at hk; rw [if_neg hsw] at hk; exact hk
    have hxy : b.length ≤ a.length := by omega
    by_cases h0 : a = []
    · subst h0
      have h1 : b = [] := List.eq_nil_of_length_eq_zero (by simpa using hxy)
      subst h1
      simp (disch := (refine ofP ?_; first | assumption | decide | omega | (simp only [new_next, set_next] <;> omega) | with_unfolding_all exact ofR rfl | with_unfolding_all exact ofNt rfl)) only [go_sem, List.length_map, List.length_nil, List.map_nil]
      refine clone106z (by simp) (by simp) rfl (by simp) ?_
      simp (disch := (refine ofP ?_; first | assumption | decide | omega | (simp only [new_next, set_next] <;> omega) | with_unfolding_all exact ofR rfl | with_unfolding_all exact ofNt rfl)) only [go_sem, List.length_nil, List.map_nil]
      refine loopE 4294443200 (by kernel_rfl) (fun r G H' => H' = H ∧ G.get 19 = some (.int .i64 0)) 0 ⟨rfl, rfl⟩ ?_
      rintro r G H' hG ⟨rfl, g19⟩
      simp (disch := (refine ofP ?_; first | assumption | decide | omega | (simp only [new_next, set_next] <;> omega) | with_unfolding_all exact ofR rfl | with_unfolding_all exact ofNt rfl)) only [go_sem, g19, hG, show decide ((0 : Int) < ((0 : Nat) : Int)) = false from rfl, show decide ((0 : Int) < 0) = false from rfl]
      exact .inl hk
    have hLl : (a.map eB).length ≤ 1048576 := by simpa using ha
    simp (disch := (refine ofP ?_; first | assumption | decide | omega | (simp only [new_next, set_next] <;> omega) | with_unfolding_all exact ofR rfl | with_unfolding_all exact ofNt rfl)) only [go_sem, List.length_map]
    refine clone106_own hLl (eB_one _) (eB_flat _) (by simpa using h0) fun v H1 ho => ?_
    simp (disch := (refine ofP ?_; first | assumption | decide | omega | (simp only [new_next, set_next] <;> omega) | with_unfolding_all exact ofR rfl | with_unfolding_all exact ofNt rfl)) only [go_sem, List.length_map]
    refine loopE 4294443200 (by kernel_rfl) (fun r G H' => ∃ i : Nat, i ≤ b.length ∧ r = b.length - i ∧ G.get 19 = some (.int .i64 i) ∧ Acc EE H H' 5 1 v ((orTo a b i).map eB)) b.length ⟨0, Nat.zero_le _, rfl, rfl, ho⟩ ?_
    rintro r G H' hG ⟨i, hi, rfl, g19, ho⟩
    by_cases hlt : i < b.length
    · have hi1 : i < ((orTo a b i).map eB).length := by rw [List.length_map, orTo_len]; omega
      have hcell := ho.cell0 hi1
      have hput := fun (x : AV) (hx : oneC x = true) => ho.put0 hi1 hx
      have hset := ho.putted hi1 (o := 0) (by decide) (x := eB (a.getD i 0 ||| b.getD i 0)) rfl (eB (a.getD i 0 ||| b.getD i 0)) (by rw [List.getElem_map]; rfl)
      have e1 : ((orTo a b i).map eB)[i].cells[0]? = some (.int .u8 (a[i]'(by omega)).toNat) := by
        rw [List.getElem_map, orTo_get _ _ _ _ (Nat.le_refl _)]; rfl
      have e2 : a.getD i 0 = a[i]'(by omega) := getD_lt (by omega)
      have e3 : b.getD i 0 = b[i] := getD_lt hlt
      rw [e2, e3] at hset
      rw [e1] at hcell
      simp only [Nat.mul_one, Nat.add_zero] at hcell hput hset
      simp (disch := (refine ofP ?_; first | assumption | decide | omega | (simp only [new_next, set_next] <;> omega) | with_unfolding_all exact ofR rfl | with_unfolding_all exact ofNt rfl)) only [go_sem, g19, hG, ia_lst_map, wrap_i64, List.length_map, ho.idx hi1, hcell, hput, or_u8]
      refine ⟨_, by omega, i + 1, hlt, rfl, rfl, ?_⟩
      show Acc EE H _ 5 1 v (((orTo a b i).set i (a.getD i 0 ||| b.getD i 0)).map eB)
      rw [List.map_set, e2, e3]
      exact hset
    · simp (disch := (refine ofP ?_; first | assumption | decide | omega | (simp only [new_next, set_next] <;> omega) | with_unfolding_all exact ofR rfl | with_unfolding_all exact ofNt rfl)) only [go_sem, g19, hG]
      obtain rfl : i = b.length := by omega
      exact ho.out_plain hwf (plain_map fun _ => rfl) hk
theorem or62 {H : Hp} {a b : List UInt8} {K : AV → Hp → Prop} (ha : a.length ≤ 1048576) (hb : b.length ≤ 1048576) (hk : K (.lst 1 ((orB a b).map eB)) H) : Call (.func 62 [] []) [.lst 1 (a.map eB), .lst 1 (b.map eB)] H K := by
  refine enterE (N := 34) rfl fn62 rfl rfl rfl rfl rfl fun hwf => ?_
  by_cases hsw : a.length < b.length
  · have hk : K (.lst 1 ((orTo b a a.length).map eB)) H := by unfold orB at hk; rw [if_pos hsw] at hk; exact hk
    have hxy : a.length ≤ b.length := by omega
    have hacc : ∃ v H1, Acc EE H H1 5 1 v (b.map eB) ∧ evAppend EE (newBlk H (.cells [] 5 true true)).2 5 (.slice H.next 0 0 (.ex 0)) b.length (catL (b.map eB)) = some (v, H1) := by
      have hA := Acc.new0 (E := EE) (Fr.refl H) ty5s (by decide) ty5g
      by_cases h0 : b = []
      · subst h0
        exact ⟨_, _, hA, hA.app0⟩
      · have hc2 := (cat_seg (eB_one b)).1
        have hpos : 0 < b.length := List.length_pos_iff.2 h0
        have hm := hA.many (m := b.length) (by simpa using hb) hpos (catL (b.map eB)) (by rw [hc2, List.length_map]) (eB_flat _)
        exact ⟨_, _, hA.manyed (m := b.length) (by simpa using hb) hpos (b.map eB) rfl (by simp) (eB_one _) (eB_flat _), hm⟩
    obtain ⟨v, H1, ho, happ⟩ := hacc
    simp (disch := (refine ofP ?_; first | assumption | decide | omega | (simp only [new_next, set_next] <;> omega) | with_unfolding_all exact ofR rfl | with_unfolding_all exact ofNt rfl)) only [go_sem, List.length_map, happ]
    refine loopE 8589803584 (by kernel_rfl) (fun r G H' => ∃ i : Nat, i ≤ a.length ∧ r = a.length - i ∧ G.get 6 = some (.int .i64 i) ∧ Acc EE H H' 5 1 v ((orTo b a i).map eB)) a.length ⟨0, Nat.zero_le _, rfl, rfl, ho⟩ ?_
    clear happ ho
    rintro r G H' hG ⟨i, hi, rfl, g6, ho⟩
    by_cases hlt : i < a.length
    · have hi1 : i < ((orTo b a i).map eB).length := by rw [List.length_map, orTo_len]; omega
      have hcell := ho.cell0 hi1
      have hput := fun (x : AV) (hx : oneC x = true) => ho.put0 hi1 hx
      have hset := ho.putted hi1 (o := 0) (by decide) (x := eB (b.getD i 0 ||| a.getD i 0)) rfl (eB (b.getD i 0 ||| a.getD i 0)) (by rw [List.getElem_map]; rfl)
      have e1 : ((orTo b a i).map eB)[i].cells[0]? = some (.int .u8 (b[i]'(by omega)).toNat) := by
        rw [List.getElem_map, orTo_get _ _ _ _ (Nat.le_refl _)]; rfl
      have e2 : b.getD i 0 = b[i]'(by omega) := getD_lt (by omega)
      have e3 : a.getD i 0 = a[i] := getD_lt hlt
      rw [e2, e3] at hset
      rw [e1] at hcell
      simp only [Nat.mul_one, Nat.add_zero] at hcell hput hset
      simp (disch := (refine ofP ?_; first | assumption | decide | omega | (simp only [new_next, set_next] <;> omega) | with_unfolding_all exact ofR rfl | with_unfolding_all exact ofNt rfl)) only [go_sem, g6, hG, List.length_map]
      refine drawE (by kernel_rfl) (by kernel_rfl) ?_
      simp (disch := (refine ofP ?_; first | assumption | decide | omega | (simp only [new_next, set_next] <;> omega) | with_unfolding_all exact ofR rfl | with_unfolding_all exact ofNt rfl)) only [go_sem, g6, hG, ia_lst_map, wrap_i64, List.length_map, ho.idx hi1, hcell, hput, or_u8]
      refine ⟨_, by omega, i + 1, hlt, rfl, rfl, ?_⟩
      show Acc EE H _ 5 1 v (((orTo b a i).set i (b.getD i 0 ||| a.getD i 0)).map eB)
      rw [List.map_set, e2, e3]
      exact hset
    · simp (disch := (refine ofP ?_; first | assumption | decide | omega | (simp only [new_next, set_next] <;> omega) | with_unfolding_all exact ofR rfl | with_unfolding_all exact ofNt rfl)) only [go_sem, g6, hG, List.length_map]
      obtain rfl : i = a.length := by omega
      exact ho.out_plain hwf (plain_map fun _ => rfl) hk
  · have hk : K (.lst 1 ((orTo a b b.length).map eB)) H := by unfold orB at hk; rw [if_neg hsw] at hk; exact hk
    have hxy : b.length ≤ a.length := by omega
    have hacc : ∃ v H1, Acc EE H H1 5 1 v (a.map eB) ∧ evAppend EE (newBlk H (.cells [] 5 true true)).2 5 (.slice H.next 0 0 (.ex 0)) a.length (catL (a.map eB)) = some (v, H1) := by
      have hA := Acc.new0 (E := EE) (Fr.refl H) ty5s (by decide) ty5g
      by_cases h0 : a = []
      · subst h0
        exact ⟨_, _, hA, hA.app0⟩
      · have hc2 := (cat_seg (eB_one a)).1
        have hpos : 0 < a.length := List.length_pos_iff.2 h0
        have hm := hA.many (m := a.length) (by simpa using ha) hpos (catL (a.map eB)) (by rw [hc2, List.length_map]) (eB_flat _)
        exact ⟨_, _, hA.manyed (m := a.length) (by simpa using ha) hpos (a.map eB) rfl (by simp) (eB_one _) (eB_flat _), hm⟩
    obtain ⟨v, H1, ho, happ⟩ := hacc
    simp (disch := (refine ofP ?_; first | assumption | decide | omega | (simp only [new_next, set_next] <;> omega) | with_unfolding_all exact ofR rfl | with_unfolding_all exact ofNt rfl)) only [go_sem, List.length_map, happ]
    refine loopE 8589803584 (by kernel_rfl) (fun r G H' => ∃ i : Nat, i ≤ b.length ∧ r = b.length - i ∧ G.get 6 = some (.int .i64 i) ∧ Acc EE H H' 5 1 v ((orTo a b i).map eB)) b.length ⟨0, Nat.zero_le _, rfl, rfl, ho⟩ ?_
    clear happ ho
    rintro r G H' hG ⟨i, hi, rfl, g6, ho⟩
    by_cases hlt : i < b.length
    · have hi1 : i < ((orTo a b i).map eB).length := by rw [List.length_map, orTo_len]; omega
      have hcell := ho.cell0 hi1
      have hput := fun (x : AV) (hx : oneC x = true) => ho.put0 hi1 hx
      have hset := ho.putted hi1 (o := 0) (by decide) (x := eB (a.getD i 0 ||| b.getD i 0)) rfl (eB (a.getD i 0 ||| b.getD i 0)) (by rw [List.getElem_map]; rfl)
      have e1 : ((orTo a b i).map eB)[i].cells[0]? = some (.int .u8 (a[i]'(by omega)).toNat) := by
        rw [List.getElem_map, orTo_get _ _ _ _ (Nat.le_refl _)]; rfl
      have e2 : a.getD i 0 = a[i]'(by omega) := getD_lt (by omega)
      have e3 : b.getD i 0 = b[i] := getD_lt hlt
      rw [e2, e3] at hset
      rw [e1] at hcell
      simp only [Nat.mul_one, Nat.add_zero] at hcell hput hset
      simp (disch := (refine ofP ?_; first | assumption | decide | omega | (simp only [new_next, set_next] <;> omega) | with_unfolding_all exact ofR rfl | with_unfolding_all exact ofNt rfl)) only [go_sem, g6, hG, List.length_map]
      refine drawE (by kernel_rfl) (by kernel_rfl) ?_
      simp (disch := (refine ofP ?_; first | assumption | decide | omega | (simp only [new_next, set_next] <;> omega) | with_unfolding_all exact ofR rfl | with_unfolding_all exact ofNt rfl)) only [go_sem, g6, hG, ia_lst_map, wrap_i64, List.length_map, ho.idx hi1, hcell, hput, or_u8]
      refine ⟨_, by omega, i + 1, hlt, rfl, rfl, ?_⟩
      show Acc EE H _ 5 1 v (((orTo a b i).set i (a.getD i 0 ||| b.getD i 0)).map eB)
      rw [List.map_set, e2, e3]
      exact hset
    · simp (disch := (refine ofP ?_; first | assumption | decide | omega | (simp only [new_next, set_next] <;> omega) | with_unfolding_all exact ofR rfl | with_unfolding_all exact ofNt rfl)) only [go_sem, g6, hG, List.length_map]
      obtain rfl : i = b.length := by omega
      exact ho.out_plain hwf (plain_map fun _ => rfl) hk
end
end Go.Ev

namespace Go.Ev
open Go.Proofs
noncomputable section
set_option maxRecDepth 100000
theorem fn26 : E1.fn 26 = some Tryz.f26 := by kernel_rfl
theorem fn108 : E1.fn 108 = some Tryz.f108 := by kernel_rfl
theorem fn107 : E1.fn 107 = some Tryz.f107 := by kernel_rfl
theorem fn55 : E1.fn 55 = some Tryz.f55 := by kernel_rfl
theorem fn56 : E1.fn 56 = some Tryz.f56 := by kernel_rfl
theorem fn20 : E1.fn 20 = some Tryz.f20 := by kernel_rfl
/-- The numbers of a set below n, rising. -/
def allTo (b : List UInt8) : Nat → List Int
  | 0 => []
  | n + 1 => if hasB b n then allTo b n ++ [(n : Int)] else allTo b n
theorem allTo_t {b : List UInt8} {n : Nat} (h : hasB b n = true) : allTo b (n + 1) = allTo b n ++ [(n : Int)] := if_pos h
theorem allTo_f {b : List UInt8} {n : Nat} (h : ¬ hasB b n = true) : allTo b (n + 1) = allTo b n := if_neg h
theorem allTo_len (b : List UInt8) (n : Nat) : (allTo b n).length ≤ n := by
  induction n with
  | zero => exact Nat.le_refl _
  | succ n ih =>
    unfold allTo
    split
    · rw [List.length_append]; exact Nat.succ_le_succ ih
    · omega
theorem allTo_lt (b : List UInt8) (n : Nat) : ∀ x ∈ allTo b n, 0 ≤ x ∧ x < n := by
  induction n with
  | zero => intro x hx; cases hx
  | succ n ih =>
    intro x hx
    unfold allTo at hx
    split at hx
    · rcases List.mem_append.1 hx with h | h
      · have := ih x h; omega
      · rw [List.mem_singleton] at h; omega
    · have := ih x hx; omega
def allB (b : List UInt8) : List Int := allTo b (8 * b.length)
theorem allB_len (b : List UInt8) : (allB b).length ≤ 8 * b.length := allTo_len b _
theorem all26 {H : Hp} {b : List UInt8} {K : AV → Hp → Prop} (hl : b.length ≤ 100000) (hk : K (.lst 1 ((allB b).map eI)) H) : Call (.func 26 [] []) [.lst 1 (b.map eB)] H K := by
  refine enterE (N := 20) rfl fn26 rfl rfl rfl rfl rfl fun hwf => ?_
  simp (disch := (refine ofP ?_; first | assumption | decide | omega | (simp only [new_next, set_next] <;> omega) | with_unfolding_all exact ofR rfl | with_unfolding_all exact ofNt rfl)) only [go_sem]
  refine loopE 524280 (by kernel_rfl) (fun r G H' => ∃ (i : Nat) (v : AV), i ≤ 8 * b.length ∧ r = 8 * b.length - i ∧ G.get 4 = some (.int .i64 i) ∧ G.get 3 = some v ∧ Acc EE H H' 3 1 v ((allTo b i).map eI)) (8 * b.length) ⟨0, .nils, Nat.zero_le _, rfl, rfl, rfl, Acc.nil ty3s (by decide) ty3g⟩ ?_
  rintro r G H' hG ⟨i, v, hi, rfl, g4, g3, ho⟩
  have hlen := allTo_len b i
  by_cases hlt : i < 8 * b.length
  · simp (disch := (refine ofP ?_; first | assumption | decide | omega | (simp only [new_next, set_next] <;> omega) | with_unfolding_all exact ofR rfl | with_unfolding_all exact ofNt rfl)) only [go_sem, g4, g3, hG, List.length_map, wrap_i64]
    refine has61 (by omega) ?_
    by_cases hh : hasB b i = true
    · have hpush := ho.push (by simp; omega)
      simp (disch := (refine ofP ?_; first | assumption | decide | omega | (simp only [new_next, set_next] <;> omega) | with_unfolding_all exact ofR rfl | with_unfolding_all exact ofNt rfl)) only [go_sem, hh, g4, g3, hG, hpush, wrap_i64]
      refine ⟨_, by omega, i + 1, _, hlt, rfl, rfl, rfl, ?_⟩
      have := ho.pushed (by simp; omega) (eI i) (new := [.int .i64 i]) rfl rfl rfl
      rw [allTo_t hh, List.map_append]
      exact this
    · have hh' : hasB b i = false := by simpa using hh
      simp (disch := (refine ofP ?_; first | assumption | decide | omega | (simp only [new_next, set_next] <;> omega) | with_unfolding_all exact ofR rfl | with_unfolding_all exact ofNt rfl)) only [go_sem, hh', g4, g3, hG, wrap_i64]
      refine ⟨_, by omega, i + 1, _, hlt, rfl, rfl, rfl, ?_⟩
      rw [allTo_f hh]
      exact ho
  · simp (disch := (refine ofP ?_; first | assumption | decide | omega | (simp only [new_next, set_next] <;> omega) | with_unfolding_all exact ofR rfl | with_unfolding_all exact ofNt rfl)) only [go_sem, g4, g3, hG, List.length_map, wrap_i64]
    obtain rfl : i = 8 * b.length := by omega
    exact ho.out_plain hwf (plain_map fun _ => rfl) hk
theorem each108 {H : Hp} {bb y : Nat} {b : List UInt8} {K : AV → Hp → Prop} (I : Nat → Hp → Prop) (hl : b.length ≤ 100000) (hb : ∀ i H', I i H' → H'.m.get bb = some (.cells [.lst 1 (b.map eB)] 41 true true)) (h0 : I 0 H)
    (hs : ∀ i (_ : i < 8 * b.length) H', I i H' → hasB b i = true → Call (.yield y) [.int .i64 i] H' fun v H'' => (v = .bool true ∧ I (i + 1) H'') ∨ (v = .bool false ∧ K (.tuple []) H''))
    (hz : ∀ i H', I i H' → ¬ hasB b i = true → I (i + 1) H') (hn : ∀ H', I (8 * b.length) H' → K (.tuple []) H') :
    Call (.func 108 [] [.ptr bb 0]) [.yield y] H K := by
  refine enterE (N := 20) rfl fn108 rfl rfl rfl rfl rfl fun hwf => ?_
  have hb0 := hb 0 H h0
  simp (disch := (refine ofP ?_; first | assumption | decide | omega | (simp only [new_next, set_next] <;> omega) | with_unfolding_all exact ofR rfl | with_unfolding_all exact ofNt rfl)) only [go_sem, kn hb0, List.length_map, wrap_i64]
  refine loopE 1048456 (by kernel_rfl) (fun r G H' => ∃ i : Nat, i ≤ 8 * b.length ∧ r = 8 * b.length - i ∧ G.get 7 = some (.int .i64 i) ∧ I i H') (8 * b.length) ⟨0, Nat.zero_le _, rfl, rfl, h0⟩ ?_
  rintro r G H' hG ⟨i, hi, rfl, g7, hI⟩
  have hbi := hb i H' hI
  by_cases hlt : i < 8 * b.length
  · simp (disch := (refine ofP ?_; first | assumption | decide | omega | (simp only [new_next, set_next] <;> omega) | with_unfolding_all exact ofR rfl | with_unfolding_all exact ofNt rfl)) only [go_sem, g7, hG, kn hbi]
    refine has81 (by omega) ?_
    by_cases hh : hasB b i = true
    · simp (disch := (refine ofP ?_; first | assumption | decide | omega | (simp only [new_next, set_next] <;> omega) | with_unfolding_all exact ofR rfl | with_unfolding_all exact ofNt rfl)) only [go_sem, hh, g7, hG]
      refine (hs i hlt H' hI hh).mono ?_
      rintro v H'' (⟨rfl, hI'⟩ | ⟨rfl, hk⟩)
      · simp (disch := (refine ofP ?_; first | assumption | decide | omega | (simp only [new_next, set_next] <;> omega) | with_unfolding_all exact ofR rfl | with_unfolding_all exact ofNt rfl)) only [go_sem, g7, hG, wrap_i64]
        exact ⟨_, by omega, i + 1, hlt, rfl, rfl, hI'⟩
      · simp (disch := (refine ofP ?_; first | assumption | decide | omega | (simp only [new_next, set_next] <;> omega) | with_unfolding_all exact ofR rfl | with_unfolding_all exact ofNt rfl)) only [go_sem]
        exact .inl hk
    · have hh' : hasB b i = false := by simpa using hh
      simp (disch := (refine ofP ?_; first | assumption | decide | omega | (simp only [new_next, set_next] <;> omega) | with_unfolding_all exact ofR rfl | with_unfolding_all exact ofNt rfl)) only [go_sem, hh', g7, hG, wrap_i64]
      exact ⟨_, by omega, i + 1, hlt, rfl, rfl, hz i H' hI hh⟩
  · simp (disch := (refine ofP ?_; first | assumption | decide | omega | (simp only [new_next, set_next] <;> omega) | with_unfolding_all exact ofR rfl | with_unfolding_all exact ofNt rfl)) only [go_sem, g7, hG]
    obtain rfl : i = 8 * b.length := by omega
    exact .inl (hn H' hI)
theorem appendSeq107 {H : Hp} {bb : Nat} {b : List UInt8} {K : AV → Hp → Prop} (hb : H.m.get bb = some (.cells [.lst 1 (b.map eB)] 41 true true)) (hlt : bb < H.next) (hl : b.length ≤ 100000) (hk : K (.lst 1 ((allB b).map eI)) H) : Call (.func 107 [] []) [.nils, .func 108 [] [.ptr bb 0]] H K := by
  refine enterE (N := 13) rfl fn107 rfl rfl rfl rfl rfl fun hwf => ?_
  simp (disch := (refine ofP ?_; first | assumption | decide | omega | (simp only [new_next, set_next] <;> omega) | with_unfolding_all exact ofR rfl | with_unfolding_all exact ofNt rfl)) only [go_sem]
  generalize hLB : Blk.loop _ _ _ _ _ _ _ _ _ = LB
  refine each108 (b := b) (fun i H' => ∃ v, Acc EE H H' 3 1 v ((allTo b i).map eI) ∧ H.next + 2 ≤ H'.next ∧ H'.m.get H.next = some (.cells [v] 22 true true) ∧ H'.m.get (H.next + 1) = some LB) hl ?_ ?_ ?_ ?_ ?_
  · rintro i H' ⟨v, ho, _⟩
    rw [ho.fr.2 bb hlt]; exact hb
  · exact ⟨.nils, Acc.nil' (((Fr.refl H).newT _).newT _) ty3s (by decide) ty3g, Nat.le_refl _, by simp (disch := (refine ofP ?_; first | assumption | decide | omega | (simp only [new_next, set_next] <;> omega) | with_unfolding_all exact ofR rfl | with_unfolding_all exact ofNt rfl)) only [go_sem], by simp (disch := (refine ofP ?_; first | assumption | decide | omega | (simp only [new_next, set_next] <;> omega) | with_unfolding_all exact ofR rfl | with_unfolding_all exact ofNt rfl)) only [go_sem]⟩
  · rintro i hi H' ⟨v, ho, hnx, m0, m1⟩ hh
    subst hLB
    refine yieldE m1 ?_
    have hlen : ((allTo b i).map eI).length < 1048576 := by rw [List.length_map]; have := allTo_len b i; omega
    have hA := fun z => (ho.other (z := z) m1 rfl (by omega)).push hlen
    have hP := fun (z : Blk) (x : AV) (hx : oneC x = true) => (ho.other (z := z) m1 rfl (by omega)).push_get hlen (new := [x]) rfl (by rw [flatL_cons', hx]; rfl)
    have hg1 := fun z x hx (hz : notE 3 z = true) => (hP z x hx).2 (H.next + 1) z (get_set_q rfl) hz hnx
    have hg0 := fun z x hx => (hP z x hx).2 H.next _ ((get_set_n (by omega)).trans m0) rfl (show H.next < H'.next by omega)
    have hn := fun z x hx => (hP z x hx).1
    simp (disch := (refine ofP ?_; first | assumption | decide | omega | (simp only [new_next, set_next] <;> omega) | with_unfolding_all exact ofR rfl | with_unfolding_all exact ofNt rfl)) only [go_sem, kn m0, m1, hA, hg1, hg0]
    have hx1 : oneC (AV.int .i64 i) = true := rfl
    refine .inl ⟨.slice (H'.next + 1) 0 (((allTo b i).map eI).length + 1) (.rest 0 1 (((allTo b i).map eI).length + 1)), ?_, ?_, ?_⟩
    · rw [allTo_t hh, List.map_append]
      exact ((Acc.other ((ho.other m1 rfl (by omega)).pushed hlen (eI i) rfl rfl rfl) (hg0 _ _ hx1) rfl (Nat.le_refl _)).other ((get_set_n (by omega)).trans (hg1 _ _ hx1 rfl)) rfl (by omega))
    · show _ ≤ (puH _ _ _ _ _).next
      rw [hn _ _ hx1]
      exact Nat.le_trans hnx (Nat.le_add_right _ 2)
    · simp (disch := (refine ofP ?_; first | assumption | decide | omega | (simp only [new_next, set_next] <;> omega) | with_unfolding_all exact ofR rfl | with_unfolding_all exact ofNt rfl)) only [go_sem]
  · rintro i H' ⟨v, ho, hnx, m0, m1⟩ hh
    rw [allTo_f hh]
    exact ⟨v, ho, hnx, m0, m1⟩
  · rintro H' ⟨v, ho, hnx, m0, m1⟩
    subst hLB
    simp (disch := (refine ofP ?_; first | assumption | decide | omega | (simp only [new_next, set_next] <;> omega) | with_unfolding_all exact ofR rfl | with_unfolding_all exact ofNt rfl)) only [go_sem, m1, kn m0]
    exact (ho.other m1 rfl (by omega)).out_plain hwf (plain_map fun _ => rfl) hk
theorem each56 {H : Hp} {b : List UInt8} {K : AV → Hp → Prop} (hk : K (.func 108 [] [.ptr H.next 0]) (newBlk H (.cells [.lst 1 (b.map eB)] 41 true true)).2) : Call (.func 56 [] []) [.lst 1 (b.map eB)] H K := by
  refine enterE (N := 4) rfl fn56 rfl rfl rfl rfl rfl fun hwf => ?_
  simp (disch := (refine ofP ?_; first | assumption | decide | omega | (simp only [new_next, set_next] <;> omega) | with_unfolding_all exact ofR rfl | with_unfolding_all exact ofNt rfl)) only [go_sem]
  exact .inl hk
theorem collect55 {H : Hp} {bb : Nat} {b : List UInt8} {K : AV → Hp → Prop} (hb : H.m.get bb = some (.cells [.lst 1 (b.map eB)] 41 true true)) (hlt : bb < H.next) (hl : b.length ≤ 100000) (hk : K (.lst 1 ((allB b).map eI)) H) : Call (.func 55 [] []) [.func 108 [] [.ptr bb 0]] H K := by
  refine enterE (N := 5) rfl fn55 rfl rfl rfl rfl rfl fun hwf => ?_
  simp (disch := (refine ofP ?_; first | assumption | decide | omega | (simp only [new_next, set_next] <;> omega) | with_unfolding_all exact ofR rfl | with_unfolding_all exact ofNt rfl)) only [go_sem]
  refine appendSeq107 hb hlt hl ?_
  simp (disch := (refine ofP ?_; first | assumption | decide | omega | (simp only [new_next, set_next] <;> omega) | with_unfolding_all exact ofR rfl | with_unfolding_all exact ofNt rfl)) only [go_sem]
  exact .inl hk
/-- bits.All: the numbers of a set. -/
theorem all20 {H : Hp} {b : List UInt8} {K : AV → Hp → Prop} (hl : b.length ≤ 100000) (hk : K (.lst 1 ((allB b).map eI)) H) : Call (.func 20 [] []) [.lst 1 (b.map eB)] H K := by
  refine enterE (N := 6) rfl fn20 rfl rfl rfl rfl rfl fun hwf => ?_
  simp (disch := (refine ofP ?_; first | assumption | decide | omega | (simp only [new_next, set_next] <;> omega) | with_unfolding_all exact ofR rfl | with_unfolding_all exact ofNt rfl)) only [go_sem]
  refine each56 ?_
  simp (disch := (refine ofP ?_; first | assumption | decide | omega | (simp only [new_next, set_next] <;> omega) | with_unfolding_all exact ofR rfl | with_unfolding_all exact ofNt rfl)) only [go_sem]
  refine collect55 (b := b) (by simp (disch := (refine ofP ?_; first | assumption | decide | omega | (simp only [new_next, set_next] <;> omega) | with_unfolding_all exact ofR rfl | with_unfolding_all exact ofNt rfl)) only [go_sem]) (by simp (disch := (refine ofP ?_; first | assumption | decide | omega | (simp only [new_next, set_next] <;> omega) | with_unfolding_all exact ofR rfl | with_unfolding_all exact ofNt rfl)) only [go_sem]; omega) hl ?_
  simp (disch := (refine ofP ?_; first | assumption | decide | omega | (simp only [new_next, set_next] <;> omega) | with_unfolding_all exact ofR rfl | with_unfolding_all exact ofNt rfl)) only [go_sem]
  exact .inr (.inl ⟨(Fr.refl H).newT _, _, FZ.lst (FZL.plain (plain_map fun _ => rfl)), hk⟩)
end
end Go.Ev

namespace Go.Ev
open Go.Proofs
noncomputable section
set_option maxRecDepth 100000
theorem fn109 : E1.fn 109 = some Tryz.f109 := by kernel_rfl
theorem fn57 : E1.fn 57 = some Tryz.f57 := by kernel_rfl
theorem fn21 : E1.fn 21 = some Tryz.f21 := by kernel_rfl
theorem fn27 : E1.fn 27 = some Tryz.f27 := by kernel_rfl
theorem nilArg {E : Env} {f y : AV} {sz : Nat} {H : Hp} {K : AV → Hp → Prop} (h : WCall2 E f [.lst sz [], y] H K) : WCall2 E f [.nils, y] H K := fun σ f1 as1 H1 r hf ha => h σ f1 as1 H1 r hf (by
  obtain ⟨a, r', h3, h4, rfl⟩ := VRL.cons.1 ha
  obtain rfl := h3.nils
  exact VRL.cons.2 ⟨_, _, VR.lst0_mk (.inl rfl), h4, rfl⟩)
instance : Inhabited Snp := ⟨⟨0, [], []⟩⟩
/-- What changed in the snapshots from i on, below k. -/
def chTo (l : List Snp) (i : Nat) : Nat → List UInt8
  | 0 => []
  | k + 1 => if i ≤ k then orB (chTo l i k) (l.getD k default).ch else chTo l i k
theorem chTo_t {l : List Snp} {i k : Nat} (h : i ≤ k) : chTo l i (k + 1) = orB (chTo l i k) (l.getD k default).ch := if_pos h
theorem chTo_f {l : List Snp} {i k : Nat} (h : ¬ i ≤ k) : chTo l i (k + 1) = chTo l i k := if_neg h
theorem chTo_low {l : List Snp} {i k : Nat} (h : k ≤ i) : chTo l i k = [] := by
  induction k with
  | zero => rfl
  | succ k ih => rw [chTo_f (by omega)]; exact ih (by omega)
theorem chTo_len {l : List Snp} {B i : Nat} (h : ∀ s ∈ l, s.ch.length ≤ B) (k : Nat) (hk : k ≤ l.length) : (chTo l i k).length ≤ B := by
  induction k with
  | zero => exact Nat.zero_le _
  | succ k ih =>
    by_cases hi : i ≤ k
    · rw [chTo_t hi, orB_len, getD_lt (by omega)]
      have := ih (by omega)
      have := h _ (List.getElem_mem (show k < l.length by omega))
      omega
    · rw [chTo_f hi]; exact ih (by omega)
def changed (l : List Snp) (i j : Nat) : List UInt8 := chTo l i (min j l.length)
/-- Bytes that a variable has; nil is none. -/
def BV (v : AV) (l : List UInt8) : Prop := v = .lst 1 (l.map eB) ∨ (v = .nils ∧ l = [])
theorem BV.fz {v : AV} {l : List UInt8} {H0 H : Hp} (h : BV v l) : FZ H0 H (.lst 1 (l.map eB)) v := by
  rcases h with rfl | ⟨rfl, rfl⟩
  · exact FZ.lst (FZL.plain (plain_map fun _ => rfl))
  · exact FZ.nils0
theorem BV.or {f v : AV} {a : List UInt8} {y : AV} {H : Hp} {K : AV → Hp → Prop} (h : BV v a) (hc : Call f [.lst 1 (a.map eB), y] H K) : Call f [v, y] H K := by
  rcases h with rfl | ⟨rfl, rfl⟩
  · exact hc
  · exact nilArg hc
theorem changed27 {H : Hp} {l : List Snp} {i j : Nat} {K : AV → Hp → Prop} (hl : l.length ≤ 100000) (hi : i ≤ 100000) (hj : j ≤ 100000) (hb : ∀ s ∈ l, s.ch.length ≤ 100000) (hk : K (.lst 1 ((changed l i j).map eB)) H) :
    Call (.func 27 [] []) [.lst 3 (l.map eSnap), .int .i64 i, .int .i64 j] H K := by
  refine enterE (N := 31) rfl fn27 rfl rfl rfl rfl rfl fun hwf => ?_
  simp (disch := (refine ofP ?_; first | assumption | decide | omega | (simp only [new_next, set_next] <;> omega) | with_unfolding_all exact ofR rfl | with_unfolding_all exact ofNt rfl)) only [go_sem]
  refine loopE 1073741696 (by kernel_rfl) (fun r G H' => H' = H ∧ ∃ (k : Nat) (v : AV), k ≤ l.length ∧ r = l.length - k ∧ G.get 8 = some (.int .i64 k) ∧ G.get 7 = some v ∧ BV v (chTo l i (min j k))) l.length ⟨rfl, 0, .nils, Nat.zero_le _, rfl, rfl, rfl, .inr ⟨rfl, by rw [Nat.min_zero]; rfl⟩⟩ ?_
  rintro r G H' hG ⟨rfl, k, v, hk2, rfl, g8, g7, hv⟩
  by_cases hlt : k < l.length
  · by_cases h1 : i ≤ k
    · by_cases h2 : k < j
      · have hL := chTo_len (i := i) hb (min j k) (by omega)
        have hB := hb _ (List.getElem_mem hlt)
        simp (disch := (refine ofP ?_; first | assumption | decide | omega | (simp only [new_next, set_next] <;> omega) | with_unfolding_all exact ofR rfl | with_unfolding_all exact ofNt rfl)) only [go_sem, g8, g7, hG, List.length_map, ia_lst_map]
        refine hv.or (or62 (by omega) (by omega) ?_)
        simp (disch := (refine ofP ?_; first | assumption | decide | omega | (simp only [new_next, set_next] <;> omega) | with_unfolding_all exact ofR rfl | with_unfolding_all exact ofNt rfl)) only [go_sem, g8, hG, wrap_i64]
        refine ⟨_, by omega, k + 1, _, hlt, rfl, rfl, rfl, .inl ?_⟩
        rw [show min j (k + 1) = k + 1 by omega, chTo_t h1, getD_lt hlt, show min j k = k by omega]
      · simp (disch := (refine ofP ?_; first | assumption | decide | omega | (simp only [new_next, set_next] <;> omega) | with_unfolding_all exact ofR rfl | with_unfolding_all exact ofNt rfl)) only [go_sem, g8, g7, hG, List.length_map, wrap_i64]
        refine ⟨_, by omega, k + 1, _, hlt, rfl, rfl, rfl, ?_⟩
        rw [show min j (k + 1) = min j k by omega]
        exact hv
    · simp (disch := (refine ofP ?_; first | assumption | decide | omega | (simp only [new_next, set_next] <;> omega) | with_unfolding_all exact ofR rfl | with_unfolding_all exact ofNt rfl)) only [go_sem, g8, g7, hG, List.length_map, wrap_i64]
      refine ⟨_, by omega, k + 1, _, hlt, rfl, rfl, rfl, ?_⟩
      by_cases h2 : k < j
      · rw [show min j (k + 1) = k + 1 by omega, chTo_f h1, ← show min j k = k by omega]
        exact hv
      · rw [show min j (k + 1) = min j k by omega]
        exact hv
  · simp (disch := (refine ofP ?_; first | assumption | decide | omega | (simp only [new_next, set_next] <;> omega) | with_unfolding_all exact ofR rfl | with_unfolding_all exact ofNt rfl)) only [go_sem, g8, g7, hG, List.length_map]
    obtain rfl : k = l.length := by omega
    exact .inr (.inl ⟨Fr.refl _, _, hv.fz, hk⟩)
theorem from57 {H : Hp} {l : List Snp} {i : Int} {K : AV → Hp → Prop} (hk : K (.func 109 [] [.ptr (H.next + 1) 0, .ptr H.next 0]) (newBlk (newBlk H (.cells [.lst 3 (l.map eSnap)] 23 true true)).2 (.cells [.int .i64 i] 3 true true)).2) : Call (.func 57 [] []) [.lst 3 (l.map eSnap), .int .i64 i] H K := by
  refine enterE (N := 6) rfl fn57 rfl rfl rfl rfl rfl fun hwf => ?_
  simp (disch := (refine ofP ?_; first | assumption | decide | omega | (simp only [new_next, set_next] <;> omega) | with_unfolding_all exact ofR rfl | with_unfolding_all exact ofNt rfl)) only [go_sem]
  exact .inl hk
theorem from109 {H : Hp} {ib lb y i0 : Nat} {l : List Snp} {K : AV → Hp → Prop} (I : Nat → Hp → Prop) (hl : l.length ≤ 100000) (hi0 : i0 ≤ 100000)
    (hb : ∀ k H', I k H' → H'.m.get ib = some (.cells [.int .i64 k] 3 true true) ∧ H'.m.get lb = some (.cells [.lst 3 (l.map eSnap)] 23 true true)) (h0 : I i0 H)
    (hs : ∀ k (hk : k < l.length) H', i0 ≤ k → I k H' → Call (.yield y) [.int .i64 k, eSnap l[k]] H' fun v H'' => (v = .bool true ∧ H''.m.get ib = some (.cells [.int .i64 k] 3 true true) ∧ I (k + 1) (setBlk H'' ib (.cells [.int .i64 ((k : Int) + 1)] 3 true true))) ∨ (v = .bool false ∧ K (.tuple []) H''))
    (hn : ∀ k H', l.length ≤ k → i0 ≤ k → (k ≤ l.length ∨ k = i0) → I k H' → K (.tuple []) H') :
    Call (.func 109 [] [.ptr ib 0, .ptr lb 0]) [.yield y] H K := by
  refine enterE (N := 20) rfl fn109 rfl rfl rfl rfl rfl fun hwf => ?_
  obtain ⟨hb0, hb1⟩ := hb i0 H h0
  simp (disch := (refine ofP ?_; first | assumption | decide | omega | (simp only [new_next, set_next] <;> omega) | with_unfolding_all exact ofR rfl | with_unfolding_all exact ofNt rfl)) only [go_sem, kn hb0, kn hb1]
  refine loopE 1048512 (by kernel_rfl) (fun r G H' => ∃ k : Nat, i0 ≤ k ∧ (k ≤ l.length ∨ k = i0) ∧ r = l.length - k ∧ I k H') (l.length - i0) ⟨i0, Nat.le_refl _, .inr rfl, rfl, h0⟩ ?_
  rintro r G H' hG ⟨k, hk0, hk1, rfl, hI⟩
  obtain ⟨hbk, hbl⟩ := hb k H' hI
  by_cases hlt : k < l.length
  · simp (disch := (refine ofP ?_; first | assumption | decide | omega | (simp only [new_next, set_next] <;> omega) | with_unfolding_all exact ofR rfl | with_unfolding_all exact ofNt rfl)) only [go_sem, hG, kn hbk, kn hbl, List.length_map]
    refine drawE (by kernel_rfl) (by kernel_rfl) ?_
    simp (disch := (refine ofP ?_; first | assumption | decide | omega | (simp only [new_next, set_next] <;> omega) | with_unfolding_all exact ofR rfl | with_unfolding_all exact ofNt rfl)) only [go_sem, hG, kn hbk, kn hbl, ia_lst_map, List.length_map]
    refine (hs k hlt H' hk0 hI).mono ?_
    rintro v H'' (⟨rfl, hI1, hI'⟩ | ⟨rfl, hk⟩)
    · simp (disch := (refine ofP ?_; first | assumption | decide | omega | (simp only [new_next, set_next] <;> omega) | with_unfolding_all exact ofR rfl | with_unfolding_all exact ofNt rfl)) only [go_sem, hG, kn hI1, wrap_i64]
      exact ⟨_, by omega, k + 1, by omega, .inl hlt, rfl, hI'⟩
    · simp (disch := (refine ofP ?_; first | assumption | decide | omega | (simp only [new_next, set_next] <;> omega) | with_unfolding_all exact ofR rfl | with_unfolding_all exact ofNt rfl)) only [go_sem]
      exact .inl hk
  · simp (disch := (refine ofP ?_; first | assumption | decide | omega | (simp only [new_next, set_next] <;> omega) | with_unfolding_all exact ofR rfl | with_unfolding_all exact ofNt rfl)) only [go_sem, hG, kn hbk, kn hbl, List.length_map]
    exact .inl (hn k H' (by omega) hk0 hk1 hI)
end
end Go.Ev

namespace Go.Ev
open Go.Proofs
noncomputable section
set_option maxRecDepth 100000
theorem chTo_end {l : List Snp} {i j k : Nat} (h1 : i ≤ k) (h2 : k ≤ j ∨ k = i) (h3 : k ≤ l.length ∨ k = i) (h4 : j ≤ k ∨ l.length ≤ k) : chTo l i k = changed l i j := by
  unfold changed
  by_cases h : k = i
  · subst h
    rw [chTo_low (Nat.le_refl _), chTo_low (by omega)]
  · rw [show min j l.length = k by omega]
/-- chain.Changed. -/
theorem changed21 {H : Hp} {l : List Snp} {i j : Nat} {K : AV → Hp → Prop} (hl : l.length ≤ 100000) (hi : i ≤ 100000) (hj : j ≤ 100000) (hb : ∀ s ∈ l, s.ch.length ≤ 100000) (hk : K (.lst 1 ((changed l i j).map eB)) H) :
    Call (.func 21 [] []) [.lst 3 (l.map eSnap), .int .i64 i, .int .i64 j] H K := by
  refine enterE (N := 24) rfl fn21 rfl rfl rfl rfl rfl fun hwf => ?_
  simp (disch := (refine ofP ?_; first | assumption | decide | omega | (simp only [new_next, set_next] <;> omega) | with_unfolding_all exact ofR rfl | with_unfolding_all exact ofNt rfl)) only [go_sem, show max (i : Int) 0 = i from by omega]
  refine from57 ?_
  simp (disch := (refine ofP ?_; first | assumption | decide | omega | (simp only [new_next, set_next] <;> omega) | with_unfolding_all exact ofR rfl | with_unfolding_all exact ofNt rfl)) only [go_sem]
  generalize hLB : Blk.loop _ _ _ _ _ _ _ _ _ = LB
  refine from109 (i0 := i) (l := l) (fun k H' => ∃ v, Fr H H' ∧ H.next + 5 ≤ H'.next ∧ H'.m.get H.next = some (.cells [.int .i64 j] 3 true true) ∧ H'.m.get (H.next + 1) = some (.cells [v] 41 true true) ∧ H'.m.get (H.next + 1 + 1) = some (.cells [.lst 3 (l.map eSnap)] 23 true true) ∧
    H'.m.get (H.next + 1 + 1 + 1) = some (.cells [.int .i64 k] 3 true true) ∧ H'.m.get (H.next + 1 + 1 + 1 + 1) = some LB ∧ BV v (chTo l i k) ∧ (k ≤ j ∨ k = i)) hl hi ?_ ?_ ?_ ?_
  · rintro k H' ⟨v, hf, hn, m0, m1, m2, m3, m4, hv, hkj⟩
    exact ⟨m3, m2⟩
  · refine ⟨.nils, ?_, Nat.le_refl _, ?_, ?_, ?_, ?_, ?_, .inr ⟨rfl, chTo_low (Nat.le_refl _)⟩, .inr rfl⟩
    · (repeat first | assumption | exact Fr.refl _ | refine Fr.newT ?_ _ | refine Fr.set ?_ (by omega) _)
    · simp (disch := (refine ofP ?_; first | assumption | decide | omega | (simp only [new_next, set_next] <;> omega) | with_unfolding_all exact ofR rfl | with_unfolding_all exact ofNt rfl)) only [go_sem]
    · simp (disch := (refine ofP ?_; first | assumption | decide | omega | (simp only [new_next, set_next] <;> omega) | with_unfolding_all exact ofR rfl | with_unfolding_all exact ofNt rfl)) only [go_sem]
    · simp (disch := (refine ofP ?_; first | assumption | decide | omega | (simp only [new_next, set_next] <;> omega) | with_unfolding_all exact ofR rfl | with_unfolding_all exact ofNt rfl)) only [go_sem]
    · simp (disch := (refine ofP ?_; first | assumption | decide | omega | (simp only [new_next, set_next] <;> omega) | with_unfolding_all exact ofR rfl | with_unfolding_all exact ofNt rfl)) only [go_sem]
    · simp (disch := (refine ofP ?_; first | assumption | decide | omega | (simp only [new_next, set_next] <;> omega) | with_unfolding_all exact ofR rfl | with_unfolding_all exact ofNt rfl)) only [go_sem]
  · rintro k hlt H' hik ⟨v, hf, hn, m0, m1, m2, m3, m4, hv, hkj⟩
    subst hLB
    refine yieldE m4 ?_
    by_cases h : k < j
    · have hL := chTo_len (i := i) hb k (by omega)
      have hB := hb _ (List.getElem_mem hlt)
      rw [eSnap_def]
      simp (disch := (refine ofP ?_; first | assumption | decide | omega | (simp only [new_next, set_next] <;> omega) | with_unfolding_all exact ofR rfl | with_unfolding_all exact ofNt rfl)) only [go_sem, kn m0, kn m1, kn m2, kn m3, m4]
      refine hv.or (or58 (by omega) (by omega) ?_)
      simp (disch := (refine ofP ?_; first | assumption | decide | omega | (simp only [new_next, set_next] <;> omega) | with_unfolding_all exact ofR rfl | with_unfolding_all exact ofNt rfl)) only [go_sem, kn m0, kn m1, kn m2, kn m3, m4, m3]
      refine .inl ⟨.lst 1 ((orB (chTo l i k) l[k].ch).map eB), ?_⟩
      and_intros
      all_goals (try (first | ((repeat first | assumption | exact Fr.refl _ | refine Fr.newT ?_ _ | refine Fr.set ?_ (by omega) _); done) | rfl | (left; rw [chTo_t hik, getD_lt hlt]; done) | omega))
    · rw [eSnap_def]
      simp (disch := (refine ofP ?_; first | assumption | decide | omega | (simp only [new_next, set_next] <;> omega) | with_unfolding_all exact ofR rfl | with_unfolding_all exact ofNt rfl)) only [go_sem, kn m0, kn m1, kn m2, kn m3, m4]
      exact .inr (.inr (.inl ⟨by (repeat first | assumption | exact Fr.refl _ | refine Fr.newT ?_ _ | refine Fr.set ?_ (by omega) _), _, hv.fz, by rw [← chTo_end hik hkj (.inl (by omega)) (.inl (by omega))] at hk; exact hk⟩))
  · rintro k H' hlk hik hk1 ⟨v, hf, hn, m0, m1, m2, m3, m4, hv, hkj⟩
    subst hLB
    simp (disch := (refine ofP ?_; first | assumption | decide | omega | (simp only [new_next, set_next] <;> omega) | with_unfolding_all exact ofR rfl | with_unfolding_all exact ofNt rfl)) only [go_sem, kn m0, kn m1, m4]
    exact .inr (.inl ⟨by (repeat first | assumption | exact Fr.refl _ | refine Fr.newT ?_ _ | refine Fr.set ?_ (by omega) _), _, hv.fz, by rw [← chTo_end hik hkj hk1 (.inr hlk)] at hk; exact hk⟩)
end
end Go.Ev

namespace Go.Ev
open Go.Proofs
noncomputable section
set_option maxRecDepth 100000
theorem fn23 : E1.fn 23 = some Tryz.f23 := by kernel_rfl
theorem fn28 : E1.fn 28 = some Tryz.f28 := by kernel_rfl
/-- Where a block of a snapshot stands: in the first table from it on that has it. -/
def hold (b : Int) : List Snp → Option Int
  | [] => none
  | s :: r => match tAt s.tb b with | some a => some a | none => hold b r
def holder (l : List Snp) (i : Nat) (b : Int) : Option Int := hold b (l.drop i)
theorem holder_some {l : List Snp} {i : Nat} {b a : Int} (hi : i < l.length) (h : tAt l[i].tb b = some a) : holder l i b = some a := by
  unfold holder
  rw [List.drop_eq_getElem_cons hi]
  unfold hold
  rw [h]
theorem holder_none {l : List Snp} {i : Nat} {b : Int} (hi : i < l.length) (h : tAt l[i].tb b = none) : holder l i b = holder l (i + 1) b := by
  unfold holder
  rw [List.drop_eq_getElem_cons hi]
  conv => lhs; unfold hold
  rw [h]
theorem holder_end {l : List Snp} {i : Nat} {b : Int} (hi : l.length ≤ i) : holder l i b = none := by
  unfold holder
  rw [List.drop_eq_nil_of_le hi]; rfl
def eHeld : Option Int → AV
  | none => .agg [.int .i64 0, .bool false]
  | some a => .agg [.int .i64 a, .bool true]
theorem holder28 {H : Hp} {l : List Snp} {i : Nat} {b : Int} {K : AV → Hp → Prop} (hl : l.length ≤ 100000) (hi : i ≤ 100000) (hb : ∀ s ∈ l, s.tb.length ≤ 100000) (hk : K (eHeld (holder l i b)) H) :
    Call (.func 28 [] []) [.lst 3 (l.map eSnap), .int .i64 i, .int .i64 b] H K := by
  refine enterE (N := 40) rfl fn28 rfl rfl rfl rfl rfl fun hwf => ?_
  simp (disch := (refine ofP ?_; first | assumption | decide | omega | (simp only [new_next, set_next] <;> omega) | with_unfolding_all exact ofR rfl | with_unfolding_all exact ofNt rfl)) only [go_sem]
  refine loopE 549755813248 (by kernel_rfl) (fun r G H' => H' = (newBlk H (.cells [.int .i64 0, .bool false] 74 true true)).2 ∧ ∃ k : Nat, i ≤ k ∧ (k ≤ l.length ∨ k = i) ∧ r = l.length - k ∧ G.get 7 = some (.int .i64 k) ∧ holder l k b = holder l i b) (l.length - i) ⟨rfl, i, Nat.le_refl _, .inr rfl, rfl, rfl, rfl⟩ ?_
  rintro r G H' hG ⟨rfl, k, hik, hk1, rfl, g7, he⟩
  by_cases hlt : k < l.length
  · have hB := hb _ (List.getElem_mem hlt)
    simp (disch := (refine ofP ?_; first | assumption | decide | omega | (simp only [new_next, set_next] <;> omega) | with_unfolding_all exact ofR rfl | with_unfolding_all exact ofNt rfl)) only [go_sem, g7, hG, List.length_map, ia_lst_map]
    refine find63 (by omega) ?_
    rcases tAt_cases l[k].tb b with ⟨h, h2⟩ | ⟨j, hj, h, h2⟩
    · simp (disch := (refine ofP ?_; first | assumption | decide | omega | (simp only [new_next, set_next] <;> omega) | with_unfolding_all exact ofR rfl | with_unfolding_all exact ofNt rfl)) only [go_sem, h, g7, hG, wrap_i64]
      exact ⟨_, by omega, k + 1, by omega, .inl hlt, rfl, rfl, by rw [← he, holder_none hlt h2]⟩
    · rw [← he, holder_some hlt h2] at hk
      simp (disch := (refine ofP ?_; first | assumption | decide | omega | (simp only [new_next, set_next] <;> omega) | with_unfolding_all exact ofR rfl | with_unfolding_all exact ofNt rfl)) only [go_sem, h, g7, hG, List.length_map, ia_lst_map]
      exact .inr (.inl ⟨by (repeat first | assumption | exact Fr.refl _ | refine Fr.newT ?_ _ | refine Fr.set ?_ (by omega) _), _, FZ.plain rfl, hk⟩)
  · simp (disch := (refine ofP ?_; first | assumption | decide | omega | (simp only [new_next, set_next] <;> omega) | with_unfolding_all exact ofR rfl | with_unfolding_all exact ofNt rfl)) only [go_sem, g7, hG, List.length_map]
    rw [← he, holder_end (by omega)] at hk
    exact .inr (.inl ⟨by (repeat first | assumption | exact Fr.refl _ | refine Fr.newT ?_ _ | refine Fr.set ?_ (by omega) _), _, FZ.plain rfl, hk⟩)
/-- chain.Holder. -/
theorem holder23 {H : Hp} {l : List Snp} {i : Nat} {b : Int} {K : AV → Hp → Prop} (hl : l.length ≤ 100000) (hi : i ≤ 100000) (hb : ∀ s ∈ l, s.tb.length ≤ 100000) (hk : K (eAt (holder l i b)) H) :
    Call (.func 23 [] []) [.lst 3 (l.map eSnap), .int .i64 i, .int .i64 b] H K := by
  refine enterE (N := 24) rfl fn23 rfl rfl rfl rfl rfl fun hwf => ?_
  simp (disch := (refine ofP ?_; first | assumption | decide | omega | (simp only [new_next, set_next] <;> omega) | with_unfolding_all exact ofR rfl | with_unfolding_all exact ofNt rfl)) only [go_sem]
  refine from57 ?_
  simp (disch := (refine ofP ?_; first | assumption | decide | omega | (simp only [new_next, set_next] <;> omega) | with_unfolding_all exact ofR rfl | with_unfolding_all exact ofNt rfl)) only [go_sem]
  generalize hLB : Blk.loop _ _ _ _ _ _ _ _ _ = LB
  refine from109 (i0 := i) (l := l) (fun k H' => ∃ u w : AV, Fr H H' ∧ H.next + 6 ≤ H'.next ∧ H'.m.get H.next = some (.cells [.int .i64 b] 3 true true) ∧ H'.m.get (H.next + 1) = some (.cells [u] 3 true true) ∧ H'.m.get (H.next + 1 + 1) = some (.cells [w] 4 true true) ∧
    H'.m.get (H.next + 1 + 1 + 1) = some (.cells [.lst 3 (l.map eSnap)] 23 true true) ∧
    H'.m.get (H.next + 1 + 1 + 1 + 1) = some (.cells [.int .i64 k] 3 true true) ∧ H'.m.get (H.next + 1 + 1 + 1 + 1 + 1) = some LB ∧ holder l k b = holder l i b) hl hi ?_ ?_ ?_ ?_
  · rintro k H' ⟨u, w, hf, hn, m0, m1, m2, m3, m4, m5, he⟩
    exact ⟨m4, m3⟩
  · refine ⟨.int .i64 0, .bool false, ?_, Nat.le_refl _, ?_, ?_, ?_, ?_, ?_, ?_, rfl⟩
    · (repeat first | assumption | exact Fr.refl _ | refine Fr.newT ?_ _ | refine Fr.set ?_ (by omega) _)
    · simp (disch := (refine ofP ?_; first | assumption | decide | omega | (simp only [new_next, set_next] <;> omega) | with_unfolding_all exact ofR rfl | with_unfolding_all exact ofNt rfl)) only [go_sem]
    · simp (disch := (refine ofP ?_; first | assumption | decide | omega | (simp only [new_next, set_next] <;> omega) | with_unfolding_all exact ofR rfl | with_unfolding_all exact ofNt rfl)) only [go_sem]
    · simp (disch := (refine ofP ?_; first | assumption | decide | omega | (simp only [new_next, set_next] <;> omega) | with_unfolding_all exact ofR rfl | with_unfolding_all exact ofNt rfl)) only [go_sem]
    · simp (disch := (refine ofP ?_; first | assumption | decide | omega | (simp only [new_next, set_next] <;> omega) | with_unfolding_all exact ofR rfl | with_unfolding_all exact ofNt rfl)) only [go_sem]
    · simp (disch := (refine ofP ?_; first | assumption | decide | omega | (simp only [new_next, set_next] <;> omega) | with_unfolding_all exact ofR rfl | with_unfolding_all exact ofNt rfl)) only [go_sem]
    · simp (disch := (refine ofP ?_; first | assumption | decide | omega | (simp only [new_next, set_next] <;> omega) | with_unfolding_all exact ofR rfl | with_unfolding_all exact ofNt rfl)) only [go_sem]
  · rintro k hlt H' hik ⟨u, w, hf, hn, m0, m1, m2, m3, m4, m5, he⟩
    subst hLB
    refine yieldE m5 ?_
    have hB := hb _ (List.getElem_mem hlt)
    rw [eSnap_def]
    simp (disch := (refine ofP ?_; first | assumption | decide | omega | (simp only [new_next, set_next] <;> omega) | with_unfolding_all exact ofR rfl | with_unfolding_all exact ofNt rfl)) only [go_sem, kn m0, kn m1, kn m2, kn m3, kn m4, m5]
    refine find60 (by omega) ?_
    cases h : tAt l[k].tb b with
    | none =>
      rw [show eAt none = .tuple [.int .i64 0, .bool false] from rfl]
      simp (disch := (refine ofP ?_; first | assumption | decide | omega | (simp only [new_next, set_next] <;> omega) | with_unfolding_all exact ofR rfl | with_unfolding_all exact ofNt rfl)) only [go_sem, kn m0, kn m1, kn m2, kn m3, kn m4, m4, m5]
      refine .inl ⟨.int .i64 0, .bool false, ?_⟩
      and_intros
      all_goals (try (first | ((repeat first | assumption | exact Fr.refl _ | refine Fr.newT ?_ _ | refine Fr.set ?_ (by omega) _); done) | rfl | (rw [← he, holder_none hlt h]; done) | omega))
    | some a =>
      rw [← he, holder_some hlt h] at hk
      rw [show eAt (some a) = .tuple [.int .i64 a, .bool true] from rfl]
      simp (disch := (refine ofP ?_; first | assumption | decide | omega | (simp only [new_next, set_next] <;> omega) | with_unfolding_all exact ofR rfl | with_unfolding_all exact ofNt rfl)) only [go_sem, kn m0, kn m1, kn m2, kn m3, kn m4, m4, m5]
      exact .inr (.inr (.inl ⟨by (repeat first | assumption | exact Fr.refl _ | refine Fr.newT ?_ _ | refine Fr.set ?_ (by omega) _), _, FZ.tuple (FZL.cons FZ.int (FZL.cons FZ.bool FZL.nil)), hk⟩))
  · rintro k H' hlk hik hk1 ⟨u, w, hf, hn, m0, m1, m2, m3, m4, m5, he⟩
    subst hLB
    rw [← he, holder_end hlk] at hk
    simp (disch := (refine ofP ?_; first | assumption | decide | omega | (simp only [new_next, set_next] <;> omega) | with_unfolding_all exact ofR rfl | with_unfolding_all exact ofNt rfl)) only [go_sem, kn m0, kn m1, kn m2, kn m4, m5]
    exact .inr (.inl ⟨by (repeat first | assumption | exact Fr.refl _ | refine Fr.newT ?_ _ | refine Fr.set ?_ (by omega) _), _, FZ.tuple (FZL.cons FZ.int (FZL.cons FZ.bool FZL.nil)), hk⟩)
end
end Go.Ev
