/-
  A model in memory: backups made. No conditions.
-/
import Derived.Test.YtajekleknljggaaPC
set_option linter.unusedVariables false
set_option linter.unusedSimpArgs false
namespace Go.Ev
open Go.Proofs
noncomputable section
set_option maxRecDepth 100000
theorem fn50 : E1.fn 50 = some Try.f50 := by kernel_rfl
def eI (n : Int) : AV := .int .i64 n
theorem cells_eI (n : Int) : (eI n).cells = [.int .i64 n] := rfl
attribute [go_sem] cells_eI
def wrtB (zs : List (Shot × AV)) (base : Int) (to b : Nat) : Nat -> Bool
 | 0 => decide (base < 0)
 | k + 1 => wrtB zs base to b k || ((zs[base.toNat + k]?).map fun z => z.1.w.getD b false).getD false
def wrtTo (zs : List (Shot × AV)) (base : Int) (to : Nat) : Nat -> List Int
 | 0 => []
 | b + 1 => if wrtB zs base to b (to - base.toNat) then wrtTo zs base to b ++ [(b : Int)] else wrtTo zs base to b
theorem wrtTo_len (zs : List (Shot × AV)) (base : Int) (to n : Nat) : (wrtTo zs base to n).length ≤ n := by
 induction n with
 | zero => exact Nat.le_refl _
 | succ n ih =>
  unfold wrtTo
  split
  ·
   rw [List.length_append]; exact Nat.succ_le_succ ih
  ·
   omega
theorem wrtTo_lt (zs : List (Shot × AV)) (base : Int) (to n : Nat) : ∀ x ∈ wrtTo zs base to n, 0 ≤ x /\ x < n := by
 induction n with
 | zero => intro x hx; cases hx
 | succ n ih =>
  intro x hx
  unfold wrtTo at hx
  split at hx
  ·
   rcases List.mem_append.1 hx with h | h
   ·
    have := ih x h; omega
   ·
    rw [List.mem_singleton] at h; omega
  ·
   have := ih x hx; omega
theorem ShAt.part {H : Hp} {sv : AV} {zs : List (Shot × AV)} (h : ShAt H sv zs) {a c : Nat} (h1 : a ≤ c) (h2 : c < zs.length) :
 ∃ k, evSlice (.slice 95) EE sv (some (.int .i64 (a : Int))) (some (.int .i64 (c : Int))) none = some (.slice (sB sv) (a * 3) (c - a) k) := by
 rcases h with ⟨_, rfl⟩ | ⟨b, N, junk, rfl, hb, hN, hlt, hf⟩
 ·
  cases h2
 ·
  exact ⟨_, sl_rest h1 (by omega) (by omega)⟩
set_option maxHeartbeats 1000000 in
theorem written50 {H : Hp} {p to : Nat} {base : Int} {bs : List (List UInt8)} {zs : List (Shot × AV)} {next : Int} {bv sv : AV} {K : AV -> Hp -> Prop} (h : MAt H p bs zs next bv sv) (hto : to < zs.length) (hba : base = -1 ∨ (0 ≤ base /\ base ≤ to))
 (hk : ∀ v H', Acc EE H H' 3 1 v ((wrtTo zs base to bs.length).map eI) -> K v H') : Call (.func 50 [] []) [.ptr p 0, .int .i64 base, .int .i64 to] H K := by
 have hn := h.n
 have hk8 := h.k
 have ha : base.toNat ≤ to := by omega
 have hmx : max base 0 = ((base.toNat : Nat) : Int) := by omega
 obtain ⟨kk, hsl⟩ := h.s.part ha hto
 refine enterE (N := 51) rfl fn50 rfl rfl rfl rfl rfl fun hwf => ?_
 have hbl := h.b.isSl.len (E := EE) (e := 53)
 simp (disch := (refine ofP ?_; decide)) only [go_sem, kn h.m, hbl]
 refine loopE 1125899906714496 (by kernel_rfl) (fun r G H' => ∃ (b : Nat) (v : AV), b ≤ bs.length /\ r = bs.length - b /\ G.get 17 = some (.int .i64 (b : Int)) /\ G.get 7 = some v /\ Acc EE H H' 3 1 v ((wrtTo zs base to b).map eI)) bs.length
  ⟨0, .nils, Nat.zero_le _, (Nat.sub_zero _).symm, rfl, rfl, Acc.nil ty3s (by decide) ty3g⟩ ?_
 rintro r G H' hG ⟨b, v, hb, rfl, g17, g7, ho⟩
 have hlen := wrtTo_len zs base to b
 have hM := h.keep ho.fr
 by_cases hlt : b < bs.length
 ·
  simp (disch := (refine ofP ?_; first | assumption | decide | omega | (simp only [new_next, set_next] <;> omega) | with_unfolding_all exact ofR rfl | with_unfolding_all exact ofNt rfl)) only [go_sem, g17, g7, hG, kn hM.m, hmx, hsl]
  refine loopE 17590038563328 (by kernel_rfl) (fun r G2 H2 => ∃ k : Nat, k ≤ to - base.toNat /\ r = to - base.toNat - k /\ G2.get 31 = some (.int .i64 (k : Int)) /\ G2.get 9 = some (.bool (wrtB zs base to b k)) /\ Fr H' H2) (to - base.toNat) ⟨0, Nat.zero_le _, (Nat.sub_zero _).symm, ?_, ?_, Fr.refl _⟩ ?_
  ·
   simp (disch := assumption) only [go_sem]; first | done | rfl
  ·
   simp (disch := (refine ofP ?_; decide)) only [go_sem]; first | done | rfl
  rintro r2 G2 H2 hG2 ⟨k, hk1, rfl, g31, g9, f2⟩
  by_cases hlt2 : k < to - base.toNat
  ·
   have hM2 := hM.keep f2
   have hi : base.toNat + k < zs.length := by omega
   have hix : idxAddr (.slice 95) EE (.slice (sB sv) (base.toNat * 3) (to - base.toNat) kk) k = some (.ptr (sB sv) ((base.toNat + k) * 3)) := by
    show bc (Nat.blt k (to - base.toNat)) (some (AV.ptr (sB sv) (base.toNat * 3 + k * sizeT EE 95))) none = _
    rw [(blt_iff _ _).2 hlt2, ty95s, Nat.add_mul]; rfl
   have hc := hM2.s.cells hi
   have hw := hM2.widx hi hlt ty4s
   have hwc := hM2.wcell hi hlt
   have hwl : b < zs[base.toNat + k].1.w.length := by rw [(h.zl _ (List.getElem_mem hi)).1]; exact hlt
   have hst : wrtB zs base to b (k + 1) = (wrtB zs base to b k || zs[base.toNat + k].1.w[b]) := by
    show (wrtB zs base to b k || ((zs[base.toNat + k]?).map fun z => z.1.w.getD b false).getD false) = _
    rw [List.getElem?_eq_getElem hi, Option.map_some, Option.getD_some, getD_lt hwl]
   have hcw : cellAt H2 (sB sv) ((base.toNat + k) * 3 + 2) = some zs[base.toNat + k].2 := cellsAt_cell (j := 2) hc (by decide)
   have hone := (hM2.w _ (List.getElem_mem hi)).one
   cases hw0 : wrtB zs base to b k with
   | true =>
    rw [hw0] at g9 hst
    simp (disch := (refine ofP ?_; first | assumption | decide | omega | (simp only [new_next, set_next] <;> omega) | with_unfolding_all exact ofR rfl | with_unfolding_all exact ofNt rfl)) only [go_sem, g31, g9, hG2, hG, hix, hc, storeN_1 (oneC_cells hone), hone, oneC_cells hone, wrap_i64]
    exact ⟨_, by omega, k + 1, hlt2, rfl, rfl, by rw [hst]; rfl, f2.trans ((Fr.alloc _ _).set (Nat.le_refl _) _)⟩
   | false =>
    rw [hw0] at g9 hst
    have hM3 : MAt (setBlk (newBlk H2 (.cells [.int .i64 0, .nils, .nils] 95 true true)).2 H2.next (.cells [.int .i64 zs[base.toNat + k].1.id, .lst 64 (zs[base.toNat + k].1.bs.map eBlk), zs[base.toNat + k].2] 95 true true)) p bs zs next bv sv := hM2.keep ((Fr.alloc _ _).set (Nat.le_refl _) _)
    have hwc3 := hM3.wcell hi hlt
    simp (disch := (refine ofP ?_; first | assumption | decide | omega | (simp only [new_next, set_next] <;> omega) | with_unfolding_all exact ofR rfl | with_unfolding_all exact ofNt rfl)) only [go_sem, g31, g9, hG2, hG, hix, hc, storeN_1 (oneC_cells hone), hone, oneC_cells hone, hw, hwc3, wrap_i64]
    exact ⟨_, by omega, k + 1, hlt2, rfl, rfl, by rw [hst]; rfl, f2.trans ((Fr.alloc _ _).set (Nat.le_refl _) _)⟩
  ·
   obtain rfl : k = to - base.toNat := by omega
   have ho2 := ho.keep f2
   cases hw0 : wrtB zs base to b (to - base.toNat) with
   | true =>
    rw [hw0] at g9
    have hpush := ho2.push (by rw [List.length_map]; omega)
    have hpd := ho2.pushed (by rw [List.length_map]; omega) (eI b) (new := [.int .i64 b]) rfl rfl rfl
    have hnx : wrtTo zs base to (b + 1) = wrtTo zs base to b ++ [(b : Int)] := if_pos hw0
    simp (disch := (refine ofP ?_; first | assumption | decide | omega | (simp only [new_next, set_next] <;> omega) | with_unfolding_all exact ofR rfl | with_unfolding_all exact ofNt rfl)) only [go_sem, g31, g9, hG2, hG, g17, g7, hpush, wrap_i64]
    refine ⟨_, by omega, b + 1, _, hlt, rfl, rfl, rfl, ?_⟩
    rw [hnx, List.map_append]
    exact hpd
   | false =>
    rw [hw0] at g9
    have hnx : wrtTo zs base to (b + 1) = wrtTo zs base to b := if_neg (by rw [hw0]; decide)
    simp (disch := (refine ofP ?_; first | assumption | decide | omega | (simp only [new_next, set_next] <;> omega) | with_unfolding_all exact ofR rfl | with_unfolding_all exact ofNt rfl)) only [go_sem, g31, g9, hG2, hG, g17, g7, wrap_i64]
    refine ⟨_, by omega, b + 1, _, hlt, rfl, rfl, rfl, ?_⟩
    rw [hnx]
    exact ho2
 ·
  simp (disch := (refine ofP ?_; first | decide | omega)) only [go_sem, g17, g7, hG]
  obtain rfl : b = bs.length := by omega
  exact .inl (hk _ _ ho)
end
end Go.Ev
namespace Go.Ev
open Go.Proofs
noncomputable section
set_option maxRecDepth 100000
def IntRow (H : Hp) (base : Nat) (v : AV) (l : List Int) : Prop := (v = .nils /\ l = []) ∨ ∃ b k junk x, base ≤ b /\ b < H.next /\ v = .slice b 0 l.length k /\ H.m.get b = some (.cells (l.map eI ++ junk) 3 x true)
theorem catL_eI (l : List Int) : catL (l.map eI) = l.map eI := by
 induction l with
 | nil => rfl
 | cons a l ih => rw [List.map_cons, catL_eq, List.flatMap_cons, <- catL_eq, ih]; rfl
theorem IntRow.acc {H0 H : Hp} {v : AV} {l : List Int} (h : Acc EE H0 H 3 1 v (l.map eI)) : IntRow H H0.next v l := by
 rcases h.own.2 with ⟨rfl, h0⟩ | ⟨b, x, h1, h2, rfl, h3⟩
 ·
  exact .inl ⟨rfl, List.eq_nil_of_length_eq_zero (by simpa using h0)⟩
 ·
  rw [catL_eI] at h3
  refine .inr ⟨b, _, [], x, h1, h2, by rw [List.length_map], by rw [List.append_nil]; exact h3⟩
section
variable {H : Hp} {base : Nat} {v : AV} {l : List Int}
theorem IntRow.keep (h : IntRow H base v l) {H' : Hp} (hf : Fr H H') : IntRow H' base v l := by
 refine h.imp id ?_
 rintro ⟨b, k, junk, x, h1, h2, h3, h4⟩
 exact ⟨b, k, junk, x, h1, Nat.lt_of_lt_of_le h2 hf.nx, h3, (hf.get b h2).trans h4⟩
theorem IntRow.len (h : IntRow H base v l) {ty : TypeId} : lenAV (.slice ty) EE v = some (.int .i64 (l.length : Int)) := by
 rcases h with ⟨rfl, rfl⟩ | ⟨b, k, junk, x, h1, h2, rfl, h4⟩ <;> rfl
theorem IntRow.idx (h : IntRow H base v l) {i : Nat} (hi : i < l.length) : idxAddr (.slice 3) EE v i = some (.ptr (sB v) i) := by
 rcases h with ⟨rfl, rfl⟩ | ⟨b, k, junk, x, h1, h2, rfl, h4⟩
 ·
  cases hi
 ·
  show bc (Nat.blt i l.length) (some (AV.ptr b (Nat.add 0 (Nat.mul i (sizeT EE 3))))) none = _
  rw [(blt_iff _ _).2 hi, ty3s]
  show some (AV.ptr b (0 + i * 1)) = _
  rw [Nat.zero_add, Nat.mul_one]; rfl
theorem IntRow.cell (h : IntRow H base v l) {i : Nat} (hi : i < l.length) : cellAt H (sB v) i = some (.int .i64 l[i]) := by
 rcases h with ⟨rfl, rfl⟩ | ⟨b, k, junk, x, h1, h2, rfl, h4⟩
 ·
  cases hi
 ·
  show cellAt H b i = _
  rw [cellAt_def, h4]
  show cellB i (.cells (l.map eI ++ junk) 3 x true) = _
  rw [cellB_c, getL_eq, List.getElem?_append_left (by rw [List.length_map]; exact hi), List.getElem?_map, List.getElem?_eq_getElem hi]; rfl
end
theorem of_mem {H : Hp} {base : Nat} {v0 : AV} {l : List Int} {K : AV -> Hp -> Prop} (hrow : IntRow H base v0 l) (hb : l.length ≤ 1000) (hr : ∀ a ∈ l, -9223372036854775808 ≤ a /\ a < 9223372036854775808) (hk : K (.lst 2 ((ofN l l.length).map eRun)) H) : Call (.func 82 [] []) [v0] H K := by
 refine enterE (N := 50) rfl fn82 rfl rfl rfl rfl rfl fun hwf => ?_
 simp (disch := (refine ofP ?_; decide)) only [go_sem, hrow.len]
 refine loopE 562949953421112 (by kernel_rfl) (fun r G H' => ∃ (i : Nat) (out : AV), i ≤ l.length /\ r = l.length - i /\ G.get 8 = some (.int .i64 i) /\ G.get 3 = some out /\
  Acc EE H H' 138 2 out ((ofN l i).map eRun)) l.length ?_ ?_
 ·
  exact ⟨0, .nils, Nat.zero_le _, rfl, rfl, rfl, Acc.nil ty138s (by decide) ty138g⟩
 rintro r G H' hG ⟨i, out, hi, rfl, g8, g3, ho⟩
 have hrow := hrow.keep ho.fr
 have hlen := ofN_len l i
 have hll := ho.len (ty := 138)
 rw [List.length_map] at hll
 by_cases hlt : i < l.length
 ·
  have b1 := hr _ (List.getElem_mem hlt)
  have b2 := hr _ (List.getElem_mem (show i - 1 < l.length by omega))
  have x1 := hrow.idx hlt
  have x2 := hrow.cell hlt
  have x3 := hrow.idx (show i - 1 < l.length by omega)
  have x4 := hrow.cell (show i - 1 < l.length by omega)
  by_cases hg : goesOn l i
  ·
   have hpos := hlen.2 hg.1
   have hc := ofN_count l i _ (List.getElem_mem (show (ofN l i).length - 1 < (ofN l i).length by omega))
   have hi1 : (ofN l i).length - 1 < ((ofN l i).map eRun).length := by simp; omega
   have hcell : cellAt H' (sB out) (sO out + ((ofN l i).length - 1) * 2 + 1) = some (.int .i64 (ofN l i)[(ofN l i).length - 1].2) := by
    rw [ho.cell hi1 (by decide), List.getElem_map]; rfl
   have hg0 := hg
   obtain ⟨h1, h2, h3⟩ := hg
   simp (disch := (refine ofP ?_; first | assumption | omega)) only [getD_lt] at h2 h3
   have hw1 : wrapI .i64 ((i : Int) - 1) = ((i - 1 : Nat) : Int) := by rw [wrap_i64 (by omega) (by omega)]; omega
   simp (disch := (refine ofP ?_; first | assumption | decide | omega | with_unfolding_all exact ofR rfl)) only [go_sem, g8, g3, hG, x1, x2, hw1, x3, x4, wrap_i64, hll, ho.idx hi1, hcell, ho.put hi1, h3]
   refine ⟨_, ?_, i + 1, out, hlt, rfl, rfl, rfl, ?_⟩
   ·
    omega
   ·
    have := ho.putted hi1 (o := 1) (by decide) (x := .int .i64 ((ofN l i)[(ofN l i).length - 1].2 + 1)) rfl (eRun ((ofN l i)[(ofN l i).length - 1].1, (ofN l i)[(ofN l i).length - 1].2 + 1)) (by rw [List.getElem_map]; rfl)
    rw [ofN_t hg0]
    unfold bump
    rw [getD_lt (by omega), List.map_set]; exact this
  ·
   have hpush := ho.push (by simp; omega)
   simp only [List.length_map] at hpush
   have hdone : ∃ m', m' < l.length - i /\ ∃ (j : Nat) (out' : AV), j ≤ l.length /\ m' = l.length - j /\ some (AV.int .i64 ((i : Int) + 1)) = some (.int .i64 j) /\ some (AV.slice (H'.next + 1) 0 ((ofN l i).length + 1) (.rest 0 2 ((ofN l i).length + 1))) = some out' /\
    Acc EE H (puH EE H' 138 out [.int .i64 l[i], .int .i64 1]) 138 2 out' ((ofN l j).map eRun) := by
    refine ⟨_, ?_, i + 1, _, hlt, rfl, rfl, rfl, ?_⟩
    ·
     omega
    ·
     have := ho.pushed (by simp; omega) (eRun (l[i], 1)) (new := [.int .i64 l[i], .int .i64 1]) rfl rfl rfl
     rw [ofN_f hg, getD_lt hlt, List.map_append]
     simpa using this
   by_cases h1 : 0 < i
   ·
    have h1' : (0 : Int) < (i : Int) := by omega
    have hw1 : wrapI .i64 ((i : Int) - 1) = ((i - 1 : Nat) : Int) := by rw [wrap_i64 (by omega) (by omega)]; omega
    by_cases h2 : l[i - 1] < 4611686018427387904
    ·
     have h3 : ¬ l[i] = l[i - 1] + 1 := fun h3 => hg ⟨h1, by rw [getD_lt (by omega)]; exact h2, by rw [getD_lt hlt, getD_lt (by omega)]; exact h3⟩
     simp (disch := (refine ofP ?_; first | assumption | decide | omega | (simp only [new_next, set_next] <;> omega) | with_unfolding_all exact ofR rfl | with_unfolding_all exact ofNt rfl)) only [go_sem, g8, g3, hG, x1, x2, h1', hw1, x3, x4, h2, h3, wrap_i64, hpush, hll]
     exact hdone
    ·
     simp (disch := (refine ofP ?_; first | assumption | decide | omega | (simp only [new_next, set_next] <;> omega) | with_unfolding_all exact ofR rfl | with_unfolding_all exact ofNt rfl)) only [go_sem, g8, g3, hG, x1, x2, h1', hw1, x3, x4, h2, wrap_i64, hpush, hll]
     exact hdone
   ·
    have h1' : ¬ (0 : Int) < (i : Int) := by omega
    simp (disch := (refine ofP ?_; first | assumption | decide | omega | (simp only [new_next, set_next] <;> omega) | with_unfolding_all exact ofR rfl | with_unfolding_all exact ofNt rfl)) only [go_sem, g8, g3, hG, x1, x2, h1', wrap_i64, hpush, hll]
    exact hdone
 ·
  simp (disch := (refine ofP ?_; first | decide | omega)) only [go_sem, g8, g3, hG]
  obtain rfl : i = l.length := by omega
  exact ho.out_plain hwf (plain_map fun _ => rfl) hk
end
end Go.Ev
namespace Go.Ev
open Go.Proofs
noncomputable section
set_option maxRecDepth 100000
theorem ofN_in {n : Nat} {l : List Int} (hl : ∀ x ∈ l, 0 ≤ x /\ x < n) (hn : n ≤ 1000) : ∀ k, k ≤ l.length -> (∀ p ∈ ofN l k, 0 ≤ p.1 /\ 1 ≤ p.2 /\ p.1 + p.2 ≤ n) /\ (∀ p, (ofN l k)[(ofN l k).length - 1]? = some p -> p.1 + p.2 = l.getD (k - 1) 0 + 1)
 | 0, _ => ⟨by simp [ofN], fun p h => by simp [ofN] at h⟩
 | k + 1, hk => by
  obtain ⟨i1, i2⟩ := ofN_in hl hn k (by omega)
  have hx := hl _ (List.getElem_mem (show k < l.length by omega))
  have e0 : l.getD k 0 = l[k] := getD_lt (by omega)
  by_cases hg : goesOn l k
  ·
   obtain ⟨g1, g2, g3⟩ := hg
   have hpos : 0 < (ofN l k).length := (ofN_len l k).2 g1
   have hj : (ofN l k).length - 1 < (ofN l k).length := by omega
   have hlast := i2 _ (List.getElem?_eq_getElem hj)
   rw [ofN_t ⟨g1, g2, g3⟩]
   have hp := i1 _ (List.getElem_mem hj)
   have hb : bump (ofN l k) = (ofN l k).set ((ofN l k).length - 1) ((ofN l k)[(ofN l k).length - 1].1, (ofN l k)[(ofN l k).length - 1].2 + 1) := by unfold bump; rw [getD_lt hj]
   rw [e0] at g3
   rw [hb]
   refine ⟨fun p hp' => ?_, fun p h => ?_⟩
   ·
    rcases List.mem_or_eq_of_mem_set hp' with hp' | rfl
    ·
     exact i1 p hp'
    ·
     exact ⟨hp.1, by show 1 ≤ _ + 1; omega, by show _ + (_ + 1) ≤ (n : Int); omega⟩
   ·
    rw [List.length_set, List.getElem?_set_self hj] at h
    cases h
    show _ + (_ + 1) = l.getD (k + 1 - 1) 0 + 1
    rw [show k + 1 - 1 = k from rfl, e0]; omega
  ·
   rw [ofN_f hg]
   refine ⟨fun p hp' => ?_, fun p h => ?_⟩
   ·
    rcases List.mem_append.1 hp' with hp' | hp'
    ·
     exact i1 p hp'
    ·
     rw [List.mem_singleton] at hp'
     subst hp'
     rw [e0]
     exact ⟨hx.1, by show (1 : Int) ≤ 1; decide, by show _ + 1 ≤ (n : Int); omega⟩
   ·
    rw [List.length_append, List.length_singleton, Nat.add_sub_cancel, List.getElem?_append_right (Nat.le_refl _), Nat.sub_self] at h
    cases h
    rfl
def recStep (rs : List Rec) (first : Bool) (b : Int) (x : List UInt8) : List Rec :=
 match rs[rs.length - 1]? with
 | some r => if !first && (r.zs == zeros x) then rs.set (rs.length - 1) { r with cnt := r.cnt + 1, data := r.data ++ (if zeros x then [] else x) } else rs ++ [⟨b, 1, zeros x, if zeros x then [] else x⟩]
 | none => rs ++ [⟨b, 1, zeros x, if zeros x then [] else x⟩]
def recRun (bs : List (List UInt8)) (rs : List Rec) (r : Int × Int) : Nat -> List Rec
 | 0 => rs
 | k + 1 => recStep (recRun bs rs r k) (decide (k = 0)) (r.1 + k) (bs.getD (r.1.toNat + k) [])
def recAll (bs : List (List UInt8)) (runs : List (Int × Int)) : Nat -> List Rec
 | 0 => []
 | k + 1 => recRun bs (recAll bs runs k) (runs.getD k (0, 0)) (runs.getD k (0, 0)).2.toNat
def gR (q : Rec × AV) : AV := .agg [.int .i64 q.1.fr, .int .i64 q.1.cnt, .bool q.1.zs, q.2]
theorem gR_cells (q : Rec × AV) : (gR q).cells = [.int .i64 q.1.fr, .int .i64 q.1.cnt, .bool q.1.zs, q.2] := rfl
def DatO (H : Hp) (base : Nat) (v : AV) (d : List UInt8) : Prop := (v = .nils /\ d = []) ∨ (∃ b, base ≤ b /\ b < H.next /\ d.length = 64 /\ v = .slice b 0 64 (.ex 64) /\ H.m.get b = some (.cells (d.map eB) 53 true true)) ∨ ∃ b, base ≤ b /\ b < H.next /\ 0 < d.length /\ v = .slice b 0 d.length (.rest 0 1 d.length) /\ H.m.get b = some (.cells (d.map eB) 5 false true)
section
variable {H : Hp} {base : Nat} {v : AV} {d : List UInt8}
theorem DatO.tr (h : DatO H base v d) {H' : Hp} (hn : H.next ≤ H'.next) (hg : v = .nils ∨ H'.m.get (sB v) = H.m.get (sB v)) : DatO H' base v d := by
 rcases h with h | ⟨b, h1, h2, h3, rfl, h4⟩ | ⟨b, h1, h2, h3, rfl, h4⟩
 ·
  exact .inl h
 ·
  exact .inr (.inl ⟨b, h1, Nat.lt_of_lt_of_le h2 hn, h3, rfl, (hg.resolve_left (fun h => (by cases h))).trans h4⟩)
 ·
  exact .inr (.inr ⟨b, h1, Nat.lt_of_lt_of_le h2 hn, h3, rfl, (hg.resolve_left (fun h => (by cases h))).trans h4⟩)
theorem DatO.lt (h : DatO H base v d) : v = .nils ∨ (base ≤ sB v /\ sB v < H.next) := by
 rcases h with h | ⟨b, h1, h2, h3, rfl, h4⟩ | ⟨b, h1, h2, h3, rfl, h4⟩
 ·
  exact .inl h.1
 ·
  exact .inr ⟨h1, h2⟩
 ·
  exact .inr ⟨h1, h2⟩
theorem DatO.keep (h : DatO H base v d) {H' : Hp} (hf : Fr H H') : DatO H' base v d := h.tr hf.nx (h.lt.imp id fun hl => hf.get _ hl.2)
theorem DatO.one (h : DatO H base v d) : oneC v = true := by
 rcases h with ⟨rfl, _⟩ | ⟨b, h1, h2, h3, rfl, h4⟩ | ⟨b, h1, h2, h3, rfl, h4⟩ <;> rfl
theorem DatO.ne (h : DatO H base v d) {c e' : Nat} {l : List AV} {x w : Bool} (hc : H.m.get c = some (.cells l e' x w)) (h1 : Nat.beq 53 e' = false) (h2 : Nat.beq 5 e' = false) : v = .nils ∨ sB v ≠ c := by
 rcases h with h | ⟨b, _, _, _, rfl, h4⟩ | ⟨b, _, _, _, rfl, h4⟩
 ·
  exact .inl h.1
 ·
  exact .inr (ne_ty h4 hc h1)
 ·
  exact .inr (ne_ty h4 hc h2)
theorem DatO.own (h : DatO H base v d) : ∃ e, Own H base e 1 v d.length (d.map eB) := by
 rcases h with ⟨rfl, rfl⟩ | ⟨b, h1, h2, h3, rfl, h4⟩ | ⟨b, h1, h2, h3, rfl, h4⟩
 ·
  exact ⟨5, rfl, .inl ⟨rfl, rfl⟩⟩
 ·
  exact ⟨53, by rw [List.length_map, Nat.mul_one], .inr ⟨b, true, h1, h2, by rw [h3]; rfl, h4⟩⟩
 ·
  exact ⟨5, by rw [List.length_map, Nat.mul_one], .inr ⟨b, false, h1, h2, rfl, h4⟩⟩
theorem DatO.grow (h : DatO H base v d) (hb : base ≤ H.next) (hv : v ≠ .nils) {x : List UInt8} (hx : x.length = 64) (hd : d.length ≤ 100000) :
 ∃ v' H', evAppend EE H 5 v 64 (x.map eB) = some (v', H') /\ DatO H' base v' (d ++ x) /\ H.next ≤ H'.next /\ (∀ c, c < H.next -> c ≠ sB v -> H'.m.get c = H.m.get c) /\ H.next ≤ sB v' /\ v' ≠ .nils /\ Frb base H H' := by
 have hxl : (x.map eB).length = 64 * 1 := by rw [List.length_map, hx]
 have hxf : flatL (x.map eB) = true := by rw [<- catL_eB]; exact flat_eB x
 rcases h with h | ⟨b, h1, h2, h3, rfl, h4⟩ | ⟨b, h1, h2, h3, rfl, h4⟩
 ·
  exact absurd h.1 hv
 ·
  have hc : cellsAt H b 0 (64 * sizeT EE 5) = some (d.map eB) := by
   rw [ty5s, (kn h4).2.2.1]
   show takeE 64 (dropL 0 (d.map eB)) = _
   rw [dropL_eq, takeE_eq, List.drop_zero, if_pos (by rw [List.length_map, h3]; exact Nat.le_refl _), List.take_of_length_le (by rw [List.length_map, h3]; exact Nat.le_refl _)]
  refine ⟨.slice H.next 0 128 (.rest 0 1 128), (newBlk H (.cells ((d ++ x).map eB) 5 false true)).2, ?_, .inr (.inr ⟨H.next, hb, Nat.lt_succ_self _, by rw [List.length_append]; omega, by rw [List.length_append, h3, hx], get_new_s⟩), Nat.le_succ _, fun c hc _ => get_new_n (Nat.ne_of_lt hc), Nat.le_refl _, fun h => (by cases h), (Frb.refl _ _).newT hb _⟩
  show appCap (.ex 64) EE H 5 b 0 64 64 (x.map eB) = _
  show bc (Nat.ble (64 + 64) 64) ((putCells H b (Nat.add 0 (Nat.mul 64 (sizeT EE 5))) (x.map eB)).omap fun H' => (AV.slice b 0 (Nat.add 64 64) (.ex 64), H')) ((cellsAt H b 0 (64 * sizeT EE 5)).obind fun old => growTo EE H 5 (64 + 64) (appL old (x.map eB))) = _
  rw [hc]
  show growTo EE H 5 128 (appL (d.map eB) (x.map eB)) = _
  unfold growTo
  rw [growOk_grows ty5g (by decide), ty5s, appL_eq, <- List.map_append]; rfl
 ·
  have ho : Own H base 5 1 (.slice b 0 d.length (.rest 0 1 d.length)) d.length (d.map eB) := ⟨by rw [List.length_map, Nat.mul_one], .inr ⟨b, false, h1, h2, rfl, h4⟩⟩
  obtain ⟨H', e1, e2, e3, e4, e5⟩ := ho.append (m := 64) ty5s (by decide) (by decide) hxl hxf (growOk_grows ty5g (by omega)) hb
  refine ⟨_, H', e1, ?_, by omega, fun c hc hne => e5 c (.inr hne) hc, Nat.le_refl _, fun h => (by cases h), e3⟩
  rcases e2.2 with ⟨h, _⟩ | ⟨b', y, g1, g2, g3, g4⟩
  ·
   cases h
  ·
   cases y
   ·
    cases g3
    exact .inr (.inr ⟨H.next, g1, g2, by rw [List.length_append]; omega, by rw [List.length_append, hx], by rw [List.map_append]; exact g4⟩)
   ·
    cases g3
end
theorem zero_mem {H : Hp} {c : Nat} {x : List UInt8} {K : AV -> Hp -> Prop} (hc : H.m.get c = some (.cells (x.map eB) 53 true true)) (hx : x.length = 64) (hk : K (.bool (zeros x)) H) : Call (.func 53 [] []) [.slice c 0 64 (.ex 64)] H K := by
 refine WCall2.read (v := .bool (zeros x)) rfl (zero_ok (l := x) (H := noHp) (K := fun v' _ => v' = .bool (zeros x)) (by omega) rfl) (fun σ H1 as1 r hv => ?_) hk
 obtain ⟨y, r', h1, h2, rfl⟩ := VRL.cons.1 hv
 rw [VRL.nil] at h2
 subst h2
 have hl : (x.map eB).length = 64 := by rw [List.length_map, hx]
 have := read_sl (sz := 1) (l := x.map eB) (o := 0) (b := c) (k := .ex 64) r (by rw [hl]; exact h1) (by
  rw [hl, Nat.mul_one, (kn hc).2.2.1, catL_eB]
  show takeE 64 (dropL 0 (x.map eB)) = _
  rw [dropL_eq, takeE_eq, List.drop_zero, if_pos (by omega), List.take_of_length_le (by omega)]) (plain_map fun _ => rfl) (eB_len x) (by decide) trivial (fun _ => by rw [hl]; exact Nat.le_refl _)
 exact VRL.one this
end
end Go.Ev
namespace Go.Ev
open Go.Proofs
noncomputable section
set_option maxRecDepth 100000
theorem fn55 : E1.fn 55 = some Try.f55 := by kernel_rfl
def cntTo (runs : List (Int × Int)) : Nat -> Nat
 | 0 => 0
 | k + 1 => cntTo runs k + (runs.getD k (0, 0)).2.toNat
def RsB (rs : List Rec) (m : Nat) : Prop := rs.length ≤ m /\ ∀ r ∈ rs, r.data.length ≤ 64 * m /\ 0 ≤ r.cnt /\ r.cnt ≤ m
theorem recStep_bd {rs : List Rec} {m : Nat} {f : Bool} {b : Int} {x : List UInt8} (h : RsB rs m) (hx : x.length ≤ 64) : RsB (recStep rs f b x) (m + 1) := by
 have hy : (if zeros x then [] else x).length ≤ 64 := by
  split
  ·
   exact Nat.zero_le _
  ·
   exact hx
 have new : RsB (rs ++ [⟨b, 1, zeros x, if zeros x then [] else x⟩]) (m + 1) := by
  refine ⟨by rw [List.length_append]; exact Nat.succ_le_succ h.1, fun r hr => ?_⟩
  rcases List.mem_append.1 hr with hr | hr
  ·
   have := h.2 r hr; exact ⟨by omega, by omega, by omega⟩
  ·
   rw [List.mem_singleton] at hr
   subst hr
   exact ⟨by show (if zeros x then [] else x).length ≤ _; omega, by show (0 : Int) ≤ 1; decide, by show (1 : Int) ≤ _; omega⟩
 unfold recStep
 split
 ·
  rename_i r hr
  split
  ·
   refine ⟨by rw [List.length_set]; exact Nat.le_succ_of_le h.1, fun q hq => ?_⟩
   have hr' := List.mem_of_getElem? hr
   rcases List.mem_or_eq_of_mem_set hq with hq | rfl
   ·
    have := h.2 q hq; exact ⟨by omega, by omega, by omega⟩
   ·
    have := h.2 r hr'
    exact ⟨by show (r.data ++ _).length ≤ _; rw [List.length_append]; omega, by show 0 ≤ r.cnt + 1; omega, by show r.cnt + 1 ≤ _; omega⟩
  ·
   exact new
 ·
  exact new
theorem recRun_bd {bs : List (List UInt8)} (hb : ∀ x ∈ bs, x.length = 64) {rs : List Rec} {m : Nat} {r : Int × Int} (h : RsB rs m) (k : Nat) : RsB (recRun bs rs r k) (m + k) := by
 induction k with
 | zero => exact h
 | succ k ih =>
  refine recStep_bd ih ?_
  by_cases hlt : r.1.toNat + k < bs.length
  ·
   rw [getD_lt hlt, hb _ (List.getElem_mem hlt)]; exact Nat.le_refl _
  ·
   rw [List.getD_eq_getElem?_getD, List.getElem?_eq_none (by omega)]; exact Nat.zero_le _
theorem recAll_bd {bs : List (List UInt8)} (hb : ∀ x ∈ bs, x.length = 64) (runs : List (Int × Int)) (k : Nat) : RsB (recAll bs runs k) (cntTo runs k) := by
 induction k with
 | zero => exact ⟨Nat.le_refl _, fun r hr => by cases hr⟩
 | succ k ih => exact recRun_bd hb ih _
structure RI (H0 H : Hp) (ov : AV) (qs : List (Rec × AV)) : Prop where
 a : Acc EE H0 H 68 4 ov (qs.map gR)
 d : ∀ q ∈ qs, DatO H H0.next q.2 q.1.data
 z : ∀ q ∈ qs, (q.1.zs = true /\ q.2 = .nils) ∨ (q.1.zs = false /\ q.2 ≠ .nils)
 n : ∀ (i j : Nat) (hi : i < qs.length) (hj : j < qs.length), i ≠ j -> qs[i].2 = .nils ∨ qs[j].2 = .nils ∨ sB qs[i].2 ≠ sB qs[j].2
theorem RI.keep {H0 H H' : Hp} {ov : AV} {qs : List (Rec × AV)} (h : RI H0 H ov qs) (hf : Fr H H') : RI H0 H' ov qs := ⟨h.a.keep hf, fun q hq => (h.d q hq).keep hf, h.z, h.n⟩
theorem RI.fz {H0 H : Hp} {ov : AV} {qs : List (Rec × AV)} (h : RI H0 H ov qs) (hwf : WF H0) : FZ H0 H (.lst 4 ((qs.map (·.1)).map eRec)) ov := by
 refine h.a.own.fz h.a.hpos hwf rfl rfl h.a.el ?_
 rw [List.map_map]
 refine FZL.map fun q hq => FZ.agg (.cons .int (.cons .int (.cons .bool (.cons ?_ .nil))))
 obtain ⟨e, ho⟩ := (h.d q hq).own
 exact ho.fz (l := q.1.data.map eB) (by decide) hwf (List.length_map _) (catL_eB _) (eB_len _) (FZL.plain (plain_map fun _ => rfl))
theorem RI.push {H0 H : Hp} {ov : AV} {qs : List (Rec × AV)} (h : RI H0 H ov qs) {q : Rec × AV} (hd : DatO H H0.next q.2 q.1.data) (hz : (q.1.zs = true /\ q.2 = .nils) ∨ (q.1.zs = false /\ q.2 ≠ .nils)) (hn : ∀ j (hj : j < qs.length), q.2 = .nils ∨ qs[j].2 = .nils ∨ sB q.2 ≠ sB qs[j].2) (hl : qs.length < 1000000) :
 ∃ ov' H', evAppend EE (newBlk H (.cells (gR q).cells 68 true true)).2 68 ov 1 (gR q).cells = some (ov', H') /\ RI H0 H' ov' (qs ++ [q]) /\ H.next ≤ H'.next /\ ∀ c, c < H.next -> (ov = .nils ∨ c ≠ sB ov) -> H'.m.get c = H.m.get c := by
 have hfl : flatL (gR q).cells = true := by
  rw [gR_cells, flatL_cons', flatL_cons', flatL_cons', flatL_cons', hd.one]; rfl
 have hlen : (qs.map gR).length < 1048576 := by rw [List.length_map]; omega
 have h1 := h.a.push hlen (gR q).cells rfl hfl
 have h2 := h.a.pushed hlen (gR q) rfl rfl hfl
 obtain ⟨h3, h4⟩ := h.a.push_getN hlen (new := (gR q).cells) rfl hfl
 have ne : ∀ v d, DatO H H0.next v d -> v = .nils ∨ ((ov = .nils ∨ sB v ≠ sB ov) /\ sB v < H.next) := fun v d hd => by
  rcases hd.lt with h' | ⟨_, hlt⟩
  ·
   exact .inl h'
  ·
   refine (h.a.own.2).elim (fun h' => .inr ⟨.inl h'.1, hlt⟩) ?_
   rintro ⟨b, x, _, _, rfl, hb⟩
   rcases hd.ne hb rfl rfl with h' | h'
   ·
    exact .inl h'
   ·
    exact .inr ⟨.inr h', hlt⟩
 have tr : ∀ v d, DatO H H0.next v d -> DatO (puH EE H 68 ov (gR q).cells) H0.next v d := fun v d hd => hd.tr (by rw [h3]; omega) ((ne v d hd).imp id fun ⟨g1, g2⟩ => h4 _ g1 g2)
 refine ⟨_, _, h1, ⟨?_, fun r hr => ?_, fun r hr => ?_, fun i j hi hj hij => ?_⟩, by rw [h3]; omega, fun c hc hne => h4 c hne hc⟩
 ·
  rw [List.map_append]; exact h2
 ·
  rcases List.mem_append.1 hr with hr | hr
  ·
   exact tr _ _ (h.d r hr)
  ·
   rw [List.mem_singleton] at hr
   subst hr
   exact tr _ _ hd
 ·
  rcases List.mem_append.1 hr with hr | hr
  ·
   exact h.z r hr
  ·
   rw [List.mem_singleton] at hr
   subst hr
   exact hz
 ·
  rw [List.length_append, List.length_singleton] at hi hj
  by_cases h1 : i < qs.length
  ·
   rw [List.getElem_append_left h1]
   by_cases h2 : j < qs.length
   ·
    rw [List.getElem_append_left h2]; exact h.n i j h1 h2 hij
   ·
    rw [List.getElem_append_right (by omega), List.getElem_singleton]
    rcases hn i h1 with h | h | h
    ·
     exact .inr (.inl h)
    ·
     exact .inl h
    ·
     exact .inr (.inr h.symm)
  ·
   rw [List.getElem_append_right (by omega), List.getElem_singleton]
   have h2 : j < qs.length := by omega
   rw [List.getElem_append_left h2]
   exact hn j h2
theorem RI.setCnt {H0 H : Hp} {ov : AV} {qs : List (Rec × AV)} (h : RI H0 H ov qs) {j : Nat} (hj : j < qs.length) (n : Int) :
 ∃ H', putCells H (sB ov) (sO ov + j * 4 + 1) [.int .i64 n] = some H' /\ RI H0 H' ov (qs.set j ({ qs[j].1 with cnt := n }, qs[j].2)) /\ H'.next = H.next /\ ∀ c, c ≠ sB ov -> H'.m.get c = H.m.get c := by
 have hj' : j < (qs.map gR).length := by rw [List.length_map]; exact hj
 have h1 := h.a.put hj' (o := 1) (by decide) (x := .int .i64 n) rfl
 have h2 := h.a.putted hj' (o := 1) (by decide) (x := .int .i64 n) rfl (gR ({ qs[j].1 with cnt := n }, qs[j].2)) (by rw [List.getElem_map]; rfl)
 obtain ⟨b, x, _, hbl, hov, hb⟩ := h.a.own.2.resolve_left (fun h' => by rw [List.length_map] at h'; omega)
 have hst : stH H ov (j * 4 + 1) (.int .i64 n) = setBlk H (sB ov) (.cells ((catL (qs.map gR)).set (j * 4 + 1) (.int .i64 n)) 68 x true) := by
  have hcl : j * 4 + 1 < (catL (qs.map gR)).length := by
   rw [(cat_seg h.a.el).1, List.length_map]; omega
  have : putCells H (sB ov) (sO ov + (j * 4 + 1)) [.int .i64 n] = some (setBlk H (sB ov) (.cells ((catL (qs.map gR)).set (j * 4 + 1) (.int .i64 n)) 68 x true)) := by
   subst hov
   rw [putCells_def]
   show (H.m.get b).obind _ = _
   rw [hb]
   show putB H b (0 + (j * 4 + 1)) [.int .i64 n] (.cells (catL (qs.map gR)) 68 x true) = _
   rw [putB_c, flatL_cons', show oneC (AV.int .i64 n) = true from rfl, Nat.zero_add, setE_one hcl]; rfl
  unfold stH
  rw [this]; rfl
 have hmem : ∀ q ∈ qs.set j ({ qs[j].1 with cnt := n }, qs[j].2), ∃ q0 ∈ qs, q.2 = q0.2 /\ q.1.data = q0.1.data /\ q.1.zs = q0.1.zs := fun q hq => by
  rcases List.mem_or_eq_of_mem_set hq with hq | rfl
  ·
   exact ⟨q, hq, rfl, rfl, rfl⟩
  ·
   exact ⟨qs[j], List.getElem_mem hj, rfl, rfl, rfl⟩
 have e2 : ∀ i (hi : i < (qs.set j ({ qs[j].1 with cnt := n }, qs[j].2)).length), (qs.set j ({ qs[j].1 with cnt := n }, qs[j].2))[i].2 = (qs[i]'(by rw [List.length_set] at hi; exact hi)).2 := fun i hi => by
  by_cases hij : i = j
  ·
   subst hij; rw [List.getElem_set_self]
  ·
   rw [List.getElem_set_ne (Ne.symm hij)]
 refine ⟨_, h1, ⟨?_, fun q hq => ?_, fun q hq => ?_, fun i k hi hk hik => ?_⟩, by rw [hst]; rfl, fun c hc => by rw [hst]; exact get_set_n hc⟩
 ·
  rw [List.map_set]; exact h2
 ·
  obtain ⟨q0, hq0, e1, e3, _⟩ := hmem q hq
  rw [e1, e3, hst]
  have hd := h.d q0 hq0
  refine hd.tr (Nat.le_refl _) ?_
  have hbo : H.m.get (sB ov) = some (.cells (catL (qs.map gR)) 68 x true) := by rw [hov]; exact hb
  rcases hd.ne hbo rfl rfl with h' | h'
  ·
   exact .inl h'
  ·
   exact .inr (get_set_n h')
 ·
  obtain ⟨q0, hq0, e1, _, e4⟩ := hmem q hq
  rw [e1, e4]; exact h.z q0 hq0
 ·
  rw [e2 i hi, e2 k hk]
  exact h.n i k _ _ hik
end
end Go.Ev
namespace Go.Ev
open Go.Proofs
noncomputable section
set_option maxRecDepth 100000
theorem RI.setDat {H0 H : Hp} {ov : AV} {qs : List (Rec × AV)} (h : RI H0 H ov qs) {j : Nat} (hj : j < qs.length) (hz : qs[j].1.zs = false) {x : List UInt8} (hx : x.length = 64) (hd : qs[j].1.data.length ≤ 100000) :
 ∃ v' H1 H2, evAppend EE H 5 qs[j].2 64 (x.map eB) = some (v', H1) /\ oneC v' = true /\ H.next ≤ H1.next /\ (∀ c, c < H.next -> c ≠ sB qs[j].2 -> H1.m.get c = H.m.get c) /\ putCells H1 (sB ov) (sO ov + j * 4 + 3) [v'] = some H2 /\
  RI H0 H2 ov (qs.set j ({ qs[j].1 with data := qs[j].1.data ++ x }, v')) /\ H2.next = H1.next /\ ∀ c, c ≠ sB ov -> H2.m.get c = H1.m.get c := by
 have hqj := List.getElem_mem hj
 have hnn : qs[j].2 ≠ .nils := by
  rcases h.z _ hqj with ⟨h1, _⟩ | ⟨_, h2⟩
  ·
   rw [hz] at h1; cases h1
  ·
   exact h2
 have hdj := h.d _ hqj
 obtain ⟨v', H1, e1, e2, e3, e4, e5, e6, e7⟩ := hdj.grow h.a.fr.nx hnn hx hd
 obtain ⟨b, y, hb1, hbl, hov, hb⟩ := h.a.own.2.resolve_left (fun h' => by rw [List.length_map] at h'; omega)
 have hbo : H.m.get (sB ov) = some (.cells (catL (qs.map gR)) 68 y true) := by rw [hov]; exact hb
 have hol : sB ov < H.next := by rw [hov]; exact hbl
 have hne : sB ov ≠ sB qs[j].2 := ((hdj.ne hbo rfl rfl).resolve_left hnn).symm
 have hbo1 : H1.m.get (sB ov) = some (.cells (catL (qs.map gR)) 68 y true) := (e4 _ hol hne).trans hbo
 have hj' : j < (qs.map gR).length := by rw [List.length_map]; exact hj
 have hA1 : Acc EE H0 H1 68 4 ov (qs.map gR) := ⟨Frb.trans h.a.fr e7, h.a.own.tr e3 (.inr (hbo1.trans hbo.symm)), h.a.el, h.a.hsz, h.a.hpos, h.a.hg⟩
 have h1 := hA1.put hj' (o := 3) (by decide) (x := v') e2.one
 have h2 := hA1.putted hj' (o := 3) (by decide) (x := v') e2.one (gR ({ qs[j].1 with data := qs[j].1.data ++ x }, v')) (by rw [List.getElem_map]; rfl)
 have hcl : j * 4 + 3 < (catL (qs.map gR)).length := by rw [(cat_seg h.a.el).1, List.length_map]; omega
 have hst : stH H1 ov (j * 4 + 3) v' = setBlk H1 (sB ov) (.cells ((catL (qs.map gR)).set (j * 4 + 3) v') 68 y true) := by
  have : putCells H1 (sB ov) (sO ov + (j * 4 + 3)) [v'] = some (setBlk H1 (sB ov) (.cells ((catL (qs.map gR)).set (j * 4 + 3) v') 68 y true)) := by
   have h0 : sO ov = 0 := by rw [hov]; rfl
   rw [putCells_def, hbo1]
   show putB H1 (sB ov) (sO ov + (j * 4 + 3)) [v'] (.cells (catL (qs.map gR)) 68 y true) = _
   rw [h0, putB_c, flatL_cons', e2.one, Nat.zero_add, setE_one hcl]; rfl
  unfold stH
  rw [this]; rfl
 have hsne : ∀ i (hi : i < qs.length), i ≠ j -> qs[i].2 = .nils ∨ (sB qs[i].2 ≠ sB qs[j].2 /\ sB qs[i].2 ≠ sB ov /\ sB qs[i].2 < H.next) := fun i hi hij => by
  have hdi := h.d _ (List.getElem_mem hi)
  rcases h.n i j hi hj hij with h' | h' | h'
  ·
   exact .inl h'
  ·
   exact absurd h' hnn
  ·
   rcases hdi.ne hbo rfl rfl with g | g
   ·
    exact .inl g
   ·
    rcases hdi.lt with k | ⟨_, k⟩
    ·
     exact .inl k
    ·
     exact .inr ⟨h', g, k⟩
 have hvo : sB v' ≠ sB ov := by omega
 refine ⟨v', H1, _, e1, e2.one, e3, e4, h1, ⟨?_, fun q hq => ?_, fun q hq => ?_, fun a b ha hb hab => ?_⟩, by rw [hst]; rfl, fun c hc => by rw [hst]; exact get_set_n hc⟩
 ·
  rw [List.map_set]; exact h2
 ·
  obtain ⟨i, hi, rfl⟩ := List.getElem_of_mem hq
  rw [List.length_set] at hi
  rw [hst]
  by_cases hij : i = j
  ·
   subst hij
   rw [List.getElem_set_self]
   exact e2.tr (Nat.le_refl _) (.inr (get_set_n hvo))
  ·
   rw [List.getElem_set_ne (Ne.symm hij)]
   refine (h.d _ (List.getElem_mem hi)).tr (show H.next ≤ H1.next from e3) ?_
   rcases hsne i hi hij with h' | ⟨g1, g2, g3⟩
   ·
    exact .inl h'
   ·
    exact .inr ((get_set_n g2).trans (e4 _ g3 g1))
 ·
  rcases List.mem_or_eq_of_mem_set hq with hq | rfl
  ·
   exact h.z q hq
  ·
   exact .inr ⟨hz, e6⟩
 ·
  have ha' : a < qs.length := by rw [List.length_set] at ha; exact ha
  have hb' : b < qs.length := by rw [List.length_set] at hb; exact hb
  by_cases haj : a = j
  ·
   subst haj
   rw [List.getElem_set_self, List.getElem_set_ne hab]
   rcases hsne b hb' (Ne.symm hab) with h' | ⟨_, _, g3⟩
   ·
    exact .inr (.inl h')
   ·
    exact .inr (.inr (by show sB v' ≠ _; omega))
  ·
   rw [List.getElem_set_ne (Ne.symm haj)]
   by_cases hbj : b = j
   ·
    subst hbj
    rw [List.getElem_set_self]
    rcases hsne a ha' haj with h' | ⟨_, _, g3⟩
    ·
     exact .inl h'
    ·
     exact .inr (.inr (by show _ ≠ sB v'; omega))
   ·
    rw [List.getElem_set_ne (Ne.symm hbj)]
    exact h.n a b ha' hb' hab
end
end Go.Ev
namespace Go.Ev
open Go.Proofs
noncomputable section
set_option maxRecDepth 100000
theorem cntTo_congr {rs qs : List (Int × Int)} : ∀ k, (∀ i, i < k -> rs.getD i (0, 0) = qs.getD i (0, 0)) -> cntTo rs k = cntTo qs k
 | 0, _ => rfl
 | k + 1, h => by
  show cntTo rs k + _ = cntTo qs k + _
  rw [cntTo_congr k (fun i hi => h i (by omega)), h k (by omega)]
theorem cntTo_mono (rs : List (Int × Int)) {i j : Nat} (h : i ≤ j) : cntTo rs i ≤ cntTo rs j := by
 induction h with
 | refl => exact Nat.le_refl _
 | step _ ih => exact Nat.le_trans ih (Nat.le_add_right _ _)
theorem ofN_cnt (l : List Int) : ∀ k, cntTo (ofN l k) (ofN l k).length = k
 | 0 => rfl
 | k + 1 => by
  have ih := ofN_cnt l k
  by_cases hg : goesOn l k
  ·
   rw [ofN_t hg]
   have hpos : 0 < (ofN l k).length := (ofN_len l k).2 hg.1
   obtain ⟨m, hm⟩ : ∃ m, (ofN l k).length = m + 1 := ⟨_, (Nat.succ_pred_eq_of_pos hpos).symm⟩
   have hj : m < (ofN l k).length := by omega
   have hc := ofN_count l k _ (List.getElem_mem hj)
   have hb : bump (ofN l k) = (ofN l k).set m ((ofN l k)[m].1, (ofN l k)[m].2 + 1) := by
    unfold bump
    rw [hm, Nat.add_sub_cancel, getD_lt hj]
   rw [hb, List.length_set, hm]
   rw [hm] at ih
   show cntTo _ m + _ = _
   have ih' : cntTo (ofN l k) m + ((ofN l k).getD m (0, 0)).2.toNat = k := ih
   rw [getD_lt hj] at ih'
   rw [cntTo_congr (qs := ofN l k) m (fun i hi => by rw [List.getD_eq_getElem?_getD, List.getElem?_set_ne (by omega), <- List.getD_eq_getElem?_getD]), getD_lt (by rw [List.length_set]; exact hj), List.getElem_set_self]
   show _ + ((ofN l k)[m].2 + 1).toNat = k + 1
   omega
  ·
   rw [ofN_f hg, List.length_append, List.length_singleton]
   show cntTo _ (ofN l k).length + _ = _
   rw [cntTo_congr (qs := ofN l k) _ (fun i hi => by rw [List.getD_eq_getElem?_getD, List.getElem?_append_left hi, <- List.getD_eq_getElem?_getD]), ih, getD_lt (by rw [List.length_append, List.length_singleton]; omega), List.getElem_append_right (Nat.le_refl _), List.getElem_singleton]
   rfl
section
variable {H0 H : Hp} {ov : AV} {qs : List (Rec × AV)}
theorem RI.hol (h : RI H0 H ov qs) (h0 : 0 < qs.length) : ∃ x, H.m.get (sB ov) = some (.cells (catL (qs.map gR)) 68 x true) /\ sB ov < H.next /\ sO ov = 0 := by
 obtain ⟨b, x, _, hbl, hov, hb⟩ := h.a.own.2.resolve_left (fun h' => by rw [List.length_map] at h'; omega)
 exact ⟨x, by rw [hov]; exact hb, by rw [hov]; exact hbl, by rw [hov]; rfl⟩
theorem RI.setNil (h : RI H0 H ov qs) {j : Nat} (hj : j < qs.length) (hz : qs[j].1.zs = true) :
 ∃ H', putCells H (sB ov) (sO ov + j * 4 + 3) [.nils] = some H' /\ RI H0 H' ov qs /\ H'.next = H.next /\ ∀ c, c ≠ sB ov -> H'.m.get c = H.m.get c := by
 have hv : qs[j].2 = .nils := by
  rcases h.z _ (List.getElem_mem hj) with ⟨_, h2⟩ | ⟨h1, _⟩
  ·
   exact h2
  ·
   rw [hz] at h1; cases h1
 have hj' : j < (qs.map gR).length := by rw [List.length_map]; exact hj
 have h1 := h.a.put hj' (o := 3) (by decide) (x := .nils) rfl
 have h2 := h.a.putted hj' (o := 3) (by decide) (x := .nils) rfl (gR qs[j]) (by rw [List.getElem_map, gR_cells, hv]; rfl)
 obtain ⟨x, hb, hbl, ho⟩ := h.hol (by omega)
 have hcl : j * 4 + 3 < (catL (qs.map gR)).length := by
  rw [(cat_seg h.a.el).1, List.length_map]; omega
 have hst : stH H ov (j * 4 + 3) .nils = setBlk H (sB ov) (.cells ((catL (qs.map gR)).set (j * 4 + 3) .nils) 68 x true) := by
  have : putCells H (sB ov) (sO ov + (j * 4 + 3)) [.nils] = some (setBlk H (sB ov) (.cells ((catL (qs.map gR)).set (j * 4 + 3) .nils) 68 x true)) := by
   rw [putCells_def, hb]
   show putB H (sB ov) (sO ov + (j * 4 + 3)) [.nils] (.cells (catL (qs.map gR)) 68 x true) = _
   rw [ho, putB_c, flatL_cons', show oneC AV.nils = true from rfl, Nat.zero_add, setE_one hcl]; rfl
  unfold stH
  rw [this]; rfl
 refine ⟨_, h1, ⟨?_, fun q hq => ?_, h.z, h.n⟩, by rw [hst]; rfl, fun c hc => by rw [hst]; exact get_set_n hc⟩
 ·
  have e : (qs.map gR).set j (gR qs[j]) = qs.map gR := by
   rw [show gR qs[j] = (qs.map gR)[j] from (List.getElem_map ..).symm, List.set_getElem_self]
  rw [e] at h2; exact h2
 ·
  rw [hst]
  refine (h.d q hq).tr (Nat.le_refl _) ?_
  rcases (h.d q hq).ne hb rfl rfl with h' | h'
  ·
   exact .inl h'
  ·
   exact .inr (get_set_n h')
theorem RI.cells (h : RI H0 H ov qs) {j : Nat} (hj : j < qs.length) : cellsAt H (sB ov) (sO ov + j * 4) 4 = some [.int .i64 qs[j].1.fr, .int .i64 qs[j].1.cnt, .bool qs[j].1.zs, qs[j].2] := by
 have := h.a.cells (i := j) (by rw [List.length_map]; exact hj)
 rw [List.getElem_map] at this
 exact this
theorem RI.len (h : RI H0 H ov qs) {ty : TypeId} : lenAV (.slice ty) EE ov = some (.int .i64 (qs.length : Int)) := by
 have := h.a.len (ty := ty)
 rw [List.length_map] at this
 exact this
theorem RI.idx (h : RI H0 H ov qs) {j : Nat} (hj : j < qs.length) : idxAddr (.slice 68) EE ov j = some (.ptr (sB ov) (sO ov + j * 4)) := by
 have := h.a.idx (ty := 68) (i := j) (by rw [List.length_map]; exact hj)
 rw [ty68s] at this
 exact this
theorem RI.set (h : RI H0 H ov qs) {c : Nat} {z : Blk} (hlo : H0.next ≤ c) (h1 : ov = .nils ∨ c ≠ sB ov) (h2 : ∀ q ∈ qs, q.2 = .nils ∨ c ≠ sB q.2) : RI H0 (setBlk H c z) ov qs :=
 ⟨h.a.otherN h1 hlo, fun q hq => (h.d q hq).tr (Nat.le_refl _) ((h2 q hq).imp id fun h' => get_set_n h'.symm), h.z, h.n⟩
theorem RI.far (h : RI H0 H ov qs) {c : Nat} (hc : H.next ≤ c) : (ov = .nils ∨ c ≠ sB ov) /\ ∀ q ∈ qs, q.2 = .nils ∨ c ≠ sB q.2 := by
 refine ⟨h.a.sep hc, fun q hq => (h.d q hq).lt.imp id fun h' => by omega⟩
end
end
end Go.Ev
namespace Go.Ev
open Go.Proofs
noncomputable section
set_option maxRecDepth 100000
theorem cells_eRun (r : Int × Int) : (eRun r).cells = [.int .i64 r.1, .int .i64 r.2] := rfl
theorem recStep_pos (rs : List Rec) (f : Bool) (b : Int) (x : List UInt8) : 0 < (recStep rs f b x).length := by
 unfold recStep
 split
 ·
  rename_i r hr
  have := (List.getElem?_eq_some_iff.1 hr).1
  split
  ·
   rw [List.length_set]; omega
  ·
   rw [List.length_append, List.length_singleton]; omega
 ·
  rw [List.length_append, List.length_singleton]; omega
theorem recRun_pos {bs : List (List UInt8)} {rs : List Rec} {r : Int × Int} {k : Nat} (h : 0 < k) : 0 < (recRun bs rs r k).length := by
 obtain ⟨m, rfl⟩ : ∃ m, k = m + 1 := ⟨k - 1, by omega⟩
 exact recStep_pos _ _ _ _
theorem store_64 {H : Hp} {x : List UInt8} (hx : x.length = 64) : storeN (newBlk H (.cells (List.replicate 64 (.int .u8 0)) 53 true true)).2 64 (.ptr H.next 0) (.agg (x.map eB)) = some (.undef, setBlk (newBlk H (.cells (List.replicate 64 (.int .u8 0)) 53 true true)).2 H.next (.cells (x.map eB) 53 true true)) := by
 have hxf : flatL (x.map eB) = true := by rw [<- catL_eB]; exact flat_eB x
 have hl : (x.map eB).length = 64 := by rw [List.length_map, hx]
 rw [storeN_a hl]
 have : putCells (newBlk H (.cells (List.replicate 64 (.int .u8 0)) 53 true true)).2 H.next 0 (x.map eB) = some (setBlk (newBlk H (.cells (List.replicate 64 (.int .u8 0)) 53 true true)).2 H.next (.cells (x.map eB) 53 true true)) := by
  rw [putCells_def, (get_new_s : (newBlk H (.cells (List.replicate 64 (.int .u8 0)) 53 true true)).2.m.get H.next = _)]
  show putB _ H.next 0 (x.map eB) (.cells (List.replicate 64 (.int .u8 0)) 53 true true) = _
  rw [putB_c, hxf]
  rw [setE_all (by rw [List.length_replicate, hl])]; rfl
 rw [this]; rfl
theorem recStep_grow {qs : List (Rec × AV)} {b : Int} {x : List UInt8} (hj : qs.length - 1 < qs.length) (hz : qs[qs.length - 1].1.zs = zeros x) :
 recStep (qs.map (·.1)) false b x = (qs.map (·.1)).set (qs.length - 1) { qs[qs.length - 1].1 with cnt := qs[qs.length - 1].1.cnt + 1, data := qs[qs.length - 1].1.data ++ (if zeros x then [] else x) } := by
 unfold recStep
 rw [List.length_map, List.getElem?_map, List.getElem?_eq_getElem hj]
 show (if (!false && (qs[qs.length - 1].1.zs == zeros x)) = true then _ else _) = _
 rw [if_pos (by simp [hz])]
theorem recStep_new {qs : List (Rec × AV)} {f : Bool} {b : Int} {x : List UInt8} (h : f = true ∨ ∃ hj : qs.length - 1 < qs.length, qs[qs.length - 1].1.zs ≠ zeros x) :
 recStep (qs.map (·.1)) f b x = qs.map (·.1) ++ [⟨b, 1, zeros x, if zeros x then [] else x⟩] := by
 unfold recStep
 split
 ·
  rename_i r hr
  rw [if_neg]
  rcases h with rfl | ⟨hj, hne⟩
  ·
   simp
  ·
   rw [List.length_map, List.getElem?_map, List.getElem?_eq_getElem hj, Option.map_some, Option.some.injEq] at hr
   rw [<- hr]
   simp [hne]
 ·
  rfl
theorem app_nil0 {H : Hp} : evAppend EE H 5 .nils 0 [] = some (.nils, H) := by kernel_rfl
set_option maxHeartbeats 2000000 in
theorem records55 {H : Hp} {v0 wv : AV} {id : Int} {l : List Int} {base : Nat} {bs : List (List UInt8)} {K : AV -> Hp -> Prop} (hrow : IntRow H base v0 l) (hl : ∀ x ∈ l, 0 ≤ x /\ x < bs.length) (hn : bs.length ≤ 64) (hll : l.length ≤ 64) (hb : ∀ x ∈ bs, x.length = 64) (hw : oneC wv = true)
 (hk : K (.lst 4 ((recAll bs (ofN l l.length) (ofN l l.length).length).map eRec)) H) : Call (.func 55 [] []) [.agg [.int .i64 id, .lst 64 (bs.map eBlk), wv], v0] H K := by
 refine enterE (N := 89) rfl fn55 rfl rfl rfl rfl rfl fun hwf => ?_
 simp (disch := (refine ofP ?_; first | assumption | decide | omega | (simp only [new_next, set_next] <;> omega) | with_unfolding_all exact ofR rfl | with_unfolding_all exact ofNt rfl)) only [go_sem, hw, storeN_1 (oneC_cells hw), oneC_cells hw]
 refine of_mem (hrow.keep (Fr.alloc _ _)) (by omega) (fun a ha => by have := hl a ha; omega) ?_
 have hin := (ofN_in hl (by omega) l.length (Nat.le_refl _)).1
 have hcnt := ofN_cnt l l.length
 have hrl : (ofN l l.length).length ≤ l.length := (ofN_len l l.length).1
 generalize ofN l l.length = runs at hk hin hcnt hrl ⊢
 simp (disch := (refine ofP ?_; decide)) only [go_sem]
 have hbox : (newBlk H (.cells [.int .i64 id, .lst 64 (bs.map eBlk), wv] 95 true true)).2.m.get H.next = some (.cells [.int .i64 id, .lst 64 (bs.map eBlk), wv] 95 true true) := get_new_s
 have hlt0 : H.next < (newBlk H (.cells [.int .i64 id, .lst 64 (bs.map eBlk), wv] 95 true true)).2.next := Nat.lt_succ_self _
 have hf0 : Fr H (newBlk H (.cells [.int .i64 id, .lst 64 (bs.map eBlk), wv] 95 true true)).2 := Fr.alloc _ _
 generalize (newBlk H (.cells [.int .i64 id, .lst 64 (bs.map eBlk), wv] 95 true true)).2 = Hb at hbox hlt0 hf0 ⊢
 refine loopE 309485009821345068724752288 (by kernel_rfl) (fun r G H' => ∃ (i : Nat) (ov : AV) (qs : List (Rec × AV)), i ≤ runs.length /\ r = runs.length - i /\ G.get 15 = some (.int .i64 (i : Int)) /\ G.get 5 = some ov /\ RI H H' ov qs /\ qs.map (·.1) = recAll bs runs i /\ H'.m.get H.next = some (.cells [.int .i64 id, .lst 64 (bs.map eBlk), wv] 95 true true) /\ H.next < H'.next) runs.length
  ⟨0, .nils, [], Nat.zero_le _, (Nat.sub_zero _).symm, rfl, rfl, ⟨Acc.nil' hf0 ty68s (by decide) ty68g, fun q hq => (by cases hq), fun q hq => (by cases hq), fun i j hi _ _ => absurd hi (Nat.not_lt_zero _)⟩, rfl, hbox, hlt0⟩ ?_
 rintro r G H' hG ⟨i, ov, qs, hi, rfl, g15, g5, ho, hq, hbx, hlt⟩
 by_cases hil : i < runs.length
 ·
  have hrn := hin _ (List.getElem_mem hil)
  simp (disch := (refine ofP ?_; first | assumption | decide | omega | (simp only [new_next, set_next] <;> omega) | with_unfolding_all exact ofR rfl | with_unfolding_all exact ofNt rfl)) only [go_sem, g15, g5, hG, List.length_map, ia_lst_map, cells_eRun]
  have hbx7 : ∀ {X Y : Blk}, (setBlk (newBlk H' X).2 H'.next Y).m.get H.next = some (.cells [.int .i64 id, .lst 64 (bs.map eBlk), wv] 95 true true) := fun {X Y} => (get_set_n (Nat.ne_of_lt hlt)).trans ((get_new_n (Nat.ne_of_lt hlt)).trans hbx)
  have hbx8 : ∀ {X Y : Blk}, H.next < (setBlk (newBlk H' X).2 H'.next Y).next := fun {X Y} => Nat.lt_succ_of_lt hlt
  have ho7 : ∀ {X Y : Blk}, RI H (setBlk (newBlk H' X).2 H'.next Y) ov qs := fun {X Y} => ho.keep ((Fr.alloc _ _).set (Nat.le_refl _) _)
  have hc0 := hrn.2.1
  have hct : cntTo runs i + runs[i].2.toNat ≤ l.length := by
   have : cntTo runs (i + 1) = cntTo runs i + runs[i].2.toNat := by rw [<- getD_lt hil (d := (0, 0))]; rfl
   rw [<- this, <- hcnt]
   exact cntTo_mono _ hil
  have hbd0 := recAll_bd hb runs i
  have hnx : recAll bs runs (i + 1) = recRun bs (recAll bs runs i) runs[i] runs[i].2.toNat := by
   show recRun bs (recAll bs runs i) (runs.getD i (0, 0)) (runs.getD i (0, 0)).2.toNat = _
   rw [getD_lt hil]
  generalize runs[i] = run at hrn hct hnx hc0 ⊢
  generalize hrs : recAll bs runs i = rs at hq hnx hbd0
  refine loopE 154742504910672534360297248 (by kernel_rfl) (fun r G2 H2 => ∃ (k : Nat) (ov : AV) (qs : List (Rec × AV)), k ≤ run.2.toNat /\ r = run.2.toNat - k /\ G2.get 21 = some (.int .i64 (k : Int)) /\ G2.get 5 = some ov /\ RI H H2 ov qs /\ qs.map (·.1) = recRun bs rs run k /\ H2.m.get H.next = some (.cells [.int .i64 id, .lst 64 (bs.map eBlk), wv] 95 true true) /\ H.next < H2.next /\
   H2.m.get H'.next = some (.cells [.int .i64 run.1, .int .i64 run.2] 138 true true) /\ H'.next < H2.next) run.2.toNat
   ⟨0, ov, qs, Nat.zero_le _, (Nat.sub_zero _).symm, (by simp (disch := (refine ofP ?_; first | assumption | decide | omega | (simp only [new_next, set_next] <;> omega) | with_unfolding_all exact ofR rfl | with_unfolding_all exact ofNt rfl)) only [go_sem]; first | done | rfl), (by simp (disch := (refine ofP ?_; first | assumption | decide | omega | (simp only [new_next, set_next] <;> omega) | with_unfolding_all exact ofR rfl | with_unfolding_all exact ofNt rfl)) only [go_sem, g5]; first | done | rfl), ho7, hq, hbx7, hbx8, get_set_s, Nat.lt_succ_self _⟩ ?_
  rintro r2 G2 H2 hG2 ⟨k, ov, qs, hk1, rfl, g21, g5, ho, hq, hbx, hlt, h7, hlt7⟩
  by_cases hkl : k < run.2.toNat
  ·
   have hx0 : run.1.toNat + k < bs.length := by omega
   have hx64 := hb _ (List.getElem_mem hx0)
   have hw1 : wrapI .i64 (run.1 + (k : Int)) = ((run.1.toNat + k : Nat) : Int) := by rw [wrap_i64 (by omega) (by omega)]; omega
   have hbd := recRun_bd hb hbd0 k (r := run)
   rw [<- hq] at hbd
   have hnx2 : recRun bs rs run (k + 1) = recStep (recRun bs rs run k) (decide (k = 0)) (run.1 + k) bs[run.1.toNat + k] := by
    show recStep _ _ _ (bs.getD _ _) = _
    rw [getD_lt hx0]
   have hpos := recRun_pos (bs := bs) (rs := rs) (r := run) (k := k)
   rw [<- hq] at hnx2 hpos
   generalize hxx : bs[run.1.toNat + k] = x at hx64 hnx2
   have hte : takeE 64 (x.map eB) = some (x.map eB) := by rw [takeE_eq, if_pos (by rw [List.length_map]; omega), List.take_of_length_le (by rw [List.length_map]; omega)]
   simp (disch := (refine ofP ?_; first | assumption | decide | omega | (simp only [new_next, set_next] <;> omega) | with_unfolding_all exact ofR rfl | with_unfolding_all exact ofNt rfl)) only [go_sem, g21, g5, hG2, hG, kn hbx, kn h7, hw1, idx_lst64 hx0, hxx, hte, store_64 hx64]
   refine drawX [0,4,0,0,0,2,0,0,0] (by kernel_rfl) (by kernel_rfl) rfl (by kernel_rfl) ?_
   have h79 : ∀ {X Y : Blk}, (setBlk (newBlk H2 X).2 H2.next Y).m.get H'.next = some (.cells [.int .i64 run.1, .int .i64 run.2] 138 true true) := fun {X Y} => (get_set_n (Nat.ne_of_lt hlt7)).trans ((get_new_n (Nat.ne_of_lt hlt7)).trans h7)
   simp (disch := (refine ofP ?_; first | assumption | decide | omega | (simp only [new_next, set_next] <;> omega) | with_unfolding_all exact ofR rfl | with_unfolding_all exact ofNt rfl)) only [go_sem, hG2, hG, kn h79, hw1, arr_ptr]
   refine zero_mem (x := x) get_set_s hx64 ?_
   have ho3 : ∀ {X Y : Blk}, RI H (setBlk (newBlk H2 X).2 H2.next Y) ov qs := fun {X Y} => ho.keep ((Fr.alloc _ _).set (Nat.le_refl _) _)
   have hbx3 : ∀ {X Y : Blk}, (setBlk (newBlk H2 X).2 H2.next Y).m.get H.next = some (.cells [.int .i64 id, .lst 64 (bs.map eBlk), wv] 95 true true) := fun {X Y} => (get_set_n (Nat.ne_of_lt hlt)).trans ((get_new_n (Nat.ne_of_lt hlt)).trans hbx)
   have h9 : ∀ {X Y : Blk}, (setBlk (newBlk H2 X).2 H2.next Y).m.get H2.next = some Y := fun {X Y} => get_set_s
   have hn3 : ∀ {X Y : Blk}, (setBlk (newBlk H2 X).2 H2.next Y).next = H2.next + 1 := fun {X Y} => rfl
   cases hz : zeros x with
   | true =>
    simp (disch := (refine ofP ?_; first | decide | (simp only [new_next, set_next] <;> omega) | assumption)) only [go_sem]
    have m10 : (setBlk (newBlk (setBlk (newBlk H2 (.cells (List.replicate 64 (.int .u8 0)) 53 true true)).2 H2.next (.cells (x.map eB) 53 true true)) (.cells [.int .i64 0, .int .i64 0, .bool false, .nils] 68 true true)).2 (H2.next + 1) (.cells [.int .i64 ((run.1.toNat + k : Nat) : Int), .int .i64 1, .bool true, .nils] 68 true true)).m.get (H2.next + 1) = some (.cells [.int .i64 ((run.1.toNat + k : Nat) : Int), .int .i64 1, .bool true, .nils] 68 true true) := get_set_s
    have m9 : (setBlk (newBlk (setBlk (newBlk H2 (.cells (List.replicate 64 (.int .u8 0)) 53 true true)).2 H2.next (.cells (x.map eB) 53 true true)) (.cells [.int .i64 0, .int .i64 0, .bool false, .nils] 68 true true)).2 (H2.next + 1) (.cells [.int .i64 ((run.1.toNat + k : Nat) : Int), .int .i64 1, .bool true, .nils] 68 true true)).m.get H2.next = some (.cells (x.map eB) 53 true true) := (get_set_n (Nat.ne_of_lt (Nat.lt_succ_self _))).trans ((get_new_n (Nat.ne_of_lt (Nat.lt_succ_self _))).trans h9)
    have f4 : Fr H2 (setBlk (newBlk (setBlk (newBlk H2 (.cells (List.replicate 64 (.int .u8 0)) 53 true true)).2 H2.next (.cells (x.map eB) 53 true true)) (.cells [.int .i64 0, .int .i64 0, .bool false, .nils] 68 true true)).2 (H2.next + 1) (.cells [.int .i64 ((run.1.toNat + k : Nat) : Int), .int .i64 1, .bool true, .nils] 68 true true)) := ((Fr.alloc _ _).set (Nat.le_refl _) _).trans ((Fr.alloc _ _).set (Nat.le_refl _) _)
    have n4 : (setBlk (newBlk (setBlk (newBlk H2 (.cells (List.replicate 64 (.int .u8 0)) 53 true true)).2 H2.next (.cells (x.map eB) 53 true true)) (.cells [.int .i64 0, .int .i64 0, .bool false, .nils] 68 true true)).2 (H2.next + 1) (.cells [.int .i64 ((run.1.toNat + k : Nat) : Int), .int .i64 1, .bool true, .nils] 68 true true)).next = H2.next + 2 := rfl
    generalize setBlk (newBlk (setBlk (newBlk H2 (.cells (List.replicate 64 (.int .u8 0)) 53 true true)).2 H2.next (.cells (x.map eB) 53 true true)) (.cells [.int .i64 0, .int .i64 0, .bool false, .nils] 68 true true)).2 (H2.next + 1) (.cells [.int .i64 ((run.1.toNat + k : Nat) : Int), .int .i64 1, .bool true, .nils] 68 true true) = H4 at m10 m9 f4 n4 ⊢
    have ho4 := ho.keep f4
    have hq0 := ho4.len (ty := 68)
    have hqm : qs.length ≤ 64 := by have := hbd.1; rw [List.length_map] at this; omega
    have hbx4 := (f4.get _ hlt).trans hbx
    have h74 := (f4.get _ hlt7).trans h7
    have hone : oneC .nils = true := rfl
    have hdat : DatO H4 H.next .nils (if zeros x then [] else x) := by rw [hz]; exact .inl ⟨rfl, rfl⟩
    have hnew : ∀ {ov' : AV} {H5 : Hp} {qs' : List (Rec × AV)}, RI H H5 ov' qs' -> qs'.map (·.1) = recStep (qs.map (·.1)) (decide (k = 0)) (run.1 + k) x -> H4.next ≤ H5.next -> (∀ c, c < H4.next -> (ov = .nils ∨ c ≠ sB ov) -> (∀ q ∈ qs, q.2 = .nils ∨ c ≠ sB q.2) -> H5.m.get c = H4.m.get c) -> ∃ m', m' < run.2.toNat - k /\ ∃ k_1 ov_1 qs_1,
     k_1 ≤ run.2.toNat /\ m' = run.2.toNat - k_1 /\ some (AV.int .i64 ((k : Int) + 1)) = some (AV.int .i64 (k_1 : Int)) /\ some ov' = some ov_1 /\ RI H H5 ov_1 qs_1 /\ List.map (fun x => x.1) qs_1 = recRun bs rs run k_1 /\
     H5.m.get H.next = some (.cells [.int .i64 id, .lst 64 (bs.map eBlk), wv] 95 true true) /\ H.next < H5.next /\ H5.m.get H'.next = some (.cells [.int .i64 run.1, .int .i64 run.2] 138 true true) /\ H'.next < H5.next := fun {ov' H5 qs'} h1 h2 h3 h4 => by
     have hsep : ∀ {c : Nat} {l : List AV} {e : Nat} {a b : Bool}, H4.m.get c = some (.cells l e a b) -> Nat.beq 68 e = false -> Nat.beq 53 e = false -> Nat.beq 5 e = false -> c < H4.next -> H5.m.get c = some (.cells l e a b) := fun {c l e a b} g1 g2 g3 g4 g5 => by
      refine (h4 c g5 ?_ fun q hq => ?_).trans g1
      ·
       rcases ho4.a.own.2 with ⟨h, _⟩ | ⟨b', y, _, _, hov, hb'⟩
       ·
        exact .inl h
       ·
        refine .inr ?_
        rw [hov]
        exact (ne_ty hb' g1 g2).symm
      ·
       exact ((ho4.d q hq).ne g1 g3 g4).imp (fun h => h) fun h => h.symm
     exact ⟨_, by omega, k + 1, ov', qs', hkl, rfl, rfl, rfl, h1, by rw [h2, hnx2], hsep hbx4 rfl rfl rfl (by omega), by omega, hsep h74 rfl rfl rfl (by omega), by omega⟩
    simp (disch := (refine ofP ?_; first | assumption | decide | omega | (simp only [new_next, set_next] <;> omega) | with_unfolding_all exact ofR rfl | with_unfolding_all exact ofNt rfl)) only [go_sem, g5, hG2, hG, hq0]
    refine drawE (by kernel_rfl) (by kernel_rfl) ?_
    by_cases hk0 : 0 < k
    ·
     have hj : qs.length - 1 < qs.length := by have := hpos hk0; rw [List.length_map] at this; omega
     have hw2 : wrapI .i64 ((qs.length : Int) - 1) = ((qs.length - 1 : Nat) : Int) := by rw [wrap_i64 (by omega) (by omega)]; omega
     have hcz : cellAt H4 (sB ov) (sO ov + (qs.length - 1) * 4 + 2) = some (.bool qs[qs.length - 1].1.zs) := cellsAt_cell (j := 2) (ho4.cells hj) (by decide)
     have hk0' : (0 : Int) < (k : Int) := by omega
     have hd0 : decide (k = 0) = false := decide_eq_false (by omega)
     rw [hd0] at hnew
     have hqp : 0 < qs.length := by omega
     have hovn : ov ≠ .nils := by
      rcases ho4.a.own.2 with ⟨_, h⟩ | ⟨b', y, _, _, hov, _⟩
      ·
       rw [List.length_map] at h; omega
      ·
       rw [hov]; exact fun h => (by cases h)
     have hcn := cellsAt_cell (j := 1) (ho4.cells hj) (by decide)
     have hcn : cellAt H4 (sB ov) (sO ov + (qs.length - 1) * 4 + 1) = some (.int .i64 qs[qs.length - 1].1.cnt) := hcn
     have hbq := hbd.2 qs[qs.length - 1].1 (List.mem_map_of_mem (List.getElem_mem hj))
     have hw3 : wrapI .i64 (qs[qs.length - 1].1.cnt + 1) = qs[qs.length - 1].1.cnt + 1 := wrap_i64 (by omega) (by omega)
     have hf1 : H2.next ≠ sB ov := (ho.far (Nat.le_refl _)).1.resolve_left hovn
     have hf2 : H2.next + 1 ≠ sB ov := (ho.far (Nat.le_succ _)).1.resolve_left hovn
     cases hzq : qs[qs.length - 1].1.zs with
     | true =>
      rw [hzq] at hcz
      obtain ⟨H5, e5, ho5, n5, o5⟩ := ho4.setCnt hj (qs[qs.length - 1].1.cnt + 1)
      simp (disch := (refine ofP ?_; first | assumption | decide | omega | (simp only [new_next, set_next] <;> omega) | with_unfolding_all exact ofR rfl | with_unfolding_all exact ofNt rfl)) only [go_sem, g5, hG2, hG, kn m10, m10, hw2, ho4.idx hj, hcz, hk0', show (true == true) = true from rfl, show (false == false) = true from rfl, show (true == false) = false from rfl, show (false == true) = false from rfl, hcn, hw3, e5]
      refine drawE (by kernel_rfl) (by kernel_rfl) ?_
      have hj1 : qs.length - 1 < (qs.set (qs.length - 1) ({ qs[qs.length - 1].1 with cnt := qs[qs.length - 1].1.cnt + 1 }, qs[qs.length - 1].2)).length := by rw [List.length_set]; exact hj
      have hcd := cellsAt_cell (j := 3) (ho5.cells hj1) (by decide)
      have m105 := (o5 _ hf2).trans m10
      have m95 := (o5 _ hf1).trans m9
      have k5 : ∀ {H : Hp} {u x : AV}, bltEff .append EE H [u, x] [32, 32] = (srcCells EE H 5 x).obind fun p => evAppend EE H 5 u p.1 p.2 := appArgs_def ty32k ty32k
      have hgr : recStep (qs.map (·.1)) false (run.1 + k) x = _ := recStep_grow hj (hzq.trans hz.symm)
      have hi5 := ho5.idx hj1
      have hv : qs[qs.length - 1].2 = .nils := by
       rcases ho4.z _ (List.getElem_mem hj) with ⟨_, h2⟩ | ⟨h1, _⟩
       ·
        exact h2
       ·
        rw [hzq] at h1; cases h1
      obtain ⟨H6, e6, ho6, n6, o6⟩ := ho5.setNil hj1 (by rw [List.getElem_set_self]; exact hzq)
      have hcd : cellAt H5 (sB ov) (sO ov + (qs.length - 1) * 4 + 3) = some .nils := by
       rw [List.getElem_set_self] at hcd
       exact hcd.trans (congrArg some hv)
      have hsr : srcCells EE H5 5 .nils = some (0, []) := by kernel_rfl
      have ha : evAppend EE H5 5 .nils 0 [] = some (.nils, H5) := app_nil0
      simp (disch := (refine ofP ?_; first | assumption | decide | omega | (simp only [new_next, set_next] <;> omega) | with_unfolding_all exact ofR rfl | with_unfolding_all exact ofNt rfl)) only [go_sem, g5, hG2, hG, kn m105, m105, hw2, hi5, hcd, k5, hsr, ha, e6, g21, wrap_i64]
      refine hnew ho6 ?_ (by omega) (fun c hc h1 _ => (o6 c (h1.resolve_left hovn)).trans (o5 c (h1.resolve_left hovn)))
      rw [hgr, List.map_set, hz, if_pos rfl, List.append_nil]
     | false =>
      rw [hzq] at hcz
      have hnq : recStep (qs.map (·.1)) false (run.1 + k) x = _ := recStep_new (.inr ⟨hj, by rw [hzq, hz]; decide⟩)
      obtain ⟨ov', H6, e6, ho6, n6, o6⟩ := ho4.push (q := (⟨run.1 + k, 1, zeros x, if zeros x then [] else x⟩, .nils)) hdat (by rw [hz]; exact .inl ⟨rfl, rfl⟩) (fun j hj => .inl rfl) (by omega)
      have e6' : evAppend EE (newBlk H4 (.cells [.int .i64 ((run.1.toNat + k : Nat) : Int), .int .i64 1, .bool true, .nils] 68 true true)).2 68 ov 1 [.int .i64 ((run.1.toNat + k : Nat) : Int), .int .i64 1, .bool true, .nils] = some (ov', H6) := by
       rw [show ((run.1.toNat + k : Nat) : Int) = run.1 + k by omega]
       simp only [gR_cells, hz] at e6
       exact e6
      simp (disch := (refine ofP ?_; first | assumption | decide | omega | (simp only [new_next, set_next] <;> omega) | with_unfolding_all exact ofR rfl | with_unfolding_all exact ofNt rfl)) only [go_sem, g5, hG2, hG, kn m10, m10, hw2, ho4.idx hj, hcz, hk0', show (true == true) = true from rfl, show (false == false) = true from rfl, show (true == false) = false from rfl, show (false == true) = false from rfl, e6', g21, wrap_i64]
      refine hnew ho6 ?_ (by omega) (fun c hc h1 _ => o6 c hc h1)
      rw [hnq, List.map_append]; rfl
    ·
     have hk0' : ¬ (0 : Int) < (k : Int) := by omega
     have hd0 : decide (k = 0) = true := decide_eq_true (by omega)
     rw [hd0] at hnew
     have hnq : recStep (qs.map (·.1)) true (run.1 + k) x = _ := recStep_new (.inl rfl)
     obtain ⟨ov', H6, e6, ho6, n6, o6⟩ := ho4.push (q := (⟨run.1 + k, 1, zeros x, if zeros x then [] else x⟩, .nils)) hdat (by rw [hz]; exact .inl ⟨rfl, rfl⟩) (fun j hj => .inl rfl) (by omega)
     have e6' : evAppend EE (newBlk H4 (.cells [.int .i64 ((run.1.toNat + k : Nat) : Int), .int .i64 1, .bool true, .nils] 68 true true)).2 68 ov 1 [.int .i64 ((run.1.toNat + k : Nat) : Int), .int .i64 1, .bool true, .nils] = some (ov', H6) := by
      rw [show ((run.1.toNat + k : Nat) : Int) = run.1 + k by omega]
      simp only [gR_cells, hz] at e6
      exact e6
     simp (disch := (refine ofP ?_; first | assumption | decide | omega | (simp only [new_next, set_next] <;> omega) | with_unfolding_all exact ofR rfl | with_unfolding_all exact ofNt rfl)) only [go_sem, g5, hG2, hG, kn m10, m10, hk0', show (true == true) = true from rfl, show (false == false) = true from rfl, show (true == false) = false from rfl, show (false == true) = false from rfl, e6', g21, wrap_i64]
     refine hnew ho6 ?_ (by omega) (fun c hc h1 _ => o6 c hc h1)
     rw [hnq, List.map_append]; rfl
   | false =>
    simp (disch := (refine ofP ?_; first | decide | (simp only [new_next, set_next] <;> omega) | assumption)) only [go_sem]
    have m10 : (setBlk (newBlk (setBlk (newBlk H2 (.cells (List.replicate 64 (.int .u8 0)) 53 true true)).2 H2.next (.cells (x.map eB) 53 true true)) (.cells [.int .i64 0, .int .i64 0, .bool false, .nils] 68 true true)).2 (H2.next + 1) (.cells [.int .i64 ((run.1.toNat + k : Nat) : Int), .int .i64 1, .bool false, .nils] 68 true true)).m.get (H2.next + 1) = some (.cells [.int .i64 ((run.1.toNat + k : Nat) : Int), .int .i64 1, .bool false, .nils] 68 true true) := get_set_s
    have m9 : (setBlk (newBlk (setBlk (newBlk H2 (.cells (List.replicate 64 (.int .u8 0)) 53 true true)).2 H2.next (.cells (x.map eB) 53 true true)) (.cells [.int .i64 0, .int .i64 0, .bool false, .nils] 68 true true)).2 (H2.next + 1) (.cells [.int .i64 ((run.1.toNat + k : Nat) : Int), .int .i64 1, .bool false, .nils] 68 true true)).m.get H2.next = some (.cells (x.map eB) 53 true true) := (get_set_n (Nat.ne_of_lt (Nat.lt_succ_self _))).trans ((get_new_n (Nat.ne_of_lt (Nat.lt_succ_self _))).trans h9)
    have f4 : Fr H2 (setBlk (newBlk (setBlk (newBlk H2 (.cells (List.replicate 64 (.int .u8 0)) 53 true true)).2 H2.next (.cells (x.map eB) 53 true true)) (.cells [.int .i64 0, .int .i64 0, .bool false, .nils] 68 true true)).2 (H2.next + 1) (.cells [.int .i64 ((run.1.toNat + k : Nat) : Int), .int .i64 1, .bool false, .nils] 68 true true)) := ((Fr.alloc _ _).set (Nat.le_refl _) _).trans ((Fr.alloc _ _).set (Nat.le_refl _) _)
    have n4 : (setBlk (newBlk (setBlk (newBlk H2 (.cells (List.replicate 64 (.int .u8 0)) 53 true true)).2 H2.next (.cells (x.map eB) 53 true true)) (.cells [.int .i64 0, .int .i64 0, .bool false, .nils] 68 true true)).2 (H2.next + 1) (.cells [.int .i64 ((run.1.toNat + k : Nat) : Int), .int .i64 1, .bool false, .nils] 68 true true)).next = H2.next + 2 := rfl
    generalize setBlk (newBlk (setBlk (newBlk H2 (.cells (List.replicate 64 (.int .u8 0)) 53 true true)).2 H2.next (.cells (x.map eB) 53 true true)) (.cells [.int .i64 0, .int .i64 0, .bool false, .nils] 68 true true)).2 (H2.next + 1) (.cells [.int .i64 ((run.1.toNat + k : Nat) : Int), .int .i64 1, .bool false, .nils] 68 true true) = H40 at m10 m9 f4 n4 ⊢
    simp (disch := (refine ofP ?_; first | assumption | decide | omega | (simp only [new_next, set_next] <;> omega) | with_unfolding_all exact ofR rfl | with_unfolding_all exact ofNt rfl)) only [go_sem, arr_ptr, kn m10, m10]
    have f4b : Fr H2 (setBlk H40 (H2.next + 1) (.cells [.int .i64 ((run.1.toNat + k : Nat) : Int), .int .i64 1, .bool false, .slice H2.next 0 64 (.ex 64)] 68 true true)) := f4.set (Nat.le_succ _) _
    replace m9 : (setBlk H40 (H2.next + 1) (.cells [.int .i64 ((run.1.toNat + k : Nat) : Int), .int .i64 1, .bool false, .slice H2.next 0 64 (.ex 64)] 68 true true)).m.get H2.next = some (.cells (x.map eB) 53 true true) := (get_set_n (Nat.ne_of_lt (Nat.lt_succ_self _))).trans m9
    replace m10 : (setBlk H40 (H2.next + 1) (.cells [.int .i64 ((run.1.toNat + k : Nat) : Int), .int .i64 1, .bool false, .slice H2.next 0 64 (.ex 64)] 68 true true)).m.get (H2.next + 1) = some (.cells [.int .i64 ((run.1.toNat + k : Nat) : Int), .int .i64 1, .bool false, .slice H2.next 0 64 (.ex 64)] 68 true true) := get_set_s
    replace n4 : (setBlk H40 (H2.next + 1) (.cells [.int .i64 ((run.1.toNat + k : Nat) : Int), .int .i64 1, .bool false, .slice H2.next 0 64 (.ex 64)] 68 true true)).next = H2.next + 2 := n4
    generalize setBlk H40 (H2.next + 1) (.cells [.int .i64 ((run.1.toNat + k : Nat) : Int), .int .i64 1, .bool false, .slice H2.next 0 64 (.ex 64)] 68 true true) = H4 at m9 m10 n4 f4b ⊢
    clear f4
    rename_i H40
    have f4 := f4b
    have ho4 := ho.keep f4
    have hq0 := ho4.len (ty := 68)
    have hqm : qs.length ≤ 64 := by have := hbd.1; rw [List.length_map] at this; omega
    have hbx4 := (f4.get _ hlt).trans hbx
    have h74 := (f4.get _ hlt7).trans h7
    have hone : oneC (.slice H2.next 0 64 (.ex 64)) = true := rfl
    have hdat : DatO H4 H.next (.slice H2.next 0 64 (.ex 64)) (if zeros x then [] else x) := by rw [hz]; exact .inr (.inl ⟨H2.next, ho.a.fr.nx, (by omega), hx64, rfl, m9⟩)
    have hnew : ∀ {ov' : AV} {H5 : Hp} {qs' : List (Rec × AV)}, RI H H5 ov' qs' -> qs'.map (·.1) = recStep (qs.map (·.1)) (decide (k = 0)) (run.1 + k) x -> H4.next ≤ H5.next -> (∀ c, c < H4.next -> (ov = .nils ∨ c ≠ sB ov) -> (∀ q ∈ qs, q.2 = .nils ∨ c ≠ sB q.2) -> H5.m.get c = H4.m.get c) -> ∃ m', m' < run.2.toNat - k /\ ∃ k_1 ov_1 qs_1,
     k_1 ≤ run.2.toNat /\ m' = run.2.toNat - k_1 /\ some (AV.int .i64 ((k : Int) + 1)) = some (AV.int .i64 (k_1 : Int)) /\ some ov' = some ov_1 /\ RI H H5 ov_1 qs_1 /\ List.map (fun x => x.1) qs_1 = recRun bs rs run k_1 /\
     H5.m.get H.next = some (.cells [.int .i64 id, .lst 64 (bs.map eBlk), wv] 95 true true) /\ H.next < H5.next /\ H5.m.get H'.next = some (.cells [.int .i64 run.1, .int .i64 run.2] 138 true true) /\ H'.next < H5.next := fun {ov' H5 qs'} h1 h2 h3 h4 => by
     have hsep : ∀ {c : Nat} {l : List AV} {e : Nat} {a b : Bool}, H4.m.get c = some (.cells l e a b) -> Nat.beq 68 e = false -> Nat.beq 53 e = false -> Nat.beq 5 e = false -> c < H4.next -> H5.m.get c = some (.cells l e a b) := fun {c l e a b} g1 g2 g3 g4 g5 => by
      refine (h4 c g5 ?_ fun q hq => ?_).trans g1
      ·
       rcases ho4.a.own.2 with ⟨h, _⟩ | ⟨b', y, _, _, hov, hb'⟩
       ·
        exact .inl h
       ·
        refine .inr ?_
        rw [hov]
        exact (ne_ty hb' g1 g2).symm
      ·
       exact ((ho4.d q hq).ne g1 g3 g4).imp (fun h => h) fun h => h.symm
     exact ⟨_, by omega, k + 1, ov', qs', hkl, rfl, rfl, rfl, h1, by rw [h2, hnx2], hsep hbx4 rfl rfl rfl (by omega), by omega, hsep h74 rfl rfl rfl (by omega), by omega⟩
    simp (disch := (refine ofP ?_; first | assumption | decide | omega | (simp only [new_next, set_next] <;> omega) | with_unfolding_all exact ofR rfl | with_unfolding_all exact ofNt rfl)) only [go_sem, g5, hG2, hG, hq0]
    refine drawE (by kernel_rfl) (by kernel_rfl) ?_
    by_cases hk0 : 0 < k
    ·
     have hj : qs.length - 1 < qs.length := by have := hpos hk0; rw [List.length_map] at this; omega
     have hw2 : wrapI .i64 ((qs.length : Int) - 1) = ((qs.length - 1 : Nat) : Int) := by rw [wrap_i64 (by omega) (by omega)]; omega
     have hcz : cellAt H4 (sB ov) (sO ov + (qs.length - 1) * 4 + 2) = some (.bool qs[qs.length - 1].1.zs) := cellsAt_cell (j := 2) (ho4.cells hj) (by decide)
     have hk0' : (0 : Int) < (k : Int) := by omega
     have hd0 : decide (k = 0) = false := decide_eq_false (by omega)
     rw [hd0] at hnew
     have hqp : 0 < qs.length := by omega
     have hovn : ov ≠ .nils := by
      rcases ho4.a.own.2 with ⟨_, h⟩ | ⟨b', y, _, _, hov, _⟩
      ·
       rw [List.length_map] at h; omega
      ·
       rw [hov]; exact fun h => (by cases h)
     have hcn := cellsAt_cell (j := 1) (ho4.cells hj) (by decide)
     have hcn : cellAt H4 (sB ov) (sO ov + (qs.length - 1) * 4 + 1) = some (.int .i64 qs[qs.length - 1].1.cnt) := hcn
     have hbq := hbd.2 qs[qs.length - 1].1 (List.mem_map_of_mem (List.getElem_mem hj))
     have hw3 : wrapI .i64 (qs[qs.length - 1].1.cnt + 1) = qs[qs.length - 1].1.cnt + 1 := wrap_i64 (by omega) (by omega)
     have hf1 : H2.next ≠ sB ov := (ho.far (Nat.le_refl _)).1.resolve_left hovn
     have hf2 : H2.next + 1 ≠ sB ov := (ho.far (Nat.le_succ _)).1.resolve_left hovn
     cases hzq : qs[qs.length - 1].1.zs with
     | false =>
      rw [hzq] at hcz
      obtain ⟨H5, e5, ho5, n5, o5⟩ := ho4.setCnt hj (qs[qs.length - 1].1.cnt + 1)
      simp (disch := (refine ofP ?_; first | assumption | decide | omega | (simp only [new_next, set_next] <;> omega) | with_unfolding_all exact ofR rfl | with_unfolding_all exact ofNt rfl)) only [go_sem, g5, hG2, hG, kn m10, m10, hw2, ho4.idx hj, hcz, hk0', show (true == true) = true from rfl, show (false == false) = true from rfl, show (true == false) = false from rfl, show (false == true) = false from rfl, hcn, hw3, e5]
      refine drawE (by kernel_rfl) (by kernel_rfl) ?_
      have hj1 : qs.length - 1 < (qs.set (qs.length - 1) ({ qs[qs.length - 1].1 with cnt := qs[qs.length - 1].1.cnt + 1 }, qs[qs.length - 1].2)).length := by rw [List.length_set]; exact hj
      have hcd := cellsAt_cell (j := 3) (ho5.cells hj1) (by decide)
      have m105 := (o5 _ hf2).trans m10
      have m95 := (o5 _ hf1).trans m9
      have k5 : ∀ {H : Hp} {u x : AV}, bltEff .append EE H [u, x] [32, 32] = (srcCells EE H 5 x).obind fun p => evAppend EE H 5 u p.1 p.2 := appArgs_def ty32k ty32k
      have hgr : recStep (qs.map (·.1)) false (run.1 + k) x = _ := recStep_grow hj (hzq.trans hz.symm)
      have hi5 := ho5.idx hj1
      have hzf : (qs.set (qs.length - 1) ({ qs[qs.length - 1].1 with cnt := qs[qs.length - 1].1.cnt + 1 }, qs[qs.length - 1].2))[qs.length - 1].1.zs = false := by rw [List.getElem_set_self]; exact hzq
      obtain ⟨v', H6, H7, a1, a2, a3, a4, a5, ho6, n6, o6⟩ := ho5.setDat hj1 hzf hx64 (by rw [List.getElem_set_self]; show qs[qs.length - 1].1.data.length ≤ _; omega)
      have hcd : cellAt H5 (sB ov) (sO ov + (qs.length - 1) * 4 + 3) = some (qs.set (qs.length - 1) ({ qs[qs.length - 1].1 with cnt := qs[qs.length - 1].1.cnt + 1 }, qs[qs.length - 1].2))[qs.length - 1].2 := hcd
      have hsr : srcCells EE H5 5 (.slice H2.next 0 64 (.ex 64)) = some (64, x.map eB) := by
       show (cellsAt H5 H2.next 0 (Nat.mul 64 (sizeT EE 5))).omap _ = _
       rw [ty5s, (kn m95).2.2.1]
       show (takeE 64 (dropL 0 (x.map eB))).omap _ = _
       rw [dropL_eq, List.drop_zero, hte]; rfl
      rw [List.getElem_set_self] at hcd a1 a4 ho6
      simp (disch := (refine ofP ?_; first | assumption | decide | omega | (simp only [new_next, set_next] <;> omega) | with_unfolding_all exact ofR rfl | with_unfolding_all exact ofNt rfl)) only [go_sem, g5, hG2, hG, kn m105, m105, hw2, hi5, hcd, k5, hsr, a1, a2, storeN_1 (oneC_cells a2), oneC_cells a2, a5, g21, wrap_i64]
      refine hnew ho6 ?_ (by omega) (fun c hc h1 h2 => (o6 c (h1.resolve_left hovn)).trans ((a4 c (by omega) ?_).trans (o5 c (h1.resolve_left hovn))))
      ·
       rw [hgr, List.set_set, List.map_set, hz]; rfl
      ·
       refine (h2 _ (List.getElem_mem hj)).resolve_left fun h => ?_
       rcases ho4.z _ (List.getElem_mem hj) with ⟨h1, _⟩ | ⟨_, h3⟩
       ·
        rw [hzq] at h1; cases h1
       ·
        exact h3 h
     | true =>
      rw [hzq] at hcz
      have hnq : recStep (qs.map (·.1)) false (run.1 + k) x = _ := recStep_new (.inr ⟨hj, by rw [hzq, hz]; decide⟩)
      obtain ⟨ov', H6, e6, ho6, n6, o6⟩ := ho4.push (q := (⟨run.1 + k, 1, zeros x, if zeros x then [] else x⟩, (.slice H2.next 0 64 (.ex 64)))) hdat (by rw [hz]; exact .inr ⟨rfl, fun h => (by cases h)⟩) (fun j hj => .inr ((ho.far (Nat.le_refl _)).2 _ (List.getElem_mem hj))) (by omega)
      have e6' : evAppend EE (newBlk H4 (.cells [.int .i64 ((run.1.toNat + k : Nat) : Int), .int .i64 1, .bool false, (.slice H2.next 0 64 (.ex 64))] 68 true true)).2 68 ov 1 [.int .i64 ((run.1.toNat + k : Nat) : Int), .int .i64 1, .bool false, (.slice H2.next 0 64 (.ex 64))] = some (ov', H6) := by
       rw [show ((run.1.toNat + k : Nat) : Int) = run.1 + k by omega]
       simp only [gR_cells, hz] at e6
       exact e6
      simp (disch := (refine ofP ?_; first | assumption | decide | omega | (simp only [new_next, set_next] <;> omega) | with_unfolding_all exact ofR rfl | with_unfolding_all exact ofNt rfl)) only [go_sem, g5, hG2, hG, kn m10, m10, hw2, ho4.idx hj, hcz, hk0', show (true == true) = true from rfl, show (false == false) = true from rfl, show (true == false) = false from rfl, show (false == true) = false from rfl, e6', g21, wrap_i64]
      refine hnew ho6 ?_ (by omega) (fun c hc h1 _ => o6 c hc h1)
      rw [hnq, List.map_append]; rfl
    ·
     have hk0' : ¬ (0 : Int) < (k : Int) := by omega
     have hd0 : decide (k = 0) = true := decide_eq_true (by omega)
     rw [hd0] at hnew
     have hnq : recStep (qs.map (·.1)) true (run.1 + k) x = _ := recStep_new (.inl rfl)
     obtain ⟨ov', H6, e6, ho6, n6, o6⟩ := ho4.push (q := (⟨run.1 + k, 1, zeros x, if zeros x then [] else x⟩, (.slice H2.next 0 64 (.ex 64)))) hdat (by rw [hz]; exact .inr ⟨rfl, fun h => (by cases h)⟩) (fun j hj => .inr ((ho.far (Nat.le_refl _)).2 _ (List.getElem_mem hj))) (by omega)
     have e6' : evAppend EE (newBlk H4 (.cells [.int .i64 ((run.1.toNat + k : Nat) : Int), .int .i64 1, .bool false, (.slice H2.next 0 64 (.ex 64))] 68 true true)).2 68 ov 1 [.int .i64 ((run.1.toNat + k : Nat) : Int), .int .i64 1, .bool false, (.slice H2.next 0 64 (.ex 64))] = some (ov', H6) := by
      rw [show ((run.1.toNat + k : Nat) : Int) = run.1 + k by omega]
      simp only [gR_cells, hz] at e6
      exact e6
     simp (disch := (refine ofP ?_; first | assumption | decide | omega | (simp only [new_next, set_next] <;> omega) | with_unfolding_all exact ofR rfl | with_unfolding_all exact ofNt rfl)) only [go_sem, g5, hG2, hG, kn m10, m10, hk0', show (true == true) = true from rfl, show (false == false) = true from rfl, show (true == false) = false from rfl, show (false == true) = false from rfl, e6', g21, wrap_i64]
     refine hnew ho6 ?_ (by omega) (fun c hc h1 _ => o6 c hc h1)
     rw [hnq, List.map_append]; rfl
  ·
   simp (disch := (refine ofP ?_; first | assumption | decide | omega | (simp only [new_next, set_next] <;> omega) | with_unfolding_all exact ofR rfl | with_unfolding_all exact ofNt rfl)) only [go_sem, g21, g5, hG2, hG, g15]
   obtain rfl : k = run.2.toNat := by omega
   refine ⟨_, by omega, i + 1, _, qs, hil, rfl, ?_, rfl, ho, by rw [hq, hnx], hbx, hlt⟩
   rw [wrap_i64 (by omega) (by omega)]; rfl
 ·
  simp (disch := (refine ofP ?_; first | decide | omega)) only [go_sem, g15, g5, hG, List.length_map]
  obtain rfl : i = runs.length := by omega
  rw [<- hq] at hk
  exact .inr (.inl ⟨ho.a.fr, _, ho.fz hwf, hk⟩)
end
end Go.Ev
namespace Go.Ev
open Go.Proofs
noncomputable section
set_option maxRecDepth 100000
theorem fn51 : E1.fn 51 = some Try.f51 := by kernel_rfl
theorem fn52 : E1.fn 52 = some Try.f52 := by kernel_rfl
theorem fn76 : E1.fn 76 = some Try.f76 := by kernel_rfl
def zB (bs : List (List UInt8)) (b : Int) : Bool := zeros (bs.getD b.toNat [])
theorem clo52 {H : Hp} {c : Nat} {id b : Int} {wv : AV} {bs : List (List UInt8)} {K : AV -> Hp -> Prop} (hc : H.m.get c = some (.cells [.int .i64 id, .lst 64 (bs.map eBlk), wv] 95 true true)) (hb : 0 ≤ b /\ b < bs.length) (h64 : ∀ x ∈ bs, x.length = 64)
 (hk : K (.bool (zB bs b)) H) : Call (.func 52 [] [.ptr c 0]) [.int .i64 b] H K := by
 obtain ⟨j, rfl⟩ := Int.eq_ofNat_of_zero_le hb.1
 have hj : j < bs.length := by omega
 have hx := h64 _ (List.getElem_mem hj)
 unfold zB at hk
 rw [show ((j : Int)).toNat = j from rfl, getD_lt hj] at hk
 refine enterE (N := 10) rfl fn52 rfl rfl rfl rfl rfl fun hwf => ?_
 simp (disch := (refine ofP ?_; decide)) only [go_sem, kn hc, idx_lst64 hj, ept_all hx]
 refine zero_ok (l := bs[j]) (by omega) ?_
 simp (disch := (refine ofP ?_; decide)) only [go_sem]
 exact .inl hk
theorem index76 {H : Hp} {c base : Nat} {id : Int} {wv v0 : AV} {bs : List (List UInt8)} {l : List Int} {K : AV -> Hp -> Prop} (hc : H.m.get c = some (.cells [.int .i64 id, .lst 64 (bs.map eBlk), wv] 95 true true)) (hrow : IntRow H base v0 l) (hl : ∀ x ∈ l, 0 ≤ x /\ x < bs.length) (h64 : ∀ x ∈ bs, x.length = 64) (hn : l.length ≤ 1000)
 (hk : K (.int .i64 (fidx (zB bs) l)) H) : Call (.func 76 [] []) [v0, .func 52 [] [.ptr c 0]] H K := by
 have hlen := hrow.len (ty := 3)
 refine enterE (N := 19) rfl fn76 rfl rfl rfl rfl rfl fun hwf => ?_
 simp (disch := (refine ofP ?_; decide)) only [go_sem, hlen]
 refine loopE 524080 (by kernel_rfl) (fun r G H' => H' = H /\ ∃ i : Nat, i ≤ l.length /\ r = l.length - i /\ G.get 8 = some (.int .i64 i) /\ ∀ j (hj : j < l.length), j < i -> zB bs l[j] = false) l.length ⟨rfl, 0, Nat.zero_le _, rfl, rfl, fun j _ h => absurd h (by omega)⟩ ?_
 rintro r G H' hG ⟨rfl, i, hi, rfl, g8, hno⟩
 by_cases hlt : i < l.length
 ·
  simp (disch := (refine ofP ?_; first | decide | omega)) only [go_sem, g8, hG, hrow.idx hlt, hrow.cell hlt]
  refine clo52 hc (hl _ (List.getElem_mem hlt)) h64 ?_
  cases hp : zB bs l[i] with
  | true =>
   simp (disch := (refine ofP ?_; first | assumption | decide | omega | (simp only [new_next, set_next] <;> omega) | with_unfolding_all exact ofR rfl | with_unfolding_all exact ofNt rfl)) only [go_sem, g8, hG]
   rw [fidx_at hlt hp hno] at hk
   exact .inl hk
  | false =>
   simp (disch := (refine ofP ?_; first | assumption | decide | omega | (simp only [new_next, set_next] <;> omega) | with_unfolding_all exact ofR rfl | with_unfolding_all exact ofNt rfl)) only [go_sem, g8, hG, wrap_i64]
   refine ⟨_, by omega, i + 1, hlt, rfl, rfl, fun j hj h => ?_⟩
   by_cases hji : j = i
   ·
    subst hji; exact hp
   ·
    exact hno j hj (by omega)
 ·
  simp (disch := (refine ofP ?_; first | decide | omega)) only [go_sem, g8, hG]
  rw [fidx_no fun j hj => hno j hj (by omega)] at hk
  exact .inl hk
end
end Go.Ev
namespace Go.Ev
open Go.Proofs
noncomputable section
set_option maxRecDepth 100000
theorem sl3_lo {b n i : Nat} {x : Bool} (h : i < n) : ∃ k, evSlice (.slice 3) EE (.slice b 0 n (capR x n)) (some (.int .i64 (i : Int))) none none = some (.slice b i (n - i) k) := by
 have e := bounds_lo (Nat.le_of_lt h)
 cases x with
 | true =>
  refine ⟨.ex (n - i), ?_⟩
  show (boundsN n n (some (.int .i64 (i : Int))) none none).omap (fun r => AV.slice b (addrAt r.2.2 r.1 0 (sizeT EE 3)) (Nat.sub r.2.1 r.1) (.ex (Nat.sub r.2.2 r.1))) = _
  rw [e]
  show some (AV.slice b (addrAt n i 0 (sizeT EE 3)) (n - i) (.ex (n - i))) = _
  unfold addrAt
  rw [beqF (by omega), ty3s]
  show some (AV.slice b (0 + i * 1) _ _) = _
  rw [Nat.zero_add, Nat.mul_one]
 | false =>
  refine ⟨.rest i 1 (n - i), ?_⟩
  show bc (Nat.beq 1 (sizeT EE 3)) ((boundsN n n (some (.int .i64 (i : Int))) none none).obind fun r => _) none = _
  rw [ty3s, e]
  show bc (Nat.blt i n || Nat.beq i 0) (some (AV.slice b (0 + i * 1) (n - i) (.rest (0 + i) 1 (n - i)))) _ = _
  rw [(blt_iff _ _).2 h, Nat.zero_add, Nat.mul_one, Nat.zero_add]; rfl
theorem sl3_hi {b n i : Nat} {x : Bool} (h : i ≤ n) : ∃ k, evSlice (.slice 3) EE (.slice b 0 n (capR x n)) none (some (.int .i64 (i : Int))) none = some (.slice b 0 i k) := by
 have e := bounds_hi h
 cases x with
 | true =>
  refine ⟨.ex n, ?_⟩
  show (boundsN n n none (some (.int .i64 (i : Int))) none).omap (fun r => AV.slice b (addrAt r.2.2 r.1 0 (sizeT EE 3)) (Nat.sub r.2.1 r.1) (.ex (Nat.sub r.2.2 r.1))) = _
  rw [e]
  show some (AV.slice b (addrAt n 0 0 (sizeT EE 3)) i (.ex n)) = _
  unfold addrAt
  cases Nat.beq n 0 with
  | true => rfl
  | false =>
   show some (AV.slice b (0 + 0 * _) _ _) = _
   rw [Nat.zero_mul]
 | false =>
  refine ⟨.rest 0 1 n, ?_⟩
  show bc (Nat.beq 1 (sizeT EE 3)) ((boundsN n n none (some (.int .i64 (i : Int))) none).obind fun r => _) none = _
  rw [ty3s, e]
  show bc (Nat.blt 0 n || Nat.beq 0 0) (some (AV.slice b (Nat.add 0 (Nat.mul 0 1)) (Nat.sub i 0) (.rest (Nat.add 0 0) 1 (Nat.sub n 0)))) _ = _
  rw [show (Nat.blt 0 n || Nat.beq 0 0) = true by simp]; rfl
theorem repL_1 (m : Nat) (v : AV) : repL m [v] = List.replicate m v := by
 induction m with
 | zero => rfl
 | succ m ih => show appL [v] (repL m [v]) = _; rw [ih]; rfl
theorem clear3 {H : Hp} {b i n : Nat} {k : Cap} {x : Bool} {cs : List Int} (hb : H.m.get b = some (.cells (cs.map eI) 3 x true)) (hn : cs.length = n) (hi : i < n) :
 clearTo EE H 3 (.slice b i (n - i) k) = some (.undef, setBlk H b (.cells ((cs.take i ++ List.replicate (n - i) 0).map eI) 3 x true)) := by
 show (zeroT EE 3).obind _ = _
 rw [ty3z]
 show bc (Nat.beq (n - i) 0) (some (AV.undef, H)) ((putCells H b i (repL (n - i) [.int .i64 0])).omap fun H => (AV.undef, H)) = _
 have hfl : flatL (List.replicate (n - i) (AV.int .i64 0)) = true := by
  generalize n - i = m
  induction m with
  | zero => rfl
  | succ m ih => rw [List.replicate_succ, flatL_cons', ih]; rfl
 have h1 : putCells H b i (List.replicate (n - i) (AV.int .i64 0)) = some (setBlk H b (.cells ((cs.take i ++ List.replicate (n - i) 0).map eI) 3 x true)) := by
  rw [putCells_def, hb]
  show putB H b i (List.replicate (n - i) (AV.int .i64 0)) (.cells (cs.map eI) 3 x true) = _
  rw [putB_c, hfl, setE_seg (by rw [List.length_replicate, List.length_map]; omega), List.length_replicate, List.drop_of_length_le (by rw [List.length_map]; omega), List.append_nil, List.map_append, List.map_take, List.map_replicate]; rfl
 rw [beqF (by omega), repL_1, h1]; rfl
theorem put3 {H : Hp} {b i : Nat} {a : Int} {x : Bool} {cs : List Int} (hb : H.m.get b = some (.cells (cs.map eI) 3 x true)) (hi : i < cs.length) : putCells H b i [.int .i64 a] = some (setBlk H b (.cells ((cs.set i a).map eI) 3 x true)) := by
 rw [putCells_def, hb]
 show putB H b i [.int .i64 a] (.cells (cs.map eI) 3 x true) = _
 rw [putB_c, setE_one (by rw [List.length_map]; exact hi), List.map_set]; rfl
theorem filter_step {α : Type} (p : α -> Bool) (l : List α) {j : Nat} (hj : j < l.length) : (l.take (j + 1)).filter p = (l.take j).filter p ++ (if p l[j] then [l[j]] else []) := by
 rw [List.take_succ_eq_append_getElem hj, List.filter_append]
 congr 1
 cases h : p l[j] <;> simp [h]
theorem filter_no {α : Type} {p : α -> Bool} {l : List α} : ∀ j, (∀ i (hi : i < l.length), i < j -> p l[i] = true) -> (l.take j).filter p = l.take j := fun j h => by
 rw [List.filter_eq_self]
 intro a ha
 obtain ⟨i, hi, rfl⟩ := List.getElem_of_mem ha
 rw [List.length_take] at hi
 rw [List.getElem_take]
 exact h i (by omega) (by omega)
theorem fidx_first {α : Type} {p : α -> Bool} {l : List α} {i : Nat} (h : fidx p l = i) : ∃ hi : i < l.length, p l[i] = true /\ ∀ j (hj : j < l.length), j < i -> p l[j] = false := by
 unfold fidx at h
 cases hf : l.findIdx? p with
 | none => rw [hf] at h; exact absurd h (by show ¬ (-1 : Int) = i; omega)
 | some k =>
  rw [hf] at h
  have : k = i := by have : (k : Int) = i := h; omega
  subst this
  obtain ⟨h1, h2, h3⟩ := List.findIdx?_eq_some_iff_getElem.1 hf
  exact ⟨h1, h2, fun j hj hji => by have := h3 j hji; simpa using this⟩
set_option maxHeartbeats 1000000 in
theorem delete51 {H0 H : Hp} {c : Nat} {id : Int} {wv v0 : AV} {bs : List (List UInt8)} {l : List Int} {K : AV -> Hp -> Prop} (hc : H.m.get c = some (.cells [.int .i64 id, .lst 64 (bs.map eBlk), wv] 95 true true)) (ha : Acc EE H0 H 3 1 v0 (l.map eI)) (hl : ∀ x ∈ l, 0 ≤ x /\ x < bs.length) (h64 : ∀ x ∈ bs, x.length = 64) (hn : l.length ≤ 1000)
 (hk : ∀ v' H', IntRow H' H0.next v' (l.filter fun b => !zB bs b) -> Fr H0 H' -> H.next ≤ H'.next -> (∀ a, (v0 = .nils ∨ a ≠ sB v0) -> H'.m.get a = H.m.get a) -> K v' H') : Call (.func 51 [] []) [v0, .func 52 [] [.ptr c 0]] H K := by
 have hrow := IntRow.acc ha
 refine enterE (N := 42) rfl fn51 rfl rfl rfl rfl rfl fun hwf => ?_
 simp (disch := (refine ofP ?_; decide)) only [go_sem]
 refine index76 hc hrow hl h64 hn ?_
 rcases fidx_cases (zB bs) l with ⟨hx, hno⟩ | ⟨i0, hi0, hx, _⟩
 ·
  have e : l.filter (fun b => !zB bs b) = l := by
   rw [List.filter_eq_self]
   intro a ha
   obtain ⟨i, hi, rfl⟩ := List.getElem_of_mem ha
   rw [hno i hi]; rfl
  rw [e] at hk
  simp (disch := (refine ofP ?_; decide)) only [go_sem, hx]
  exact .inl (hk _ _ hrow ha.fr (Nat.le_refl _) fun _ _ => rfl)
 ·
  obtain ⟨_, hp, hno⟩ := fidx_first hx
  have hne : ¬ (i0 : Int) = -1 := by omega
  rcases ha.own.2 with ⟨_, h0⟩ | ⟨b, x, hb1, hb2, rfl, hb⟩
  ·
   rw [List.length_map] at h0; omega
  rw [catL_eI] at hb
  have hlm : (l.map eI).length = l.length := List.length_map _
  rw [hlm] at hk ⊢
  have hcap : (if x = true then Cap.ex l.length else Cap.rest 0 1 l.length) = capR x l.length := rfl
  rw [hcap] at hk ⊢
  simp (disch := (refine ofP ?_; first | decide | omega)) only [go_sem, hx, hne, wrap_i64]
  refine loopE 68719411424 (by kernel_rfl) (fun r G H' => ∃ (i j : Nat) (cs : List Int), i < j /\ j ≤ l.length /\ r = l.length - j /\ G.get 5 = some (.int .i64 (i : Int)) /\ G.get 6 = some (.int .i64 (j : Int)) /\
   cs.length = l.length /\ cs.take i = (l.take j).filter (fun b => !zB bs b) /\ cs.drop j = l.drop j /\ H'.m.get b = some (.cells (cs.map eI) 3 x true) /\ H'.next = H.next /\ (∀ a, a ≠ b -> H'.m.get a = H.m.get a) /\ Fr H0 H') (l.length - (i0 + 1)) ?_ ?_
  ·
   refine ⟨i0, i0 + 1, l, by omega, by omega, rfl, rfl, by simp (disch := (refine ofP ?_; first | assumption | decide | omega | (simp only [new_next, set_next] <;> omega) | with_unfolding_all exact ofR rfl | with_unfolding_all exact ofNt rfl)) only [go_sem]; first | done | rfl, rfl, ?_, rfl, hb, rfl, fun _ _ => rfl, ha.fr⟩
   rw [filter_step _ _ hi0, hp]
   show _ = _ ++ []
   rw [List.append_nil, filter_no i0 fun j hj h => by rw [hno j hj h]; rfl]
  rintro r G H' hG ⟨i, j, cs, hij, hj, rfl, g5, g6, hcl, hct, hcd, hbc, hnx, hot, hfr⟩
  have hbox : H'.m.get c = some (.cells [.int .i64 id, .lst 64 (bs.map eBlk), wv] 95 true true) := (hot c (ne_ty hc hb rfl)).trans hc
  have hix : ∀ m, m < l.length -> idxAddr (.slice 3) EE (.slice b 0 l.length (capR x l.length)) m = some (.ptr b m) := fun m hm => by
   show bc (Nat.blt m l.length) (some (AV.ptr b (Nat.add 0 (Nat.mul m (sizeT EE 3))))) none = _
   rw [(blt_iff _ _).2 hm, ty3s]
   show some (AV.ptr b (0 + m * 1)) = _
   rw [Nat.zero_add, Nat.mul_one]
  by_cases hlt : j < l.length
  ·
   have hcj : cs[j]'(by omega) = l[j] := by
    have h1 : (cs.drop j)[0]? = (l.drop j)[0]? := by rw [hcd]
    rw [List.getElem?_drop, List.getElem?_drop, Nat.add_zero, List.getElem?_eq_getElem (by omega), List.getElem?_eq_getElem hlt] at h1
    exact Option.some.inj h1
   have hcell : cellAt H' b j = some (.int .i64 l[j]) := by
    rw [cellAt_def, hbc]
    show cellB j (.cells (cs.map eI) 3 x true) = _
    rw [cellB_c, getL_eq, List.getElem?_map, List.getElem?_eq_getElem (by omega), hcj]; rfl
   have hdr : cs.drop (j + 1) = l.drop (j + 1) := by rw [<- List.drop_drop, hcd, List.drop_drop]
   simp (disch := (refine ofP ?_; first | assumption | decide | omega | (simp only [new_next, set_next] <;> omega) | with_unfolding_all exact ofR rfl | with_unfolding_all exact ofNt rfl)) only [go_sem, g5, g6, hG, hix j hlt, hcell]
   refine clo52 hbox (hl _ (List.getElem_mem hlt)) h64 ?_
   cases hz : zB bs l[j] with
   | true =>
    simp (disch := (refine ofP ?_; first | assumption | decide | omega | (simp only [new_next, set_next] <;> omega) | with_unfolding_all exact ofR rfl | with_unfolding_all exact ofNt rfl)) only [go_sem, g5, g6, hG, wrap_i64]
    refine ⟨_, by omega, i, j + 1, cs, by omega, hlt, rfl, rfl, rfl, hcl, ?_, hdr, hbc, hnx, hot, hfr⟩
    rw [filter_step _ _ hlt, hz, hct]
    show _ = _ ++ []
    rw [List.append_nil]
   | false =>
    have hput := put3 (a := l[j]) hbc (show i < cs.length by omega)
    simp (disch := (refine ofP ?_; first | decide | omega)) only [go_sem, g5, g6, hG, hix i (by omega), hput, wrap_i64]
    refine ⟨_, by omega, i + 1, j + 1, cs.set i l[j], by omega, hlt, rfl, rfl, rfl, (by rw [List.length_set]; exact hcl), ?_, ?_, rfl, hnx, fun a ha => (get_set_n ha).trans (hot a ha), hfr.set hb1 _⟩
    ·
     rw [filter_step _ _ hlt, hz, <- hct]
     show _ = _ ++ [l[j]]
     rw [List.take_succ_eq_append_getElem (by rw [List.length_set]; omega), List.getElem_set_self, List.take_set_of_le (Nat.le_refl _)]
    ·
     rw [List.drop_set_of_lt (by omega), hdr]
  ·
   obtain rfl : j = l.length := by omega
   obtain ⟨k1, s1⟩ := sl3_lo (b := b) (x := x) (show i < l.length by omega)
   obtain ⟨k2, s2⟩ := sl3_hi (b := b) (x := x) (show i ≤ l.length by omega)
   have hcr := clear3 (k := k1) hbc hcl (show i < l.length by omega)
   simp (disch := (refine ofP ?_; first | decide | omega)) only [go_sem, g5, g6, hG, s1, s2, hcr]
   rw [List.take_length] at hct
   have hil : (l.filter fun b => !zB bs b).length = i := by rw [<- hct, List.length_take]; omega
   refine .inl (hk _ _ (.inr ⟨b, k2, (List.replicate (l.length - i) 0).map eI, x, hb1, (by show b < H'.next; omega), by rw [hil], ?_⟩) ?_ (by show H.next ≤ H'.next; omega) fun a ha => ?_)
   ·
    rw [<- hct, <- List.map_append]; exact get_set_s
   ·
    exact hfr.set hb1 _
   ·
    have hab : a ≠ b := ha.resolve_left fun h => (by cases h)
    exact (get_set_n hab).trans (hot a hab)
end
end Go.Ev
namespace Go.Ev
open Go.Proofs
noncomputable section
set_option maxRecDepth 100000
theorem fn29 : E1.fn 29 = some Try.f29 := by kernel_rfl
def FrB (rs : List Rec) (n : Int) : Prop := ∀ r ∈ rs, 0 ≤ r.fr /\ r.fr < n
theorem recStep_fr {rs : List Rec} {n : Int} {f : Bool} {b : Int} {x : List UInt8} (h : FrB rs n) (hb : 0 ≤ b /\ b < n) : FrB (recStep rs f b x) n := by
 have new : FrB (rs ++ [⟨b, 1, zeros x, if zeros x then [] else x⟩]) n := fun r hr => by
  rcases List.mem_append.1 hr with hr | hr
  ·
   exact h r hr
  ·
   rw [List.mem_singleton] at hr; subst hr; exact hb
 unfold recStep
 split
 ·
  rename_i r hr
  split
  ·
   intro q hq
   rcases List.mem_or_eq_of_mem_set hq with hq | rfl
   ·
    exact h q hq
   ·
    exact h r (List.mem_of_getElem? hr)
  ·
   exact new
 ·
  exact new
theorem recRun_fr {bs : List (List UInt8)} {rs : List Rec} {n : Int} {r : Int × Int} (h : FrB rs n) (h1 : 0 ≤ r.1) : ∀ k : Nat, r.1 + k ≤ n -> FrB (recRun bs rs r k) n
 | 0, _ => h
 | k + 1, hk => recStep_fr (recRun_fr h h1 k (by omega)) ⟨by omega, by omega⟩
theorem recAll_fr {bs : List (List UInt8)} {runs : List (Int × Int)} {n : Int} (h : ∀ p ∈ runs, 0 ≤ p.1 /\ 1 ≤ p.2 /\ p.1 + p.2 ≤ n) : ∀ k, k ≤ runs.length -> FrB (recAll bs runs k) n
 | 0, _ => fun r hr => by cases hr
 | k + 1, hk => by
  have hp := h _ (List.getElem_mem (show k < runs.length by omega))
  unfold recAll
  rw [getD_lt (show k < runs.length by omega)]
  exact recRun_fr (recAll_fr h k (by omega)) hp.1 _ (by omega)
def expL (zs : List (Shot × AV)) (s : Shot) (n : Nat) (base i : Int) (j : Nat) : List Int := if base = -1 then (wrtTo zs (-1) j n).filter fun b => !zB s.bs b else wrtTo zs i j n
def expStrm (n : Nat) (base id : Int) (s : Shot) (l : List Int) : Strm := ⟨n, base, id, recAll s.bs (ofN l l.length) (ofN l l.length).length⟩
def encS (s : Strm) : List UInt8 × Int := if goodS s then (encB s, 0) else ([], 11)
def expS (n : Nat) (zs : List (Shot × AV)) (base id : Int) : List UInt8 × Int :=
 if shIx zs id = -1 ∨ (base ≠ -1 /\ shIx zs base = -1) then ([], 13) else if id ≤ base then ([], 26) else
 match zs[(shIx zs id).toNat]? with
 | some z => encS (expStrm n base id z.1 (expL zs z.1 n base (shIx zs base) (shIx zs id).toNat))
 | none => ([], 0)
theorem expL_in {zs : List (Shot × AV)} {s : Shot} {n : Nat} {base i : Int} {j : Nat} : (expL zs s n base i j).length ≤ n /\ ∀ x ∈ expL zs s n base i j, 0 ≤ x /\ x < n := by
 unfold expL
 split
 ·
  exact ⟨Nat.le_trans (List.length_filter_le _ _) (wrtTo_len _ _ _ _), fun x hx => wrtTo_lt _ _ _ _ x (List.mem_filter.1 hx).1⟩
 ·
  exact ⟨wrtTo_len _ _ _ _, wrtTo_lt _ _ _ _⟩
theorem expStrm_ok {n : Nat} {base id : Int} {s : Shot} {l : List Int} (hn : n ≤ 64) (hl : l.length ≤ n) (hr : ∀ x ∈ l, 0 ≤ x /\ x < n) (hb : ∀ x ∈ s.bs, x.length = 64) : (expStrm n base id s l).recs.length ≤ 100 /\ ∀ r ∈ (expStrm n base id s l).recs, r.data.length ≤ 5000 /\ smallI r.fr /\ smallI r.cnt := by
 have h1 := recAll_bd hb (ofN l l.length) (ofN l l.length).length
 have h2 := recAll_fr (bs := s.bs) (ofN_in hr (by omega) l.length (Nat.le_refl _)).1 (ofN l l.length).length (Nat.le_refl _)
 rw [ofN_cnt] at h1
 unfold smallI
 refine ⟨by have := h1.1; show List.length (recAll _ _ _) ≤ _; omega, fun r hr => ?_⟩
 have a := h1.2 r hr
 have b := h2 r hr
 exact ⟨by omega, by omega, by omega⟩
set_option maxHeartbeats 1000000 in
theorem export29 {H : Hp} {p : Nat} {base id : Int} {bs : List (List UInt8)} {zs : List (Shot × AV)} {next : Int} {bv sv : AV} {K : AV -> Hp -> Prop} (h : MAt H p bs zs next bv sv) (hid : ∀ (i j : Nat) (hi : i < zs.length) (hj : j < zs.length), i < j -> zs[i].1.id < zs[j].1.id)
 (hk : K (.tuple [.lst 1 ((expS bs.length zs base id).1.map eB), .int .i64 (expS bs.length zs base id).2]) H) : Call (.func 29 [] []) [.ptr p 0, .int .i64 base, .int .i64 id] H K := by
 have hn := h.n
 have hz : ∀ {e : Int}, FZ H H (.tuple [.lst 1 [], .int .i64 e]) (.tuple [.nils, .int .i64 e]) := FZ.tuple (.cons .nils0 (.cons .int .nil))
 refine enterE (N := 65) rfl fn29 rfl rfl rfl rfl rfl fun hwf => ?_
 simp (disch := (refine ofP ?_; decide)) only [go_sem]
 refine index48 h ?_
 simp (disch := (refine ofP ?_; decide)) only [go_sem]
 refine index48 h ?_
 unfold expS at hk
 rcases fidx_cases (fun z : Shot × AV => decide (z.1.id = id)) zs with ⟨hx, _⟩ | ⟨j, hj, hx, hpj⟩
 ·
  have hx : shIx zs id = -1 := hx
  rw [if_pos (.inl hx)] at hk
  simp (disch := (refine ofP ?_; decide)) only [go_sem, hx]
  exact .inr (.inl ⟨Fr.refl _, _, hz, hk⟩)
 have hx : shIx zs id = j := hx
 have hidj : zs[j].1.id = id := of_decide_eq_true hpj
 have hxn : ¬ (j : Int) < 0 := by omega
 rw [hx] at hk ⊢
 have hsh := h.s.cells hj
 have hone := (h.w _ (List.getElem_mem hj)).one
 have hz3 := h.zl _ (List.getElem_mem hj)
 rw [show ((j : Int)).toNat = j from rfl, List.getElem?_eq_getElem hj] at hk
 by_cases c1 : base = -1
 ·
  subst c1
  rw [if_neg (by rintro (h | ⟨h, _⟩) <;> first | omega | exact h rfl)] at hk
  by_cases c2 : id ≤ -1
  ·
   rw [if_pos c2] at hk
   simp (disch := (refine ofP ?_; decide)) only [go_sem, c2, hxn]
   exact .inr (.inl ⟨Fr.refl _, _, hz, hk⟩)
  ·
   rw [if_neg c2] at hk
   simp (disch := (refine ofP ?_; decide)) only [go_sem, c2, hxn]
   simp (disch := (refine ofP ?_; first | assumption | decide | omega | (simp only [new_next, set_next] <;> omega) | with_unfolding_all exact ofR rfl | with_unfolding_all exact ofNt rfl)) only [go_sem, kn h.m, h.s.idx hj, hsh, storeN_1 (oneC_cells hone), hone, oneC_cells hone]
   have fX : Fr H (setBlk (newBlk H (.cells [.int .i64 0, .nils, .nils] 95 true true)).2 H.next (.cells [.int .i64 zs[j].1.id, .lst 64 (zs[j].1.bs.map eBlk), zs[j].2] 95 true true)) := (Fr.alloc _ _).set (Nat.le_refl _) _
   have hc : (setBlk (newBlk H (.cells [.int .i64 0, .nils, .nils] 95 true true)).2 H.next (.cells [.int .i64 zs[j].1.id, .lst 64 (zs[j].1.bs.map eBlk), zs[j].2] 95 true true)).m.get H.next = some (.cells [.int .i64 zs[j].1.id, .lst 64 (zs[j].1.bs.map eBlk), zs[j].2] 95 true true) := get_set_s
   have hlc : H.next < (setBlk (newBlk H (.cells [.int .i64 0, .nils, .nils] 95 true true)).2 H.next (.cells [.int .i64 zs[j].1.id, .lst 64 (zs[j].1.bs.map eBlk), zs[j].2] 95 true true)).next := Nat.lt_succ_self _
   generalize setBlk (newBlk H (.cells [.int .i64 0, .nils, .nils] 95 true true)).2 H.next (.cells [.int .i64 zs[j].1.id, .lst 64 (zs[j].1.bs.map eBlk), zs[j].2] 95 true true) = X at fX hc hlc ⊢
   refine written50 (h.keep fX) hj (.inl rfl) fun v H1 ha => ?_
   have hc1 := (ha.fr.get _ hlc).trans hc
   simp (disch := (refine ofP ?_; decide)) only [go_sem]
   refine delete51 hc1 ha (fun x hx => by have := wrtTo_lt _ _ _ _ x hx; have := hz3.2.1; omega) hz3.2.2 (by have := wrtTo_len zs (-1) j bs.length; omega) fun v2 H2 hrow f12 hnx hot => ?_
   have f2 : Fr H H2 := fX.trans f12
   have hc2 := (f12.get _ hlc).trans hc
   have hM2 := h.keep f2
   have hp2 := hM2.lt
   have hbl := hM2.b.isSl.len (E := EE) (e := 53)
   have hexp : expL zs zs[j].1 bs.length (-1) (shIx zs (-1)) j = ((wrtTo zs (-1) j bs.length).filter fun b => !zB zs[j].1.bs b) := if_pos rfl
   have hL := expL_in (zs := zs) (s := zs[j].1) (n := bs.length) (base := (-1)) (i := (shIx zs (-1))) (j := j)
   dsimp only at hk
   rw [hexp] at hk
   rw [hexp] at hL
   obtain ⟨hL1, hL2⟩ := hL
   generalize ((wrtTo zs (-1) j bs.length).filter fun b => !zB zs[j].1.bs b) = ll at hk hrow hL1 hL2
   obtain ⟨q1, q2⟩ := expStrm_ok (base := (-1)) (id := id) (s := zs[j].1) hn.2 hL1 hL2 hz3.2.2
   simp (disch := (refine ofP ?_; decide)) only [go_sem]
   refine drawX [0,0,0,4,0,0,0,0,0,2,0,0,0,0,0,0] (by kernel_rfl) (by kernel_rfl) rfl (by kernel_rfl) ?_
   simp (disch := (refine ofP ?_; first | assumption | decide | omega | (simp only [new_next, set_next] <;> omega) | with_unfolding_all exact ofR rfl | with_unfolding_all exact ofNt rfl)) only [go_sem, kn hM2.m, hbl, kn hc2, hone]
   refine records55 hrow (fun x hx => by have := hL2 x hx; have := hz3.2.1; omega) (by have := hz3.2.1; omega) (by omega) hz3.2.2 hone ?_
   simp (disch := (refine ofP ?_; decide)) only [go_sem]
   refine encode_ok (s := expStrm bs.length (-1) id zs[j].1 ll) q1 q2 (fun hg => ?_) (fun hg => ?_)
   ·
    simp (disch := (refine ofP ?_; decide)) only [go_sem]
    unfold encS at hk
    rw [if_neg (by rw [hg]; decide)] at hk
    exact .inr (.inl ⟨f2, _, FZ.tuple (.cons (FZ.lst (FZL.plain fun x hx => (by cases hx))) (.cons .int .nil)), hk⟩)
   ·
    simp (disch := (refine ofP ?_; decide)) only [go_sem]
    unfold encS at hk
    rw [if_pos hg] at hk
    exact .inr (.inl ⟨f2, _, FZ.tuple (.cons (FZ.lst (FZL.plain (plain_map fun _ => rfl))) (.cons .int .nil)), hk⟩)
 ·
  rcases fidx_cases (fun z : Shot × AV => decide (z.1.id = base)) zs with ⟨hy, _⟩ | ⟨i, hi, hy, hpi⟩
  ·
   have hy : shIx zs base = -1 := hy
   rw [if_pos (.inr ⟨c1, hy⟩)] at hk
   simp (disch := (refine ofP ?_; decide)) only [go_sem, hy, c1, hxn]
   exact .inr (.inl ⟨Fr.refl _, _, hz, hk⟩)
  ·
   have hy : shIx zs base = i := hy
   have hidi : zs[i].1.id = base := of_decide_eq_true hpi
   have hyn : ¬ (i : Int) < 0 := by omega
   rw [hy] at hk ⊢
   rw [if_neg (by rintro (h | ⟨_, h⟩) <;> omega)] at hk
   by_cases c2 : id ≤ base
   ·
    rw [if_pos c2] at hk
    simp (disch := (refine ofP ?_; decide)) only [go_sem, c1, c2, hxn, hyn]
    exact .inr (.inl ⟨Fr.refl _, _, hz, hk⟩)
   ·
    rw [if_neg c2] at hk
    simp (disch := (refine ofP ?_; decide)) only [go_sem, c1, c2, hxn, hyn]
    simp (disch := (refine ofP ?_; first | assumption | decide | omega | (simp only [new_next, set_next] <;> omega) | with_unfolding_all exact ofR rfl | with_unfolding_all exact ofNt rfl)) only [go_sem, kn h.m, h.s.idx hj, hsh, storeN_1 (oneC_cells hone), hone, oneC_cells hone]
    have fX : Fr H (setBlk (newBlk H (.cells [.int .i64 0, .nils, .nils] 95 true true)).2 H.next (.cells [.int .i64 zs[j].1.id, .lst 64 (zs[j].1.bs.map eBlk), zs[j].2] 95 true true)) := (Fr.alloc _ _).set (Nat.le_refl _) _
    have hc : (setBlk (newBlk H (.cells [.int .i64 0, .nils, .nils] 95 true true)).2 H.next (.cells [.int .i64 zs[j].1.id, .lst 64 (zs[j].1.bs.map eBlk), zs[j].2] 95 true true)).m.get H.next = some (.cells [.int .i64 zs[j].1.id, .lst 64 (zs[j].1.bs.map eBlk), zs[j].2] 95 true true) := get_set_s
    have hlc : H.next < (setBlk (newBlk H (.cells [.int .i64 0, .nils, .nils] 95 true true)).2 H.next (.cells [.int .i64 zs[j].1.id, .lst 64 (zs[j].1.bs.map eBlk), zs[j].2] 95 true true)).next := Nat.lt_succ_self _
    generalize setBlk (newBlk H (.cells [.int .i64 0, .nils, .nils] 95 true true)).2 H.next (.cells [.int .i64 zs[j].1.id, .lst 64 (zs[j].1.bs.map eBlk), zs[j].2] 95 true true) = X at fX hc hlc ⊢
    refine written50 (h.keep fX) hj (.inr ⟨by omega, by have hij : i ≤ j := (Nat.lt_or_ge j i).elim (fun hji => absurd (hid j i hj hi hji) (by omega)) (fun h => h); omega⟩) fun v H1 ha => ?_
    have hc1 := (ha.fr.get _ hlc).trans hc
    have f2 : Fr H H1 := fX.trans ha.fr
    have hrow := IntRow.acc ha
    have hc2 := hc1
    simp (disch := (refine ofP ?_; decide)) only [go_sem, c1]
    have hM2 := h.keep f2
    have hp2 := hM2.lt
    have hbl := hM2.b.isSl.len (E := EE) (e := 53)
    have hexp : expL zs zs[j].1 bs.length base (i : Int) j = (wrtTo zs (i : Int) j bs.length) := if_neg c1
    have hL := expL_in (zs := zs) (s := zs[j].1) (n := bs.length) (base := base) (i := (i : Int)) (j := j)
    dsimp only at hk
    rw [hexp] at hk
    rw [hexp] at hL
    obtain ⟨hL1, hL2⟩ := hL
    generalize (wrtTo zs (i : Int) j bs.length) = ll at hk hrow hL1 hL2
    obtain ⟨q1, q2⟩ := expStrm_ok (base := base) (id := id) (s := zs[j].1) hn.2 hL1 hL2 hz3.2.2
    refine drawX [0,0,0,4,0,0,0,0,0,2,0,0,0,0,0,0] (by kernel_rfl) (by kernel_rfl) rfl (by kernel_rfl) ?_
    simp (disch := (refine ofP ?_; first | assumption | decide | omega | (simp only [new_next, set_next] <;> omega) | with_unfolding_all exact ofR rfl | with_unfolding_all exact ofNt rfl)) only [go_sem, kn hM2.m, hbl, kn hc2, hone]
    refine records55 hrow (fun x hx => by have := hL2 x hx; have := hz3.2.1; omega) (by have := hz3.2.1; omega) (by omega) hz3.2.2 hone ?_
    simp (disch := (refine ofP ?_; decide)) only [go_sem]
    refine encode_ok (s := expStrm bs.length base id zs[j].1 ll) q1 q2 (fun hg => ?_) (fun hg => ?_)
    ·
     simp (disch := (refine ofP ?_; decide)) only [go_sem]
     unfold encS at hk
     rw [if_neg (by rw [hg]; decide)] at hk
     exact .inr (.inl ⟨f2, _, FZ.tuple (.cons (FZ.lst (FZL.plain fun x hx => (by cases hx))) (.cons .int .nil)), hk⟩)
    ·
     simp (disch := (refine ofP ?_; decide)) only [go_sem]
     unfold encS at hk
     rw [if_pos hg] at hk
     exact .inr (.inl ⟨f2, _, FZ.tuple (.cons (FZ.lst (FZL.plain (plain_map fun _ => rfl))) (.cons .int .nil)), hk⟩)
end
end Go.Ev
