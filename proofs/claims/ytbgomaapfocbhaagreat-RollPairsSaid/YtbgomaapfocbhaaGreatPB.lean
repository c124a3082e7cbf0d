/-
  Copies of states; what is held from a snapshot on, by the program and by the document; the walk of the statement. No conditions.
-/
import Derived.Test.YtbgomaapfocbhaaGreatPA
set_option linter.unusedVariables false
set_option linter.unusedSimpArgs false
namespace Go.Ev
open Go.Proofs
noncomputable section
set_option maxRecDepth 100000
theorem fn24 : E1.fn 24 = some Tryz.f24 := by kernel_rfl
theorem fn7 : E1.fn 7 = some Tryz.f7 := by kernel_rfl
section
variable {E : Env} {H : Hp} {e sz m b : Nat}
theorem app_ex0 {new : List AV} (hm : 0 < m) (hn : m ≤ 1048576) (hsz : sizeT E e = sz) (hg : grows E e = true) : evAppend E H e (.slice b 0 0 (.ex 0)) m new = some (.slice H.next 0 m (.rest 0 sz m), (newBlk H (.cells new e false true)).2) := by
  have hm0 : Nat.beq m 0 = false := by rw [beq_dec]; simp; omega
  unfold evAppend
  rw [hm0]
  show appCap (.ex 0) E H e b 0 0 m new = _
  show bc (Nat.ble (0 + m) 0) _ ((cellsAt H b 0 (0 * sizeT E e)).obind fun old => growTo E H e (0 + m) (appL old new)) = _
  rw [ble_dec, show decide (0 + m ≤ 0) = false by simp; omega, Nat.zero_mul, cellsAt_zero]
  show growTo E H e (0 + m) new = _
  unfold growTo
  rw [Nat.zero_add, growOk_grows hg hn, hsz]; rfl
/-- A copy of what is no more written. -/
theorem cloneApp {l : List AV} (hs : sizeT E e = sz) (hpos : 0 < sz) (hg : grows E e = true) (hb : l.length ≤ 1048576) (hc : ∀ x ∈ l, x.cells.length = sz) (hf : flatL (catL l) = true) :
    ∃ w H1, evAppend E (newBlk H (.cells [] e true true)).2 e (.slice H.next 0 0 (.ex 0)) l.length (catL l) = some (w, H1) ∧ Fr (newBlk H (.cells [] e true true)).2 H1 ∧ Acc E H H1 e sz w l := by
  have ha := Acc.new0 (E := E) (Fr.refl H) hs hpos hg
  by_cases h0 : l = []
  · subst h0
    exact ⟨_, _, ha.app0, Fr.refl _, ha⟩
  · have hpos : 0 < l.length := List.length_pos_iff.2 h0
    have hm := app_ex0 (H := (newBlk H (.cells [] e true true)).2) (b := H.next) (new := catL l) hpos hb hs hg
    have hlen : (catL l).length = l.length * sz := (cat_seg hc).1
    refine ⟨_, _, hm, Fr.alloc _ _, ⟨(Fr.alloc H _).trans (Fr.alloc _ _), ⟨hlen, .inr ⟨_, false, Nat.le_succ _, Nat.lt_succ_self _, rfl, get_new_s⟩⟩, hc, hs, ha.hpos, hg⟩⟩
theorem Own.one {v : AV} {n : Nat} {base : Nat} {cs : List AV} (h : Own H base e sz v n cs) : oneC v = true := by
  rcases h.2 with ⟨rfl, _⟩ | ⟨b, x, _, _, rfl, _⟩ <;> rfl
theorem Own.move {v : AV} {n base e' : Nat} {cs : List AV} {H' : Hp} (h : Own H base e sz v n cs) (hn : H.next ≤ H'.next) (he : Nat.beq e e' = false) (hm : ∀ c y, H.m.get c = some y → notE e' y = true → c < H.next → H'.m.get c = some y) : Own H' base e sz v n cs := by
  refine ⟨h.1, h.2.imp id ?_⟩
  rintro ⟨b, x, h1, h2, h3, h4⟩
  exact ⟨b, x, h1, Nat.lt_of_lt_of_le h2 hn, h3, hm b _ h4 (by show (!(Nat.beq e e')) = true; rw [he]; rfl) h2⟩
end
theorem ePr_two (l : List (Int × Int)) : ∀ x ∈ l.map ePr, x.cells.length = 2 := fun x hx => by
  obtain ⟨c, _, rfl⟩ := List.mem_map.1 hx; rfl
theorem ePr_flat (l : List (Int × Int)) : flatL (catL (l.map ePr)) = true := by
  rw [catL_map (g := fun p => [.int .i64 p.1, .int .i64 p.2]) fun _ => rfl]
  induction l with
  | nil => rfl
  | cons c l ih => exact ih
theorem eI_one (l : List Int) : ∀ x ∈ l.map eI, x.cells.length = 1 := fun x hx => by
  obtain ⟨c, _, rfl⟩ := List.mem_map.1 hx; rfl
theorem eI_flat (l : List Int) : flatL (catL (l.map eI)) = true := by
  rw [catL_map (g := fun c => [eI c]) fun _ => rfl]
  induction l with
  | nil => rfl
  | cons c l ih => exact ih
/-- A snapshot whose parts lie in memory. -/
def gS (p : Snp × AV × AV) : AV := .agg [.int .i64 p.1.id, p.2.1, p.2.2]
def OwnP (H : Hp) (base : Nat) (p : Snp × AV × AV) : Prop := Own H base 5 1 p.2.1 p.1.ch.length (catL (p.1.ch.map eB)) ∧ Own H base 71 2 p.2.2 p.1.tb.length (catL (p.1.tb.map ePr))
theorem OwnP.fz {H0 H : Hp} {p : Snp × AV × AV} (h : OwnP H H0.next p) (hwf : WF H0) : FZ H0 H (eSnap p.1) (gS p) :=
  FZ.agg (FZL.cons FZ.int (FZL.cons (h.1.fz (by decide) hwf (List.length_map ..) rfl (eB_one _) (FZL.plain (plain_map fun _ => rfl))) (FZL.cons (h.2.fz (by decide) hwf (List.length_map ..) rfl (ePr_two _) (FZL.plain (plain_map fun _ => rfl))) FZL.nil)))
theorem FZ.snap {H0 H : Hp} (s : Snp) : FZ H0 H (eSnap s) (eSnap s) :=
  FZ.agg (FZL.cons FZ.int (FZL.cons (FZ.lst (FZL.plain (plain_map fun _ => rfl))) (FZL.cons (FZ.lst (FZL.plain (plain_map fun _ => rfl))) FZL.nil)))
theorem FZ.snaps {H0 H : Hp} (l : List Snp) : FZ H0 H (.lst 3 (l.map eSnap)) (.lst 3 (l.map eSnap)) := FZ.lst (FZL.map fun s _ => FZ.snap s)
theorem copy24 {H : Hp} {l : List Snp} {K : AV → Hp → Prop} (hl : l.length ≤ 100000) (hb : ∀ s ∈ l, s.ch.length ≤ 100000 ∧ s.tb.length ≤ 100000) (hk : K (.lst 3 (l.map eSnap)) H) : Call (.func 24 [] []) [.lst 3 (l.map eSnap)] H K := by
  refine enterE (N := 35) rfl fn24 rfl rfl rfl rfl rfl fun hwf => ?_
  simp (disch := (refine ofP ?_; first | assumption | decide | omega | (simp only [new_next, set_next] <;> omega) | with_unfolding_all exact ofR rfl | with_unfolding_all exact ofNt rfl)) only [go_sem]
  refine loopE 17179869176 (by kernel_rfl) (fun r G H' => ∃ (i : Nat) (v : AV) (ws : List (Snp × AV × AV)), i ≤ l.length ∧ r = l.length - i ∧ G.get 4 = some (.int .i64 i) ∧ G.get 3 = some v ∧ Acc EE H H' 43 3 v (ws.map gS) ∧ ws.map (·.1) = l.take i ∧ ∀ p ∈ ws, OwnP H' H.next p) l.length
    ⟨0, .nils, [], Nat.zero_le _, rfl, rfl, rfl, Acc.nil ty43s (by decide) ty43g, rfl, by simp⟩ ?_
  rintro r G H' hG ⟨i, v, ws, hi, rfl, g4, g3, ho, hws, hp⟩
  have hwl : ws.length = i := by
    have := congrArg List.length hws
    rw [List.length_map, List.length_take] at this; omega
  by_cases hlt : i < l.length
  · obtain ⟨hb1, hb2⟩ := hb _ (List.getElem_mem hlt)
    obtain ⟨w1, H1, ev1, fr1, a1⟩ := cloneApp (E := EE) (H := H') (l := l[i].ch.map eB) ty5s (by decide) ty5g (by rw [List.length_map]; omega) (eB_one _) (eB_flat _)
    obtain ⟨w2, H2, ev2, fr2, a2⟩ := cloneApp (E := EE) (H := H1) (l := l[i].tb.map ePr) ty71s (by decide) ty71g (by rw [List.length_map]; omega) (ePr_two _) (ePr_flat _)
    rw [List.length_map] at ev1 ev2
    have f2 : Fr H' H2 := a1.fr.trans a2.fr
    have ho2 := ho.keep f2
    have hlen : (ws.map gS).length < 1048576 := by rw [List.length_map]; omega
    have hflat : flatL [AV.int .i64 l[i].id, w1, w2] = true := by rw [flatL_cons', flatL_cons', flatL_cons', a1.own.one, a2.own.one]; rfl
    have hpush := ho2.push hlen [.int .i64 l[i].id, w1, w2] rfl hflat
    have hpd := ho2.pushed hlen (gS (l[i], w1, w2)) (new := [.int .i64 l[i].id, w1, w2]) rfl rfl hflat
    obtain ⟨hpn, hpg⟩ := ho2.push_get hlen (new := [.int .i64 l[i].id, w1, w2]) rfl hflat
    simp (disch := (refine ofP ?_; first | assumption | decide | omega | (simp only [new_next, set_next] <;> omega) | with_unfolding_all exact ofR rfl | with_unfolding_all exact ofNt rfl)) only [go_sem, g4, g3, hG, List.length_map]
    refine drawX [0,0,0,0,0,4,0,0,0,0,0,0,2,0,0,0,0,0,5,2,0,0,0,0] (by kernel_rfl) (by kernel_rfl) rfl (by kernel_rfl) ?_
    simp (disch := (refine ofP ?_; first | assumption | decide | omega | (simp only [new_next, set_next] <;> omega) | with_unfolding_all exact ofR rfl | with_unfolding_all exact ofNt rfl)) only [go_sem, g4, g3, hG, wrap_i64, ia_lst_map, List.length_map, ev1, ev2, fr1, fr2, hpush, a1.own.one, a2.own.one, fpStep_1 (oneC_cells a1.own.one), fpStep_1 (oneC_cells a2.own.one), oneC_cells a1.own.one, oneC_cells a2.own.one]
    refine ⟨_, by omega, i + 1, _, ws ++ [(l[i], w1, w2)], hlt, rfl, rfl, rfl, ?_, ?_, ?_⟩
    · rw [List.length_map] at hpd
      rw [List.map_append]
      exact hpd
    · rw [List.map_append, hws, List.take_add_one, List.getElem?_eq_getElem hlt]; rfl
    · intro p hpm
      have mv : ∀ p, OwnP H2 H.next p → OwnP (puH EE H2 43 v [.int .i64 l[i].id, w1, w2]) H.next p := fun p h =>
        ⟨h.1.move (by rw [hpn]; omega) rfl hpg, h.2.move (by rw [hpn]; omega) rfl hpg⟩
      rcases List.mem_append.1 hpm with h | h
      · exact mv p ⟨(hp p h).1.keep f2, (hp p h).2.keep f2⟩
      · rw [List.mem_singleton] at h
        subst h
        have e1 := a1.own.keep a2.fr
        have e2 := a2.own
        rw [List.length_map] at e1 e2
        exact mv _ ⟨e1.mono ho.fr.nx, e2.mono (Nat.le_trans ho.fr.nx a1.fr.nx)⟩
  · simp (disch := (refine ofP ?_; first | assumption | decide | omega | (simp only [new_next, set_next] <;> omega) | with_unfolding_all exact ofR rfl | with_unfolding_all exact ofNt rfl)) only [go_sem, g4, g3, hG, List.length_map]
    obtain rfl : i = l.length := by omega
    rw [List.take_length] at hws
    refine ho.out hwf (l' := l.map eSnap) ?_ hk
    rw [← hws, List.map_map]
    exact FZL.map fun p h => (hp p h).fz hwf
/-- A state. -/
structure Ste where
  dirty : List Int
  snaps : List Snp
  next : Int
  kind : Int
  id : Int
  pairs : List (Int × Int)
def eSte (s : Ste) : AV := .agg [.lst 1 (s.dirty.map eI), .lst 3 (s.snaps.map eSnap), .int .i64 s.next, .int .i64 s.kind, .int .i64 s.id, .lst 2 (s.pairs.map ePr)]
theorem eSte_def (s : Ste) : eSte s = .agg [.lst 1 (s.dirty.map eI), .lst 3 (s.snaps.map eSnap), .int .i64 s.next, .int .i64 s.kind, .int .i64 s.id, .lst 2 (s.pairs.map ePr)] := rfl
/-- What the laws let in. -/
structure Ste.fair (s : Ste) : Prop where
  d : s.dirty.length ≤ 100000
  n : s.snaps.length ≤ 100000
  sn : ∀ x ∈ s.snaps, x.ch.length ≤ 100000 ∧ x.tb.length ≤ 100000
  p : s.pairs.length ≤ 100000
theorem state7 {H : Hp} {s : Ste} {K : AV → Hp → Prop} (hf : s.fair) (hk : K (eSte s) H) : Call (.func 7 [] []) [eSte s] H K := by
  rw [eSte_def]
  refine enterE (N := 25) rfl fn7 rfl rfl rfl rfl rfl fun hwf => ?_
  simp (disch := (refine ofP ?_; first | assumption | decide | omega | (simp only [new_next, set_next] <;> omega) | with_unfolding_all exact ofR rfl | with_unfolding_all exact ofNt rfl)) only [go_sem]
  refine drawX [0,0,0,2,0,1,2,0,1,0,0,1,0,0,1,0,0,0,1,2,0,0,0] (by kernel_rfl) (by kernel_rfl) rfl (by kernel_rfl) ?_
  obtain ⟨z1, hz1⟩ : ∃ z, z = Blk.cells [.lst 1 (s.dirty.map eI), .lst 3 (s.snaps.map eSnap), .int .i64 s.next, .int .i64 s.kind, .int .i64 s.id, .lst 2 (s.pairs.map ePr)] 28 true true := ⟨_, rfl⟩
  obtain ⟨z2, hz2⟩ : ∃ z, z = Blk.cells [.nils, .nils, .int .i64 0, .int .i64 0, .int .i64 0, .nils] 28 true true := ⟨_, rfl⟩
  obtain ⟨Hh, hHh⟩ : ∃ X, X = (newBlk (newBlk H z1).2 z2).2 := ⟨_, rfl⟩
  have fh : Fr H Hh := by rw [hHh]; exact (Fr.alloc _ _).trans (Fr.alloc _ _)
  have hn : Hh.next = H.next + 1 + 1 := by rw [hHh]; rfl
  have m0 : Hh.m.get H.next = some z1 := by rw [hHh, get_new_n (Nat.ne_of_lt (Nat.lt_succ_self _)), get_new_s]
  have m1 : Hh.m.get (H.next + 1) = some z2 := by rw [hHh]; exact get_new_s
  rw [← hz1, ← hz2, ← hHh]
  rw [hz1] at m0
  rw [hz2] at m1
  clear hz1 hz2 hHh
  obtain ⟨w1, H1, ev1, fr1, a1⟩ := cloneApp (E := EE) (H := Hh) (l := s.dirty.map eI) ty3s (by decide) ty3g (by rw [List.length_map]; have := hf.d; omega) (eI_one _) (eI_flat _)
  obtain ⟨w2, H2, ev2, fr2, a2⟩ := cloneApp (E := EE) (H := H1) (l := s.pairs.map ePr) ty71s (by decide) ty71g (by rw [List.length_map]; have := hf.p; omega) (ePr_two _) (ePr_flat _)
  have n0 : H1.m.get H.next = some _ := (a1.fr.get _ (by omega)).trans m0
  have k0 : H2.m.get H.next = some _ := (a2.fr.get _ (by have := a1.fr.nx; omega)).trans n0
  have k1 : H2.m.get (H.next + 1) = some _ := (a2.fr.get _ (by have := a1.fr.nx; omega)).trans ((a1.fr.get _ (by omega)).trans m1)
  have i1 := a1.fr.nx
  have i2 := a2.fr.nx
  rw [List.length_map] at ev1 ev2
  rw [hn] at ev1
  have hone1 := a1.own.one
  have hone2 := a2.own.one
  simp (disch := (refine ofP ?_; first | assumption | decide | omega | (simp only [new_next, set_next] <;> omega) | with_unfolding_all exact ofR rfl | with_unfolding_all exact ofNt rfl)) only [go_sem, kn m0, m0, kn n0, n0, hn, List.length_map, ev1, fr1]
  refine copy24 hf.n hf.sn ?_
  simp (disch := (refine ofP ?_; first | assumption | decide | omega | (simp only [new_next, set_next] <;> omega) | with_unfolding_all exact ofR rfl | with_unfolding_all exact ofNt rfl)) only [go_sem, kn n0, n0, kn k0, k0, kn k1, k1, hn, List.length_map, ev2, fr2, fpStep_1 (oneC_cells hone1), fpStep_1 (oneC_cells hone2), oneC_cells hone1, oneC_cells hone2, hone1, hone2]
  have mv : ∀ z c y, H2.m.get c = some y → notE 28 y = true → c < H2.next → (setBlk H2 (H.next + 1) z).m.get c = some y := fun z c y hc hy _ => by
    rw [get_set_n]
    · exact hc
    · rintro rfl
      rw [k1] at hc
      cases hc; cases hy
  have e1 := ((a1.own.keep a2.fr).mono (Nat.le_trans (Nat.le_add_right H.next 2) (Nat.le_of_eq hn.symm))).move (H' := setBlk H2 (H.next + 1) (.cells [w1, .lst 3 (s.snaps.map eSnap), .int .i64 s.next, .int .i64 s.kind, .int .i64 s.id, w2] 28 true true)) (e' := 28) (Nat.le_refl _) rfl (mv _)
  have e2 := (a2.own.mono (show H.next ≤ H1.next by omega)).move (H' := setBlk H2 (H.next + 1) (.cells [w1, .lst 3 (s.snaps.map eSnap), .int .i64 s.next, .int .i64 s.kind, .int .i64 s.id, w2] 28 true true)) (e' := 28) (Nat.le_refl _) rfl (mv _)
  exact .inr (.inl ⟨((fh.trans a1.fr).trans a2.fr).set (by omega) _, _, FZ.agg (FZL.cons (e1.fz (by decide) hwf rfl rfl (eI_one _) (FZL.plain (plain_map fun _ => rfl))) (FZL.cons (FZ.snaps _) (FZL.cons FZ.int (FZL.cons FZ.int (FZL.cons FZ.int (FZL.cons
    (e2.fz (by decide) hwf rfl rfl (ePr_two _) (FZL.plain (plain_map fun _ => rfl))) FZL.nil)))))), hk⟩)
end
end Go.Ev

namespace Go.Ev
open Go.Proofs
noncomputable section
set_option maxRecDepth 100000
theorem fn59 : E1.fn 59 = some Tryz.f59 := by kernel_rfl
theorem fn22 : E1.fn 22 = some Tryz.f22 := by kernel_rfl
theorem fn6 : E1.fn 6 = some Tryz.f6 := by kernel_rfl
theorem fn8 : E1.fn 8 = some Tryz.f8 := by kernel_rfl
theorem fn9 : E1.fn 9 = some Tryz.f9 := by kernel_rfl
theorem fn10 : E1.fn 10 = some Tryz.f10 := by kernel_rfl
theorem ints10 {H : Hp} {l : List Int} {K : AV → Hp → Prop} (hl : l.length ≤ 4611686018427387904) (hk : K (.bool true) H) : Call (.func 10 [] []) [.lst 1 (l.map eI), .lst 1 (l.map eI)] H K := by
  refine enterE (N := 26) rfl fn10 rfl rfl rfl rfl rfl fun hwf => ?_
  simp (disch := (refine ofP ?_; first | assumption | decide | omega | (simp only [new_next, set_next] <;> omega) | with_unfolding_all exact ofR rfl | with_unfolding_all exact ofNt rfl)) only [go_sem, List.length_map]
  refine loopE 67106864 (by kernel_rfl) (fun r G H' => H' = H ∧ ∃ i : Nat, i ≤ l.length ∧ r = l.length - i ∧ G.get 5 = some (.int .i64 i)) l.length ⟨rfl, 0, Nat.zero_le _, rfl, rfl⟩ ?_
  rintro r G H' hG ⟨rfl, i, hi, rfl, g5⟩
  by_cases hlt : i < l.length
  · simp (disch := (refine ofP ?_; first | assumption | decide | omega | (simp only [new_next, set_next] <;> omega) | with_unfolding_all exact ofR rfl | with_unfolding_all exact ofNt rfl)) only [go_sem, g5, hG, List.length_map]
    refine drawE (by kernel_rfl) (by kernel_rfl) ?_
    simp (disch := (refine ofP ?_; first | assumption | decide | omega | (simp only [new_next, set_next] <;> omega) | with_unfolding_all exact ofR rfl | with_unfolding_all exact ofNt rfl)) only [go_sem, g5, hG, ia_lst_map, List.length_map, show ∀ a : Int, (a ≠ a) = False from fun a => by simp, wrap_i64]
    exact ⟨_, by omega, i + 1, hlt, rfl, rfl⟩
  · simp (disch := (refine ofP ?_; first | assumption | decide | omega | (simp only [new_next, set_next] <;> omega) | with_unfolding_all exact ofR rfl | with_unfolding_all exact ofNt rfl)) only [go_sem, g5, hG, List.length_map]
    exact .inl hk
theorem eq_pr (a b : Int) : eqOp .neq (eqAgg (some (false, 2)) (.agg [.int .i64 a, .int .i64 b]) (.agg [.int .i64 a, .int .i64 b])) = some (.bool false) := by
  have h : eqAgg (some (false, 2)) (.agg [.int .i64 a, .int .i64 b]) (.agg [.int .i64 a, .int .i64 b]) = some true := by
    show cellsEq false [.int .i64 a, .int .i64 b] [.int .i64 a, .int .i64 b] = some true
    have h1 : ∀ n : Int, scalarEq false (.int .i64 n) (.int .i64 n) = some true := fun n => by
      show some (ieq n n) = some true
      rw [ieq_dec]; simp
    simp [cellsEq, h1]
  rw [h]; rfl
theorem pairs9 {H : Hp} {l : List (Int × Int)} {K : AV → Hp → Prop} (hl : l.length ≤ 4611686018427387904) (hk : K (.bool true) H) : Call (.func 9 [] []) [.lst 2 (l.map ePr), .lst 2 (l.map ePr)] H K := by
  refine enterE (N := 26) rfl fn9 rfl rfl rfl rfl rfl fun hwf => ?_
  simp (disch := (refine ofP ?_; first | assumption | decide | omega | (simp only [new_next, set_next] <;> omega) | with_unfolding_all exact ofR rfl | with_unfolding_all exact ofNt rfl)) only [go_sem, List.length_map]
  refine loopE 67106864 (by kernel_rfl) (fun r G H' => H' = H ∧ ∃ i : Nat, i ≤ l.length ∧ r = l.length - i ∧ G.get 5 = some (.int .i64 i)) l.length ⟨rfl, 0, Nat.zero_le _, rfl, rfl⟩ ?_
  rintro r G H' hG ⟨rfl, i, hi, rfl, g5⟩
  by_cases hlt : i < l.length
  · simp (disch := (refine ofP ?_; first | assumption | decide | omega | (simp only [new_next, set_next] <;> omega) | with_unfolding_all exact ofR rfl | with_unfolding_all exact ofNt rfl)) only [go_sem, g5, hG, List.length_map]
    refine drawE (by kernel_rfl) (by kernel_rfl) ?_
    simp (disch := (refine ofP ?_; first | assumption | decide | omega | (simp only [new_next, set_next] <;> omega) | with_unfolding_all exact ofR rfl | with_unfolding_all exact ofNt rfl)) only [go_sem, g5, hG, ia_lst_map, List.length_map, eq_pr, wrap_i64]
    exact ⟨_, by omega, i + 1, hlt, rfl, rfl⟩
  · simp (disch := (refine ofP ?_; first | assumption | decide | omega | (simp only [new_next, set_next] <;> omega) | with_unfolding_all exact ofR rfl | with_unfolding_all exact ofNt rfl)) only [go_sem, g5, hG, List.length_map]
    exact .inl hk
theorem values59 {H : Hp} {bb y : Nat} {xs : List Int} {K : AV → Hp → Prop} (I : Nat → Hp → Prop) (hb : H.m.get bb = some (.cells [.lst 1 (xs.map eI)] 22 true true)) (hlen : xs.length < 4611686018427387904) (h0 : I 0 H)
    (hs : ∀ i (hi : i < xs.length) H', I i H' → Call (.yield y) [eI xs[i]] H' fun v H'' => (v = .bool true ∧ I (i + 1) H'') ∨ (v = .bool false ∧ K (.tuple []) H'')) (hn : ∀ H', I xs.length H' → K (.tuple []) H') :
    Call (.func 59 [] [.ptr bb 0]) [.yield y] H K := by
  refine enterE (N := 16) rfl fn59 rfl rfl rfl rfl rfl fun hwf => ?_
  simp (disch := (refine ofP ?_; first | assumption | decide | omega | (simp only [new_next, set_next] <;> omega) | with_unfolding_all exact ofR rfl | with_unfolding_all exact ofNt rfl)) only [go_sem, kn hb, List.length_map]
  refine loopE 65424 (by kernel_rfl) (fun r G H' => ∃ i : Nat, i ≤ xs.length ∧ r = xs.length - i ∧ G.get 7 = some (.int .i64 i) ∧ I i H') xs.length ⟨0, Nat.zero_le _, rfl, rfl, h0⟩ ?_
  rintro r G H' hG ⟨i, hi, rfl, g7, hI⟩
  by_cases hlt : i < xs.length
  · simp (disch := (refine ofP ?_; first | assumption | decide | omega | (simp only [new_next, set_next] <;> omega) | with_unfolding_all exact ofR rfl | with_unfolding_all exact ofNt rfl)) only [go_sem, g7, hG, ia_lst_map]
    refine (hs i hlt H' hI).mono ?_
    rintro v H'' (⟨rfl, hI'⟩ | ⟨rfl, hk⟩)
    · simp (disch := (refine ofP ?_; first | assumption | decide | omega | (simp only [new_next, set_next] <;> omega) | with_unfolding_all exact ofR rfl | with_unfolding_all exact ofNt rfl)) only [go_sem, g7, hG, wrap_i64]
      exact ⟨_, by omega, i + 1, hlt, rfl, rfl, hI'⟩
    · simp (disch := (refine ofP ?_; first | assumption | decide | omega | (simp only [new_next, set_next] <;> omega) | with_unfolding_all exact ofR rfl | with_unfolding_all exact ofNt rfl)) only [go_sem]
      exact .inl hk
  · simp (disch := (refine ofP ?_; first | assumption | decide | omega | (simp only [new_next, set_next] <;> omega) | with_unfolding_all exact ofR rfl | with_unfolding_all exact ofNt rfl)) only [go_sem, g7, hG]
    obtain rfl : i = xs.length := by omega
    exact .inl (hn H' hI)
theorem values22 {H : Hp} {xs : List Int} {K : AV → Hp → Prop} (hk : K (.func 59 [] [.ptr H.next 0]) (newBlk H (.cells [.lst 1 (xs.map eI)] 22 true true)).2) : Call (.func 22 [] []) [.lst 1 (xs.map eI)] H K := by
  refine enterE (N := 4) rfl fn22 rfl rfl rfl rfl rfl fun hwf => ?_
  simp (disch := (refine ofP ?_; first | assumption | decide | omega | (simp only [new_next, set_next] <;> omega) | with_unfolding_all exact ofR rfl | with_unfolding_all exact ofNt rfl)) only [go_sem]
  exact .inl hk
/-- What is to be written for a snapshot. -/
def backTo (l : List Snp) (i : Nat) (xs : List Int) : Nat → List (Int × Int)
  | 0 => []
  | n + 1 => match holder l i (xs.getD n 0) with | some a => backTo l i xs n ++ [(xs.getD n 0, a)] | none => backTo l i xs n
theorem backTo_some {l : List Snp} {i n : Nat} {xs : List Int} {a : Int} (h : holder l i (xs.getD n 0) = some a) : backTo l i xs (n + 1) = backTo l i xs n ++ [(xs.getD n 0, a)] := by
  conv => lhs; unfold backTo
  rw [h]
theorem backTo_none {l : List Snp} {i n : Nat} {xs : List Int} (h : holder l i (xs.getD n 0) = none) : backTo l i xs (n + 1) = backTo l i xs n := by
  conv => lhs; unfold backTo
  rw [h]
theorem backTo_len (l : List Snp) (i : Nat) (xs : List Int) (n : Nat) : (backTo l i xs n).length ≤ n := by
  induction n with
  | zero => exact Nat.le_refl _
  | succ n ih =>
    cases h : holder l i (xs.getD n 0) with
    | none => rw [backTo_none h]; omega
    | some a => rw [backTo_some h, List.length_append]; exact Nat.succ_le_succ ih
/-- What is held from a snapshot on, and all that changed; or that there is no such one. -/
def backs (s : Ste) (id : Int) : Option (List (Int × Int) × List Int) :=
  if 0 ≤ fidx (fun x : Snp => decide (x.id = id)) s.snaps then
    let i := (fidx (fun x : Snp => decide (x.id = id)) s.snaps).toNat
    let a := allB (changed s.snaps i s.snaps.length)
    some (backTo s.snaps i a a.length, a)
  else none
def eRol : Option (List (Int × Int) × List Int) → AV
  | none => .tuple [.lst 2 [], .lst 1 [], .int .i64 13]
  | some p => .tuple [.lst 2 (p.1.map ePr), .lst 1 (p.2.map eI), .int .i64 0]
def eBack : Option (List (Int × Int) × List Int) → AV
  | none => .agg [.lst 2 [], .lst 1 [], .int .i64 13]
  | some p => .agg [.lst 2 (p.1.map ePr), .lst 1 (p.2.map eI), .int .i64 0]
theorem backs_cases (s : Ste) (id : Int) : (fidx (fun x : Snp => decide (x.id = id)) s.snaps = -1 ∧ backs s id = none) ∨ ∃ i, i < s.snaps.length ∧ fidx (fun x : Snp => decide (x.id = id)) s.snaps = (i : Int) ∧
    backs s id = some (backTo s.snaps i (allB (changed s.snaps i s.snaps.length)) (allB (changed s.snaps i s.snaps.length)).length, allB (changed s.snaps i s.snaps.length)) := by
  unfold backs
  rcases fidx_cases (fun x : Snp => decide (x.id = id)) s.snaps with ⟨h, _⟩ | ⟨i, hi, h, _⟩
  · rw [h]; exact .inl ⟨rfl, rfl⟩
  · rw [h]; exact .inr ⟨i, hi, rfl, rfl⟩
/-- A state of no more than so much. -/
structure Ste.small (s : Ste) : Prop where
  n : s.snaps.length ≤ 100000
  sn : ∀ x ∈ s.snaps, x.ch.length ≤ 100000 ∧ x.tb.length ≤ 100000
theorem Ste.small.all {s : Ste} (h : s.small) (i : Nat) : (changed s.snaps i s.snaps.length).length ≤ 100000 := chTo_len (fun x hx => (h.sn x hx).1) _ (by omega)
end
end Go.Ev

namespace Go.Ev
open Go.Proofs
noncomputable section
set_option maxRecDepth 100000
theorem eSte_cells (s : Ste) : (eSte s).cells = [.lst 1 (s.dirty.map eI), .lst 3 (s.snaps.map eSnap), .int .i64 s.next, .int .i64 s.kind, .int .i64 s.id, .lst 2 (s.pairs.map ePr)] := rfl
/-- roll.Pairs. -/
theorem pairs6 {H : Hp} {s : Ste} {id : Int} {K : AV → Hp → Prop} (hs : s.small) (hk : K (eRol (backs s id)) H) : Call (.func 6 [] []) [eSte s, .int .i64 id] H K := by
  have hn := hs.n
  have hpl : ∀ x ∈ s.snaps, x.tb.length ≤ 100000 := fun x hx => (hs.sn x hx).2
  have hcl : ∀ x ∈ s.snaps, x.ch.length ≤ 100000 := fun x hx => (hs.sn x hx).1
  rw [eSte_def]
  refine enterE (N := 47) rfl fn6 rfl rfl rfl rfl rfl fun hwf => ?_
  simp (disch := (refine ofP ?_; first | assumption | decide | omega | (simp only [new_next, set_next] <;> omega) | with_unfolding_all exact ofR rfl | with_unfolding_all exact ofNt rfl)) only [go_sem]
  refine index19 (by omega) ?_
  rcases backs_cases s id with ⟨h, h2⟩ | ⟨i, hi, h, h2⟩
  · rw [h2] at hk
    simp (disch := (refine ofP ?_; first | assumption | decide | omega | (simp only [new_next, set_next] <;> omega) | with_unfolding_all exact ofR rfl | with_unfolding_all exact ofNt rfl)) only [go_sem, h]
    exact .inr (.inl ⟨by (repeat first | assumption | exact Fr.refl _ | refine Fr.newT ?_ _ | refine Fr.set ?_ (by omega) _), _, FZ.tuple (FZL.cons FZ.nils0 (FZL.cons FZ.nils0 (FZL.cons FZ.int FZL.nil))), hk⟩)
  · rw [h2] at hk
    have hal := hs.all i
    have hA := allB_len (changed s.snaps i s.snaps.length)
    simp (disch := (refine ofP ?_; first | assumption | decide | omega | (simp only [new_next, set_next] <;> omega) | with_unfolding_all exact ofR rfl | with_unfolding_all exact ofNt rfl)) only [go_sem, h, List.length_map]
    refine changed21 hn (by omega) hn hcl ?_
    simp (disch := (refine ofP ?_; first | assumption | decide | omega | (simp only [new_next, set_next] <;> omega) | with_unfolding_all exact ofR rfl | with_unfolding_all exact ofNt rfl)) only [go_sem]
    refine all20 hal ?_
    simp (disch := (refine ofP ?_; first | assumption | decide | omega | (simp only [new_next, set_next] <;> omega) | with_unfolding_all exact ofR rfl | with_unfolding_all exact ofNt rfl)) only [go_sem]
    refine values22 ?_
    simp (disch := (refine ofP ?_; first | assumption | decide | omega | (simp only [new_next, set_next] <;> omega) | with_unfolding_all exact ofR rfl | with_unfolding_all exact ofNt rfl)) only [go_sem]
    generalize hxs : allB (changed s.snaps i s.snaps.length) = xs at hA hk
    generalize hLB : Blk.loop _ _ _ _ _ _ _ _ _ = LB
    refine values59 (xs := xs) (fun k H' => ∃ v, Acc EE H H' 71 2 v ((backTo s.snaps i xs k).map ePr) ∧ H.next + 5 ≤ H'.next ∧
      H'.m.get H.next = some (.cells [.lst 1 (s.dirty.map eI), .lst 3 (s.snaps.map eSnap), .int .i64 s.next, .int .i64 s.kind, .int .i64 s.id, .lst 2 (s.pairs.map ePr)] 28 true true) ∧
      H'.m.get (H.next + 1) = some (.cells [.int .i64 i] 3 true true) ∧ H'.m.get (H.next + 1 + 1) = some (.cells [v] 24 true true) ∧ H'.m.get (H.next + 1 + 1 + 1 + 1) = some LB) ?_ (by omega) ?_ ?_ ?_
    · simp (disch := (refine ofP ?_; first | assumption | decide | omega | (simp only [new_next, set_next] <;> omega) | with_unfolding_all exact ofR rfl | with_unfolding_all exact ofNt rfl)) only [go_sem]
    · refine ⟨.nils, Acc.nil' (by (repeat first | assumption | exact Fr.refl _ | refine Fr.newT ?_ _ | refine Fr.set ?_ (by omega) _)) ty71s (by decide) ty71g, Nat.le_refl _, ?_, ?_, ?_, ?_⟩
      · simp (disch := (refine ofP ?_; first | assumption | decide | omega | (simp only [new_next, set_next] <;> omega) | with_unfolding_all exact ofR rfl | with_unfolding_all exact ofNt rfl)) only [go_sem]
      · simp (disch := (refine ofP ?_; first | assumption | decide | omega | (simp only [new_next, set_next] <;> omega) | with_unfolding_all exact ofR rfl | with_unfolding_all exact ofNt rfl)) only [go_sem]
      · simp (disch := (refine ofP ?_; first | assumption | decide | omega | (simp only [new_next, set_next] <;> omega) | with_unfolding_all exact ofR rfl | with_unfolding_all exact ofNt rfl)) only [go_sem]
      · simp (disch := (refine ofP ?_; first | assumption | decide | omega | (simp only [new_next, set_next] <;> omega) | with_unfolding_all exact ofR rfl | with_unfolding_all exact ofNt rfl)) only [go_sem]
    · rintro k hlt H' ⟨v, ho, hnx, m0, m1, m2, m4⟩
      subst hLB
      refine yieldE m4 ?_
      have hlen : ((backTo s.snaps i xs k).map ePr).length < 1048576 := by rw [List.length_map]; have := backTo_len s.snaps i xs k; omega
      have hO := fun z => ho.other (z := z) m4 rfl (by omega)
      have hA := fun z => (hO z).push hlen
      have hP := fun (z : Blk) (x : Int × Int) => (hO z).push_get hlen (new := (ePr x).cells) rfl rfl
      have hg4 := fun z x (hz : notE 71 z = true) => (hP z x).2 (H.next + 1 + 1 + 1 + 1) z (get_set_q rfl) hz (by show _ < H'.next; omega)
      have hg2 := fun z x => (hP z x).2 (H.next + 1 + 1) _ ((get_set_n (by omega)).trans m2) rfl (show _ < H'.next by omega)
      have hg1 := fun z x => (hP z x).2 (H.next + 1) _ ((get_set_n (by omega)).trans m1) rfl (show _ < H'.next by omega)
      have hg0 := fun z x => (hP z x).2 H.next _ ((get_set_n (by omega)).trans m0) rfl (show _ < H'.next by omega)
      have hnn := fun z x => (hP z x).1
      simp only [cells_ePr] at hg4 hg2 hg1 hg0 hnn
      rw [eI_def]
      simp (disch := (refine ofP ?_; first | assumption | decide | omega | (simp only [new_next, set_next] <;> omega) | with_unfolding_all exact ofR rfl | with_unfolding_all exact ofNt rfl)) only [go_sem, kn m0, kn m1, kn m2, m4]
      refine holder23 hn (by omega) hpl ?_
      have hx : xs.getD k 0 = xs[k] := getD_lt hlt
      cases hh : holder s.snaps i xs[k] with
      | none =>
        rw [show eAt none = .tuple [.int .i64 0, .bool false] from rfl]
        simp (disch := (refine ofP ?_; first | assumption | decide | omega | (simp only [new_next, set_next] <;> omega) | with_unfolding_all exact ofR rfl | with_unfolding_all exact ofNt rfl)) only [go_sem, kn m0, kn m1, kn m2, m4]
        refine .inl ⟨v, ?_, ?_⟩
        · rw [backTo_none (by rw [hx]; exact hh)]
          exact (hO _).other (get_set_q rfl) rfl (by omega)
        · simp (disch := (refine ofP ?_; first | assumption | decide | omega | (simp only [new_next, set_next] <;> omega) | with_unfolding_all exact ofR rfl | with_unfolding_all exact ofNt rfl)) only [go_sem, m0, m1, m2, m4]
          exact hnx
      | some a =>
        rw [show eAt (some a) = .tuple [.int .i64 a, .bool true] from rfl]
        simp (disch := (refine ofP ?_; first | assumption | decide | omega | (simp only [new_next, set_next] <;> omega) | with_unfolding_all exact ofR rfl | with_unfolding_all exact ofNt rfl)) only [go_sem, kn m0, kn m1, kn m2, m4, hA, hg4 _ (xs[k], a), hg2 _ (xs[k], a), hg1 _ (xs[k], a), hg0 _ (xs[k], a), hnn _ (xs[k], a)]
        refine .inl ⟨.slice (H'.next + 1) 0 (((backTo s.snaps i xs k).map ePr).length + 1) (.rest 0 2 (((backTo s.snaps i xs k).map ePr).length + 1)), ?_⟩
        and_intros
        · rw [backTo_some (by rw [hx]; exact hh), List.map_append, hx]
          exact ((Acc.other ((hO _).pushed hlen (ePr (xs[k], a)) rfl rfl rfl) (hg2 _ _) rfl (by omega)).other ((get_set_n (by omega)).trans (hg4 _ _ rfl)) rfl (by omega))
        · omega
        all_goals rfl
    · rintro H' ⟨v, ho, hnx, m0, m1, m2, m4⟩
      subst hLB
      simp (disch := (refine ofP ?_; first | assumption | decide | omega | (simp only [new_next, set_next] <;> omega) | with_unfolding_all exact ofR rfl | with_unfolding_all exact ofNt rfl)) only [go_sem, kn m2, m4]
      have ho' := ho.other (z := .dead) m4 rfl (by omega)
      exact .inr (.inl ⟨ho'.fr, _, FZ.tuple (FZL.cons (ho'.own.fz ho'.hpos hwf rfl rfl ho'.el (FZL.plain (plain_map fun _ => rfl))) (FZL.cons (FZ.lst (FZL.plain (plain_map fun _ => rfl))) (FZL.cons FZ.int FZL.nil))), hk⟩)
end
end Go.Ev

namespace Go.Ev
open Go.Proofs
noncomputable section
set_option maxRecDepth 100000
set_option maxHeartbeats 2000000 in
/-- The document's answer. -/
theorem rpairs8 {H : Hp} {s : Ste} {id : Int} {K : AV → Hp → Prop} (hs : s.small) (hk : K (eBack (backs s id)) H) : Call (.func 8 [] []) [eSte s, .int .i64 id] H K := by
  have hn := hs.n
  have hpl : ∀ x ∈ s.snaps, x.tb.length ≤ 100000 := fun x hx => (hs.sn x hx).2
  have hcl : ∀ x ∈ s.snaps, x.ch.length ≤ 100000 := fun x hx => (hs.sn x hx).1
  rw [eSte_def]
  refine enterE (N := 57) rfl fn8 rfl rfl rfl rfl rfl fun hwf => ?_
  simp (disch := (refine ofP ?_; first | assumption | decide | omega | (simp only [new_next, set_next] <;> omega) | with_unfolding_all exact ofR rfl | with_unfolding_all exact ofNt rfl)) only [go_sem]
  refine index25 (by omega) ?_
  rcases backs_cases s id with ⟨h, h2⟩ | ⟨i, hi, h, h2⟩
  · rw [h2] at hk
    simp (disch := (refine ofP ?_; first | assumption | decide | omega | (simp only [new_next, set_next] <;> omega) | with_unfolding_all exact ofR rfl | with_unfolding_all exact ofNt rfl)) only [go_sem, h]
    exact .inr (.inl ⟨by (repeat first | assumption | exact Fr.refl _ | refine Fr.newT ?_ _ | refine Fr.set ?_ (by omega) _), _, FZ.agg (FZL.cons FZ.nils0 (FZL.cons FZ.nils0 (FZL.cons FZ.int FZL.nil))), hk⟩)
  · rw [h2] at hk
    have hal := hs.all i
    have hA := allB_len (changed s.snaps i s.snaps.length)
    simp (disch := (refine ofP ?_; first | assumption | decide | omega | (simp only [new_next, set_next] <;> omega) | with_unfolding_all exact ofR rfl | with_unfolding_all exact ofNt rfl)) only [go_sem, h, List.length_map]
    refine changed27 hn (by omega) hn hcl ?_
    simp (disch := (refine ofP ?_; first | assumption | decide | omega | (simp only [new_next, set_next] <;> omega) | with_unfolding_all exact ofR rfl | with_unfolding_all exact ofNt rfl)) only [go_sem]
    refine all26 hal ?_
    generalize hxs : allB (changed s.snaps i s.snaps.length) = xs at hA hk
    simp (disch := (refine ofP ?_; first | assumption | decide | omega | (simp only [new_next, set_next] <;> omega) | with_unfolding_all exact ofR rfl | with_unfolding_all exact ofNt rfl)) only [go_sem]
    refine loopE 72057594004373888 (by kernel_rfl) (fun r G H' => ∃ (k : Nat) (v : AV), k ≤ xs.length ∧ r = xs.length - k ∧ G.get 7 = some (.int .i64 k) ∧ Acc EE H H' 71 2 v ((backTo s.snaps i xs k).map ePr) ∧ H.next + 3 ≤ H'.next ∧
      H'.m.get H.next = some (.cells [.lst 1 (s.dirty.map eI), .lst 3 (s.snaps.map eSnap), .int .i64 s.next, .int .i64 s.kind, .int .i64 s.id, .lst 2 (s.pairs.map ePr)] 28 true true) ∧
      H'.m.get (H.next + 1) = some (.cells [.nils, .nils, .int .i64 0] 36 true true) ∧ H'.m.get (H.next + 1 + 1) = some (.cells [v, .lst 1 (xs.map eI), .int .i64 0] 36 true true)) xs.length ?_ ?_
    · refine ⟨0, .nils, Nat.zero_le _, (Nat.sub_zero _).symm, by simp (disch := (refine ofP ?_; first | assumption | decide | omega | (simp only [new_next, set_next] <;> omega) | with_unfolding_all exact ofR rfl | with_unfolding_all exact ofNt rfl)) only [go_sem]; rfl, Acc.nil' (by (repeat first | assumption | exact Fr.refl _ | refine Fr.newT ?_ _ | refine Fr.set ?_ (by omega) _)) ty71s (by decide) ty71g, Nat.le_refl _, ?_, ?_, ?_⟩
      · simp (disch := (refine ofP ?_; first | assumption | decide | omega | (simp only [new_next, set_next] <;> omega) | with_unfolding_all exact ofR rfl | with_unfolding_all exact ofNt rfl)) only [go_sem]
      · simp (disch := (refine ofP ?_; first | assumption | decide | omega | (simp only [new_next, set_next] <;> omega) | with_unfolding_all exact ofR rfl | with_unfolding_all exact ofNt rfl)) only [go_sem]
      · simp (disch := (refine ofP ?_; first | assumption | decide | omega | (simp only [new_next, set_next] <;> omega) | with_unfolding_all exact ofR rfl | with_unfolding_all exact ofNt rfl)) only [go_sem]
    rintro r G H' hG ⟨k, v, hk1, rfl, g7, ho, hnx, m0, m1, m2⟩
    by_cases hlt : k < xs.length
    · have hx : xs.getD k 0 = xs[k] := getD_lt hlt
      have hlen : ((backTo s.snaps i xs k).map ePr).length < 1048576 := by rw [List.length_map]; have := backTo_len s.snaps i xs k; omega
      simp (disch := (refine ofP ?_; first | assumption | decide | omega | (simp only [new_next, set_next] <;> omega) | with_unfolding_all exact ofR rfl | with_unfolding_all exact ofNt rfl)) only [go_sem, g7, hG, kn m2, List.length_map]
      refine drawE (by kernel_rfl) (by kernel_rfl) ?_
      simp (disch := (refine ofP ?_; first | assumption | decide | omega | (simp only [new_next, set_next] <;> omega) | with_unfolding_all exact ofR rfl | with_unfolding_all exact ofNt rfl)) only [go_sem, g7, hG, kn m0, kn m1, kn m2, ia_lst_map, List.length_map]
      refine holder28 hn (by omega) hpl ?_
      have fX : ∀ z, Fr H' (setBlk (newBlk H' (.cells [.int .i64 0, .bool false] 74 true true)).2 H'.next z) := fun z => (Fr.alloc _ _).set (Nat.le_refl _) _
      have gX : ∀ z a, a < H'.next → (setBlk (newBlk H' (.cells [.int .i64 0, .bool false] 74 true true)).2 H'.next z).m.get a = H'.m.get a := fun z a ha => (fX z).get a ha
      cases hh : holder s.snaps i xs[k] with
      | none =>
        rw [show eHeld none = .agg [.int .i64 0, .bool false] from rfl]
        simp (disch := (refine ofP ?_; first | assumption | decide | omega | (simp only [new_next, set_next] <;> omega) | with_unfolding_all exact ofR rfl | with_unfolding_all exact ofNt rfl)) only [go_sem, g7, hG, kn m0, kn m1, kn m2, m0, m1, m2, wrap_i64]
        refine ⟨_, by omega, k + 1, v, hlt, rfl, rfl, ?_⟩
        rw [backTo_none (by rw [hx]; exact hh)]
        refine ⟨ho.keep (fX _), ?_⟩
        and_intros
        all_goals (first | omega | rfl | trace_state)
      | some a =>
        rw [show eHeld (some a) = .agg [.int .i64 a, .bool true] from rfl]
        obtain ⟨X, hX⟩ : ∃ X, X = setBlk (newBlk H' (.cells [.int .i64 0, .bool false] 74 true true)).2 H'.next (.cells [.int .i64 a, .bool true] 74 true true) := ⟨_, rfl⟩
        have hoX : Acc EE H X 71 2 v ((backTo s.snaps i xs k).map ePr) := by rw [hX]; exact ho.keep (fX _)
        have x0 := (gX (.cells [.int .i64 a, .bool true] 74 true true) _ (show H.next < H'.next by omega)).trans m0
        have x1 := (gX (.cells [.int .i64 a, .bool true] 74 true true) _ (show H.next + 1 < H'.next by omega)).trans m1
        have x2 := (gX (.cells [.int .i64 a, .bool true] 74 true true) _ (show H.next + 1 + 1 < H'.next by omega)).trans m2
        have x3 : X.m.get H'.next = some (.cells [.int .i64 a, .bool true] 74 true true) := by rw [hX]; exact get_set_s
        have xn : X.next = H'.next + 1 := by rw [hX]; rfl
        rw [← hX] at x0 x1 x2
        simp (disch := (refine ofP ?_; first | assumption | decide | omega | (simp only [new_next, set_next] <;> omega) | with_unfolding_all exact ofR rfl | with_unfolding_all exact ofNt rfl)) only [go_sem, g7, hG, kn m0, kn m1, kn m2]
        refine drawE (by kernel_rfl) (by kernel_rfl) ?_
        rw [← hX]
        have hpush := hoX.push hlen (ePr (xs[k], a)).cells rfl rfl
        have hpd := hoX.pushed hlen (ePr (xs[k], a)) rfl rfl rfl
        obtain ⟨hpn, hpg⟩ := hoX.push_get hlen (new := (ePr (xs[k], a)).cells) rfl rfl
        simp only [cells_ePr] at hpush hpd hpn hpg
        have p0 := hpg _ _ x0 rfl (by omega)
        have p1 := hpg _ _ x1 rfl (by omega)
        have p2 := hpg _ _ x2 rfl (by omega)
        simp (disch := (refine ofP ?_; first | assumption | decide | omega | (simp only [new_next, set_next] <;> omega) | with_unfolding_all exact ofR rfl | with_unfolding_all exact ofNt rfl)) only [go_sem, g7, hG, kn x0, kn x1, kn x2, kn x3, ia_lst_map, hpush, kn p0, kn p1, kn p2, p2, wrap_i64]
        refine ⟨_, by omega, k + 1, _, hlt, rfl, rfl, ?_, ?_, rfl⟩
        · rw [backTo_some (by rw [hx]; exact hh), List.map_append, hx]
          exact hpd.other p2 rfl (by omega)
        · rw [hpn]; omega
    · simp (disch := (refine ofP ?_; first | assumption | decide | omega | (simp only [new_next, set_next] <;> omega) | with_unfolding_all exact ofR rfl | with_unfolding_all exact ofNt rfl)) only [go_sem, g7, hG, kn m0, kn m1, kn m2, m1, List.length_map, ho.own.one]
      obtain rfl : k = xs.length := by omega
      have ho' := ho.other (c := H.next + 1) (z := .cells [v, .lst 1 (xs.map eI), .int .i64 0] 36 true true) m1 rfl (by omega)
      exact .inr (.inl ⟨ho'.fr, _, FZ.agg (FZL.cons (ho'.own.fz ho'.hpos hwf rfl rfl ho'.el (FZL.plain (plain_map fun _ => rfl))) (FZL.cons (FZ.lst (FZL.plain (plain_map fun _ => rfl))) (FZL.cons FZ.int FZL.nil))), hk⟩)
end
end Go.Ev

namespace Go.Ev
open Go.Proofs
noncomputable section
set_option maxRecDepth 100000
theorem fn4 : E1.fn 4 = some Tryz.f4 := by kernel_rfl
theorem fn3 : E1.fn 3 = some Tryz.f3 := by kernel_rfl
theorem fair4 {H : Hp} {s : Ste} {K : AV → Hp → Prop} (hl : (s.snaps.length : Int) < 9223372036854775808) (hf : K (.bool false) H)
    (ht : (∀ x ∈ s.snaps, x.ch.length ≤ 40 ∧ x.tb.length ≤ 80) → s.snaps.length ≤ 12 → s.dirty.length ≤ 80 → s.pairs.length ≤ 80 → K (.bool true) H) : Call (.func 4 [] []) [eSte s] H K := by
  rw [eSte_def]
  refine enterE (N := 46) rfl fn4 rfl rfl rfl rfl rfl fun hwf => ?_
  simp (disch := (refine ofP ?_; first | assumption | decide | omega | (simp only [new_next, set_next] <;> omega) | with_unfolding_all exact ofR rfl | with_unfolding_all exact ofNt rfl)) only [go_sem]
  refine loopE 536870908 (by kernel_rfl) (fun r G H' => H' = (newBlk H (.cells [.lst 1 (s.dirty.map eI), .lst 3 (s.snaps.map eSnap), .int .i64 s.next, .int .i64 s.kind, .int .i64 s.id, .lst 2 (s.pairs.map ePr)] 28 true true)).2 ∧
    ∃ i : Nat, i ≤ s.snaps.length ∧ r = s.snaps.length - i ∧ G.get 3 = some (.int .i64 i) ∧ ∀ j (hj : j < s.snaps.length), j < i → s.snaps[j].ch.length ≤ 40 ∧ s.snaps[j].tb.length ≤ 80) s.snaps.length ⟨rfl, 0, Nat.zero_le _, rfl, rfl, fun j _ h => absurd h (by omega)⟩ ?_
  rintro r G H' hG ⟨rfl, i, hi, rfl, g3, hno⟩
  by_cases hlt : i < s.snaps.length
  · by_cases h1 : (40 : Int) < s.snaps[i].ch.length
    · simp (disch := (refine ofP ?_; first | assumption | decide | omega | (simp only [new_next, set_next] <;> omega) | with_unfolding_all exact ofR rfl | with_unfolding_all exact ofNt rfl)) only [go_sem, g3, hG, List.length_map, ia_lst_map, h1]
      exact .inr (.inl ⟨by (repeat first | assumption | exact Fr.refl _ | refine Fr.newT ?_ _ | refine Fr.set ?_ (by omega) _), _, FZ.scal rfl, hf⟩)
    · by_cases h2 : (80 : Int) < s.snaps[i].tb.length
      · simp (disch := (refine ofP ?_; first | assumption | decide | omega | (simp only [new_next, set_next] <;> omega) | with_unfolding_all exact ofR rfl | with_unfolding_all exact ofNt rfl)) only [go_sem, g3, hG, List.length_map, ia_lst_map, h1, h2]
        exact .inr (.inl ⟨by (repeat first | assumption | exact Fr.refl _ | refine Fr.newT ?_ _ | refine Fr.set ?_ (by omega) _), _, FZ.scal rfl, hf⟩)
      · simp (disch := (refine ofP ?_; first | assumption | decide | omega | (simp only [new_next, set_next] <;> omega) | with_unfolding_all exact ofR rfl | with_unfolding_all exact ofNt rfl)) only [go_sem, g3, hG, List.length_map, ia_lst_map, h1, h2, wrap_i64]
        refine ⟨_, by omega, i + 1, hlt, rfl, rfl, fun j hj h => ?_⟩
        by_cases hji : j = i
        · subst hji; omega
        · exact hno j hj (by omega)
  · have ht' := ht fun x hx => by
      obtain ⟨j, hj, rfl⟩ := List.getElem_of_mem hx
      exact hno j hj (by omega)
    by_cases h1 : (s.snaps.length : Int) ≤ 12
    · by_cases h2 : (s.dirty.length : Int) ≤ 80
      · by_cases h3 : (s.pairs.length : Int) ≤ 80
        · simp (disch := (refine ofP ?_; first | assumption | decide | omega | (simp only [new_next, set_next] <;> omega) | with_unfolding_all exact ofR rfl | with_unfolding_all exact ofNt rfl)) only [go_sem, g3, hG, List.length_map, h1, h2, h3]
          exact .inr (.inl ⟨by (repeat first | assumption | exact Fr.refl _ | refine Fr.newT ?_ _ | refine Fr.set ?_ (by omega) _), _, FZ.scal rfl, ht' (by omega) (by omega) (by omega)⟩)
        · simp (disch := (refine ofP ?_; first | assumption | decide | omega | (simp only [new_next, set_next] <;> omega) | with_unfolding_all exact ofR rfl | with_unfolding_all exact ofNt rfl)) only [go_sem, g3, hG, List.length_map, h1, h2, h3]
          exact .inr (.inl ⟨by (repeat first | assumption | exact Fr.refl _ | refine Fr.newT ?_ _ | refine Fr.set ?_ (by omega) _), _, FZ.scal rfl, hf⟩)
      · simp (disch := (refine ofP ?_; first | assumption | decide | omega | (simp only [new_next, set_next] <;> omega) | with_unfolding_all exact ofR rfl | with_unfolding_all exact ofNt rfl)) only [go_sem, g3, hG, List.length_map, h1, h2]
        exact .inr (.inl ⟨by (repeat first | assumption | exact Fr.refl _ | refine Fr.newT ?_ _ | refine Fr.set ?_ (by omega) _), _, FZ.scal rfl, hf⟩)
    · simp (disch := (refine ofP ?_; first | assumption | decide | omega | (simp only [new_next, set_next] <;> omega) | with_unfolding_all exact ofR rfl | with_unfolding_all exact ofNt rfl)) only [go_sem, g3, hG, List.length_map, h1]
      exact .inr (.inl ⟨by (repeat first | assumption | exact Fr.refl _ | refine Fr.newT ?_ _ | refine Fr.set ?_ (by omega) _), _, FZ.scal rfl, hf⟩)
theorem fold_sz {l : List Snp} {id : Int} {s : Ste} (h : s.small) (p : List (Int × Int) × List Int) (hp : backs s id = some p) : p.1.length ≤ 800000 ∧ p.2.length ≤ 800000 := by
  rcases backs_cases s id with ⟨_, h2⟩ | ⟨i, hi, _, h2⟩
  · rw [h2] at hp; cases hp
  · rw [h2] at hp
    cases hp
    have h1 := h.all i
    have h2 := allB_len (changed s.snaps i s.snaps.length)
    have h3 := backTo_len s.snaps i (allB (changed s.snaps i s.snaps.length)) (allB (changed s.snaps i s.snaps.length)).length
    exact ⟨by simp only; omega, by simp only; omega⟩
theorem law3 {s : Ste} {id : Int} (hl : (s.snaps.length : Int) < 9223372036854775808) : Call (.func 3 [] []) [eSte s, .int .i64 id] noHp fun v _ => v = .bool true := by
  have ec := eSte_cells s
  rw [eSte_def]
  refine enterE (N := 43) rfl fn3 rfl rfl rfl rfl rfl fun hwf => ?_
  simp (disch := (refine ofP ?_; first | assumption | decide | omega | (simp only [new_next, set_next] <;> omega) | with_unfolding_all exact ofR rfl | with_unfolding_all exact ofNt rfl)) only [go_sem]
  rw [← eSte_def]
  refine fair4 hl ?_ fun hsn hn hd hp => ?_
  · simp (disch := (refine ofP ?_; first | assumption | decide | omega | (simp only [new_next, set_next] <;> omega) | with_unfolding_all exact ofR rfl | with_unfolding_all exact ofNt rfl)) only [go_sem]
    refine wcall2_true rfl ?_
    simp (disch := (refine ofP ?_; first | assumption | decide | omega | (simp only [new_next, set_next] <;> omega) | with_unfolding_all exact ofR rfl | with_unfolding_all exact ofNt rfl)) only [go_sem]
    exact .inl rfl
  have hfair : s.fair := ⟨by omega, by omega, fun x hx => by have := hsn x hx; omega, by omega⟩
  have hsm : s.small := ⟨hfair.n, hfair.sn⟩
  simp (disch := (refine ofP ?_; first | assumption | decide | omega | (simp only [new_next, set_next] <;> omega) | with_unfolding_all exact ofR rfl | with_unfolding_all exact ofNt rfl)) only [go_sem]
  rw [← eSte_def]
  refine state7 hfair ?_
  simp (disch := (refine ofP ?_; first | assumption | decide | omega | (simp only [new_next, set_next] <;> omega) | with_unfolding_all exact ofR rfl | with_unfolding_all exact ofNt rfl)) only [go_sem]
  refine pairs6 hsm ?_
  cases hb : backs s id with
  | none =>
    rw [show eRol none = .tuple [.lst 2 [], .lst 1 [], .int .i64 13] from rfl]
    simp (disch := (refine ofP ?_; first | assumption | decide | omega | (simp only [new_next, set_next] <;> omega) | with_unfolding_all exact ofR rfl | with_unfolding_all exact ofNt rfl)) only [go_sem]
    rw [← eSte_def]
    refine rpairs8 hsm ?_
    rw [hb, show eBack none = .agg [.lst 2 [], .lst 1 [], .int .i64 13] from rfl]
    simp (disch := (refine ofP ?_; first | assumption | decide | omega | (simp only [new_next, set_next] <;> omega) | with_unfolding_all exact ofR rfl | with_unfolding_all exact ofNt rfl)) only [go_sem]
    refine pairs9 (l := []) (by simp) ?_
    simp (disch := (refine ofP ?_; first | assumption | decide | omega | (simp only [new_next, set_next] <;> omega) | with_unfolding_all exact ofR rfl | with_unfolding_all exact ofNt rfl)) only [go_sem]
    refine ints10 (l := []) (by simp) ?_
    simp (disch := (refine ofP ?_; first | assumption | decide | omega | (simp only [new_next, set_next] <;> omega) | with_unfolding_all exact ofR rfl | with_unfolding_all exact ofNt rfl)) only [go_sem]
    refine wcall2_true rfl ?_
    simp (disch := (refine ofP ?_; first | assumption | decide | omega | (simp only [new_next, set_next] <;> omega) | with_unfolding_all exact ofR rfl | with_unfolding_all exact ofNt rfl)) only [go_sem]
    exact .inl rfl
  | some p =>
    obtain ⟨h1, h2⟩ := fold_sz (l := []) hsm p hb
    rw [show eRol (some p) = .tuple [.lst 2 (p.1.map ePr), .lst 1 (p.2.map eI), .int .i64 0] from rfl]
    simp (disch := (refine ofP ?_; first | assumption | decide | omega | (simp only [new_next, set_next] <;> omega) | with_unfolding_all exact ofR rfl | with_unfolding_all exact ofNt rfl)) only [go_sem]
    rw [← eSte_def]
    refine rpairs8 hsm ?_
    rw [hb, show eBack (some p) = .agg [.lst 2 (p.1.map ePr), .lst 1 (p.2.map eI), .int .i64 0] from rfl]
    simp (disch := (refine ofP ?_; first | assumption | decide | omega | (simp only [new_next, set_next] <;> omega) | with_unfolding_all exact ofR rfl | with_unfolding_all exact ofNt rfl)) only [go_sem]
    refine pairs9 (by omega) ?_
    simp (disch := (refine ofP ?_; first | assumption | decide | omega | (simp only [new_next, set_next] <;> omega) | with_unfolding_all exact ofR rfl | with_unfolding_all exact ofNt rfl)) only [go_sem]
    refine ints10 (by omega) ?_
    simp (disch := (refine ofP ?_; first | assumption | decide | omega | (simp only [new_next, set_next] <;> omega) | with_unfolding_all exact ofR rfl | with_unfolding_all exact ofNt rfl)) only [go_sem]
    refine wcall2_true rfl ?_
    simp (disch := (refine ofP ?_; first | assumption | decide | omega | (simp only [new_next, set_next] <;> omega) | with_unfolding_all exact ofR rfl | with_unfolding_all exact ofNt rfl)) only [go_sem]
    exact .inl rfl
end
end Go.Ev
