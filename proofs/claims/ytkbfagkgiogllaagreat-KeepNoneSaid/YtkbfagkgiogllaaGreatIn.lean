/-
  slices.Insert on a row of pairs, whatever its capacity: its contract, proved of the model. No conditions.
-/
import Derived.Test.YtkbfagkgiogllaaGreatInTy
set_option linter.unusedVariables false
set_option linter.unusedSimpArgs false
namespace Go.Ev.In
open Go.Proofs
noncomputable section
set_option maxRecDepth 100000
theorem fn109 : EE.fn 109 = some Tryz.f109 := by kernel_rfl
theorem csum {f : FuncId} {g : List AV → Hp → Option (AV × Hp)} (hs : EE.sum f = some g) {xs : List AV} {H H' : Hp} {v : AV} (hg : g xs H = some (v, H')) {K : AV → Hp → Prop} (h : K v H') : callJ EE (.func f [] []) xs H K := wcall_sum hs hg h
theorem k78 : kindOf EE 78 = .slice 150 := by kernel_rfl
theorem s150 : sizeT EE 150 = 2 := by kernel_rfl
theorem ins_room {H : Hp} {b b2 o2 n c i : Nat} {k2 : Cap} {a z j2 junk lv : List AV} {xv : Bool} {p1 p2 : AV} (hb : H.m.get b = some (.cells (a ++ (z ++ (j2 ++ junk))) 150 true true)) (ha : a.length = i * 2) (hz : z.length = (n - i) * 2) (hj : j2.length = 2) (hi : i < n) (hroom : n + 1 ≤ c) (hc : n < 1048576)
    (hfz : flatL z = true) (hfp : flatL [p1, p2] = true) (hb2 : H.m.get b2 = some (.cells lv 150 xv true)) (hlv : 0 < lv.length) (hp : cellsAt H b2 o2 2 = some [p1, p2]) (hbb : b2 ≠ b) {K : AV → Hp → Prop}
    (hk : ∀ H', H'.m.get b = some (.cells (a ++ ([p1, p2] ++ (z ++ junk))) 150 true true) → (∀ x, x ≠ b → H'.m.get x = H.m.get x) → H'.next = H.next → K (.slice b 0 (n + 1) (.ex c)) H') :
    WCall EE (.func 109 [] []) [.slice b 0 n (.ex c), .int .i64 i, .slice b2 o2 1 k2] H K := by
  have s1 := sl_ex_lo (E := EE) (e := 150) (b := b) (o := 0) (k := .i64) s150 hi (show n ≤ c by omega)
  have s2 : evSlice (.slice 150) EE (.slice b 0 n (.ex c)) none (some (.int .i64 ((n : Int) + 1))) none = some (.slice b 0 (n + 1) (.ex c)) := sl_ex_hi (E := EE) (e := 150) (m := n + 1) s150 hroom (by omega)
  have s3 : evSlice (.slice 150) EE (.slice b 0 (n + 1) (.ex c)) (some (.int .i64 ((i : Int) + 1))) none none = some (.slice b (0 + (i + 1) * 2) (n + 1 - (i + 1)) (.ex (c - (i + 1)))) := sl_ex_lo (E := EE) (e := 150) (i := i + 1) s150 (by omega) hroom
  have s4 := sl_ex_lo (E := EE) (e := 150) (b := b) (o := 0) (n := n + 1) (k := .i64) s150 (show i < n + 1 by omega) hroom
  obtain ⟨w2, rest, hw, hw2⟩ : ∃ w2 rest, z ++ j2 = w2 ++ rest ∧ w2.length = 2 := ⟨(z ++ j2).take 2, (z ++ j2).drop 2, (List.take_append_drop _ _).symm, by rw [List.length_take, List.length_append]; omega⟩
  have hr : rest.length = (n - i) * 2 := by
    have := congrArg List.length hw
    rw [List.length_append, List.length_append] at this; omega
  have hb' : H.m.get b = some (.cells ((a ++ w2) ++ (rest ++ junk)) 150 true true) := by
    rw [hb, show a ++ (z ++ (j2 ++ junk)) = a ++ ((z ++ j2) ++ junk) by simp, hw]; simp
  have c1 := copy_mid (E := EE) (H := H) (t := 78) (t2 := 78) (b := b) (o := (i + 1) * 2) (n := n + 1 - (i + 1)) (b2 := b) (o2 := i * 2) (m := n + 1 - i) (k1 := .ex (c - (i + 1))) (k2 := .ex (c - i)) k78 s150
    (cells_mid (u := a) (y := z ++ j2) (z := junk) (e := 150) (x := true) (by rw [hb]; simp) (by omega) (by rw [List.length_append]; omega)) (by omega) (by
      rw [show min (n + 1 - i) (n + 1 - (i + 1)) * 2 = z.length by rw [hz]; omega, List.take_left]
      exact put_mid hb' (by rw [List.length_append]; omega) (by omega) hfz)
  have hb3 : (setBlk H b (.cells ((a ++ w2) ++ (z ++ junk)) 150 true true)).m.get b = some (.cells (a ++ (w2 ++ (z ++ junk))) 150 true true) := by
    rw [get_set_s]; simp
  have hp' : cellsAt (setBlk H b (.cells ((a ++ w2) ++ (z ++ junk)) 150 true true)) b2 o2 (1 * 2) = some [p1, p2] := by
    rw [cellsAt_get (get_set_n hbb)]; exact hp
  have c2 := copy_mid (E := EE) (H := setBlk H b (.cells ((a ++ w2) ++ (z ++ junk)) 150 true true)) (t := 78) (t2 := 78) (b := b) (o := i * 2) (n := n + 1 - i) (b2 := b2) (o2 := o2) (m := 1) (k1 := .ex (c - i)) (k2 := k2) k78 s150 hp' (by omega) (by
      rw [show min 1 (n + 1 - i) * 2 = [p1, p2].length by simp; omega, List.take_length]
      exact put_mid hb3 (by omega) (by simp; omega) hfp)
  have ov : ovG (envV Tryz.prog wk) [.slice b2 o2 1 k2, .slice b ((i + 1) * 2) (n + 1 - (i + 1)) (.ex (c - (i + 1)))] H = some (.bool false, H) := by
    show bc (Nat.beq b2 b) none ((H.m.get b2).obind _) = _
    have e0 : Nat.beq b2 b = false := by
      cases h : Nat.beq b2 b with
      | true => exact absurd (Nat.eq_of_beq_eq_true h) hbb
      | false => rfl
    rw [e0, hb2, hb]
    show bc (true && (true && (Nat.blt 0 (lenL (a ++ (z ++ (j2 ++ junk)))) && bc (isByteK (kindOf (envV Tryz.prog wk) 150)) false true))) (some (AV.bool false, H)) none = _
    have e1 : Nat.blt 0 (lenL (a ++ (z ++ (j2 ++ junk)))) = true := by
      rw [lenL_eq]; exact (blt_iff _ _).2 (by simp; omega)
    have e2 : isByteK (kindOf (envV Tryz.prog wk) 150) = false := by kernel_rfl
    rw [e1, e2]; rfl
  have cp : capAV (.slice 150) (.slice b 0 n (.ex c)) = some (.int .i64 (c : Int)) := rfl
  have o1 : ((1 : Nat) : Int) = 1 := rfl
  refine enterS (fun _ => rfl) rfl (N := 95) rfl fn109 rfl rfl rfl rfl rfl ?_
  change wpC EE _ _ _ _ _ (KR EE _ _)
  simp (disch := (refine ofP ?_; first | assumption | decide | omega | (simp only [new_next, set_next] <;> omega) | with_unfolding_all exact ofR rfl | with_unfolding_all exact ofNt rfl)) only [go_sem, tyE, s1, s2, s3, s4, wrap_i64, cp, o1]
  refine csum rfl ov ?_
  simp (disch := (refine ofP ?_; first | assumption | decide | omega | (simp only [new_next, set_next] <;> omega) | with_unfolding_all exact ofR rfl | with_unfolding_all exact ofNt rfl)) only [go_sem, tyE, s1, s2, s3, s4, wrap_i64, cp, o1, c1, c2]
  refine wpDraw_of (E := EE) (jmono_1 rfl) (by kernel_rfl) ?_
  simp (disch := (refine ofP ?_; first | assumption | decide | omega | (simp only [new_next, set_next] <;> omega) | with_unfolding_all exact ofR rfl | with_unfolding_all exact ofNt rfl)) only [go_sem, tyE, s1, s2, s3, s4, wrap_i64, cp, o1, c1, c2]
  exact hk _ get_set_s (fun x hx => by rw [get_set_n hx, get_set_n hx]) rfl
theorem ins_grow {H : Hp} {b b2 o2 n i : Nat} {k2 : Cap} {a z : List AV} {p1 p2 : AV} (hb : H.m.get b = some (.cells (a ++ z) 150 true true)) (hbn : b < H.next) (hb2n : b2 < H.next) (ha : a.length = i * 2) (hz : z.length = (n - i) * 2) (hi : i < n) (hc : n < 1048576)
    (hfz : flatL z = true) (hfp : flatL [p1, p2] = true) (hp : cellsAt H b2 o2 2 = some [p1, p2]) {K : AV → Hp → Prop}
    (hk : ∀ H', H'.m.get H.next = some (.cells (a ++ ([p1, p2] ++ z)) 150 false true) → (∀ x, x ≠ H.next → H'.m.get x = H.m.get x) → H'.next = H.next + 1 → K (.slice H.next 0 (n + 1) (.rest 0 2 (n + 1))) H') :
    WCall EE (.func 109 [] []) [.slice b 0 n (.ex n), .int .i64 i, .slice b2 o2 1 k2] H K := by
  have s1 := sl_ex_lo (E := EE) (e := 150) (b := b) (o := 0) (k := .i64) s150 hi (Nat.le_refl n)
  have s2 : evSlice (.slice 150) EE (.slice b 0 n (.ex n)) none (some (.int .i64 (i : Int))) none = some (.slice b 0 i (.ex n)) := sl_ex_hi (E := EE) (e := 150) (m := i) s150 (by omega) (by omega)
  have s3 := sl_rest_lo (E := EE) (e := 150) (b := H.next) (o := 0) (n := n + 1) (i := i) (eo := 0) (lb := n + 1) (k := .i64) s150 (by omega) (Nat.le_refl _)
  have s4 : evSlice (.slice 150) EE (.slice H.next 0 (n + 1) (.rest 0 2 (n + 1))) (some (.int .i64 ((i : Int) + 1))) none none = some (.slice H.next (0 + (i + 1) * 2) (n + 1 - (i + 1)) (.rest (0 + (i + 1)) 2 (n + 1 - (i + 1)))) := sl_rest_lo (E := EE) (e := 150) (b := H.next) (o := 0) (n := n + 1) (i := i + 1) (eo := 0) (lb := n + 1) (k := .i64) s150 (by omega) (Nat.le_refl _)
  have cp : capAV (.slice 150) (.slice b 0 n (.ex n)) = some (.int .i64 (n : Int)) := rfl
  have o1 : ((1 : Nat) : Int) = 1 := rfl
  obtain ⟨zr, hzr⟩ : ∃ zr, zr = repL (n + 1 - i) ([.int .i64 0, .int .i64 0] : List AV) := ⟨_, rfl⟩
  have hzl : zr.length = (n + 1 - i) * 2 := by rw [hzr, repL_eq, length_rep]; rfl
  have z150 : zeroT EE 150 = some (.agg [.int .i64 0, .int .i64 0]) := by kernel_rfl
  have ap : bltEff .append EE H [.slice b 0 i (.ex n), .int .i64 ((n : Int) + 1 - i)] [78, 3] = some (.slice H.next 0 (n + 1) (.rest 0 2 (n + 1)), (newBlk H (.cells (a ++ zr) 150 false true)).2) := by
    have e0 : ((n : Int) + 1 - i) = ((n + 1 - i : Nat) : Int) := by omega
    rw [e0, appArgs_int0 k78 (by kernel_rfl : kindOf EE 3 = .int .i64) z150 (by omega) (by kernel_rfl)]
    have h1 : evAppend EE H 150 (.slice b 0 i (.ex n)) (n + 1 - i) (repL (n + 1 - i) (AV.agg [.int .i64 0, .int .i64 0]).cells) = appCap (.ex n) EE H 150 b 0 i (n + 1 - i) zr := by
      have h0 : Nat.beq (n + 1 - i) 0 = false := by
        cases h : Nat.beq (n + 1 - i) 0 with
        | true => have := Nat.eq_of_beq_eq_true h; omega
        | false => rfl
      unfold evAppend
      rw [h0, hzr]; rfl
    rw [h1]
    show bc (Nat.ble (i + (n + 1 - i)) n) _ ((cellsAt H b 0 (i * sizeT EE 150)).obind fun old => growTo EE H 150 (i + (n + 1 - i)) (appL old zr)) = _
    have h2 : Nat.ble (i + (n + 1 - i)) n = false := by
      cases h : Nat.ble (i + (n + 1 - i)) n with
      | true => have := ble_iff.1 h; omega
      | false => rfl
    have h3 : cellsAt H b 0 (i * 2) = some a := cells_mid (u := []) (y := a) (z := z) hb rfl ha.symm
    have h4 : i + (n + 1 - i) = n + 1 := by omega
    rw [h2, s150, h3, h4]
    show growTo EE H 150 (n + 1) (appL a zr) = _
    rw [appL_eq]
    unfold growTo
    rw [growOk_grows (by kernel_rfl : grows EE 150 = true) (by omega), s150]; rfl
  obtain ⟨zz, zrest, hz1, hz2⟩ : ∃ zz zrest, zr = zz ++ zrest ∧ zz.length = 2 := ⟨zr.take 2, zr.drop 2, (List.take_append_drop _ _).symm, by rw [List.length_take]; omega⟩
  have hzr2 : zrest.length = (n - i) * 2 := by
    have := congrArg List.length hz1
    rw [List.length_append] at this; omega
  have hnb : (newBlk H (.cells (a ++ zr) 150 false true)).2.m.get H.next = some (.cells (a ++ (zz ++ zrest)) 150 false true) := by rw [get_new_s, hz1]
  have hb2' : cellsAt (newBlk H (.cells (a ++ zr) 150 false true)).2 b2 o2 (1 * 2) = some [p1, p2] := by
    rw [cellsAt_get (get_new_n (by omega))]; exact hp
  have c1 := copy_mid (E := EE) (H := (newBlk H (.cells (a ++ zr) 150 false true)).2) (t := 78) (t2 := 78) (b := H.next) (o := i * 2) (n := n + 1 - i) (b2 := b2) (o2 := o2) (m := 1) (k1 := .rest i 2 (n + 1 - i)) (k2 := k2) k78 s150 hb2' (by omega) (by
      rw [show min 1 (n + 1 - i) * 2 = [p1, p2].length by simp; omega, List.take_length]
      exact put_mid hnb (by omega) (by simp; omega) hfp)
  obtain ⟨H1, hH1⟩ : ∃ H1, H1 = setBlk (newBlk H (.cells (a ++ zr) 150 false true)).2 H.next (.cells (a ++ ([p1, p2] ++ zrest)) 150 false true) := ⟨_, rfl⟩
  rw [← hH1] at c1
  have g1 : H1.m.get H.next = some (.cells ((a ++ [p1, p2]) ++ (zrest ++ [])) 150 false true) := by rw [hH1, get_set_s]; simp
  have g2 : ∀ x, x ≠ H.next → H1.m.get x = H.m.get x := fun x hx => by rw [hH1, get_set_n hx, get_new_n hx]
  have c2 := copy_mid (E := EE) (H := H1) (t := 78) (t2 := 78) (b := H.next) (o := (i + 1) * 2) (n := n + 1 - (i + 1)) (b2 := b) (o2 := i * 2) (m := n - i) (k1 := .rest (i + 1) 2 (n + 1 - (i + 1))) (k2 := .ex (n - i)) k78 s150
    (cells_mid (u := a) (y := z) (z := []) (e := 150) (x := true) (by rw [g2 b (by omega), hb]; simp) ha.symm hz.symm) (by omega) (by
      rw [show min (n - i) (n + 1 - (i + 1)) * 2 = z.length by rw [hz]; omega, List.take_length]
      exact put_mid g1 (by simp; omega) (by omega) hfz)
  refine enterS (fun _ => rfl) rfl (N := 95) rfl fn109 rfl rfl rfl rfl rfl ?_
  change wpC EE _ _ _ _ _ (KR EE _ _)
  simp (disch := (refine ofP ?_; first | assumption | decide | omega | (simp only [new_next, set_next] <;> omega) | with_unfolding_all exact ofR rfl | with_unfolding_all exact ofNt rfl)) only [go_sem, tyE, s1, s2, s3, s4, wrap_i64, cp, o1, ap, c1]
  refine wpDraw_of (E := EE) (jmono_1 rfl) (by kernel_rfl) ?_
  simp (disch := (refine ofP ?_; first | assumption | decide | omega | (simp only [new_next, set_next] <;> omega) | with_unfolding_all exact ofR rfl | with_unfolding_all exact ofNt rfl)) only [go_sem, tyE, s1, s2, s3, s4, wrap_i64, cp, o1, ap, c2]
  refine hk _ ?_ (fun x hx => by rw [get_set_n hx, g2 x hx]) (by subst hH1; rfl)
  rw [get_set_s]; simp
end
end Go.Ev.In
namespace Go.Ev.In
open Go.Proofs
noncomputable section
set_option maxRecDepth 100000
def flatVL (l : List AV) : Bool := List.rec true (fun x _ ih => bc (flatV x && oneC x) ih false) l
theorem flatL_cat : ∀ (l m : List AV), flatL (l ++ m) = (flatL l && flatL m)
  | [], m => rfl
  | x :: l, m => by
    show bc (oneC x) (flatL (l ++ m)) false = (bc (oneC x) (flatL l) false && flatL m)
    rw [flatL_cat l m]
    cases oneC x <;> rfl
theorem flatVL_c : ∀ {l : List AV}, flatVL l = true → flatC l ∧ flatL l = true
  | [], _ => ⟨(fun v h => by cases h), rfl⟩
  | x :: l, h => by
    have h : bc (flatV x && oneC x) (flatVL l) false = true := h
    cases hb : (flatV x && oneC x) with
    | false => rw [hb] at h; cases h
    | true =>
      rw [hb] at h
      rw [Bool.and_eq_true] at hb
      obtain ⟨h1, h2⟩ := flatVL_c h
      refine ⟨fun v hv => ?_, ?_⟩
      · rcases List.mem_cons.1 hv with rfl | hv
        · exact hb.1
        · exact h1 v hv
      · show bc (oneC x) (flatL l) false = true
        rw [hb.2]; exact h2
def isRest (k : Cap) : Bool := match k with | .rest e s _ => Nat.beq e 0 && Nat.beq s 2 | _ => false
def rowAt (H : Hp) (b n : Nat) : Option (List AV) := (H.m.get b).obind fun x => (ownRow x).obind fun r => bc (Nat.beq r.2 150 && (Nat.beq (lenL r.1) (Nat.mul n 2) && flatVL r.1)) (some r.1) none
def ownAt (H : Hp) (b : Nat) : Bool := oe (H.m.get b) false fun x => oe (asCells x) false fun c => c.2.2.2 && (Nat.beq c.2.1 150 && Nat.blt 0 (lenL c.1))
/-- One pair more in the midst of a row of pairs. -/
def insG (xs : List AV) (H : Hp) : Option (AV × Hp) := match xs with
  | [x, y, z] => (asSlice x).obind fun q => (i64Of y 1048576).obind fun i => (asSlice z).obind fun r =>
      bc (isRest q.2.2.2 && (Nat.beq q.2.1 0 && (Nat.blt i q.2.2.1 && (Nat.blt q.2.2.1 1048576 && (bc (Nat.beq q.1 r.1) false true && (Nat.beq r.2.2.1 1 && ownAt H r.1))))))
        ((rowAt H q.1 q.2.2.1).obind fun l => (cellsAt H r.1 r.2.1 2).obind fun p => bc (flatVL p)
          (some (.slice H.next 0 (q.2.2.1 + 1) (.rest 0 2 (q.2.2.1 + 1)), setBlk (newBlk H (.cells (appL (takeL (Nat.mul i 2) l) (appL p (dropL (Nat.mul i 2) l))) 150 false true)).2 q.1 .dead)) none) none
  | _ => none
theorem ins_res (hE : EnvOk EE Tryz.prog) {xs : List AV} {H H' : Hp} {v : AV} (h : insG xs H = some (v, H')) : FnRes Tryz.prog EE 109 xs H v H' := by
  unfold insG at h
  split at h
  case h_2 => cases h
  rename_i x y z
  obtain ⟨q, hq, h1⟩ := obind_some h
  obtain ⟨i, hi, h2⟩ := obind_some h1
  obtain ⟨r, hr, h3⟩ := obind_some h2
  obtain ⟨hc, h4⟩ := bc_some h3
  obtain ⟨l, hl, h5⟩ := obind_some h4
  obtain ⟨p, hp, h6⟩ := obind_some h5
  obtain ⟨hfp, h7⟩ := bc_some h6
  clear h h1 h2 h3 h4 h5 h6
  obtain rfl := asSlice_some hq
  obtain rfl := asSlice_some hr
  obtain ⟨hy, hib⟩ := i64Of_some hi
  subst hy
  obtain ⟨b, o, n, k⟩ := q
  obtain ⟨b2, o2, m, k2⟩ := r
  simp only [Bool.and_eq_true] at hc
  obtain ⟨hk, ho, hin, hn, hbb, hm, hown⟩ := hc
  simp only at hk ho hin hn hbb hm hown hl hp h7
  have ho := Nat.eq_of_beq_eq_true ho
  have hm := Nat.eq_of_beq_eq_true hm
  subst ho; subst hm
  have hin : i < n := (blt_iff _ _).1 hin
  have hn : n < 1048576 := (blt_iff _ _).1 hn
  have hbb : b2 ≠ b := fun e => by rw [e, Nat.beq_refl] at hbb; cases hbb
  obtain ⟨lb, rfl⟩ : ∃ lb, k = .rest 0 2 lb := by
    cases k with
    | rest e s lb =>
      have hk := (Bool.and_eq_true _ _).mp (show (Nat.beq e 0 && Nat.beq s 2) = true from hk)
      rw [Nat.eq_of_beq_eq_true hk.1, Nat.eq_of_beq_eq_true hk.2]; exact ⟨lb, rfl⟩
    | _ => cases hk
  obtain ⟨xb, hxb, hl1⟩ := obind_some hl
  obtain ⟨rr, hrr, hl2⟩ := obind_some hl1
  obtain rfl := ownRow_some hrr
  obtain ⟨hl3, hl4⟩ := bc_some hl2
  cases hl4
  simp only [Bool.and_eq_true] at hl3
  obtain ⟨h150, hll, hfl⟩ := hl3
  obtain ⟨l, e0⟩ := rr
  have h150 := Nat.eq_of_beq_eq_true h150
  simp only at h150 hll hfl hxb h7
  subst h150
  have hll : l.length = n * 2 := by rw [← lenL_eq]; exact Nat.eq_of_beq_eq_true hll
  obtain ⟨hfl1, hfl2⟩ := flatVL_c hfl
  obtain ⟨hfp1, hfp2⟩ := flatVL_c hfp
  obtain ⟨p1, p2, rfl⟩ : ∃ p1 p2, p = [p1, p2] := by
    have := (cellsAt_sub1 hp).1
    match p, this with
    | [p1, p2], _ => exact ⟨p1, p2, rfl⟩
  obtain ⟨lv, xv, hb2, hlv⟩ : ∃ lv xv, H.m.get b2 = some (.cells lv 150 xv true) ∧ 0 < lv.length := by
    unfold ownAt at hown
    cases hg : H.m.get b2 with
    | none => rw [hg] at hown; cases hown
    | some y2 =>
      rw [hg] at hown
      have hown : oe (asCells y2) false (fun c => c.2.2.2 && (Nat.beq c.2.1 150 && Nat.blt 0 (lenL c.1))) = true := hown
      cases ha : asCells y2 with
      | none => rw [ha] at hown; cases hown
      | some c2 =>
        rw [ha] at hown
        obtain rfl := asCells_some ha
        obtain ⟨l2, e2, x2, w2⟩ := c2
        have hown : (w2 && (Nat.beq e2 150 && Nat.blt 0 (lenL l2))) = true := hown
        simp only [Bool.and_eq_true] at hown
        obtain ⟨h1, h2, h3⟩ := hown
        subst h1
        have h2 := Nat.eq_of_beq_eq_true h2
        subst h2
        exact ⟨l2, x2, rfl, by rw [← lenL_eq]; exact (blt_iff _ _).1 h3⟩
  rw [appL_eq, appL_eq, takeL_eq, dropL_eq] at h7
  cases h7
  have hi2 : Nat.mul i 2 = i * 2 := rfl
  rw [hi2]
  generalize hA : l.take (i * 2) = a
  generalize hZ : l.drop (i * 2) = z
  have hlz : l = a ++ z := by rw [← hA, ← hZ, List.take_append_drop]
  have ha : a.length = i * 2 := by rw [← hA, List.length_take]; omega
  have hz : z.length = (n - i) * 2 := by rw [← hZ, List.length_drop]; omega
  have hfz : flatL z = true := by
    have := hfl2
    rw [hlz, flatL_cat, Bool.and_eq_true] at this; exact this.2
  have hfcs : flatC (a ++ ([p1, p2] ++ z)) := by
    intro v hv
    rcases List.mem_append.1 hv with h | h
    · exact hfl1 v (by rw [hlz]; exact List.mem_append_left _ h)
    · rcases List.mem_append.1 h with h | h
      · exact hfp1 v h
      · exact hfl1 v (by rw [hlz]; exact List.mem_append_right _ h)
  have hcsl : (a ++ ([p1, p2] ++ z)).length = (n + 1) * 2 := by
    rw [List.length_append, List.length_append, ha, hz]; simp; omega
  intro cs s w cas hr0 hcc
  obtain ⟨v1, r1, hv1, hr1, rfl⟩ := concL_cons.1 hcc
  simp only [conc, sliceC] at hv1
  split at hv1
  case isFalse => cases hv1
  rename_i hcond
  obtain ⟨d0, hd0, rfl⟩ := map_some hv1
  obtain ⟨jk, hjk, hjl, hsz, hrx⟩ := openRow_rel hr0 hxb hd0
  rw [s150] at hjl hsz
  have hnx : (openRow H b l jk 150).next = H.next := rfl
  have hgx : (openRow H b l jk 150).m.get b = some (.cells (l ++ jk) 150 true true) := get_set_s
  have hgn : ∀ x, x ≠ b → (openRow H b l jk 150).m.get x = H.m.get x := fun x hx => get_set_n hx
  have hbn : b < H.next := hr0.nextlt hd0
  have hb2n : b2 < H.next := by
    obtain ⟨u1, r2, hu1, hr2, rfl⟩ := concL_cons.1 hr1
    obtain ⟨u2, r3, hu2, hr3, rfl⟩ := concL_cons.1 hr2
    obtain ⟨d2, p2', c2', _, hd2⟩ := conc_slice hu2
    exact hr0.nextlt hd2
  have hcas : concL s [.slice b 0 n (.ex (s.ka b)), .int .i64 (i : Int), .slice b2 o2 1 k2] = some (Value.slice (some ⟨d0, 0, none⟩) n (s.ka b - 0) :: r1) := by
    refine concL_cons.2 ⟨_, _, ?_, hr1, rfl⟩
    simp only [conc, sliceC]
    rw [if_pos (by omega), hd0]; rfl
  have hp' : cellsAt (openRow H b l jk 150) b2 o2 2 = some [p1, p2] := by rw [cellsAt_get (hgn b2 hbb)]; exact hp
  by_cases hroom : n + 1 ≤ s.ka b
  · have hjk2 : 2 ≤ jk.length := by omega
    have hw := ins_room (H := openRow H b l jk 150) (b := b) (b2 := b2) (o2 := o2) (n := n) (c := s.ka b) (i := i) (k2 := k2) (a := a) (z := z) (j2 := jk.take 2) (junk := jk.drop 2) (lv := lv) (xv := xv) (p1 := p1) (p2 := p2)
      (by rw [hgx, List.take_append_drop, hlz]; simp) ha hz (by rw [List.length_take]; omega) hin hroom hn hfz hfp2 (by rw [hgn b2 hbb]; exact hb2) hlv hp' hbb
      (K := fun v K => v = .slice b 0 (n + 1) (.ex (s.ka b)) ∧ K.m.get b = some (.cells (a ++ ([p1, p2] ++ (z ++ jk.drop 2))) 150 true true) ∧ (∀ x, x ≠ b → K.m.get x = (openRow H b l jk 150).m.get x))
      (fun H' h1 h2 _ => ⟨rfl, h1, h2⟩)
    obtain ⟨kk, v', K, hk1, rfl, hk2, hk3⟩ := hw
    have hres : FnRes Tryz.prog EE 109 _ _ _ K := wcall_res hE rfl ⟨kk, _, K, hk1, rfl, rfl⟩
    obtain ⟨s', w', c, fr, g1, g2, g3, g4, g5⟩ := hres cs s w _ hrx hcas
    obtain ⟨s'', t1, t2, t3⟩ := turn_row (cc := b) (n := n + 1) (sz := 2) (cs := a ++ ([p1, p2] ++ z)) (jk2 := jk.drop 2) (x := true) (cap := .ex (s.ka b)) hr0 hxb hd0 s150 hfcs hcsl (by rw [hk2]; simp)
      (.inl ⟨rfl, s.ka b, rfl, by rw [List.length_append, hcsl, List.length_drop]; omega, hroom⟩) (hjk.elim fun jv h => ⟨jv.drop 2, fun s => concL_drop (h s) 2⟩) (.inl rfl) (fun x hx hxb => by rw [hk3 x hxb, hgn x hxb]) g2 g3 g4
    exact ⟨s'', w', c, fr, g1, t1, t2, t3, g5⟩
  · have hcn : s.ka b = n := by omega
    have hj0 : jk = [] := List.eq_nil_of_length_eq_zero (by omega)
    subst hj0
    rw [hcn] at hcas ⊢
    have hw := ins_grow (H := openRow H b l [] 150) (b := b) (b2 := b2) (o2 := o2) (n := n) (i := i) (k2 := k2) (a := a) (z := z) (p1 := p1) (p2 := p2)
      (by rw [hgx, hlz]; simp) hbn hb2n ha hz hin hn hfz hfp2 hp'
      (K := fun v K => v = .slice H.next 0 (n + 1) (.rest 0 2 (n + 1)) ∧ K.m.get H.next = some (.cells (a ++ ([p1, p2] ++ z)) 150 false true) ∧ (∀ x, x ≠ H.next → K.m.get x = (openRow H b l [] 150).m.get x))
      (fun H' h1 h2 _ => ⟨rfl, h1, h2⟩)
    obtain ⟨kk, v', K, hk1, rfl, hk2, hk3⟩ := hw
    have hres : FnRes Tryz.prog EE 109 _ _ _ K := wcall_res hE rfl ⟨kk, _, K, hk1, rfl, rfl⟩
    obtain ⟨s', w', c, fr, g1, g2, g3, g4, g5⟩ := hres cs s w _ hrx hcas
    obtain ⟨s'', t1, t2, t3⟩ := turn_row (cc := H.next) (n := n + 1) (sz := 2) (cs := a ++ ([p1, p2] ++ z)) (jk2 := []) (x := false) (cap := .rest 0 2 (n + 1)) hr0 hxb hd0 s150 hfcs hcsl (by rw [hk2]; simp)
      (.inr ⟨rfl, rfl, rfl⟩) ⟨[], fun _ => rfl⟩ (.inr (Nat.le_refl _)) (fun x hx hxb => by rw [hk3 x (by omega), hgn x hxb]) g2 g3 g4
    exact ⟨s'', w', c, fr, g1, t1, t2, t3, g5⟩
/-- slices.Insert, for any run of this program. -/
theorem f197h : Tryz.prog.funcs[197]? = some Tryz.f197 := by kernel_rfl
theorem f197n : (Tryz.f197.name == "runtime.NumGoroutine") = false := by kernel_rfl
theorem f197b : Tryz.f197.body = none := by kernel_rfl
theorem f197x : Extern.findNext Tryz.f197 = none := by kernel_rfl
theorem f197f : Extern.find Tryz.f197 = some (Extern.SlicesOverlaps.overlaps #[78, 78] #[4]) := by rfl
theorem run150 : ∀ w, (Go.sizeOf 150).run Tryz.prog w = .ok 2 w := fun w => by rfl
theorem eeOk (base : EnvOk (envOf Tryz.prog) Tryz.prog) : EnvOk EE Tryz.prog :=
  withOv_ok (envV_ok base fun f hf => by cases hf) f197h f197n f197b f197x f197f Tryz.underlying78 run150
theorem ins_env {E : Env} (base : EnvOk (envOf Tryz.prog) Tryz.prog) (hE : EnvOk E Tryz.prog) (hz : ∀ t, (envOf Tryz.prog).ty t = E.ty t) : EnvOk (withSum E 109 insG) Tryz.prog where
  types := ⟨hE.types.1, hE.types.2, hE.types.3, hE.types.4, hE.types.5⟩
  fn f fn h := hE.fn f fn h
  nm f fn h := hE.nm f fn h
  mixed := hE.mixed
  sums f g' hs xs H v H' hv := by
    have hs : bc (Nat.beq f 109) (some insG) (E.sum f) = some g' := hs
    have hz0 : ∀ t, E.ty t = (withSum E 109 insG).ty t := fun t => rfl
    have hz1 : ∀ t, EE.ty t = (withSum E 109 insG).ty t := fun t => hz t
    cases hb : Nat.beq f 109 with
    | true =>
      rw [hb] at hs
      cases hs
      obtain rfl := Nat.eq_of_beq_eq_true hb
      exact .inl ((ins_res (eeOk base) hv).env hz1)
    | false =>
      rw [hb] at hs
      exact FnAny.env hz0 (hE.sums f g' hs xs H v H' hv)
end
end Go.Ev.In
