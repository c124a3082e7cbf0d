/-
  Rows that grow in their own block or move: for any capacity. No conditions.
-/
import Derived.Test.YtkbfagkgiogllaaGreatEvI
import Derived.Lib.Overlaps
set_option linter.unusedVariables false
set_option linter.unusedSimpArgs false
namespace Go.Ev
noncomputable section
/-! slices.overlaps, which has no body: two rows of our own lie apart. -/
def ovG (E : Env) (as : List AV) (H : Hp) : Option (AV × Hp) := match as with
  | [x, y] => (asSlice x).obind fun q => (asSlice y).obind fun r => bc (Nat.beq q.1 r.1) none ((H.m.get q.1).obind fun p => (asCells p).obind fun a => (H.m.get r.1).obind fun z => (asCells z).obind fun b =>
      bc (a.2.2.2 && (b.2.2.2 && (Nat.blt 0 (lenL b.1) && bc (isByteK (kindOf E a.2.1)) false true))) (some (.bool false, H)) none)
  | _ => none
theorem ov_val {P : Program} {E : Env} (_hE : EnvTy E P) {f : FuncId} {fn : Func} (hf : P.funcs[f]? = some fn) (hname : (fn.name == "runtime.NumGoroutine") = false) (hb : fn.body = none) (hn : Extern.findNext fn = none) {tS tR e : TypeId} {size : Nat}
    (he : Extern.find fn = some (Extern.SlicesOverlaps.overlaps #[tS, tS] #[tR])) (ht : P.underlying tS = some (.slice e)) (hz : ∀ w, (Go.sizeOf e).run P w = .ok size w)
    {as : List AV} {H H' : Hp} {v : AV} (h : ovG E as H = some (v, H')) : FnVal P E f as H v H' := by
  unfold ovG at h
  split at h
  case h_2 => cases h
  rename_i x y
  obtain ⟨q, hq, h1⟩ := obind_some h
  obtain ⟨r, hr, h2⟩ := obind_some h1
  have hne : ¬ q.1 = r.1 := by
    intro e0
    rw [e0, Nat.beq_refl] at h2
    cases h2
  have hne' : Nat.beq q.1 r.1 = false := by
    cases hb : Nat.beq q.1 r.1 with
    | true => exact absurd (Nat.eq_of_beq_eq_true hb) hne
    | false => rfl
  rw [hne'] at h2
  obtain ⟨p, hp, h3⟩ := obind_some (show (H.m.get q.1).obind _ = some (v, H') from h2)
  obtain ⟨a, ha, h4⟩ := obind_some h3
  obtain ⟨z, hz0, h5⟩ := obind_some h4
  obtain ⟨b, hb0, h6⟩ := obind_some h5
  obtain ⟨h7, h8⟩ := bc_some h6
  cases h8
  clear h h1 h2 h3 h4 h5 h6
  obtain rfl := asSlice_some hq
  obtain rfl := asSlice_some hr
  obtain rfl := asCells_some ha
  obtain rfl := asCells_some hb0
  obtain ⟨l, e1, x1, w1⟩ := a
  obtain ⟨l2, e2, x2, w2⟩ := b
  obtain ⟨b1, o1, n1, c1⟩ := q
  obtain ⟨b2, o2, n2, c2⟩ := r
  simp only [Bool.and_eq_true] at h7
  obtain ⟨hw1, hw2, hl2, hby⟩ := h7
  subst hw1; subst hw2
  have hby' : isByteK (kindOf E e1) = false := by
    cases hk : isByteK (kindOf E e1) with
    | true => rw [hk] at hby; cases hby
    | false => rfl
  refine ⟨fun l hl => by simp at hl, fun s w cas hr hc => ?_⟩
  obtain ⟨v1, r1, hv1, hr1, rfl⟩ := concL_cons.1 hc
  obtain ⟨v2, r2, hv2, hr2, rfl⟩ := concL_cons.1 hr1
  cases hr2
  obtain ⟨d1, p1, k1, rfl, hd1⟩ := conc_slice hv1
  obtain ⟨d2, p2, k2, rfl, hd2⟩ := conc_slice hv2
  obtain ⟨arr1, fz1, g1, _, g3, g4, _, _, g7⟩ := hr.blk _ _ _ hp hd1
  obtain ⟨arr2, fz2, q1, _, q3, _, _, _, _⟩ := hr.blk _ _ _ hz0 hd2
  have hdne : d1 ≠ d2 := fun e0 => hne (hr.inj _ _ _ _ _ hp rfl hz0 trivial hd1 (by rw [e0]; exact hd2))
  have hfz : fz1.1 = fz1.2 := (g7 rfl).2.resolve_right (by rw [hby']; simp)
  have hfr : ∀ o, w.frozen? ⟨d1, o, none⟩ = false := fun o => by
    obtain ⟨lo, hi⟩ := fz1
    simp only at hfz; subst hfz
    simp only [World.frozen?, g1]
    simp
  have hs1 : w.shape? d1 = some (e1, arr1.size) := by simp only [World.shape?, g1]
  have hs2 : w.shape? d2 = some (e2, arr2.size) := by simp only [World.shape?, q1]
  have hk2 : arr2.size ≠ 0 := by
    have h9 : 0 < lenL l2 := (blt_iff _ _).1 hl2
    rw [lenL_eq] at h9
    have : l2.length ≤ arr2.size := q3
    omega
  have hrun := Lib.run_overlaps_apart (P := P) w tS tR e ht size hz ⟨d1, p1, none⟩ ⟨d2, p2, none⟩ n1 k1 n2 k2 hdne e1 e2 arr1.size arr2.size hs1 hs2 hk2 (hfr _) (hfr _)
  refine ⟨s, w, .bool false, ?_, rfl, hr, Ext.refl _ _ _⟩
  rw [run_callFunc_extern hf hname (by rw [hb]; rfl) hn he]
  have : #[Value.slice (some ⟨d1, p1, none⟩) n1 k1, Value.slice (some ⟨d2, p2, none⟩) n2 k2] = [Value.slice (some ⟨d1, p1, none⟩) n1 k1, Value.slice (some ⟨d2, p2, none⟩) n2 k2].toArray := rfl
  rw [← this, hrun]; rfl
theorem withOv_ok {P : Program} {E : Env} (hE : EnvOk E P) {f : FuncId} {fn : Func} (hf : P.funcs[f]? = some fn) (hname : (fn.name == "runtime.NumGoroutine") = false) (hb : fn.body = none) (hn : Extern.findNext fn = none) {tS tR e : TypeId} {size : Nat}
    (he : Extern.find fn = some (Extern.SlicesOverlaps.overlaps #[tS, tS] #[tR])) (ht : P.underlying tS = some (.slice e)) (hz : ∀ w, (Go.sizeOf e).run P w = .ok size w) : EnvOk (withSum E f (ovG E)) P where
  types := ⟨hE.types.1, hE.types.2, hE.types.3, hE.types.4, hE.types.5⟩
  fn f fn h := hE.fn f fn h
  nm f fn h := hE.nm f fn h
  mixed := hE.mixed
  sums f' g' hs as H v H' hv := by
    have hs : bc (Nat.beq f' f) (some (ovG E)) (E.sum f') = some g' := hs
    have hz0 : ∀ t, E.ty t = (withSum E f (ovG E)).ty t := fun t => rfl
    cases hb' : Nat.beq f' f with
    | true =>
      rw [hb'] at hs
      cases hs
      obtain rfl := Nat.eq_of_beq_eq_true hb'
      exact .inr ((ov_val hE.types hf hname hb hn he ht hz hv).env hz0)
    | false =>
      rw [hb'] at hs
      exact FnAny.env hz0 (hE.sums f' g' hs as H v H' hv)
end
end Go.Ev

namespace Go.Ev
noncomputable section
/-! Parts of rows in memory; writes into the middle of one. -/
section
variable {E : Env} {e sz b o n c i : Nat} {k : IntKind}
theorem boundN_i {d m : Nat} (h : i ≤ m) : boundN (some (.int k (i : Int))) d m = some i := by
  show (natOf (.int k (i : Int))).obind (fun n => bc (Nat.ble n m) (some n) none) = _
  rw [natOf_i, natI_nat]
  show bc (Nat.ble i m) (some i) none = _
  rw [ble_iff.2 h]; rfl
theorem sl_ex_lo (hs : sizeT E e = sz) (h : i < n) (hn : n ≤ c) : evSlice (.slice e) E (.slice b o n (.ex c)) (some (.int k (i : Int))) none none = some (.slice b (o + i * sz) (n - i) (.ex (c - i))) := by
  show (boundsN n c (some (.int k (i : Int))) none none).omap _ = _
  have : boundsN n c (some (.int k (i : Int))) none none = some (i, n, c) := by
    unfold boundsN
    show (boundN (some (.int k (i : Int))) 0 n).omap _ = _
    rw [boundN_i (by omega)]; rfl
  rw [this]
  show some (AV.slice b (bc (Nat.beq c i) o (o + i * sizeT E e)) (n - i) (.ex (c - i))) = _
  have hb : Nat.beq c i = false := by
    cases hb : Nat.beq c i with
    | true => have := Nat.eq_of_beq_eq_true hb; omega
    | false => rfl
  rw [hb, hs]; rfl
theorem sl_ex_hi {m : Nat} (hs : sizeT E e = sz) (h : m ≤ c) (h0 : 0 < c) : evSlice (.slice e) E (.slice b o n (.ex c)) none (some (.int k (m : Int))) none = some (.slice b o m (.ex c)) := by
  show (boundsN n c none (some (.int k (m : Int))) none).omap _ = _
  have : boundsN n c none (some (.int k (m : Int))) none = some (0, m, c) := by
    unfold boundsN
    show (boundN (some (.int k (m : Int))) n c).obind _ = _
    rw [boundN_i h]; rfl
  rw [this]
  show some (AV.slice b (bc (Nat.beq c 0) o (o + 0 * sizeT E e)) (m - 0) (.ex (c - 0))) = _
  have hb : Nat.beq c 0 = false := by cases c with | zero => omega | succ c => rfl
  rw [hb]; simp
theorem sl_rest_lo {eo lb : Nat} (hs : sizeT E e = sz) (h : i < n) (hn : n ≤ lb) : evSlice (.slice e) E (.slice b o n (.rest eo sz lb)) (some (.int k (i : Int))) none none = some (.slice b (o + i * sz) (n - i) (.rest (eo + i) sz (lb - i))) := by
  show bc (Nat.beq sz (sizeT E e)) ((boundsN n lb (some (.int k (i : Int))) none none).obind _) none = _
  rw [hs, Nat.beq_refl]
  have : boundsN n lb (some (.int k (i : Int))) none none = some (i, n, lb) := by
    unfold boundsN
    show (boundN (some (.int k (i : Int))) 0 n).omap _ = _
    rw [boundN_i (by omega)]; rfl
  rw [this]
  show bc (Nat.blt i lb || Nat.beq i 0) (some (AV.slice b (o + i * sz) (n - i) (.rest (eo + i) sz (lb - i)))) _ = _
  have hb : Nat.blt i lb = true := (blt_iff _ _).2 (by omega)
  rw [hb]; rfl
theorem setE_mid : ∀ (x y z new : List AV), new.length = y.length → setE new x.length (x ++ (y ++ z)) = some (x ++ (new ++ z))
  | [], y, z, new, h => by
    show overE new (y ++ z) = _
    rw [overE_eq]
    simp [h]
  | a :: x, y, z, new, h => by
    show (setE new x.length (x ++ (y ++ z))).omap (a :: ·) = _
    rw [setE_mid x y z new h]; rfl
theorem put_mid {H : Hp} {e : TypeId} {x : Bool} {u y z new : List AV} (hb : H.m.get b = some (.cells (u ++ (y ++ z)) e x true)) (ho : o = u.length) (hl : new.length = y.length) (hf : flatL new = true) :
    putCells H b o new = some (setBlk H b (.cells (u ++ (new ++ z)) e x true)) := by
  unfold putCells
  rw [hb]
  show bc true (bc (flatL new) ((setE new o (u ++ (y ++ z))).omap _) none) none = _
  rw [hf, ho, setE_mid u y z new hl]; rfl
theorem cells_mid {H : Hp} {e : TypeId} {x : Bool} {u y z : List AV} (hb : H.m.get b = some (.cells (u ++ (y ++ z)) e x true)) (ho : o = u.length) (hl : n = y.length) : cellsAt H b o n = some y := by
  by_cases h0 : n = 0
  · subst h0
    have : y = [] := List.eq_nil_of_length_eq_zero hl.symm
    subst this; rfl
  · rw [cellsAt_pos h0]
    unfold cellsAt'
    rw [hb]
    show (takeE n (dropL o (u ++ (y ++ z)))).obind (chkL true) = _
    rw [dropL_eq, takeE_eq, ho, List.drop_left, if_pos (by simp; omega), hl, List.take_left]; rfl
theorem copy_mid {H H1 : Hp} {t t2 : TypeId} {b2 o2 m : Nat} {k1 k2 : Cap} {src : List AV} (ht : kindOf E t = .slice e) (hs : sizeT E e = sz) (hsrc : cellsAt H b2 o2 (m * sz) = some src) (hn : 0 < n)
    (hput : putCells H b o (src.take (min m n * sz)) = some H1) : bltEff .copy E H [.slice b o n k1, .slice b2 o2 m k2] [t, t2] = some (.int .i64 ((min m n : Nat) : Int), H1) := by
  rw [copyArgs_def ht]
  show ((cellsAt H b2 o2 (m * sizeT E e)).omap fun l => (m, l)).obind (copyTo E H e (.slice b o n k1)) = _
  rw [hs, hsrc]
  show bc (Nat.beq n 0) _ ((putCells H b o (takeL (Nat.mul (minN m n) (sizeT E e)) src)).omap fun H => (AV.int .i64 (.ofNat (minN m n)), H)) = _
  have h0 : Nat.beq n 0 = false := by cases n with | zero => omega | succ n => rfl
  have hm : minN m n = min m n := minN_eq m n
  rw [h0, hm, hs, takeL_eq]
  show (putCells H b o (List.take (min m n * sz) src)).omap _ = _
  rw [hput]; rfl
theorem capX_ex {c : Nat} : capX (.ex c) = some (.int .i64 (c : Int)) := rfl
end
theorem appArgs_int0 {E : Env} {H : Hp} {t t2 e : TypeId} {k : IntKind} {u : AV} {n : Nat} {z : AV} (h : kindOf E t = .slice e) (h2 : kindOf E t2 = .int k) (hz : zeroT E e = some z) (hn : n ≤ 1048576) (hb : Nat.ble (bytesT E e) 1048576 = true) :
    bltEff .append E H [u, .int k (n : Int)] [t, t2] = evAppend E H e u n (repL n z.cells) := by
  show appArgs E H t [t2] u (.int k (n : Int)) = _
  unfold appArgs
  rw [h]; simp only; rw [h2]; simp only
  rw [natOf_i, natI_nat]
  show (zeroT E e).obind _ = _
  rw [hz]
  show (match Nat.ble n 1048576 && Nat.ble (bytesT E e) 1048576 with | true => _ | false => _) = _
  rw [hb, ble_iff.2 hn]; rfl
end
end Go.Ev

namespace Go.Ev
noncomputable section
/-! A row that has grown in its own block, or moved into a new one: from then on a row of its own, whichever it was. -/
theorem cut_two {α : Type} (l : List α) (a b : Nat) (h : a ≤ b) : (l.take b).drop a ++ l.drop b = l.drop a := by
  by_cases hb : b ≤ l.length
  · have e : l.drop a = ((l.take b) ++ l.drop b).drop a := by rw [List.take_append_drop]
    rw [e, List.drop_append_of_le_length (by rw [List.length_take]; omega)]
  · rw [List.take_of_length_le (by omega), List.drop_eq_nil_of_le (i := b) (by omega), List.append_nil]
/-- A growing row, and all that lies behind it. -/
def openRow (H : Hp) (b : Nat) (l jk : List AV) (e : TypeId) : Hp := setBlk H b (.cells (l ++ jk) e true true)
theorem openRow_rel {E : Env} {s : Sg} {H : Hp} {w : World} (r : HRel E s H w) {b d : Nat} {l : List AV} {e : TypeId} (hb : H.m.get b = some (.cells l e false true)) (hd : s.mu b = some d) :
    ∃ jk : List AV, (∃ jv, ∀ s, concL s jk = some jv) ∧ l.length + jk.length = s.ka b * sizeT E e ∧ s.sz b = sizeT E e ∧ HRel E s (openRow H b l jk e) w := by
  obtain ⟨arr, fz, h1, h2, h3, h4, _, h6, h7⟩ := r.blk b _ d hb hd
  obtain ⟨jk, hjk⟩ := (h7 rfl).1
  have hsz := (h6 rfl)
  have hjl : jk.length = arr.size - l.length := by
    have := concL_length (hjk ⟨fun _ => none, fun _ => 0, fun _ => 0⟩)
    rw [← this]; simp
  have hget : ∀ a, (openRow H b l jk e).m.get a = if a = b then some (.cells (l ++ jk) e true true) else H.m.get a := fun a => Tr.get_set _ _ _ _
  refine ⟨jk, ⟨_, hjk⟩, by rw [hjl, ← hsz.2, ← hsz.1]; omega, hsz.2, ⟨?_, ?_, r.lt, ?_⟩⟩
  · intro a y c ha hc
    rw [hget] at ha
    split at ha
    · rename_i hh; subst hh
      cases ha
      rw [hd] at hc; cases hc
      have hall : concL s (l ++ jk) = some arr.toList := by
        rw [concL_append.2 ⟨_, _, h2, hjk s, rfl⟩, List.take_append_drop]
      have hlen : (l ++ jk).length = arr.size := by rw [List.length_append]; omega
      refine ⟨arr, fz, h1, ?_, by omega, h4, fun _ => hlen.symm, (fun h => by cases h), fun _ => ⟨?_, (h7 rfl).2⟩⟩
      · show concL s (l ++ jk) = _
        rw [hall, List.take_of_length_le (by simp; omega)]
      · rw [List.drop_eq_nil_of_le (by simp; omega)]; exact Jk.nil _
    · exact r.blk a y c ha hc
  · intro a y a' y' c ha ho ha' ho' hc1 hc2
    rw [hget] at ha ha'
    have h1 : ∃ z, H.m.get a = some z ∧ isOwn z := by
      split at ha
      · rename_i he; subst he; exact ⟨_, hb, rfl⟩
      · exact ⟨y, ha, ho⟩
    have h2 : ∃ z, H.m.get a' = some z ∧ isLive z := by
      split at ha'
      · rename_i he; subst he; exact ⟨_, hb, trivial⟩
      · exact ⟨y', ha', ho'⟩
    obtain ⟨z, hz, hzo⟩ := h1
    obtain ⟨z', hz', hzo'⟩ := h2
    exact r.inj a z a' z' c hz hzo hz' hzo' hc1 hc2
  · intro a ha
    refine ⟨(r.fr a ha).1, ?_⟩
    rw [hget, if_neg (by
      rintro rfl
      rw [(r.fr a ha).1] at hd; cases hd)]
    exact (r.fr a ha).2

theorem turn_row {E : Env} {s s' : Sg} {H K : Hp} {w w' : World} {b cc d0 n sz : Nat} {l jk cs jk2 : List AV} {e : TypeId} {x : Bool} {cap : Cap} {c : Value} (hr : HRel E s H w) (hb : H.m.get b = some (.cells l e false true)) (hd0 : s.mu b = some d0) (hsz : sizeT E e = sz)
    (hf : flatC cs) (hcs : cs.length = n * sz) (hrow : K.m.get cc = some (.cells (cs ++ jk2) e x true)) (hx : (x = true ∧ ∃ k, cap = .ex k ∧ (cs ++ jk2).length = k * sz ∧ n ≤ k) ∨ (x = false ∧ cap = .rest 0 sz n ∧ jk2 = []))
    (hjk2 : ∃ jv, ∀ s, concL s jk2 = some jv) (hcc : cc = b ∨ H.next ≤ cc) (hfr : ∀ a, a < H.next → a ≠ b → K.m.get a = H.m.get a)
    (hcv : conc s' (.slice cc 0 n cap) = some c) (h3 : HRel E s' K w') (h4 : Ext s (openRow H b l jk e) w s' K w') :
    ∃ s'', conc s'' (.slice H.next 0 n (.rest 0 sz n)) = some c ∧ HRel E s'' (setBlk (newBlk H (.cells cs e false true)).2 b .dead) w' ∧ Ext s H w s'' (setBlk (newBlk H (.cells cs e false true)).2 b .dead) w' := by
  have hbn : b < H.next := hr.nextlt hd0
  have hle : s.Le s' := fun a d h => by
    obtain ⟨h1, h2, h5⟩ := h4.le a (hr.nextlt h)
    exact ⟨by rw [h1]; exact h, h2, h5⟩
  obtain ⟨d, kk, hd, hcv2, hkk, hnk⟩ : ∃ d kk, s'.mu cc = some d ∧ c = .slice (some ⟨d, 0, none⟩) n kk ∧ (∀ arr fz, w'.heap[d]? = some (.cells arr e fz) → arr.size = kk * sz) ∧ n ≤ kk := by
    rcases hx with ⟨rfl, k, rfl, hk1, hk2⟩ | ⟨rfl, rfl, rfl⟩
    · simp only [conc, sliceC] at hcv
      rw [if_pos hk2] at hcv
      obtain ⟨d, hd, rfl⟩ := map_some hcv
      obtain ⟨arr, fz, g1, _, _, _, g5, _, _⟩ := h3.blk cc _ d hrow hd
      refine ⟨d, k, hd, rfl, fun arr' fz' hh => ?_, hk2⟩
      rw [g1] at hh; cases hh
      rw [g5 rfl, hk1]
    · simp only [conc, sliceC] at hcv
      split at hcv
      · rename_i hh
        obtain ⟨d, hd, rfl⟩ := map_some hcv
        obtain ⟨arr, fz, g1, _, _, _, _, g6, _⟩ := h3.blk cc _ d hrow hd
        refine ⟨d, s'.ka cc, hd, by simp, fun arr' fz' hh => ?_, by omega⟩
        rw [g1] at hh; cases hh
        rw [(g6 rfl).1, (g6 rfl).2, hsz]
      · cases hcv
  obtain ⟨arr, fz, g1, g2, g3, g4, _, _, g7⟩ := h3.blk cc _ d hrow hd
  have hfrn := hr.fr H.next (Nat.le_refl _)
  have hsl : s.Le (addB s H.next d kk sz) := addB_le hfrn.1
  have hmu : ∀ a, a ≠ H.next → (addB s H.next d kk sz).mu a = s.mu a := fun a h => by simp [addB, h]
  have hget : ∀ a, (setBlk (newBlk H (.cells cs e false true)).2 b .dead).m.get a = if a = b then some .dead else if a = H.next then some (.cells cs e false true) else H.m.get a := fun a => by
    show ((H.m.set _ H.next).set _ b).get a = _
    rw [Tr.get_set, Tr.get_set]
  have hold : ∀ a y d, a ≠ b → H.m.get a = some y → s.mu a = some d → a < H.next ∧ K.m.get a = some y ∧ s'.mu a = some d := fun a y d hab hx hd => by
    have hlt := hr.nextlt hd
    exact ⟨hlt, by rw [hfr a hlt hab]; exact hx, by rw [(h4.le a hlt).1]; exact hd⟩
  have hxget : ∀ a, (openRow H b l jk e).m.get a = if a = b then some (.cells (l ++ jk) e true true) else H.m.get a := fun a => Tr.get_set _ _ _ _
  -- what was ours there was ours before
  have hback : ∀ a y, (openRow H b l jk e).m.get a = some y → isOwn y → ∃ y0, H.m.get a = some y0 ∧ isOwn y0 := fun a y ha ho => by
    rw [hxget] at ha
    split at ha
    · rename_i hh; subst hh; exact ⟨_, hb, rfl⟩
    · exact ⟨y, ha, ho⟩
  have hbackL : ∀ a y, (openRow H b l jk e).m.get a = some y → isLive y → ∃ y0, H.m.get a = some y0 ∧ isLive y0 := fun a y ha ho => by
    rw [hxget] at ha
    split at ha
    · rename_i hh; subst hh; exact ⟨_, hb, trivial⟩
    · exact ⟨y, ha, ho⟩
  have hsep : ∀ a y, a ≠ b → H.m.get a = some y → isLive y → s.mu a ≠ some d := fun a y hab ha hl hd' => by
    obtain ⟨hlt, hk, hd3⟩ := hold a y d hab ha hd'
    have := h3.inj cc _ a y d hrow rfl hk hl hd hd3
    rcases hcc with h | h <;> omega
  refine ⟨addB s H.next d kk sz, ?_, ⟨?_, ?_, ?_, ?_⟩, ⟨Nat.le_succ _, ?_, h4.size, h4.os, h4.tape, h4.output, ?_, ?_, ?_, h4.loops⟩⟩
  · simp only [conc, sliceC]
    rw [if_pos ⟨Nat.le_refl _, by simp [addB]; exact hnk, by simp, by simp [addB]⟩, addB_mu, hcv2]
    simp [addB]
  · intro a y d' ha hd'
    rw [hget] at ha
    split at ha
    · cases ha; trivial
    · rename_i hab
      split at ha
      · rename_i hh
        subst hh
        cases ha
        rw [addB_mu] at hd'; cases hd'
        have htk : concL s' cs = some (arr.toList.take cs.length) := by
          have := concL_take (show concL s' (cs ++ jk2) = some _ from g2) cs.length
          rw [List.take_left, List.take_take, Nat.min_eq_left (by simp)] at this
          exact this
        refine ⟨arr, fz, g1, flatC_conc hf htk, by simp at g3; omega, g4, (fun h => by cases h), fun _ => ?_, fun _ => ⟨?_, (g7 rfl).2⟩⟩
        · simp only [addB, if_true, hsz, and_true]
          exact hkk arr fz g1
        · obtain ⟨j3, hj3⟩ := (g7 rfl).1
          obtain ⟨jv, hjv⟩ := hjk2
          refine ⟨jk2 ++ j3, fun s0 => ?_⟩
          rw [concL_append.2 ⟨_, _, hjv s0, hj3 s0, rfl⟩]
          congr 1
          have h5 := concL_drop (show concL s' (cs ++ jk2) = some _ from g2) cs.length
          rw [List.drop_left, hjv s'] at h5
          have h5 := Option.some.inj h5
          rw [h5, cut_two arr.toList cs.length (cs ++ jk2).length (by simp)]
      · rename_i hne
        rw [hmu a hne] at hd'
        obtain ⟨hlt, hk, hd2⟩ := hold a y d' hab ha hd'
        obtain ⟨e1, e2, e3⟩ := h4.le a hlt
        exact ((hr.blk a y d' ha hd').back hle e2 e3 (h3.blk a y d' hk hd2)).up hsl (by simp [addB, hne]) (by simp [addB, hne])
  · intro a y a' y' d' ha ha1 ha' ha1' hd1 hd2
    rw [hget] at ha ha'
    by_cases n1 : a = b
    · rw [if_pos n1] at ha; cases ha; cases ha1
    by_cases n2 : a' = b
    · rw [if_pos n2] at ha'; cases ha'; cases ha1'
    rw [if_neg n1] at ha
    rw [if_neg n2] at ha'
    by_cases e1 : a = H.next
    · by_cases e2 : a' = H.next
      · rw [e1, e2]
      · subst e1
        rw [addB_mu] at hd1; cases hd1
        rw [hmu _ e2] at hd2
        rw [if_neg e2] at ha'
        exact absurd hd2 (hsep a' y' n2 ha' ha1')
    · by_cases e2 : a' = H.next
      · subst e2
        rw [addB_mu] at hd2; cases hd2
        rw [hmu _ e1] at hd1
        rw [if_neg e1] at ha
        exact absurd hd1 (hsep a y n1 ha (isLive_of_own ha1))
      · rw [hmu _ e1] at hd1
        rw [hmu _ e2] at hd2
        rw [if_neg e1] at ha
        rw [if_neg e2] at ha'
        exact hr.inj a y a' y' d' ha ha1 ha' ha1' hd1 hd2
  · intro a d' hd'
    by_cases e1 : a = H.next
    · subst e1; rw [addB_mu] at hd'; cases hd'; exact h3.lt cc d hd
    · rw [hmu _ e1] at hd'; exact Nat.lt_of_lt_of_le (hr.lt a d' hd') h4.size
  · intro a ha
    have ha : H.next + 1 ≤ a := ha
    rw [hget, hmu a (by omega), if_neg (by omega), if_neg (by omega)]
    exact hr.fr a (by omega)
  · intro a ha
    have hne : a ≠ H.next := by omega
    simp [addB, hne]
  · intro c0 hc0 hn0
    refine h4.keep c0 hc0 fun a y ha ho => ?_
    obtain ⟨y0, h1, h2⟩ := hback a y ha ho
    exact hn0 a y0 h1 h2
  · intro a y d' ha ha1 hd' hlt
    rw [hget] at ha
    split at ha
    · cases ha; cases ha1
    · split at ha
      · rename_i hh; subst hh
        rw [addB_mu] at hd'; cases hd'
        obtain ⟨a0, x0, k1, k2, k3⟩ := h4.img cc _ d hrow rfl hd hlt
        obtain ⟨y0, q1, q2⟩ := hback a0 x0 k1 k2
        exact ⟨a0, y0, q1, q2, k3⟩
      · rename_i hne
        rw [hmu a hne] at hd'
        exact ⟨a, y, ha, ha1, hd'⟩
  · intro a y d' ha ha1 hd' hlt
    rw [hget] at ha
    split at ha
    · cases ha; cases ha1
    · split at ha
      · rename_i hh; subst hh
        rw [addB_mu] at hd'; cases hd'
        obtain ⟨a0, x0, k1, k2, k3⟩ := h4.imgL cc _ d hrow trivial hd hlt
        obtain ⟨y0, q1, q2⟩ := hbackL a0 x0 k1 k2
        exact ⟨a0, y0, q1, q2, k3⟩
      · rename_i hne
        rw [hmu a hne] at hd'
        exact ⟨a, y, ha, ha1, hd'⟩
end
end Go.Ev
