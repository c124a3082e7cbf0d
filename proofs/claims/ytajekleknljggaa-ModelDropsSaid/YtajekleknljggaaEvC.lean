/-
  The evaluator is right about memory, appends and the like. No conditions.
-/
import Derived.Test.YtajekleknljggaaEvB
import Derived.Laws.IdiomStrings
set_option linter.unusedVariables false
set_option linter.unusedSimpArgs false
namespace Go.Ev
variable {P : Program} {E : Env}
def putC (w : World) (c : Nat) (o : Obj) : World := { w with heap := w.heap.setIfInBounds c o }
theorem putC_heap (w : World) (c : Nat) (o : Obj) (k : Nat) : (putC w c o).heap[k]? = if k = c /\ c < w.heap.size then some o else w.heap[k]? := by
 unfold putC
 simp only [Array.getElem?_setIfInBounds]
 by_cases h : c = k
 ·
  subst h
  by_cases hc : c < w.heap.size <;> simp [hc]
 ·
  have : ¬ k = c := fun e => h e.symm
  simp [h, this]
theorem putC_size (w : World) (c : Nat) (o : Obj) : (putC w c o).heap.size = w.heap.size := by simp [putC]
theorem putC_loops {w : World} {d : Nat} {arr : Array Value} {e : TypeId} {fz : Nat × Nat} (hh : w.heap[d]? = some (.cells arr e fz)) (o : Obj) :
 ∀ (c : Nat) (r : Loop), w.heap[c]? = some (Obj.loop r) -> ∃ r' : Loop, (putC w d o).heap[c]? = some (Obj.loop r') := by
 intro c r h
 refine ⟨r, ?_⟩
 rw [putC_heap, if_neg, h]
 rintro ⟨rfl, _⟩
 rw [hh] at h; cases h
theorem putC_same (w : World) (c : Nat) (o : Obj) (h : w.heap[c]? = some o) : putC w c o = w := by
 unfold putC
 have : w.heap.setIfInBounds c o = w.heap := by
  apply Array.ext_getElem?
  intro i
  rw [Array.getElem?_setIfInBounds]
  split
  ·
   rename_i h1; subst h1
   split
   ·
    exact h.symm
   ·
    rename_i h2; rw [Array.getElem?_eq_none (by omega)] at h; cases h
  ·
   rfl
 rw [this]
theorem putC_putC (w : World) (c : Nat) (o o' : Obj) : putC (putC w c o) c o' = putC w c o' := by
 unfold putC; simp
theorem cell_at {w : World} {c off : Nat} {arr : Array Value} {e : TypeId} {fz : Nat × Nat} (h : w.heap[c]? = some (.cells arr e fz)) : w.cell? ⟨c, off, none⟩ = arr[off]? := by
 simp [World.cell?, h]
theorem frozen_at {w : World} {c off : Nat} {arr : Array Value} {e : TypeId} {fz : Nat × Nat} (h : w.heap[c]? = some (.cells arr e fz)) (hf : FzOk fz arr.size) (ho : off < arr.size) : w.frozen? ⟨c, off, none⟩ = false := by
 obtain ⟨lo, hi⟩ := fz
 simp only [World.frozen?, h]
 unfold FzOk at hf
 simp only at hf
 rcases hf with hf | hf
 ·
  simp; omega
 ·
  simp; omega
theorem setCell_put {w : World} {c off : Nat} {arr : Array Value} {e : TypeId} {fz : Nat × Nat} (h : w.heap[c]? = some (.cells arr e fz)) (v : Value) :
 w.setCell ⟨c, off, none⟩ v = putC w c (.cells (arr.setIfInBounds off v) e fz) := by
 unfold World.setCell putC
 congr 1
 obtain ⟨hlt, hk⟩ := Array.getElem?_eq_some_iff.1 h
 apply Array.ext_getElem?
 intro i
 rw [Array.getElem?_modify, Array.getElem?_setIfInBounds]
 by_cases hi : c = i
 ·
  subst hi; simp [hlt, hk]
 ·
  simp [hi]
theorem store_run {w : World} {c off : Nat} {arr : Array Value} {e : TypeId} {fz : Nat × Nat} (h : w.heap[c]? = some (.cells arr e fz)) (hf : FzOk fz arr.size) (ho : off < arr.size) {v : Value} (hv : v.oneCell' = true) :
 (store ⟨c, off, none⟩ v).run P w = .ok () (putC w c (.cells (arr.setIfInBounds off v) e fz)) := by
 rw [run_store P w _ v _ hv, cell_at h]
 rw [Array.getElem?_eq_getElem ho]
 simp only [frozen_at h hf ho, Bool.false_eq_true, if_false]
 rw [setCell_put h]
theorem storeCells_run {c o : Nat} {e : TypeId} {fz : Nat × Nat} : ∀ (vs : List Value) (i : Nat) (arr : Array Value) (w : World), w.heap[c]? = some (.cells arr e fz) -> FzOk fz arr.size -> o + i + vs.length ≤ arr.size -> (∀ v ∈ vs, v.oneCell' = true) ->
 (storeCells ⟨c, o, none⟩ vs i).run P w = .ok () (putC w c (.cells (arr.toList.take (o + i) ++ (vs ++ arr.toList.drop (o + i + vs.length))).toArray e fz))
 | [], i, arr, w, h, _, _, _ => by
  simp only [storeCells, List.nil_append, List.length_nil, Nat.add_zero, List.take_append_drop, Array.toArray_toList]
  rw [putC_same w c _ h]; rfl
 | v :: rest, i, arr, w, h, hf, hl, h1 => by
  simp only [List.length_cons] at hl
  have hst := store_run (P := P) h hf (show o + i < arr.size by omega) (h1 v (by simp))
  have ih := storeCells_run (o := o) rest (i + 1) (arr.setIfInBounds (o + i) v) (putC w c (.cells (arr.setIfInBounds (o + i) v) e fz))
   (by rw [putC_heap, if_pos ⟨rfl, (Array.getElem?_eq_some_iff.1 h).1⟩]) (by simpa using hf) (by simp; omega) (fun x hx => h1 x (by simp [hx]))
  simp only [storeCells, Sem.run_bind, addr_add, hst, Result.andThen_ok, ih, putC_putC]
  congr 3
  have hlen : o + i < arr.toList.length := by simp; omega
  have e1 : (arr.setIfInBounds (o + i) v).toList = arr.toList.set (o + i) v := by simp
  rw [e1, show o + (i + 1) = o + i + 1 from rfl, List.take_set, List.drop_set, if_pos (by omega), List.take_succ_eq_append_getElem hlen]
  have hmin : min (o + i) arr.size = o + i := by omega
  simp only [List.length_cons, List.cons_append]
  rw [List.set_append_right _ _ (by simp; omega)]
  simp [hmin, Nat.add_assoc, Nat.add_comm 1]
theorem loadCells_run {w : World} {c o : Nat} {arr : Array Value} {e : TypeId} {fz : Nat × Nat} (h : w.heap[c]? = some (.cells arr e fz)) (n : Nat) (hn : o + n ≤ arr.size) :
 (loadCells ⟨c, o, none⟩ n).run P w = .ok ((arr.toList.drop o).take n).toArray w := by
 have hl := run_loadCells_list (P := P) w ⟨c, o, none⟩ ((arr.toList.drop o).take n) (fun j v hv => by
  rw [addr_add, cell_at h]
  rw [List.getElem?_take] at hv
  split at hv
  ·
   simpa using hv
  ·
   cases hv)
 have : ((arr.toList.drop o).take n).length = n := by simp; omega
 rwa [this] at hl
theorem loadCells_zero (a : Addr) (w : World) : (loadCells a 0).run P w = .ok #[] w := rfl
theorem HRel.cells {s : Sg} {H : Hp} {w : World} (r : HRel E s H w) {b d : Nat} {q : List AV × TypeId × Bool × Bool} {x : Blk} (hb : H.m.get b = some x) (hq : asCells x = some q) (hd : s.mu b = some d) :
 ∃ arr fz, w.heap[d]? = some (.cells arr q.2.1 fz) /\ CL q.2.2.2 s q.1 (arr.toList.take q.1.length) /\ q.1.length ≤ arr.size /\ FzW q.2.2.2 fz arr.size /\
  (q.2.2.1 = true -> arr.size = q.1.length) /\ (q.2.2.1 = false -> arr.size = s.ka b * s.sz b /\ s.sz b = sizeT E q.2.1) /\ (q.2.2.2 = true -> Jk s (arr.toList.drop q.1.length) /\ (fz.1 = fz.2 ∨ isByteK (kindOf E q.2.1) = true)) := by
 obtain rfl := asCells_some hq
 exact r.blk b _ d hb hd
theorem chkL_some {wr : Bool} {l l' : List AV} (h : chkL wr l = some l') : l = l' /\ (wr = false -> flatL l = true) := by
 cases wr with
 | true => cases h; exact ⟨rfl, fun k => by cases k⟩
 | false =>
  obtain ⟨hf, h⟩ := bc_some (show bc (flatL l) (some l) none = some l' from h)
  cases h; exact ⟨rfl, fun _ => hf⟩
theorem concL_of_all {s : Sg} : ∀ {l : List AV} {vs : List Value}, vs.length = l.length -> (∀ (i : Nat) (v : AV), l[i]? = some v -> ∃ u, vs[i]? = some u /\ conc s v = some u) -> concL s l = some vs
 | [], vs, hl, _ => by
  cases vs with
  | nil => rfl
  | cons => simp at hl
 | x :: l, vs, hl, h => by
  cases vs with
  | nil => simp at hl
  | cons u vs =>
   obtain ⟨u', hu, hc⟩ := h 0 x rfl
   cases (show some u = some u' from hu)
   exact concL_cons.2 ⟨u, vs, hc, concL_of_all (by simpa using hl) (fun i v hv => h (i + 1) v hv), rfl⟩
theorem flatL_get : ∀ {l : List AV} {i : Nat} {v : AV}, flatL l = true -> l[i]? = some v -> oneC v = true
 | x :: l, i, v, hf, h => by
  obtain ⟨h1, h2⟩ : oneC x = true /\ flatL l = true := by
   have hf := show bc (oneC x) (flatL l) false = true from hf
   cases hx : oneC x with
   | true => rw [hx] at hf; exact ⟨rfl, hf⟩
   | false => rw [hx] at hf; cases hf
  cases i with
  | zero => cases h; exact h1
  | succ i => exact flatL_get h2 h
theorem flatL_take : ∀ {l : List AV}, flatL l = true -> ∀ n, flatL (l.take n) = true
 | [], _, n => by cases n <;> rfl
 | x :: l, hf, 0 => rfl
 | x :: l, hf, n + 1 => by
  have hf := show bc (oneC x) (flatL l) false = true from hf
  cases hx : oneC x with
  | true =>
   rw [hx] at hf
   show bc (oneC x) (flatL (l.take n)) false = true
   rw [hx]; exact flatL_take hf n
  | false => rw [hx] at hf; cases hf
theorem CL.window {wr : Bool} {s : Sg} {l r : List AV} {vs : List Value} (h : CL wr s l vs) (off n : Nat) (hk : chkL wr ((l.drop off).take n) = some r) : (l.drop off).take n = r /\ concL s ((l.drop off).take n) = some ((vs.drop off).take n) := by
 obtain ⟨h1, h2⟩ := chkL_some hk
 refine ⟨h1, ?_⟩
 cases wr with
 | true => exact concL_take (concL_drop h off) n
 | false =>
  refine concL_of_all (by simp [h.1]) fun i v hv => ?_
  have ho := flatL_get (h2 rfl) hv
  rw [List.getElem?_take] at hv
  split at hv
  ·
   rename_i hin
   rw [List.getElem?_drop] at hv
   obtain ⟨u, hu, hc⟩ := h.2 _ v hv ho
   exact ⟨u, by rw [List.getElem?_take, if_pos hin, List.getElem?_drop]; exact hu, hc⟩
  ·
   cases hv
theorem cellsAt_pos {H : Hp} {b off n : Nat} (h : n ≠ 0) : cellsAt H b off n = cellsAt' H b off n := by
 unfold cellsAt
 rw [Bool.eq_false_iff.2 fun k => h (Nat.eq_of_beq_eq_true k)]; rfl
theorem cellsAt_zero {H : Hp} {b off : Nat} : cellsAt H b off 0 = some [] := rfl
theorem cellsAt_block {H : Hp} {b off n : Nat} {l old : List AV} {e : TypeId} {x wr : Bool} (hb : H.m.get b = some (.cells l e x wr)) (h : cellsAt H b off n = some old) : n ≤ (l.drop off).length /\ old = (l.drop off).take n := by
 by_cases h0 : n = 0
 ·
  subst h0
  cases h
  exact ⟨Nat.zero_le _, by simp⟩
 ·
  rw [cellsAt_pos h0] at h
  unfold cellsAt' at h
  rw [hb] at h
  obtain ⟨l0, h2, h3⟩ := obind_some (show (takeE n (dropL off l)).obind (chkL wr) = some old from h)
  rw [dropL_eq] at h2
  obtain ⟨hle, rfl⟩ := takeE_some h2
  exact ⟨hle, ((chkL_some h3).1).symm⟩
theorem cellsAt_run {s : Sg} {H : Hp} {w : World} (r : HRel E s H w) {b off n d : Nat} {l : List AV} (h : cellsAt H b off n = some l) (hd : s.mu b = some d) :
 ∃ xs, concL s l = some xs /\ l.length = n /\ (loadCells ⟨d, off, none⟩ n).run P w = .ok xs.toArray w /\ (∀ j v, xs[j]? = some v -> w.cell? ⟨d, off + j, none⟩ = some v) := by
 by_cases h0 : n = 0
 ·
  subst h0
  cases h
  exact ⟨[], rfl, rfl, rfl, fun j v hv => by cases hv⟩
 rw [cellsAt_pos h0] at h
 obtain ⟨x, hx, h1⟩ := obind_some h
 obtain ⟨q, hq, h2⟩ := obind_some h1
 obtain ⟨l0, h2, h3⟩ := obind_some h2
 rw [dropL_eq] at h2
 obtain ⟨hle, rfl⟩ := takeE_some h2
 obtain ⟨arr, fz, hh, hc, hlen, _, _, _⟩ := r.cells hx hq hd
 obtain ⟨rfl, hc2⟩ := CL.window hc off n h3
 rw [List.length_drop] at hle
 have hlen2 : ((q.1.drop off).take n).length = n := by simp; omega
 by_cases hn : n = 0
 ·
  subst hn
  refine ⟨[], by simp [concL], by simp, rfl, fun j v hv => by cases hv⟩
 have e1 : ((arr.toList.take q.1.length).drop off).take n = (arr.toList.drop off).take n := by
  rw [List.drop_take, List.take_take]; congr 1; omega
 rw [e1] at hc2
 refine ⟨_, hc2, hlen2, loadCells_run hh n (by omega), fun j v hv => ?_⟩
 rw [cell_at hh]
 rw [List.getElem?_take] at hv
 split at hv
 ·
  simpa using hv
 ·
  cases hv
theorem cellAt_run {s : Sg} {H : Hp} {w : World} (r : HRel E s H w) {b off d : Nat} {a : AV} (h : cellAt H b off = some a) (hd : s.mu b = some d) :
 ∃ v, conc s a = some v /\ w.cell? ⟨d, off, none⟩ = some v := by
 obtain ⟨x, hx, h1⟩ := obind_some h
 obtain ⟨q, hq, h2⟩ := obind_some h1
 obtain ⟨a', h2, h3⟩ := obind_some h2
 rw [getL_eq] at h2
 obtain ⟨arr, fz, hh, hc, hlen, _, _, _⟩ := r.cells hx hq hd
 obtain ⟨v, hv, hcv⟩ : ∃ v, (arr.toList.take q.1.length)[off]? = some v /\ conc s a = some v := by
  generalize q.2.2.2 = wr at hc h3
  cases wr with
  | true => cases h3; exact concL_get hc h2
  | false =>
   obtain ⟨ho, h3⟩ := bc_some (show bc (oneC a') (some a') none = some a from h3)
   cases h3
   exact hc.2 _ _ h2 ho
 refine ⟨v, hcv, ?_⟩
 rw [cell_at hh]
 rw [List.getElem?_take] at hv
 split at hv
 ·
  simpa using hv
 ·
  cases hv
theorem loadAV_run (hE : EnvTy E P) {s : Sg} {H : Hp} {w : World} (r : HRel E s H w) {t : TypeId} {b off d : Nat} {a : AV} (h : loadAV E H t b off = some a) (hd : s.mu b = some d) :
 ∃ v, conc s a = some v /\ (loadVar t ⟨d, off, none⟩).run P w = .ok v w := by
 unfold loadAV loadC at h
 cases hi : E.ty t with
 | none => rw [hi] at h; cases h
 | some i =>
  rw [hi] at h
  obtain ⟨dd, hdd, ha⟩ := hE.agg hi
  have hs := hE.sizeT hi w
  have hsz : Ev.sizeT E t = i.size := by simp [Ev.sizeT, hi]
  rw [hsz] at hs
  simp only at h
  cases hag : i.agg with
  | true =>
   rw [hag] at h
   obtain ⟨l, hl, rfl⟩ := omap_some (show (cellsAt H b off i.size).omap AV.agg = some a from h)
   obtain ⟨xs, hxs, _, hrun, _⟩ := cellsAt_run (P := P) r hl hd
   refine ⟨.agg xs.toArray, by simp [conc, hxs], ?_⟩
   simp only [loadVar, Sem.run_bind, run_isAgg hdd, Result.andThen_ok]
   rw [<- ha, hag]
   simp [hs, hrun]
  | false =>
   rw [hag] at h
   obtain ⟨v, hv, hcell⟩ := cellAt_run r (show cellAt H b off = some a from h) hd
   refine ⟨v, hv, ?_⟩
   simp only [loadVar, Sem.run_bind, run_isAgg hdd, Result.andThen_ok]
   rw [<- ha, hag]
   simp [hcell]
theorem HRel.put {s : Sg} {H : Hp} {w : World} (r : HRel E s H w) {b d : Nat} {l l' : List AV} {e : TypeId} {x : Bool} {arr arr' : Array Value} {fz : Nat × Nat}
 (hb : H.m.get b = some (.cells l e x true)) (hd : s.mu b = some d) (hh : w.heap[d]? = some (.cells arr e fz)) (hf : FzOk fz arr.size) (hsz : arr'.size = arr.size)
 (hx1 : x = true -> arr.size = l.length) (hx2 : x = false -> arr.size = s.ka b * s.sz b /\ s.sz b = sizeT E e)
 (hl : l'.length = l.length) (hle : l.length ≤ arr.size) (hj : Jk s (arr'.toList.drop l'.length) /\ (fz.1 = fz.2 ∨ isByteK (kindOf E e) = true)) (hc : concL s l' = some (arr'.toList.take l'.length)) :
 HRel E s (setBlk H b (.cells l' e x true)) (putC w d (.cells arr' e fz)) /\ Ext s H w s (setBlk H b (.cells l' e x true)) (putC w d (.cells arr' e fz)) := by
 have hdlt := (Array.getElem?_eq_some_iff.1 hh).1
 have hget : ∀ a, (setBlk H b (.cells l' e x true)).m.get a = if a = b then some (.cells l' e x true) else H.m.get a := fun a => Tr.get_set _ _ _ _
 have hbn : b < H.next := by
  rcases Nat.lt_or_ge b H.next with h | h
  ·
   exact h
  ·
   rw [(r.fr b h).1] at hd; cases hd
 constructor
 ·
  refine ⟨?_, ?_, ?_, ?_⟩
  ·
   intro a y c ha hc'
   rw [hget] at ha
   split at ha
   ·
    rename_i he; subst he
    cases ha
    rw [hd] at hc'; cases hc'
    exact ⟨arr', fz, by rw [putC_heap, if_pos ⟨rfl, hdlt⟩], hc, by omega, by rw [hsz]; exact hf, fun h => by rw [hsz, hx1 h, hl], fun h => by rw [hsz]; exact hx2 h, fun _ => hj⟩
   ·
    rename_i hne
    have hcd : c ≠ d ∨ y = .dead := by
     by_cases hy : isLive y
     ·
      left
      intro e2; subst e2
      exact hne (r.inj b _ a y _ hb rfl ha hy hd hc').symm
     ·
      right
      cases y <;> first | rfl | exact absurd trivial hy
    have h0 := r.blk a y c ha hc'
    rcases hcd with hcd | rfl
    ·
     have hk : (putC w d (.cells arr' e fz)).heap[c]? = w.heap[c]? := by rw [putC_heap, if_neg (fun h => hcd h.1)]
     cases y with
     | cells => obtain ⟨p1, p2, h1, h2⟩ := h0; exact ⟨p1, p2, hk.trans h1, h2⟩
     | loop => obtain ⟨p1, p2, h1, h2⟩ := h0; exact ⟨p1, p2, hk.trans h1, h2⟩
     | dead => trivial
    ·
     trivial
  ·
   intro a y a' y' c ha ho ha' ho' hc1 hc2
   rw [hget] at ha ha'
   have h1 : ∃ z, H.m.get a = some z /\ isOwn z := by
    split at ha
    ·
     rename_i he; subst he; exact ⟨_, hb, rfl⟩
    ·
     exact ⟨y, ha, ho⟩
   have h2 : ∃ z, H.m.get a' = some z /\ isLive z := by
    split at ha'
    ·
     rename_i he; subst he; exact ⟨_, hb, trivial⟩
    ·
     exact ⟨y', ha', ho'⟩
   obtain ⟨z, hz, hzo⟩ := h1
   obtain ⟨z', hz', hzo'⟩ := h2
   exact r.inj a z a' z' c hz hzo hz' hzo' hc1 hc2
  ·
   intro a c hc'; rw [putC_size]; exact r.lt a c hc'
  ·
   intro a ha
   refine ⟨(r.fr a ha).1, ?_⟩
   rw [hget, if_neg (by have : H.next ≤ a := ha; omega)]
   exact (r.fr a ha).2
 ·
  refine ⟨Nat.le_refl _, fun _ _ => ⟨rfl, rfl, rfl⟩, by rw [putC_size]; exact Nat.le_refl _, rfl, rfl, rfl, ?_, ?_, ?_, putC_loops hh _⟩
  ·
   intro c _ hn
   rw [putC_heap, if_neg (fun h => hn b _ hb rfl (by rw [h.1]; exact hd))]
  ·
   intro a y c ha ho hc' _
   rw [hget] at ha
   split at ha
   ·
    rename_i he; subst he; exact ⟨_, _, hb, rfl, hc'⟩
   ·
    exact ⟨a, y, ha, ho, hc'⟩
  ·
   intro a y c ha ho hc' _
   rw [hget] at ha
   split at ha
   ·
    rename_i he; subst he; exact ⟨_, _, hb, trivial, hc'⟩
   ·
    exact ⟨a, y, ha, ho, hc'⟩
end Go.Ev
namespace Go.Ev
variable {P : Program} {E : Env}
theorem oneC_conc {s : Sg} {a : AV} {v : Value} (h : oneC a = true) (hc : conc s a = some v) : v.oneCell' = true := by
 cases a with
 | agg l => cases h
 | tuple l => cases h
 | ptr b o => obtain ⟨_, _, rfl⟩ := conc_ptr hc; rfl
 | slice b o n c => obtain ⟨_, _, _, rfl, _⟩ := conc_slice hc; rfl
 | func f a c => obtain ⟨_, _, _, _, rfl⟩ := conc_func hc; rfl
 | yield l => obtain ⟨d, _, rfl⟩ := map_some (show (s.mu l).map _ = some v from hc); rfl
 | iface t x => simp only [conc] at hc; obtain ⟨y, _, rfl⟩ := map_some hc; rfl
 | lst _ _ => cases hc
 | ept _ _ => cases hc
 | _ => cases hc; rfl
theorem flatL_cons (x : AV) (l : List AV) : flatL (x :: l) = bc (oneC x) (flatL l) false := rfl
theorem flatL_conc {s : Sg} : ∀ {l : List AV} {vs : List Value}, flatL l = true -> concL s l = some vs -> ∀ v ∈ vs, v.oneCell' = true
 | [], vs, _, h, v, hv => by cases h; cases hv
 | x :: l, vs, hf, h, v, hv => by
  rw [flatL_cons] at hf
  obtain ⟨y, r, hy, hr, rfl⟩ := concL_cons.1 h
  cases ho : oneC x with
  | false => rw [ho] at hf; cases hf
  | true =>
   rw [ho] at hf
   rcases List.mem_cons.1 hv with rfl | hv
   ·
    exact oneC_conc ho hy
   ·
    exact flatL_conc hf hr v hv
theorem putCells_some {H H' : Hp} {b off : Nat} {new : List AV} (h : putCells H b off new = some H') :
 ∃ l e x l', H.m.get b = some (.cells l e x true) /\ flatL new = true /\ setE new off l = some l' /\ H' = setBlk H b (.cells l' e x true) := by
 obtain ⟨y, hy, h1⟩ := obind_some h
 obtain ⟨q, hq, h2⟩ := obind_some h1
 obtain rfl := asCells_some hq
 unfold putIn at h2
 obtain ⟨hw, h3⟩ := bc_some h2
 obtain ⟨hf, h4⟩ := bc_some h3
 obtain ⟨l', hl, rfl⟩ := omap_some h4
 obtain ⟨l, e, x, w⟩ := q
 simp only at hw; subst hw
 exact ⟨l, e, x, l', hy, hf, hl, rfl⟩
theorem take_three (a b c : List Value) (n : Nat) (h : a.length + b.length ≤ n) : (a ++ (b ++ c)).take n = a ++ (b ++ c.take (n - (a.length + b.length))) := by
 rw [<- List.append_assoc, List.take_append, List.take_of_length_le (l := a ++ b) (by simp; omega)]
 simp [List.append_assoc]
theorem drop_three (a v : List Value) (o n : Nat) (h : o + v.length ≤ n) (ho : o ≤ a.length) : (a.take o ++ (v ++ a.drop (o + v.length))).drop n = a.drop n := by
 have h1 : (a.take o ++ (v ++ a.drop (o + v.length))) = ((a.take o ++ v) ++ a.drop (o + v.length)) := by simp
 have h2 : (a.take o ++ v).length = o + v.length := by simp; omega
 rw [h1, List.drop_append, List.drop_eq_nil_of_le (by omega), List.nil_append, List.drop_drop, h2]
 congr 1; omega
theorem putCells_run {s : Sg} {H H' : Hp} {w : World} (r : HRel E s H w) {b off d : Nat} {new : List AV} {vs : List Value} (h : putCells H b off new = some H') (hd : s.mu b = some d) (hv : concL s new = some vs) :
 ∃ w', (storeCells ⟨d, off, none⟩ vs).run P w = .ok () w' /\ HRel E s H' w' /\ Ext s H w s H' w' := by
 obtain ⟨l, e, x, l', hb, hf, hs, rfl⟩ := putCells_some h
 obtain ⟨arr, fz, hh, hc, hlen, hfz, hx1, hx2, hj⟩ := r.blk b _ d hb hd
 obtain ⟨hle, hcl⟩ := concL_setE hs hv hc
 have hl' := setE_some hs
 have hvl := concL_length hv
 have hll : l'.length = l.length := by rw [hl'.2]; simp; omega
 have htk : (arr.toList.take l.length).length = l.length := by simp; omega
 rw [htk] at hle
 refine ⟨_, storeCells_run (P := P) vs 0 arr w hh hfz (by omega) (flatL_conc hf hv), ?_⟩
 have hsz : (arr.toList.take (off + 0) ++ (vs ++ arr.toList.drop (off + 0 + vs.length))).toArray.size = arr.size := by simp; omega
 refine HRel.put r hb hd hh hfz hsz hx1 hx2 hll hlen (by
  have := drop_three arr.toList vs off l.length (by omega) (by simp; omega)
  rw [hll]
  simp only [Nat.add_zero]
  rw [this]
  exact hj rfl) ?_
 rw [hcl, hll]
 congr 1
 simp only [Nat.add_zero]
 rw [List.take_take, Nat.min_eq_left (by omega)]
 have t1 : (arr.toList.take off).length = off := by simp; omega
 have e1 := take_three (arr.toList.take off) vs (arr.toList.drop (off + vs.length)) l.length (by rw [t1]; exact hle)
 rw [e1, t1, List.drop_take]
/-! A new block. -/
def addB (s : Sg) (id c ka sz : Nat) : Sg := { mu := fun a => if a = id then some c else s.mu a, ka := fun a => if a = id then ka else s.ka a, sz := fun a => if a = id then sz else s.sz a }
theorem addB_mu (s : Sg) (id c ka sz : Nat) : (addB s id c ka sz).mu id = some c := by simp [addB]
theorem addB_le {s : Sg} {id c ka sz : Nat} (h : s.mu id = none) : s.Le (addB s id c ka sz) := by
 intro a d hd
 have : a ≠ id := fun e => by rw [e, h] at hd; cases hd
 simp [addB, this, hd]
def pushW (w : World) (o : Obj) : World := { w with heap := w.heap.push o }
theorem pushW_old (w : World) (o : Obj) (k : Nat) (h : k < w.heap.size) : (pushW w o).heap[k]? = w.heap[k]? := by
 unfold pushW; simp [Array.getElem?_push, Nat.ne_of_lt h]
theorem pushW_new (w : World) (o : Obj) : (pushW w o).heap[w.heap.size]? = some o := by unfold pushW; simp
theorem HRel.lay {s : Sg} {H : Hp} {w : World} (r : HRel E s H w) {id ka sz : Nat} {x : Blk} {o : Obj} (hm : s.mu id = none) (hb : ∀ y, H.m.get id = some y -> y = x) (hn : id < (setBlk H id x).next)
 (hx : BlkOk E (addB s id w.heap.size ka sz) id w.heap.size (pushW w o) x) : HRel E (addB s id w.heap.size ka sz) (setBlk H id x) (pushW w o) := by
 have hle : s.Le (addB s id w.heap.size ka sz) := addB_le hm
 have hget : ∀ a, (setBlk H id x).m.get a = if a = id then some x else H.m.get a := fun a => Tr.get_set _ _ _ _
 refine ⟨?_, ?_, ?_, ?_⟩
 ·
  intro a y c ha hc
  rw [hget] at ha
  split at ha
  ·
   rename_i he; subst he
   cases ha
   simp only [addB_mu, Option.some.injEq] at hc
   subst hc
   exact hx
  ·
   rename_i hne
   have hc' : s.mu a = some c := by simpa [addB, hne] using hc
   have hlt := r.lt a c hc'
   have h0 := r.blk a y c ha hc'
   cases y with
   | cells l e ex wr =>
    obtain ⟨arr, fz, h1, h2, h3, h4, h5, h6, h7⟩ := h0
    exact ⟨arr, fz, (pushW_old w o c hlt).trans h1, h2.mono hle, h3, h4, h5, by simpa [addB, hne] using h6, h7⟩
   | loop =>
    obtain ⟨ct, D, h1, h2, h3⟩ := h0
    exact ⟨ct, D, (pushW_old w o c hlt).trans h1, h2.mono hle, h3⟩
   | dead => trivial
 ·
  intro a y a' y' c ha ho ha' ho' hc hc'
  rw [hget] at ha ha'
  by_cases e1 : a = id
  ·
   by_cases e2 : a' = id
   ·
    rw [e1, e2]
   ·
    subst e1
    simp only [addB_mu, Option.some.injEq] at hc
    have h2 : s.mu a' = some c := by simpa [addB, e2] using hc'
    have := r.lt a' c h2
    omega
  ·
   by_cases e2 : a' = id
   ·
    subst e2
    simp only [addB_mu, Option.some.injEq] at hc'
    have h2 : s.mu a = some c := by simpa [addB, e1] using hc
    have := r.lt a c h2
    omega
   ·
    rw [if_neg e1] at ha
    rw [if_neg e2] at ha'
    exact r.inj a y a' y' c ha ho ha' ho' (by simpa [addB, e1] using hc) (by simpa [addB, e2] using hc')
 ·
  intro a c hc
  by_cases e1 : a = id
  ·
   subst e1
   simp only [addB_mu, Option.some.injEq] at hc
   simp [pushW]; omega
  ·
   have := r.lt a c (by simpa [addB, e1] using hc)
   simp [pushW]; omega
 ·
  intro a ha
  have ha' : H.next ≤ a := ha
  have hne : a ≠ id := by
   have : id < H.next := hn
   omega
  refine ⟨by simpa [addB, hne] using (r.fr a ha').1, ?_⟩
  rw [hget, if_neg hne]; exact (r.fr a ha').2
theorem HRel.new {s : Sg} {H : Hp} {w : World} (r : HRel E s H w) {ka sz : Nat} {x : Blk} {o : Obj}
 (hx : BlkOk E (addB s H.next w.heap.size ka sz) H.next w.heap.size (pushW w o) x) :
 HRel E (addB s H.next w.heap.size ka sz) (newBlk H x).2 (pushW w o) /\ Ext s H w (addB s H.next w.heap.size ka sz) (newBlk H x).2 (pushW w o) := by
 have r' : HRel E s { H with next := H.next + 1 } w := ⟨r.blk, r.inj, r.lt, fun a ha => r.fr a (by have : H.next + 1 ≤ a := ha; omega)⟩
 have hfr := r.fr H.next (Nat.le_refl _)
 have hlay := r'.lay (id := H.next) (ka := ka) (sz := sz) (x := x) (o := o) hfr.1 (fun y hy => by rw [show ({ H with next := H.next + 1 } : Hp).m.get H.next = H.m.get H.next from rfl, hfr.2] at hy; cases hy) (Nat.lt_succ_self _) hx
 refine ⟨hlay, ?_⟩
 refine ⟨Nat.le_succ _, ?_, by simp [pushW], rfl, rfl, rfl, fun c hc _ => pushW_old w o c hc, ?_, ?_, fun c r h => ⟨r, (pushW_old w o c (Array.getElem?_eq_some_iff.1 h).1).trans h⟩⟩
 ·
  intro a ha
  have hne : a ≠ H.next := by omega
  simp [addB, hne]
 ·
  intro a y c ha ho hc hlt
  have hget : (newBlk H x).2.m.get a = if a = H.next then some x else H.m.get a := Tr.get_set _ _ _ _
  rw [hget] at ha
  by_cases e1 : a = H.next
  ·
   subst e1
   simp only [addB_mu, Option.some.injEq] at hc
   omega
  ·
   rw [if_neg e1] at ha
   exact ⟨a, y, ha, ho, by simpa [addB, e1] using hc⟩
 ·
  intro a y c ha ho hc hlt
  have hget : (newBlk H x).2.m.get a = if a = H.next then some x else H.m.get a := Tr.get_set _ _ _ _
  rw [hget] at ha
  by_cases e1 : a = H.next
  ·
   subst e1
   simp only [addB_mu, Option.some.injEq] at hc
   omega
  ·
   rw [if_neg e1] at ha
   exact ⟨a, y, ha, ho, by simpa [addB, e1] using hc⟩
end Go.Ev
namespace Go.Ev
variable {P : Program} {E : Env}
theorem HRel.congr {s : Sg} {H : Hp} {w w' : World} (r : HRel E s H w) (h : w'.heap = w.heap) : HRel E s H w' := by
 refine ⟨fun a x c ha hc => ?_, r.inj, fun a c hc => by rw [h]; exact r.lt a c hc, r.fr⟩
 have h0 := r.blk a x c ha hc
 cases x with
 | cells => obtain ⟨p1, p2, h1, h2⟩ := h0; exact ⟨p1, p2, by rw [h]; exact h1, h2⟩
 | loop => obtain ⟨p1, p2, h1, h2⟩ := h0; exact ⟨p1, p2, by rw [h]; exact h1, h2⟩
 | dead => trivial
def drewW (w : World) : World := { w with drawn := w.drawn + 1 }
theorem Ext.drew (s : Sg) (H : Hp) (w : World) : Ext s H w s H (drewW w) :=
 ⟨Nat.le_refl _, fun _ _ => ⟨rfl, rfl, rfl⟩, Nat.le_refl _, rfl, rfl, rfl, fun _ _ _ => rfl, fun a x _ h o m _ => ⟨a, x, h, o, m⟩, fun a x _ h o m _ => ⟨a, x, h, o, m⟩, fun _ r h => ⟨r, h⟩⟩
theorem growBy_le (newLen : Nat) : ∀ (r c : Nat), c ≤ newLen + (newLen + 768) / 4 -> Builtin.growBy newLen r c ≤ newLen + (newLen + 768) / 4
 | 0, c, h => h
 | r + 1, c, h => by
  unfold Builtin.growBy
  split
  ·
   exact h
  ·
   rename_i hlt
   exact growBy_le newLen r _ (by omega)
theorem nextcap_le {need old : Nat} (h : old < need) : Builtin.nextslicecap need old ≤ 2 * need + 200 := by
 unfold Builtin.nextslicecap
 split
 ·
  omega
 ·
  split
  ·
   omega
  ·
   have := growBy_le need 4 old (by omega)
   omega
open Builtin in
def appTail (elem : TypeId) (size : Nat) (s : Value) (base : Option Addr) (sLen sCap : Nat) (zeros : Bool) (n : Nat) (x : Value) (appended : Sem (Array Value)) : Sem Value := do
 let need := sLen + n
 if need ≤ sCap then
  let new <- appended
  if let some a := base then storeCells (a.add (sLen * size)) new.toList
  pure (.slice base need sCap)
 else
  if (need : Int) > IntKind.i64.max /\ (zeros ∨ (<- typeInfo elem).bytes = 0) then runtimePanic (.error "growslice: len out of range")
  if nextslicecap need sCap * (<- typeInfo elem).bytes > 2 ^ 48 then (if zeros then runtimePanic (.error "growslice: len out of range") else do
   if !(<- mayShare size sLen n base x) then mark .noRoom
   unsupported (.resourceLimit "append: a slice or a string whose bytes no memory bears"))
  let newCap <- choose (.appendCap need sCap elem)
  askRoom (newCap * (<- typeInfo elem).bytes)
  let old <- firstCells size sLen s
  let new <- appended
  let rest := zeroCells (<- zeroValue elem).cells (newCap - need)
  pure (.slice (some (<- newRow elem (old ++ new ++ rest))) need newCap)
theorem appTail_room {elem : TypeId} {size : Nat} {s : Value} {a : Addr} {sLen sCap n : Nat} {zeros : Bool} {x : Value} {appended : Sem (Array Value)} {news : List Value} {w w' : World} (h : sLen + n ≤ sCap)
 (hap : appended.run P w = .ok news.toArray w) (hst : (storeCells (a.add (sLen * size)) news).run P w = .ok () w') :
 (appTail elem size s (some a) sLen sCap zeros n x appended).run P w = .ok (.slice (some a) (sLen + n) sCap) w' := by
 simp only [appTail, Sem.run_ite, if_pos h, Sem.run_bind, hap, Result.andThen_ok, hst, Sem.run_pure]
theorem conc_mem : ∀ {l : List AV} {vs : List Value} {v : Value}, (∀ s, concL s l = some vs) -> v ∈ vs -> ∃ a, ∀ s, conc s a = some v
 | [], _, _, h, hv => by cases h ⟨fun _ => none, fun _ => 0, fun _ => 0⟩; cases hv
 | x :: l, _, v, h, hv => by
  obtain ⟨y, r, h1, h2, rfl⟩ := concL_cons.1 (h ⟨fun _ => none, fun _ => 0, fun _ => 0⟩)
  have h3 : ∀ s, conc s x = some y /\ concL s l = some r := fun s => by
   obtain ⟨y', r', k1, k2, e⟩ := concL_cons.1 (h s)
   cases e; exact ⟨k1, k2⟩
  rcases List.mem_cons.1 hv with rfl | hv
  ·
   exact ⟨x, fun s => (h3 s).1⟩
  ·
   exact conc_mem (fun s => (h3 s).2) hv
theorem appTail_grow {elem : TypeId} {size : Nat} {s : Value} {base : Option Addr} {sLen sCap n : Nat} {zeros : Bool} {x : Value} {appended : Sem (Array Value)} {news olds : List Value} {w : World} {i : TI} (hE : EnvTy E P)
 (hi : E.ty elem = some i) (hg : growOk E elem (sLen + n) = true) (h : sCap < sLen + n)
 (hap : ∀ w' : World, w'.heap = w.heap -> appended.run P w' = .ok news.toArray w') (hold : ∀ w' : World, w'.heap = w.heap -> (Builtin.firstCells size sLen s).run P w' = .ok olds.toArray w') :
 ∃ newCap rest, sLen + n ≤ newCap /\ rest.size = (newCap - (sLen + n)) * i.size /\ (∀ s, Jk s rest.toList) /\
  (appTail elem size s base sLen sCap zeros n x appended).run P w = .ok (.slice (some ⟨w.heap.size, 0, none⟩) (sLen + n) newCap) (pushW (drewW w) (.cells ((olds ++ news).toArray ++ rest) elem)) := by
 obtain ⟨j, hj, hsz, hby, hz⟩ := hE.info hi
 unfold growOk at hg
 rw [hi] at hg
 simp only at hg
 cases hzi : i.zero with
 | none => rw [hzi] at hg; cases hg
 | some z =>
  rw [hzi] at hg
  simp only [Bool.and_eq_true, ble_iff, blt_iff] at hg
  obtain ⟨hneed, hbytes, hpos⟩ := hg
  obtain ⟨zv, hzv, hzc, hzl⟩ := hz z hzi
  have hzsz : zv.cells.size = i.size := by
   have h1 := concL_length (concL_cells (hzc ⟨fun _ => none, fun _ => 0, fun _ => 0⟩))
   rw [<- hzl, <- h1]; simp
  have hrun : (appTail elem size s base sLen sCap zeros n x appended).run P w = .ok (.slice (some ⟨w.heap.size, 0, none⟩) (sLen + n) (sLen + n + w.tape w.drawn (.appendCap (sLen + n) sCap elem) % (2 ^ 63 - (sLen + n))))
   (pushW (drewW w) (.cells ((olds ++ news).toArray ++ Builtin.zeroCells zv.cells (sLen + n + w.tape w.drawn (.appendCap (sLen + n) sCap elem) % (2 ^ 63 - (sLen + n)) - (sLen + n))) elem)) := by
   have hmul : Builtin.nextslicecap (sLen + n) sCap * j.bytes ≤ 2 ^ 48 := by
    have h1 := nextcap_le h
    have h2 : Builtin.nextslicecap (sLen + n) sCap * j.bytes ≤ (2 * (sLen + n) + 200) * j.bytes := Nat.mul_le_mul_right _ h1
    have hbytes : (2 * (sLen + n) + 200) * i.bytes ≤ 281474976710656 := hbytes
    rw [<- hby] at hbytes
    exact Nat.le_trans h2 (Nat.le_trans hbytes (by decide))
   have hmax : ¬ ((sLen + n : Nat) : Int) > IntKind.i64.max := by simp [IntKind.max, IntKind.signed, IntKind.bits]; omega
   simp only [appTail, Sem.run_ite, if_neg (show ¬ sLen + n ≤ sCap by omega), Sem.run_bind, run_info hj, Result.andThen_ok]
   rw [if_neg (fun k => hmax k.1)]
   simp only [Sem.run_pure, Result.andThen_ok]
   rw [if_neg (by omega)]
   simp only [Sem.run_pure, Result.andThen_ok, run_choose, Question.forced, Bool.false_eq_true, if_false, Question.cut, run_askRoom]
   have hw : ({ w with drawn := w.drawn + 1 } : World) = drewW w := rfl
   rw [hw]
   simp only [run_info hj, Result.andThen_ok, run_askRoom, hold (drewW w) rfl, hap (drewW w) rfl, run_zero hj hzv, newRow, Sem.run_bind, run_newObj, Sem.run_pure, List.append_toArray]
   rfl
  refine ⟨_, _, Nat.le_add_right _ _, by simp [Builtin.zeroCells, hzsz], fun s => ?_, hrun⟩
  refine Jk.of fun v hv => ?_
  have hcc := fun s => concL_cells (hzc s)
  simp only [Builtin.zeroCells, Array.toList_map, List.mem_map] at hv
  obtain ⟨k, _, rfl⟩ := hv
  have hk : k % zv.cells.size < zv.cells.size := Nat.mod_lt _ (by omega)
  rw [getElem!_pos zv.cells _ hk]
  exact conc_mem hcc (by simp)
end Go.Ev
namespace Go.Ev
variable {P : Program} {E : Env}
theorem HRel.nextlt {s : Sg} {H : Hp} {w : World} (r : HRel E s H w) {b d : Nat} (hd : s.mu b = some d) : b < H.next := by
 rcases Nat.lt_or_ge b H.next with h | h
 ·
  exact h
 ·
  rw [(r.fr b h).1] at hd; cases hd
theorem HRel.kill {s : Sg} {H : Hp} {w : World} (r : HRel E s H w) {b : Nat} (hb : b < H.next) :
 HRel E s (setBlk H b .dead) w /\ Ext s H w s (setBlk H b .dead) w := by
 have hget : ∀ a, (setBlk H b .dead).m.get a = if a = b then some .dead else H.m.get a := fun a => Tr.get_set _ _ _ _
 refine ⟨⟨?_, ?_, r.lt, ?_⟩, ⟨Nat.le_refl _, fun _ _ => ⟨rfl, rfl, rfl⟩, Nat.le_refl _, rfl, rfl, rfl, fun _ _ _ => rfl, ?_, ?_, fun _ r h => ⟨r, h⟩⟩⟩
 ·
  intro a x c ha hc
  rw [hget] at ha
  split at ha
  ·
   cases ha; trivial
  ·
   exact r.blk a x c ha hc
 ·
  intro a x a' x' c ha ho ha' ho' hc hc'
  rw [hget] at ha ha'
  split at ha
  ·
   cases ha; cases ho
  ·
   split at ha'
   ·
    cases ha'; cases ho'
   ·
    exact r.inj a x a' x' c ha ho ha' ho' hc hc'
 ·
  intro a ha
  have ha' : H.next ≤ a := ha
  refine ⟨(r.fr a ha').1, ?_⟩
  rw [hget, if_neg (by omega)]; exact (r.fr a ha').2
 ·
  intro a x c ha ho hc _
  rw [hget] at ha
  split at ha
  ·
   cases ha; cases ho
  ·
   exact ⟨a, x, ha, ho, hc⟩
 ·
  intro a x c ha ho hc _
  rw [hget] at ha
  split at ha
  ·
   cases ha; cases ho
  ·
   exact ⟨a, x, ha, ho, hc⟩
theorem growTo_some {H H' : Hp} {e : TypeId} {need : Nat} {l : List AV} {v : AV} (h : growTo E H e need l = some (v, H')) :
 growOk E e need = true /\ v = .slice H.next 0 need (.rest 0 (sizeT E e) need) /\ H' = (newBlk H (.cells l e false true)).2 := by
 obtain ⟨h1, h2⟩ := bc_some h
 cases h2; exact ⟨h1, rfl, rfl⟩
theorem growOk_ty {e : TypeId} {need : Nat} (h : growOk E e need = true) : ∃ i, E.ty e = some i /\ 0 < i.size := by
 unfold growOk at h
 cases hi : E.ty e with
 | none => rw [hi] at h; cases h
 | some i =>
  rw [hi] at h
  simp only at h
  cases hz : i.zero with
  | none => rw [hz] at h; cases h
  | some z =>
   rw [hz] at h
   simp only [Bool.and_eq_true, ble_iff, blt_iff] at h
   exact ⟨i, rfl, h.2.2⟩
theorem newRel {s : Sg} {H : Hp} {w : World} (r : HRel E s H w) {e : TypeId} {i : TI} (hi : E.ty e = some i) {l : List AV} {xs : List Value} {rest : Array Value} {k n : Nat} (hk : n ≤ k)
 (hl : concL s l = some xs) (hn : l.length = n * i.size) (hr : rest.size = (k - n) * i.size) (hj : ∀ s, Jk s rest.toList) {fz : Nat × Nat} (hfz : FzOk fz (xs.toArray ++ rest).size) (hfb : fz.1 = fz.2) :
 HRel E (addB s H.next w.heap.size k i.size) (newBlk H (.cells l e false true)).2 (pushW w (.cells (xs.toArray ++ rest) e fz)) /\
 Ext s H w (addB s H.next w.heap.size k i.size) (newBlk H (.cells l e false true)).2 (pushW w (.cells (xs.toArray ++ rest) e fz)) := by
 have hxl := concL_length hl
 refine HRel.new r ⟨_, fz, pushW_new _ _, ?_, ?_, hfz, ?_, ?_, fun _ => ?_⟩
 ·
  show concL _ _ = _
  rw [concL_mono (addB_le (r.fr H.next (Nat.le_refl _)).1) _ _ hl]
  congr 1
  simp [<- hxl]
 ·
  simp; omega
 ·
  intro h; cases h
 ·
  intro _
  refine ⟨?_, ?_⟩
  ·
   simp only [Array.size_append, List.size_toArray, hr, hxl, hn, addB, if_pos]
   rw [<- Nat.add_mul]; congr 1; omega
  ·
   simp [addB, sizeT, hi]
 ·
  have := hj (addB s H.next w.heap.size k i.size)
  exact ⟨by simpa [<- hxl] using this, .inl hfb⟩
theorem grow_run (hE : EnvTy E P) {s : Sg} {H H' : Hp} {w : World} (r : HRel E s H w) {e : TypeId} {cs : Value} {base : Option Addr} {sLen sCap n : Nat} {zeros : Bool} {x : Value} {appended : Sem (Array Value)}
 {new old : List AV} {news olds : List Value} {v : AV} {need : Nat} (hneed : need = sLen + n) (h : growTo E H e need (old ++ new) = some (v, H')) (hcap : sCap < sLen + n)
 (hn : concL s new = some news) (ho : concL s old = some olds) (hnl : new.length = n * sizeT E e) (hol : old.length = sLen * sizeT E e)
 (hap : ∀ w' : World, w'.heap = w.heap -> appended.run P w' = .ok news.toArray w') (hold : ∀ w' : World, w'.heap = w.heap -> (Builtin.firstCells (sizeT E e) sLen cs).run P w' = .ok olds.toArray w') :
 ∃ s' w' c, (appTail e (sizeT E e) cs base sLen sCap zeros n x appended).run P w = .ok c w' /\ conc s' v = some c /\ HRel E s' H' w' /\ Ext s H w s' H' w' := by
 subst hneed
 obtain ⟨hg, rfl, rfl⟩ := growTo_some h
 obtain ⟨i, hi, hpos⟩ := growOk_ty hg
 have hsz : sizeT E e = i.size := by simp [sizeT, hi]
 rw [hsz] at hnl hol hold ⊢
 obtain ⟨newCap, rest, hle, hrs, hjk, hrun⟩ := appTail_grow (size := i.size) (zeros := zeros) (base := base) (x := x) hE hi hg hcap hap hold
 have r' : HRel E s H (drewW w) := r.congr rfl
 have hlc : concL s (old ++ new) = some (olds ++ news) := concL_append.2 ⟨_, _, ho, hn, rfl⟩
 obtain ⟨r2, x2⟩ := newRel r' hi (k := newCap) (n := sLen + n) (rest := rest) hle hlc (by rw [List.length_append, hnl, hol, <- Nat.add_mul]) hrs hjk (fz := (0, 0)) (.inl rfl) rfl
 refine ⟨_, _, _, hrun, ?_, r2, (Ext.drew s H w).trans x2⟩
 simp only [conc, sliceC]
 rw [if_pos ⟨Nat.le_refl _, by simp [addB]; omega, by simp, by simp [addB]⟩, addB_mu]
 simp [addB]; rfl
theorem nat_mul_le {a b c : Nat} (h : a * c ≤ b * c) (hc : 0 < c) : a ≤ b := Nat.le_of_mul_le_mul_right h hc
theorem ownRow_some {x : Blk} {p : List AV × TypeId} (h : ownRow x = some p) : x = .cells p.1 p.2 false true := by
 obtain ⟨c, hc, h1⟩ := obind_some h
 obtain rfl := asCells_some hc
 obtain ⟨l, e, ex, wr⟩ := c
 simp only at h1 ⊢
 cases ex with
 | true => cases h1
 | false =>
  obtain ⟨hw, h2⟩ := bc_some (show bc wr (some (l, e)) none = some p from h1)
  cases h2; subst hw; rfl
theorem blk_old {s : Sg} {w w' : World} (hkeep : ∀ c, c < w.heap.size -> w'.heap[c]? = w.heap[c]?) {s' : Sg} (hle : s.Le s') {a c : Nat} (hlt : c < w.heap.size) (hka : s'.ka a = s.ka a) (hsz : s'.sz a = s.sz a) {x : Blk} (h : BlkOk E s a c w x) : BlkOk E s' a c w' x := by
 cases x with
 | cells l e ex wr =>
  obtain ⟨arr, fz, h1, h2, h3, h4, h5, h6, h7⟩ := h
  exact ⟨arr, fz, (hkeep c hlt).trans h1, h2.mono hle, h3, h4, h5, by rw [hka, hsz]; exact h6, h7⟩
 | loop =>
  obtain ⟨ct, D, h1, h2, h3⟩ := h
  exact ⟨ct, D, (hkeep c hlt).trans h1, h2.mono hle, h3⟩
 | dead => trivial
theorem HRel.hand {s : Sg} {H : Hp} {w : World} (r : HRel E s H w) {b d : Nat} {l l' : List AV} {e : TypeId} {arr arr' : Array Value} {fz : Nat × Nat}
 (hb : H.m.get b = some (.cells l e false true)) (hd : s.mu b = some d) (hh : w.heap[d]? = some (.cells arr e fz)) (hf : FzOk fz arr.size) (hsz : arr'.size = arr.size)
 (hx2 : arr.size = s.ka b * s.sz b /\ s.sz b = sizeT E e)
 (hle : l'.length ≤ arr.size) (hj : Jk s (arr'.toList.drop l'.length) /\ (fz.1 = fz.2 ∨ isByteK (kindOf E e) = true)) (hc : concL s l' = some (arr'.toList.take l'.length)) :
 HRel E (addB s H.next d (s.ka b) (s.sz b)) (setBlk (newBlk H (.cells l' e false true)).2 b .dead) (putC w d (.cells arr' e fz)) /\
 Ext s H w (addB s H.next d (s.ka b) (s.sz b)) (setBlk (newBlk H (.cells l' e false true)).2 b .dead) (putC w d (.cells arr' e fz)) := by
 have hdlt := (Array.getElem?_eq_some_iff.1 hh).1
 have hbn := r.nextlt hd
 have hfr := r.fr H.next (Nat.le_refl _)
 have hsl : s.Le (addB s H.next d (s.ka b) (s.sz b)) := addB_le hfr.1
 have hget : ∀ a, (setBlk (newBlk H (.cells l' e false true)).2 b .dead).m.get a = if a = b then some .dead else if a = H.next then some (.cells l' e false true) else H.m.get a := fun a => by
  show ((H.m.set _ H.next).set _ b).get a = _
  rw [Tr.get_set, Tr.get_set]
 have hmu : ∀ a, a ≠ H.next -> (addB s H.next d (s.ka b) (s.sz b)).mu a = s.mu a := fun a h => by simp [addB, h]
 refine ⟨⟨?_, ?_, ?_, ?_⟩, ⟨Nat.le_succ _, ?_, by rw [putC_size]; exact Nat.le_refl _, rfl, rfl, rfl, ?_, ?_, ?_, putC_loops hh _⟩⟩
 ·
  intro a x c ha hc'
  rw [hget] at ha
  split at ha
  ·
   cases ha; trivial
  ·
   rename_i hab
   split at ha
   ·
    rename_i han
    subst han
    cases ha
    rw [addB_mu] at hc'; cases hc'
    refine ⟨arr', fz, by rw [putC_heap, if_pos ⟨rfl, hdlt⟩], concL_mono hsl _ _ hc, by omega, by rw [hsz]; exact hf, fun h => (by cases h), fun _ => ?_, fun _ => hj⟩
    rw [hsz]
    simpa [addB] using hx2
   ·
    rename_i han
    rw [hmu a han] at hc'
    have hcd : x = .dead ∨ c ≠ d := by
     cases x with
     | dead => exact .inl rfl
     | cells l0 e0 x0 w0 => exact .inr fun e2 => hab (by subst e2; exact (r.inj b _ a _ c hb rfl ha trivial hd hc').symm)
     | loop f0 t0 n0 m0 p0 a0 b0 st0 pe0 => exact .inr fun e2 => hab (by subst e2; exact (r.inj b _ a _ c hb rfl ha trivial hd hc').symm)
    rcases hcd with rfl | hcd
    ·
     trivial
    ·
     have h0 := r.blk a x c ha hc'
     have hk : (putC w d (.cells arr' e fz)).heap[c]? = w.heap[c]? := by rw [putC_heap, if_neg (fun h => hcd h.1)]
     have hka : (addB s H.next d (s.ka b) (s.sz b)).ka a = s.ka a := by simp [addB, han]
     have hszz : (addB s H.next d (s.ka b) (s.sz b)).sz a = s.sz a := by simp [addB, han]
     cases x with
     | cells l0 e0 x0 w0 =>
      obtain ⟨p1, p2, h1, h2, h3, h4, h5, h6, h7⟩ := h0
      exact ⟨p1, p2, hk.trans h1, h2.mono hsl, h3, h4, h5, by rw [hka, hszz]; exact h6, h7⟩
     | loop => obtain ⟨p1, p2, h1, h2, h3⟩ := h0; exact ⟨p1, p2, hk.trans h1, h2.mono hsl, h3⟩
     | dead => trivial
 ·
  intro a x a' x' c ha ho ha' ho' hc1 hc2
  rw [hget] at ha ha'
  by_cases h1 : a = b
  ·
   rw [if_pos h1] at ha; cases ha; cases ho
  by_cases h2 : a' = b
  ·
   rw [if_pos h2] at ha'; cases ha'; cases ho'
  rw [if_neg h1] at ha
  rw [if_neg h2] at ha'
  by_cases h3 : a = H.next
  ·
   by_cases h4 : a' = H.next
   ·
    rw [h3, h4]
   ·
    subst h3
    rw [addB_mu] at hc1; cases hc1
    rw [hmu _ h4] at hc2
    rw [if_neg h4] at ha'
    exact absurd (r.inj b _ a' x' _ hb rfl ha' ho' hd hc2).symm h2
  ·
   by_cases h4 : a' = H.next
   ·
    subst h4
    rw [addB_mu] at hc2; cases hc2
    rw [hmu _ h3] at hc1
    rw [if_neg h3] at ha
    exact absurd (r.inj b _ a x _ hb rfl ha (isLive_of_own ho) hd hc1).symm h1
   ·
    rw [hmu _ h3] at hc1
    rw [hmu _ h4] at hc2
    rw [if_neg h3] at ha
    rw [if_neg h4] at ha'
    exact r.inj a x a' x' c ha ho ha' ho' hc1 hc2
 ·
  intro a c hc1
  rw [putC_size]
  by_cases h3 : a = H.next
  ·
   subst h3; rw [addB_mu] at hc1; cases hc1; exact hdlt
  ·
   rw [hmu _ h3] at hc1; exact r.lt a c hc1
 ·
  intro a ha
  have ha' : H.next + 1 ≤ a := ha
  refine ⟨?_, ?_⟩
  ·
   rw [hmu a (by omega)]; exact (r.fr a (by omega)).1
  ·
   rw [hget, if_neg (by omega), if_neg (by omega)]; exact (r.fr a (by omega)).2
 ·
  intro a ha
  simp [addB, show a ≠ H.next by omega]
 ·
  intro c _ hn
  rw [putC_heap, if_neg (fun h => hn b _ hb rfl (by rw [h.1]; exact hd))]
 ·
  intro a x c ha ho hc1 _
  rw [hget] at ha
  split at ha
  ·
   cases ha; cases ho
  ·
   split at ha
   ·
    rename_i h3; subst h3
    rw [addB_mu] at hc1; cases hc1
    exact ⟨b, _, hb, rfl, hd⟩
   ·
    rename_i h3
    rw [hmu _ h3] at hc1
    exact ⟨a, x, ha, ho, hc1⟩
 ·
  intro a x c ha ho hc1 _
  rw [hget] at ha
  split at ha
  ·
   cases ha; cases ho
  ·
   split at ha
   ·
    rename_i h3; subst h3
    rw [addB_mu] at hc1; cases hc1
    exact ⟨b, _, hb, trivial, hd⟩
   ·
    rename_i h3
    rw [hmu _ h3] at hc1
    exact ⟨a, x, ha, ho, hc1⟩
end Go.Ev
namespace Go.Ev
variable {P : Program} {E : Env}
theorem firstCells_some (size n d o : Nat) (k c : Nat) : Builtin.firstCells size n (.slice (some ⟨d, o, none⟩) k c) = loadCells ⟨d, o, none⟩ (n * size) := rfl
theorem isSlice_conc {s : Sg} {sv : AV} {cs : Value} (h : isSliceV sv = true) (hc : conc s sv = some cs) : ∃ base n c, cs = .slice base n c /\ n ≤ c := by
 rcases isSliceV_or hc h with rfl | ⟨b, o, n, c, rfl⟩ | ⟨ad, rfl⟩
 ·
  cases hc; exact ⟨_, _, _, rfl, Nat.le_refl _⟩
 rotate_left
 ·
  cases hc; exact ⟨_, _, _, rfl, Nat.le_refl _⟩
 ·
  cases c with
  | ex c =>
   simp only [conc, sliceC] at hc
   split at hc
   ·
    rename_i hle
    obtain ⟨d, _, rfl⟩ := map_some hc
    exact ⟨_, _, _, rfl, hle⟩
   ·
    cases hc
  | rest e sz lb =>
   simp only [conc, sliceC] at hc
   split at hc
   ·
    rename_i hle
    obtain ⟨d, _, rfl⟩ := map_some hc
    exact ⟨_, _, _, rfl, by omega⟩
   ·
    cases hc
  | tail e l sz z =>
   simp only [conc, sliceC] at hc
   split at hc
   ·
    rename_i hle
    obtain ⟨d, _, rfl⟩ := map_some hc
    exact ⟨_, _, _, rfl, Nat.zero_le _⟩
   ·
    cases hc
theorem isSliceN_conc {s : Sg} {sv : AV} {cs : Value} (h : (isSliceV sv || isNils sv) = true) (hc : conc s sv = some cs) : ∃ base n c, cs = .slice base n c /\ n ≤ c := by
 rcases (Bool.or_eq_true _ _).mp h with h | h
 ·
  exact isSlice_conc h hc
 ·
  rcases isNils_true h with rfl | ⟨ad, rfl⟩ <;> cases hc <;> exact ⟨_, _, _, rfl, Nat.le_refl _⟩
theorem appTail_none {elem : TypeId} {size : Nat} {s : Value} {base : Option Addr} {sLen sCap : Nat} {zeros : Bool} {x : Value} {appended : Sem (Array Value)} {w : World} (h : sLen ≤ sCap)
 (hap : appended.run P w = .ok #[] w) :
 (appTail elem size s base sLen sCap zeros 0 x appended).run P w = .ok (.slice base sLen sCap) w := by
 simp only [appTail, Sem.run_ite, Nat.add_zero, if_pos h, Sem.run_bind, hap, Result.andThen_ok]
 cases base <;> rfl
theorem evAppend_run (hE : EnvTy E P) {s : Sg} {H H' : Hp} {w : World} (r : HRel E s H w) {e : TypeId} {sv : AV} {base : Option Addr} {sLen sCap n : Nat} {zeros : Bool} {x : Value} {appended : Sem (Array Value)}
 {new : List AV} {news : List Value} {v : AV} (h : evAppend E H e sv n new = some (v, H')) (hs : conc s sv = some (.slice base sLen sCap))
 (hn : concL s new = some news) (hnl : new.length = n * sizeT E e)
 (hap : ∀ w' : World, w'.heap = w.heap -> appended.run P w' = .ok news.toArray w') :
 ∃ s' w' c, (appTail e (sizeT E e) (.slice base sLen sCap) base sLen sCap zeros n x appended).run P w = .ok c w' /\ conc s' v = some c /\ HRel E s' H' w' /\ Ext s H w s' H' w' := by
 unfold evAppend at h
 cases hn0 : Nat.beq n 0 with
 | true =>
  rw [hn0] at h
  have hn0' : n = 0 := by simpa using hn0
  subst hn0'
  obtain ⟨h1, h2⟩ := bc_some (show bc (isSliceV sv || isNils sv) (some (sv, H)) none = some (v, H') by have h := show bc (isSliceV sv || isNils sv) (some (sv, H)) ((asLst sv).omap fun _ => (sv, H)) = some (v, H') from h; rw [no_lst hs] at h; exact h)
  cases h2
  obtain ⟨_, _, _, he, hle⟩ := isSliceN_conc h1 hs
  cases he
  have hnil : new = [] := List.eq_nil_of_length_eq_zero (by simpa using hnl)
  subst hnil
  cases hn
  exact ⟨s, w, _, appTail_none hle (by simpa using hap w rfl), hs, r, Ext.refl s H w⟩
 | false =>
  rw [hn0] at h
  have hpos : 0 < n := by
   rcases Nat.eq_zero_or_pos n with h0 | h0
   ·
    subst h0; cases hn0
   ·
    exact h0
  have h := show oe (asSlice sv) (bc (isNils sv) (growTo E H e n new) ((asLst sv).obind fun q => bc (Nat.beq q.1 0) (growTo E H e n new) none)) (fun q => appCap q.2.2.2 E H e q.1 q.2.1 q.2.2.1 n new) = some (v, H') from h
  rw [no_lst hs] at h
  have h := show oe (asSlice sv) (bc (isNils sv) (growTo E H e n new) none) (fun q => appCap q.2.2.2 E H e q.1 q.2.1 q.2.2.1 n new) = some (v, H') from h
  cases hq : asSlice sv with
  | none =>
   rw [hq] at h
   obtain ⟨h1, h2⟩ := bc_some (show bc (isNils sv) (growTo E H e n new) none = some (v, H') from h)
   rcases isNils_true h1 with rfl | ⟨ad, rfl⟩ <;> cases hs
   rotate_left
   ·
    exact grow_run hE r (old := []) (olds := []) (by omega) h2 (by omega) hn rfl hnl (by simp) hap (fun w' _ => by show (loadCells ad (0 * sizeT E e)).run P w' = _; rw [Nat.zero_mul]; exact loadCells_zero ad w')
   exact grow_run hE r (old := []) (olds := []) (by omega) h2 (by omega) hn rfl hnl (by simp) hap (fun w' _ => rfl)
  | some q =>
   rw [hq] at h
   obtain rfl := asSlice_some hq
   obtain ⟨b, off, len, cap⟩ := q
   simp only at hs
   have h := show appCap cap E H e b off len n new = some (v, H') from h
   cases cap with
   | ex c =>
    simp only [conc, sliceC] at hs
    split at hs
    ·
     rename_i hle
     obtain ⟨d, hd, hdv⟩ := map_some hs
     obtain ⟨rfl, rfl, rfl⟩ := Value.slice.inj hdv
     have h := show bc (Nat.ble (len + n) c) ((putCells H b (off + len * sizeT E e) new).omap fun H' => (AV.slice b off (len + n) (.ex c), H')) ((cellsAt H b off (len * sizeT E e)).obind fun old => growTo E H e (len + n) (appL old new)) = some (v, H') from h
     cases hb : Nat.ble (len + n) c with
     | true =>
      rw [hb] at h
      have hb' := ble_iff.1 hb
      obtain ⟨H2, hp, he⟩ := omap_some h
      cases he
      obtain ⟨w', hst, r', x'⟩ := putCells_run (P := P) r hp hd hn
      refine ⟨s, w', _, appTail_room hb' (by simpa using hap w rfl) (by rw [addr_add]; exact hst), ?_, r', x'⟩
      simp only [conc, sliceC]; rw [if_pos hb', hd]; rfl
     | false =>
      rw [hb] at h
      have hb' : ¬ len + n ≤ c := fun k => by rw [ble_iff.2 k] at hb; cases hb
      obtain ⟨old, ho, hg⟩ := obind_some h
      rw [appL_eq] at hg
      obtain ⟨xs, hxs, hol, hrun, _⟩ := cellsAt_run (P := P) r ho hd
      exact grow_run hE r (old := old) (olds := xs) rfl hg (by omega) hn hxs hnl hol hap (fun w' hw' => by
       obtain ⟨xs', hxs', _, hrun', _⟩ := cellsAt_run (P := P) (r.congr hw') ho hd
       rw [hxs] at hxs'; cases hxs'
       exact hrun')
    ·
     cases hs
   | rest eo sz lb =>
    simp only [conc, sliceC] at hs
    split at hs
    ·
     rename_i hle
     obtain ⟨d, hd, hdv⟩ := map_some hs
     obtain ⟨rfl, rfl, rfl⟩ := Value.slice.inj hdv
     obtain ⟨rw_, hrw, h⟩ := obind_some h
     obtain ⟨y, hy, hrw2⟩ := obind_some hrw
     obtain rfl := ownRow_some hrw2
     obtain ⟨hc1, hB⟩ := bc_some h
     obtain ⟨he, hc1⟩ := and_true' hc1
     obtain ⟨hpz, hszz⟩ := and_true' hc1
     have he' : e = rw_.2 := Nat.eq_of_beq_eq_true he
     have hpz' : 0 < sizeT E e := (blt_iff _ _).1 hpz
     have hszz' : sz = sizeT E e := Nat.eq_of_beq_eq_true hszz
     obtain ⟨l, e2⟩ := rw_
     simp only at he' hy hB
     subst he'
     subst hszz'
     obtain ⟨arr, fz, hh, hc, hlen, hfz, hx1, hx2, hjk⟩ := r.blk b _ d hy hd
     have hx2' := hx2 rfl
     cases hb : Nat.ble (off + (len + n) * sizeT E e) (lenL l) with
     | true =>
      have h := show bc (Nat.ble (off + (len + n) * sizeT E e) (lenL l)) ((putCells H b (off + len * sizeT E e) new).omap fun H' => (AV.slice b off (len + n) (.rest eo (sizeT E e) (bc (Nat.ble lb (len + n)) (len + n) lb)), H'))
       (bc (Nat.beq off 0 && flatL new) ((cellsAt H b off (len * sizeT E e)).obind fun old => (growTo E H e (len + n) (appL old new)).omap fun p => (p.1, setBlk p.2 b .dead)) none) = some (v, H') from hB
      rw [hb] at h
      have hb' := ble_iff.1 hb
      rw [lenL_eq] at hb'
      obtain ⟨H2, hp, hee⟩ := omap_some h
      cases hee
      have hfit : eo + (len + n) ≤ s.ka b := by
       refine nat_mul_le (c := sizeT E e) ?_ hpz'
       have h1 := hx2'.1
       rw [hx2'.2] at h1
       rw [Nat.add_mul, <- hle.2.2.1]
       omega
      obtain ⟨w', hst, r', x'⟩ := putCells_run (P := P) r hp hd hn
      refine ⟨s, w', _, appTail_room (by omega) (by simpa using hap w rfl) (by rw [addr_add]; exact hst), ?_, r', x'⟩
      simp only [conc, sliceC]
      have hlb : (bc (Nat.ble lb (len + n)) (len + n) lb) = max lb (len + n) := by
       cases hx : Nat.ble lb (len + n) with
       | true => have := ble_iff.1 hx; simp; omega
       | false =>
        have : ¬ lb ≤ len + n := fun k => by rw [ble_iff.2 k] at hx; cases hx
        simp; omega
      rw [hlb, if_pos ⟨by omega, by omega, hle.2.2.1, hle.2.2.2⟩, hd]; rfl
     | false =>
      have h := show bc (Nat.ble (off + (len + n) * sizeT E e) (lenL l)) ((putCells H b (off + len * sizeT E e) new).omap fun H' => (AV.slice b off (len + n) (.rest eo (sizeT E e) (bc (Nat.ble lb (len + n)) (len + n) lb)), H'))
       (bc (Nat.beq off 0 && flatL new) ((cellsAt H b off (len * sizeT E e)).obind fun old => (growTo E H e (len + n) (appL old new)).omap fun p => (p.1, setBlk p.2 b .dead)) none) = some (v, H') from hB
      rw [hb] at h
      obtain ⟨hof, h⟩ := bc_some h
      obtain ⟨hof, hfl⟩ := and_true' hof
      obtain ⟨old, ho, h⟩ := obind_some h
      obtain ⟨pp, hg, hee⟩ := omap_some h
      cases hee
      rw [appL_eq] at hg
      have hof' : off = 0 := Nat.eq_of_beq_eq_true hof
      subst hof'
      have heo : eo = 0 := by
       rcases Nat.mul_eq_zero.1 hle.2.2.1.symm with h0 | h0
       ·
        exact h0
       ·
        omega
      subst heo
      obtain ⟨v2, H2⟩ := pp
      obtain ⟨hgok, rfl, rfl⟩ := growTo_some hg
      obtain ⟨xs, hxs, hol, hrun, _⟩ := cellsAt_run (P := P) r ho hd
      by_cases hroom : len + n ≤ s.ka b - 0
      ·
       -- in place
       have hvl := concL_length hn
       have hxl := concL_length hxs
       obtain ⟨hle1, rfl⟩ := cellsAt_block hy ho
       simp only [List.drop_zero] at hle1 hxs hol
       have hsize : arr.size = s.ka b * sizeT E e := by rw [hx2'.1, hx2'.2]
       have hmul : (len + n) * sizeT E e ≤ s.ka b * sizeT E e := Nat.mul_le_mul_right _ (by omega)
       rw [Nat.add_mul] at hmul
       have hstore := storeCells_run (P := P) (c := d) (o := 0 + len * sizeT E e) news 0 arr w hh hfz (by rw [hvl, hnl]; omega) (flatL_conc hfl hn)
       have hrun2 := appTail_room (P := P) (elem := e) (size := sizeT E e) (s := .slice (some ⟨d, 0, none⟩) len (s.ka b - 0)) (a := ⟨d, 0, none⟩) (zeros := zeros) (x := x) (appended := appended) (news := news) hroom (by simpa using hap w rfl) (by rw [addr_add]; exact hstore)
       have hxs' : xs = arr.toList.take (len * sizeT E e) := by
        have h1 := concL_take hc (len * sizeT E e)
        rw [hxs] at h1
        cases h1
        rw [List.take_take, Nat.min_eq_left hle1]
       have hhand := HRel.hand r (l' := l.take (len * sizeT E e) ++ new) (arr' := (arr.toList.take (0 + len * sizeT E e + 0) ++ (news ++ arr.toList.drop (0 + len * sizeT E e + 0 + news.length))).toArray) hy hd hh hfz
        (by simp; omega) hx2' (by rw [List.length_append, hol, hnl]; omega)
        (by
         refine ⟨?_, (hjk rfl).2⟩
         have h1 := drop_three arr.toList news (len * sizeT E e) (len * sizeT E e + n * sizeT E e) (by rw [hvl, hnl]; exact Nat.le_refl _) (by simp; omega)
         rw [List.length_append, hol, hnl]
         simp only [Nat.zero_add, Nat.add_zero]
         rw [h1]
         have h2 := (hjk rfl).1.drop (len * sizeT E e + n * sizeT E e - l.length)
         have hb0 : ¬ (0 + (len + n) * sizeT E e) ≤ lenL l := fun k => by rw [ble_iff.2 k] at hb; cases hb
         rw [lenL_eq, Nat.zero_add, Nat.add_mul] at hb0
         rw [List.drop_drop] at h2
         have e1 : l.length + (len * sizeT E e + n * sizeT E e - l.length) = len * sizeT E e + n * sizeT E e := by omega
         rw [e1] at h2
         exact h2)
        (by
         rw [concL_append.2 ⟨_, _, hxs, hn, rfl⟩]
         congr 1
         simp only [Nat.zero_add, Nat.add_zero, List.length_append, hol, hnl]
         rw [<- List.append_assoc, List.take_append_of_le_length (by simp; omega), List.take_of_length_le (by simp; omega), hxs'])
       refine ⟨_, _, _, hrun2, ?_, hhand.1, hhand.2⟩
       simp only [conc, sliceC]
       rw [if_pos ⟨Nat.le_refl _, by simp [addB]; omega, by simp, by simp [addB]; exact hle.2.2.2⟩, addB_mu]
       simp [addB]
      ·
       obtain ⟨s', w', c, hr1, hc1, r1, x1⟩ := grow_run hE r (cs := .slice (some ⟨d, 0, none⟩) len (s.ka b - 0)) (base := some ⟨d, 0, none⟩) (sCap := s.ka b - 0) (zeros := zeros) (x := x) (appended := appended) (old := old) (olds := xs) rfl hg (by omega) hn hxs hnl hol hap (fun w' hw' => by
        obtain ⟨xs', hxs', _, hrun', _⟩ := cellsAt_run (P := P) (r.congr hw') ho hd
        rw [hxs] at hxs'; cases hxs'
        exact hrun')
       obtain ⟨r2, x2⟩ := r1.kill (b := b) (Nat.lt_of_lt_of_le (r.nextlt hd) x1.nx)
       exact ⟨s', w', c, hr1, hc1, r2, x1.trans x2⟩
    ·
     cases hs
   | tail eo k sz z =>
    simp only [conc, sliceC] at hs
    split at hs
    ·
     rename_i hle
     obtain ⟨d, hd, hdv⟩ := map_some hs
     obtain ⟨hc1, hB⟩ := bc_some (show bc (z && Nat.beq len 0) (growTo E H e n new) none = some (v, H') from h)
     obtain ⟨hz, hl0⟩ := and_true' hc1
     subst hz
     obtain ⟨rfl, rfl, rfl⟩ := Value.slice.inj hdv
     exact grow_run hE r (old := []) (olds := []) (need := n) (by omega) hB (by simp; omega) hn rfl hnl (by simp) hap (fun w' _ => by rw [firstCells_some]; simp [loadCells_zero])
    ·
     cases hs
end Go.Ev
namespace Go.Ev
variable {P : Program} {E : Env}
theorem repL_eq (n : Nat) (l : List AV) : repL n l = (List.replicate n l).flatten := by
 induction n with
 | zero => rfl
 | succ n ih =>
  have h : repL (n + 1) l = appL l (repL n l) := rfl
  rw [h, appL_eq, ih, List.replicate_succ, List.flatten_cons]
theorem concL_rep {s : Sg} {l : List AV} {xs : List Value} (h : concL s l = some xs) (n : Nat) : concL s (repL n l) = some (List.replicate n xs).flatten := by
 rw [repL_eq]
 induction n with
 | zero => rfl
 | succ n ih =>
  rw [List.replicate_succ, List.flatten_cons, List.replicate_succ, List.flatten_cons]
  exact concL_append.2 ⟨_, _, h, ih, rfl⟩
theorem length_rep {α : Type} (l : List α) (n : Nat) : (List.replicate n l).flatten.length = n * l.length := by
 induction n with
 | zero => simp
 | succ n ih => rw [List.replicate_succ, List.flatten_cons, List.length_append, ih, Nat.add_mul]; omega
theorem range_cells (z : Array Value) (n : Nat) : ((Array.range (n * z.size)).map fun i => z[i % z.size]!) = (List.replicate n z.toList).flatten.toArray := by
 apply Array.toList_inj.1
 simp only [Array.toList_map, Array.toList_range]
 induction n with
 | zero => simp
 | succ n ih =>
  rw [Nat.add_mul, Nat.one_mul, List.range_add, List.map_append, ih, List.replicate_succ', List.flatten_append, List.map_map]
  simp only [List.flatten_cons, List.flatten_nil, List.append_nil]
  congr 1
  apply List.ext_getElem
  ·
   simp
  ·
   intro i h1 h2
   simp only [List.length_map, List.length_range] at h1
   have : (n * z.size + i) % z.size = i := by
    rw [Nat.add_comm, Nat.add_mul_mod_self_right]; exact Nat.mod_eq_of_lt h1
   simp [this, h1]
theorem zeroCells_eq (z : Array Value) (n : Nat) : Builtin.zeroCells z n = (List.replicate n z.toList).flatten.toArray := range_cells z n
theorem zeroT_some (hE : EnvTy E P) {e : TypeId} {z : AV} (h : zeroT E e = some z) : ∃ i j zv, E.ty e = some i /\ P.info? e = some j /\ j.size = i.size /\ j.bytes = i.bytes /\ j.zero = some zv /\
 (∀ s, concL s z.cells = some zv.cells.toList) /\ z.cells.length = i.size /\ zv.cells.size = i.size := by
 obtain ⟨i, hi, hz⟩ := obind_some h
 obtain ⟨j, hj, hsz, hby, hzz⟩ := hE.info hi
 obtain ⟨zv, hzv, hzc, hzl⟩ := hzz z hz
 refine ⟨i, j, zv, hi, hj, hsz, hby, hzv, fun s => concL_cells (hzc s), hzl, ?_⟩
 have h1 := concL_length (concL_cells (hzc ⟨fun _ => none, fun _ => 0, fun _ => 0⟩))
 rw [<- hzl, <- h1]; simp
theorem bytes_conc {s : Sg} : ∀ b : List UInt8, concL s (b.map fun c => .int .u8 (.ofNat c.toNat)) = some (b.map fun c => .int .u8 c.toNat)
 | [] => rfl
 | c :: b => concL_cons.2 ⟨_, _, rfl, bytes_conc b, rfl⟩
theorem srcCells_run {s : Sg} {H : Hp} {w : World} (r : HRel E s H w) {e : TypeId} {x : AV} {cx : Value} {n : Nat} {l : List AV} (h : srcCells E H e x = some (n, l)) (hx : conc s x = some cx) :
 (Builtin.lenOf cx = pure n) /\ l.length = n * sizeT E e /\ ∃ xs, concL s l = some xs /\ ∀ m w', m ≤ n -> w'.heap = w.heap -> (Builtin.firstCells (sizeT E e) m cx).run P w' = .ok (xs.take (m * sizeT E e)).toArray w' := by
 have h := show oe (asSlice x) (oe (asStrV x) (bc (isNils x) (some (0, [])) ((asLst x).obind fun q => bc (Nat.beq q.1 (sizeT E e)) (some (lenL q.2, catL q.2)) none)) fun s => bc (Nat.beq (sizeT E e) 1) (some (s.length, s.map fun c => .int .u8 (.ofNat c.toNat))) none)
  (fun q => (cellsAt H q.1 q.2.1 (q.2.2.1 * sizeT E e)).omap fun l => (q.2.2.1, l)) = some (n, l) from h
 rw [no_lst hx] at h
 have h := show oe (asSlice x) (oe (asStrV x) (bc (isNils x) (some (0, [])) none) fun s => bc (Nat.beq (sizeT E e) 1) (some (s.length, s.map fun c => .int .u8 (.ofNat c.toNat))) none)
  (fun q => (cellsAt H q.1 q.2.1 (q.2.2.1 * sizeT E e)).omap fun l => (q.2.2.1, l)) = some (n, l) from h
 cases hq : asSlice x with
 | none =>
  rw [hq, oe_none] at h
  cases hs : asStrV x with
  | none =>
   rw [hs, oe_none] at h
   obtain ⟨h1, h2⟩ := bc_some h
   rcases isNils_true h1 with rfl | ⟨ad, rfl⟩
   ·
    cases h2
    cases hx
    exact ⟨rfl, by simp, [], rfl, fun m w' _ _ => by simp [Builtin.firstCells]⟩
   ·
    cases h2
    cases hx
    exact ⟨rfl, by simp, [], rfl, fun m w' hm _ => by
     obtain rfl : m = 0 := by omega
     show (loadCells ad (0 * sizeT E e)).run P w' = _
     rw [Nat.zero_mul]; exact loadCells_zero ad w'⟩
  | some b =>
   rw [hs, oe_some] at h
   obtain rfl := asStrV_some hs
   obtain ⟨h1, h2⟩ := bc_some h
   cases h2
   have h1' : sizeT E e = 1 := Nat.eq_of_beq_eq_true h1
   have hcx := conc_str hx
   subst hcx
   refine ⟨rfl, by simp [h1'], b.map fun c => .int .u8 c.toNat, ?_, fun m w' hm hw' => ?_⟩
   ·
    exact bytes_conc b
   ·
    simp only [Builtin.firstCells, Sem.run_pure, extract_str, h1']
    congr 1
    simp
 | some q =>
  rw [hq, oe_some] at h
  obtain rfl := asSlice_some hq
  obtain ⟨b, off, len, cap⟩ := q
  obtain ⟨l2, hl, he⟩ := omap_some h
  cases he
  obtain ⟨d, o', c', rfl, hd⟩ := conc_slice hx
  obtain ⟨xs, hxs, hll, _, _⟩ := cellsAt_run (P := P) r hl hd
  refine ⟨rfl, hll, xs, hxs, fun m w' hm hw' => ?_⟩
  rw [firstCells_some]
  by_cases hm0 : m * sizeT E e = 0
  ·
   rw [hm0, List.take_zero]; rfl
  ·
   have hlen0 : 0 < len := by
    rcases Nat.eq_zero_or_pos len with h0 | h0
    ·
     simp only at hm; subst h0; exfalso; apply hm0; have : m = 0 := by omega
     subst this; simp
    ·
     exact h0
   have ho : o' = off := by
    simp only [conc] at hx
    cases cap with
    | ex c =>
     simp only [sliceC] at hx
     split at hx
     ·
      obtain ⟨_, _, hv⟩ := map_some hx; cases hv; rfl
     ·
      cases hx
    | rest e sz lb =>
     simp only [sliceC] at hx
     split at hx
     ·
      obtain ⟨_, _, hv⟩ := map_some hx; cases hv; rfl
     ·
      cases hx
    | tail e l sz z =>
     simp only [sliceC] at hx
     split at hx
     ·
      rename_i hc; omega
     ·
      cases hx
   subst ho
   have hcl : cellsAt H b o' (m * sizeT E e) = some (l.take (m * sizeT E e)) := by
    have hl0 : len * sizeT E e ≠ 0 := fun k => hm0 (by have : m * sizeT E e ≤ len * sizeT E e := Nat.mul_le_mul_right _ hm; omega)
    have hl : cellsAt H b o' (len * sizeT E e) = some l := hl
    rw [cellsAt_pos hl0] at hl
    rw [cellsAt_pos hm0]
    obtain ⟨y, hy, h1⟩ := obind_some hl
    obtain ⟨q, hq, h2⟩ := obind_some h1
    obtain ⟨l1, h2, h3⟩ := obind_some h2
    obtain ⟨hle, rfl⟩ := takeE_some h2
    obtain ⟨rfl, hfl⟩ := chkL_some h3
    have hmn : m * sizeT E e ≤ len * sizeT E e := Nat.mul_le_mul_right _ hm
    have h2 : ((H.m.get b).obind fun x => (asCells x).obind fun c => (takeE (m * sizeT E e) (dropL o' c.1)).obind (chkL c.2.2.2)) = some ((dropL o' q.1).take (m * sizeT E e)) := by
     rw [hy]
     show (asCells y).obind _ = _
     rw [hq]
     show (takeE _ _).obind _ = _
     rw [takeE_eq, if_pos (Nat.le_trans hmn hle)]
     show chkL q.2.2.2 _ = _
     cases hw : q.2.2.2 with
     | true => rfl
     | false =>
      have hf := hfl hw
      have : flatL ((dropL o' q.1).take (m * sizeT E e)) = true := by
       have h1 : (dropL o' q.1).take (m * sizeT E e) = ((dropL o' q.1).take (len * sizeT E e)).take (m * sizeT E e) := by rw [List.take_take, Nat.min_eq_left hmn]
       rw [h1]; exact flatL_take hf _
      show bc (flatL _) _ none = _
      rw [this]; rfl
    rw [show cellsAt' H b o' (m * sizeT E e) = _ from h2, List.take_take]
    congr 2
    exact (Nat.min_eq_left hmn).symm
   obtain ⟨xs', hxs', _, hrun, _⟩ := cellsAt_run (P := P) (r.congr hw') hcl hd
   have := concL_take hxs (m * sizeT E e)
   rw [hxs'] at this
   cases this
   exact hrun
end Go.Ev
namespace Go.Ev
variable {P : Program} {E : Env}
def Leaves (n : Next) (c : Value) : Prop := n = .value c ∨ (n = .skip /\ c = undef)
theorem undef_conc (s : Sg) : conc s .undef = some undef := rfl
theorem types_head {ts : Array TypeId} {t : TypeId} {l : List TypeId} (h : ts.toList = t :: l) : ts[0]? = some t := by
 rw [<- Array.getElem?_toList, h]; rfl
theorem types_next {ts : Array TypeId} {t u : TypeId} {l : List TypeId} (h : ts.toList = t :: u :: l) : ts[1]? = some u := by
 rw [<- Array.getElem?_toList, h]; rfl
theorem append_eq {argTypes : Array TypeId} {type t t2 elem : TypeId} {i : TI} {base : Option Addr} {sLen sCap n : Nat} {x : Value} {d2 : TypeDesc} {w : World} (hE : EnvTy E P) (h0 : argTypes[0]? = some t) (h1 : argTypes[1]? = some t2)
 (hu : P.underlying t = some (.slice elem)) (hi : E.ty elem = some i) (hu2 : P.underlying t2 = some d2) (hd2 : ∀ k, d2 ≠ .int k) (hn : Builtin.lenOf x = pure n) :
 (Builtin.append_ argTypes type #[.slice base sLen sCap, x]).run P w = (appTail elem (sizeT E elem) (.slice base sLen sCap) base sLen sCap false n x (Builtin.firstCells (sizeT E elem) n x)).run P w := by
 have hs := hE.sizeT hi w
 simp only [Builtin.append_, h0, h1, List.getElem?_toArray, List.getElem?_cons_zero, List.getElem?_cons_succ, Sem.run_bind, run_und hu, Result.andThen_ok, hs, run_und hu2]
 have : (match d2 with | .int _ => true | _ => false) = false := by
  cases d2 <;> first | rfl | exact absurd rfl (hd2 _)
 simp only [this, Sem.run_pure, Result.andThen_ok, Bool.false_eq_true, if_false, hn, Sem.run_bind, Bool.not_false, if_true, appTail]
 rfl
theorem append_zeros_eq {argTypes : Array TypeId} {type t t2 elem : TypeId} {i : TI} {j : TypeInfo} {base : Option Addr} {sLen sCap n : Nat} {k k' : IntKind} {w : World} (hE : EnvTy E P) (h0 : argTypes[0]? = some t) (h1 : argTypes[1]? = some t2)
 (hu : P.underlying t = some (.slice elem)) (hi : E.ty elem = some i) (hj : P.info? elem = some j) (hb : j.bytes ≤ 1048576) (hu2 : P.underlying t2 = some (.int k)) (hn : n ≤ 1048576) :
 (Builtin.append_ argTypes type #[.slice base sLen sCap, .int k' (n : Int)]).run P w = (appTail elem (sizeT E elem) (.slice base sLen sCap) base sLen sCap true n (.int k' (n : Int))
  (if n * sizeT E elem = 0 then pure #[] else do pure (Builtin.zeroCells (<- zeroValue elem).cells n))).run P w := by
 have hs := hE.sizeT hi w
 have hw : IntKind.i64.wrap (n : Int) = (n : Int) := by
  have h2 : ((n : Int) % 18446744073709551616) = n := by omega
  simp only [IntKind.wrap, IntKind.signed, IntKind.bits]
  simp [h2]; omega
 have hm : ¬ ((n : Int) * (j.bytes : Int) > 2 ^ 48) := by
  have h1 : n * j.bytes ≤ 1048576 * 1048576 := Nat.mul_le_mul hn hb
  have h3 : ((n * j.bytes : Nat) : Int) = (n : Int) * (j.bytes : Int) := Int.natCast_mul _ _
  rw [<- h3]; omega
 simp only [Builtin.append_, h0, h1, List.getElem?_toArray, List.getElem?_cons_zero, List.getElem?_cons_succ, Sem.run_bind, run_und hu, Result.andThen_ok, hs, run_und hu2, Sem.run_pure, if_true, asInt, asIntOf, hw, run_info hj]
 rw [if_neg (by omega)]
 simp only [Sem.run_bind, run_info hj, Result.andThen_ok]
 rw [if_neg hm]
 simp only [Sem.run_pure, Result.andThen_ok, Int.toNat_natCast, Bool.not_true, Bool.false_eq_true, if_false, appTail]
 rfl
end Go.Ev
namespace Go.Ev
variable {P : Program} {E : Env}
def Did (P : Program) (E : Env) (s : Sg) (H : Hp) (w : World) (v : AV) (H' : Hp) (m : Sem Next) : Prop :=
 ∃ s' w' n c, m.run P w = .ok n w' /\ Leaves n c /\ conc s' v = some c /\ HRel E s' H' w' /\ Ext s H w s' H' w'
theorem bytes_room {e : TypeId} {n : Nat} {i : TI} (hi : E.ty e = some i) (h : (Nat.ble n 1048576 && Nat.ble (bytesT E e) 1048576) = true) : n ≤ 1048576 /\ i.bytes ≤ 1048576 := by
 obtain ⟨h1, h2⟩ := and_true' h
 have h3 : bytesT E e = i.bytes := by simp [bytesT, hi]
 exact ⟨ble_iff.1 h1, by rw [<- h3]; exact ble_iff.1 h2⟩
theorem append_run (hE : EnvTy E P) {s : Sg} {H H' : Hp} {w : World} (r : HRel E s H w) {argTypes : Array TypeId} {type : TypeId} {consts : Array Bool} {t : TypeId} {ts : List TypeId} {sv x v : AV} {cs cx : Value}
 (hts : argTypes.toList = t :: ts) (h : appArgs E H t ts sv x = some (v, H')) (hs : conc s sv = some cs) (hx : conc s x = some cx) :
 Did P E s H w v H' (builtin .append argTypes type consts #[cs, cx]) := by
 unfold appArgs at h
 split at h
 ·
  rename_i e hk
  have hu := hE.slice hk
  obtain ⟨i, hi⟩ := hE.el t e (.inl hk)
  split at h
  ·
   rename_i t2 ts2
   have h0 := types_head hts
   have h1 := types_next hts
   have hsl : ∀ {n new}, evAppend E H e sv n new = some (v, H') -> ∃ base a b, cs = .slice base a b := by
    intro n new hh
    unfold evAppend at hh
    cases hn0 : Nat.beq n 0 with
    | true =>
     rw [hn0] at hh
     obtain ⟨h1, _⟩ := bc_some (show bc (isSliceV sv || isNils sv) (some (sv, H)) none = some (v, H') by have hh := show bc (isSliceV sv || isNils sv) (some (sv, H)) ((asLst sv).omap fun _ => (sv, H)) = some (v, H') from hh; rw [no_lst hs] at hh; exact hh)
     obtain ⟨a, b, c, he, _⟩ := isSliceN_conc h1 hs
     exact ⟨a, b, c, he⟩
    | false =>
     rw [hn0] at hh
     have hh := show oe (asSlice sv) (bc (isNils sv) (growTo E H e n new) ((asLst sv).obind fun q => bc (Nat.beq q.1 0) (growTo E H e n new) none)) (fun q => appCap q.2.2.2 E H e q.1 q.2.1 q.2.2.1 n new) = some (v, H') from hh
     rw [no_lst hs] at hh
     have hh := show oe (asSlice sv) (bc (isNils sv) (growTo E H e n new) none) (fun q => appCap q.2.2.2 E H e q.1 q.2.1 q.2.2.1 n new) = some (v, H') from hh
     cases hq : asSlice sv with
     | none =>
      rw [hq] at hh
      obtain ⟨h1, h2⟩ := bc_some (show bc (isNils sv) (growTo E H e n new) none = some (v, H') from hh)
      rcases isNils_true h1 with rfl | ⟨ad, rfl⟩ <;> cases hs <;> exact ⟨_, _, _, rfl⟩
     | some q =>
      obtain rfl := asSlice_some hq
      obtain ⟨d, o', c', rfl, hd⟩ := conc_slice hs
      exact ⟨_, _, _, rfl⟩
   split at h
   ·
    rename_i k hk2
    obtain ⟨n, hn, h⟩ := obind_some h
    obtain ⟨z, hz, h⟩ := obind_some h
    split at h
    ·
     rename_i hroom
     obtain ⟨k', rfl⟩ := natOf_conc hn hx
     obtain ⟨i', j, zv, hi', hj, hsz, hby, hzv, hzc, hzl, hzs⟩ := zeroT_some hE hz
     rw [hi] at hi'; cases hi'
     have hrm := bytes_room hi hroom
     obtain ⟨base, a, b, rfl⟩ := hsl h
     have hse : sizeT E e = i.size := by simp [sizeT, hi]
     obtain ⟨s', w', c, hrun, hc, r', x'⟩ := evAppend_run hE r (zeros := true) (x := .int k' (n : Int))
      (appended := (if n * sizeT E e = 0 then pure #[] else do pure (Builtin.zeroCells (<- zeroValue e).cells n))) h hs (concL_rep (hzc s) n) (by rw [repL_eq, length_rep, hzl, hse]) (fun w' _ => by
       rw [hse]
       by_cases h0 : n * i.size = 0
       ·
        rw [if_pos h0]
        have : (List.replicate n zv.cells.toList).flatten = [] := List.eq_nil_of_length_eq_zero (by rw [length_rep]; simp only [Array.length_toList, hzs, h0])
        rw [this]; rfl
       ·
        rw [if_neg h0]
        simp only [Sem.run_bind, run_zero hj hzv, Result.andThen_ok, Sem.run_pure, zeroCells_eq])
     refine ⟨s', w', _, c, ?_, .inl rfl, hc, r', x'⟩
     simp only [builtin, Sem.run_bind, append_zeros_eq hE h0 h1 hu hi hj (by rw [hby]; exact hrm.2) (hE.int hk2) hrm.1, hrun, Result.andThen_ok, Sem.run_pure]
    ·
     cases h
   ·
    cases h
   ·
    rename_i hni hno
    obtain ⟨p, hp, h⟩ := obind_some h
    obtain ⟨n, l⟩ := p
    obtain ⟨hlen, hll, xs, hxs, hfc⟩ := srcCells_run (P := P) r hp hx
    obtain ⟨base, a, b, rfl⟩ := hsl h
    obtain ⟨d2, hu2, hd2⟩ := hE.und rfl hno
    have hxl := concL_length hxs
    obtain ⟨s', w', c, hrun, hc, r', x'⟩ := evAppend_run hE r (zeros := false) (x := cx) (appended := Builtin.firstCells (sizeT E e) n cx) h hs hxs hll (fun w' hw' => by
     rw [hfc n w' (Nat.le_refl _) hw', List.take_of_length_le (by rw [hxl, hll]; exact Nat.le_refl _)])
    refine ⟨s', w', _, c, ?_, .inl rfl, hc, r', x'⟩
    simp only [builtin, Sem.run_bind, append_eq hE h0 h1 hu hi hu2 (fun k hk => by subst hk; exact hni k hd2.symm) hlen, hrun, Result.andThen_ok, Sem.run_pure]
  ·
   cases h
 ·
  cases h
theorem copy_run (hE : EnvTy E P) {s : Sg} {H H' : Hp} {w : World} (r : HRel E s H w) {argTypes : Array TypeId} {type : TypeId} {consts : Array Bool} {t : TypeId} {ts : List TypeId} {sv x v : AV} {cs cx : Value}
 (hts : argTypes.toList = t :: ts) (h : copyArgs E H t sv x = some (v, H')) (hs : conc s sv = some cs) (hx : conc s x = some cx) :
 Did P E s H w v H' (builtin .copy argTypes type consts #[cs, cx]) := by
 unfold copyArgs at h
 split at h
 ·
  rename_i e hk
  have hu := hE.slice hk
  obtain ⟨i, hi⟩ := hE.el t e (.inl hk)
  have h0 := types_head hts
  have hse := hE.sizeT hi w
  obtain ⟨p, hp, h⟩ := obind_some h
  obtain ⟨n, l⟩ := p
  obtain ⟨hlen, hll, xs, hxs, hfc⟩ := srcCells_run (P := P) r hp hx
  have h := show oe (asSlice sv) (bc (isNils sv) (some (.int .i64 (.ofNat 0), H)) none) (fun q => bc (Nat.beq q.2.2.1 0) (some (.int .i64 (.ofNat 0), H))
   ((putCells H q.1 q.2.1 (takeL (minN n q.2.2.1 * sizeT E e) l)).omap fun H => (.int .i64 (.ofNat (minN n q.2.2.1)), H))) = some (v, H') from h
  have hz : ∀ base a b, cs = .slice base a b -> a = 0 -> v = .int .i64 (.ofNat 0) -> H' = H -> Did P E s H w v H' (builtin .copy argTypes type consts #[cs, cx]) := by
   rintro base a b rfl rfl rfl rfl
   refine ⟨s, w, _, .int .i64 0, ?_, .inl rfl, rfl, r, Ext.refl _ _ _⟩
   have hm : Nat.min n 0 = 0 := Nat.min_zero n
   simp only [builtin, Builtin.copy_, h0, List.getElem?_toArray, List.getElem?_cons_zero, List.getElem?_cons_succ, Sem.run_bind, run_und hu, Result.andThen_ok, hlen, Sem.run_pure, hse, hm, hfc 0 w (Nat.zero_le _) rfl]
   simp only [Nat.zero_mul, List.take_zero]
   cases base <;> rfl
  cases hq : asSlice sv with
  | none =>
   rw [hq, oe_none] at h
   obtain ⟨h1, h2⟩ := bc_some h
   cases h2
   rcases isNils_true h1 with rfl | ⟨ad, rfl⟩ <;> cases hs
   ·
    exact hz none 0 0 rfl rfl rfl rfl
   ·
    exact hz (some ad) 0 0 rfl rfl rfl rfl
  | some q =>
   rw [hq, oe_some] at h
   obtain rfl := asSlice_some hq
   obtain ⟨b, off, len, cap⟩ := q
   obtain ⟨d, o', c', rfl, hd⟩ := conc_slice hs
   cases hl0 : Nat.beq len 0 with
   | true =>
    have h := show bc (Nat.beq len 0) (some (AV.int .i64 (.ofNat 0), H)) ((putCells H b off (takeL (minN n len * sizeT E e) l)).omap fun H => (.int .i64 (.ofNat (minN n len)), H)) = some (v, H') from h
    rw [hl0] at h
    cases h
    have : len = 0 := by simpa using hl0
    exact hz _ _ _ rfl this rfl rfl
   | false =>
    have h := show bc (Nat.beq len 0) (some (AV.int .i64 (.ofNat 0), H)) ((putCells H b off (takeL (minN n len * sizeT E e) l)).omap fun H => (.int .i64 (.ofNat (minN n len)), H)) = some (v, H') from h
    rw [hl0] at h
    obtain ⟨H2, hp2, he⟩ := omap_some h
    cases he
    have hlpos : len ≠ 0 := fun k => by subst k; cases hl0
    have ho : o' = off := by
     simp only [conc] at hs
     cases cap with
     | ex c => simp only [sliceC] at hs; split at hs <;> first | (obtain ⟨_, _, hv⟩ := map_some hs; cases hv; rfl) | cases hs
     | rest e sz lb => simp only [sliceC] at hs; split at hs <;> first | (obtain ⟨_, _, hv⟩ := map_some hs; cases hv; rfl) | cases hs
     | tail e l sz z =>
      simp only [sliceC] at hs
      split at hs
      ·
       rename_i hc; exact absurd hc.1 hlpos
      ·
       cases hs
    subst ho
    rw [takeL_eq, minN_eq] at hp2
    have hmin : min n len ≤ n := Nat.min_le_left _ _
    obtain ⟨w', hst, r', x'⟩ := putCells_run (P := P) r hp2 hd (concL_take hxs (min n len * sizeT E e))
    refine ⟨s, w', _, .int .i64 (min n len : Nat), ?_, .inl rfl, by rw [minN_eq]; rfl, r', x'⟩
    have hm : Nat.min n len = min n len := rfl
    simp only [builtin, Builtin.copy_, h0, List.getElem?_toArray, List.getElem?_cons_zero, List.getElem?_cons_succ, Sem.run_bind, run_und hu, Result.andThen_ok, hlen, Sem.run_pure, hse, hm, hfc _ w hmin rfl, hst]
    rfl
 ·
  cases h
end Go.Ev
namespace Go.Ev
variable {P : Program} {E : Env}
theorem slice_at {s : Sg} {b off len d o' c' : Nat} {cap : Cap} (hs : conc s (.slice b off len cap) = some (.slice (some ⟨d, o', none⟩) len c')) (hl : len ≠ 0) : o' = off := by
 simp only [conc] at hs
 cases cap with
 | ex c => simp only [sliceC] at hs; split at hs <;> first | (obtain ⟨_, _, hv⟩ := map_some hs; cases hv; rfl) | cases hs
 | rest e sz lb => simp only [sliceC] at hs; split at hs <;> first | (obtain ⟨_, _, hv⟩ := map_some hs; cases hv; rfl) | cases hs
 | tail e l sz z =>
  simp only [sliceC] at hs
  split at hs
  ·
   rename_i hc; exact absurd hc.1 hl
  ·
   cases hs
theorem clear_run (hE : EnvTy E P) {s : Sg} {H H' : Hp} {w : World} (r : HRel E s H w) {argTypes : Array TypeId} {type : TypeId} {consts : Array Bool} {t : TypeId} {ts : List TypeId} {sv v : AV} {cs : Value}
 (hts : argTypes.toList = t :: ts) (h : clearArgs E H t sv = some (v, H')) (hs : conc s sv = some cs) :
 Did P E s H w v H' (builtin .clear argTypes type consts #[cs]) := by
 unfold clearArgs at h
 split at h
 ·
  rename_i e hk
  have hu := hE.slice hk
  have h0 := types_head hts
  obtain ⟨z, hz, h⟩ := obind_some h
  obtain ⟨i', j, zv, hi', hj, hsz, hby, hzv, hzc, hzl, hzs⟩ := zeroT_some hE hz
  have h := show oe (asSlice sv) (bc (isNils sv) (some (.undef, H)) none) (fun q => bc (Nat.beq q.2.2.1 0) (some (.undef, H)) ((putCells H q.1 q.2.1 (repL q.2.2.1 z.cells)).omap fun H => (.undef, H))) = some (v, H') from h
  have hz : ∀ base a b, cs = .slice base a b -> (base = none ∨ a = 0) -> v = .undef -> H' = H -> Did P E s H w v H' (builtin .clear argTypes type consts #[cs]) := by
   rintro base a b rfl hor rfl rfl
   refine ⟨s, w, _, undef, ?_, .inl rfl, rfl, r, Ext.refl _ _ _⟩
   simp only [builtin, Builtin.clear_, h0, List.getElem?_toArray, List.getElem?_cons_zero, Sem.run_bind, run_und hu, Result.andThen_ok]
   rcases hor with rfl | rfl
   ·
    rfl
   ·
    cases base <;> rfl
  cases hq : asSlice sv with
  | none =>
   rw [hq, oe_none] at h
   obtain ⟨h1, h2⟩ := bc_some h
   cases h2
   rcases isNils_true h1 with rfl | ⟨ad, rfl⟩ <;> cases hs
   ·
    exact hz none 0 0 rfl (.inl rfl) rfl rfl
   ·
    exact hz (some ad) 0 0 rfl (.inr rfl) rfl rfl
  | some q =>
   rw [hq, oe_some] at h
   obtain rfl := asSlice_some hq
   obtain ⟨b, off, len, cap⟩ := q
   obtain ⟨d, o', c', rfl, hd⟩ := conc_slice hs
   have h := show bc (Nat.beq len 0) (some (AV.undef, H)) ((putCells H b off (repL len z.cells)).omap fun H => (.undef, H)) = some (v, H') from h
   cases hl0 : Nat.beq len 0 with
   | true =>
    rw [hl0] at h
    cases h
    have : len = 0 := by simpa using hl0
    exact hz _ _ _ rfl (.inr this) rfl rfl
   | false =>
    rw [hl0] at h
    obtain ⟨H2, hp2, he⟩ := omap_some h
    cases he
    have hlpos : len ≠ 0 := fun k => by subst k; cases hl0
    obtain rfl := slice_at hs hlpos
    obtain ⟨w', hst, r', x'⟩ := putCells_run (P := P) r hp2 hd (concL_rep (hzc s) len)
    refine ⟨s, w', _, undef, ?_, .inl rfl, rfl, r', x'⟩
    obtain ⟨m, rfl⟩ := Nat.exists_eq_succ_of_ne_zero hlpos
    simp only [builtin, Builtin.clear_, h0, List.getElem?_toArray, List.getElem?_cons_zero, Sem.run_bind, run_und hu, Result.andThen_ok, run_zero hj hzv, zeroCells_eq, hst]
    rfl
 ·
  cases h
theorem sureAddr_run (d o : Nat) (w : World) : (Instr.sureAddr (.pointer (some ⟨d, o, none⟩))).run P w = .ok ⟨d, o, none⟩ w := rfl
theorem store_run' (hE : EnvTy E P) {s : Sg} {H H' : Hp} {w : World} (r : HRel E s H w) {t : TypeId} {p x v : AV} {cp cx : Value} (h : storeV E H t p x = some (v, H')) (hp : conc s p = some cp) (hx : conc s x = some cx) :
 ∃ w', (Instr.storeAt t cp cx).run P w = .ok () w' /\ v = .undef /\ HRel E s H' w' /\ Ext s H w s H' w' := by
 obtain ⟨i, hi, h⟩ := obind_some h
 obtain ⟨q, hq, h⟩ := obind_some h
 obtain rfl := asPtr_some hq
 obtain ⟨d, hd, rfl⟩ := conc_ptr hp
 obtain ⟨hl, h⟩ := bc_some h
 obtain ⟨H2, hp2, he⟩ := omap_some h
 cases he
 have hxc := concL_cells hx
 obtain ⟨w', hst, r', x'⟩ := putCells_run (P := P) r hp2 hd hxc
 have hs := hE.sizeT hi w
 refine ⟨w', ?_, rfl, r', x'⟩
 have hlen := concL_length hxc
 have hsz : cx.cells.size = sizeT E t := by
  have := Nat.eq_of_beq_eq_true hl
  rw [lenL_eq, <- hlen] at this
  simpa [sizeT, hi] using this
 simp only [Instr.storeAt, storeVar, Sem.run_bind, sureAddr_run, Result.andThen_ok, hs]
 rw [if_neg (by rw [hsz]; simp)]
 exact hst
end Go.Ev
namespace Go.Ev
variable {P : Program} {E : Env}
theorem isByteK_eq {k : TK} (h : isByteK k = true) : k = .int .u8 := by
 cases k with
 | int k => cases k <;> first | rfl | cases h
 | _ => cases h
theorem bytesOfL_cons (x : AV) (l : List AV) : bytesOfL (x :: l) = (asIntV x).obind fun p => bc (kindEq .u8 p.1) ((natI p.2).obind fun n => (bytesOfL l).omap (UInt8.ofNat n :: ·)) none := rfl
theorem bytesOfL_conc {s : Sg} : ∀ {l : List AV} {r : List UInt8} {xs : List Value}, bytesOfL l = some r -> concL s l = some xs -> ∃ ns : List Int, xs = ns.map (Value.int .u8) /\ ns.map (fun n => UInt8.ofNat n.toNat) = r
 | [], r, xs, h, hx => by cases h; cases hx; exact ⟨[], rfl, rfl⟩
 | x :: l, r, xs, h, hx => by
  rw [bytesOfL_cons] at h
  obtain ⟨p, hp, h⟩ := obind_some h
  obtain rfl := asIntV_some hp
  obtain ⟨hk, h⟩ := bc_some h
  obtain ⟨n, hn, h⟩ := obind_some h
  obtain ⟨r', hr, rfl⟩ := omap_some h
  obtain ⟨y, xs', hy, hxs, rfl⟩ := concL_cons.1 hx
  obtain ⟨ns, rfl, rfl⟩ := bytesOfL_conc hr hxs
  have := conc_int hy
  subst this
  have hk' := kindEq_eq.1 hk
  have hn' := natI_some hn
  refine ⟨p.2 :: ns, ?_, ?_⟩
  ·
   rw [List.map_cons, <- hk']
  ·
   rw [List.map_cons, hn']; rfl
theorem foldl_push (ns : List Int) : ∀ r : ByteArray, ns.foldl (fun r n => r.push (UInt8.ofNat n.toNat)) r = ⟨r.data ++ (ns.map fun n => UInt8.ofNat n.toNat).toArray⟩ := by
 induction ns with
 | nil => intro r; simp
 | cons n ns ih => intro r; simp only [List.foldl_cons, List.map_cons]; rw [ih]; simp [ByteArray.push]
def Saw (P : Program) (E : Env) (s : Sg) (H : Hp) (w : World) (v : AV) (m : Sem Next) : Prop :=
 ∃ w' c, m.run P w = .ok (.value c) w' /\ conc s v = some c /\ HRel E s H w' /\ Ext s H w s H w'
theorem freeze_put {w : World} {c o n : Nat} {arr : Array Value} {e : TypeId} {lo hi : Nat} (h : w.heap[c]? = some (.cells arr e (lo, hi))) (hn : n ≠ 0) :
 w.freeze ⟨c, o, none⟩ n = putC w c (.cells arr e (if lo == hi then (o, o + n) else (min lo o, max hi (o + n)))) := by
 unfold World.freeze putC
 rw [if_neg hn]
 congr 1
 obtain ⟨hlt, hk⟩ := Array.getElem?_eq_some_iff.1 h
 apply Array.ext_getElem?
 intro i
 rw [Array.getElem?_modify, Array.getElem?_setIfInBounds]
 by_cases hi : c = i
 ·
  subst hi; simp [hlt, hk]
 ·
  simp [hi]
theorem HRel.refz {s : Sg} {H : Hp} {w : World} (r : HRel E s H w) {b d : Nat} {l : List AV} {e : TypeId} {x : Bool} {arr : Array Value} {fz fz' : Nat × Nat}
 (hb : H.m.get b = some (.cells l e x true)) (hd : s.mu b = some d) (hh : w.heap[d]? = some (.cells arr e fz)) (hf : FzOk fz' arr.size) (hfb : isByteK (kindOf E e) = true) :
 HRel E s H (putC w d (.cells arr e fz')) /\ Ext s H w s H (putC w d (.cells arr e fz')) := by
 have hdlt := (Array.getElem?_eq_some_iff.1 hh).1
 constructor
 ·
  refine ⟨?_, r.inj, fun a c hc => by rw [putC_size]; exact r.lt a c hc, r.fr⟩
  intro a y c ha hc
  have h0 := r.blk a y c ha hc
  by_cases hcd : c = d
  ·
   subst hcd
   cases y with
   | cells l0 e0 x0 w0 =>
    obtain ⟨arr0, fz0, h1, h2, h3, h4, h5, h6, h7⟩ := h0
    rw [hh] at h1
    cases h1
    exact ⟨arr, fz', by rw [putC_heap, if_pos ⟨rfl, hdlt⟩], h2, h3, (match w0 with | true => hf | false => trivial), h5, h6, fun h => ⟨(h7 h).1, .inr hfb⟩⟩
   | loop =>
    obtain ⟨ct, D, h1, _⟩ := h0
    rw [hh] at h1; cases h1
   | dead => trivial
  ·
   have hk : (putC w d (.cells arr e fz')).heap[c]? = w.heap[c]? := by rw [putC_heap, if_neg (fun h => hcd h.1)]
   cases y with
   | cells => obtain ⟨p1, p2, h1, h2⟩ := h0; exact ⟨p1, p2, hk.trans h1, h2⟩
   | loop => obtain ⟨p1, p2, h1, h2⟩ := h0; exact ⟨p1, p2, hk.trans h1, h2⟩
   | dead => trivial
 ·
  refine ⟨Nat.le_refl _, fun _ _ => ⟨rfl, rfl, rfl⟩, by rw [putC_size]; exact Nat.le_refl _, rfl, rfl, rfl, ?_, fun a x _ h o m _ => ⟨a, x, h, o, m⟩, fun a x _ h o m _ => ⟨a, x, h, o, m⟩, putC_loops hh _⟩
  intro c _ hn
  rw [putC_heap, if_neg (fun h => hn b _ hb rfl (by rw [h.1]; exact hd))]
theorem evRead_ok (hE : EnvTy E P) {s : Sg} {H : Hp} {w : World} (r : HRel E s H w) {M : Nat} {T : Tm} {ct : Array Value} (hT : TRel s M T ct) {o : Oper} {v : AV} (h : evRead M o.op E T H = some v) :
 Saw P E s H w v (execOp (opv ct) o) := by
 cases ho : o.op with
 | load t a =>
  rw [ho] at h
  obtain ⟨p, hp, h⟩ := obind_some (show ((evO M a T).obind fun v => oe (asPtr v) ((asEpt v).obind fun q => partAV E t q.1 q.2) fun q => loadAV E H t q.1 q.2) = some v from h)
  rw [no_ept (evO_conc hT hp)] at h
  replace h := show oe (asPtr p) none (fun q => loadAV E H t q.1 q.2) = some v from h
  rw [oe_none2] at h
  obtain ⟨q, hq, h⟩ := obind_some h
  obtain rfl := asPtr_some hq
  obtain ⟨d, hd, hv⟩ := conc_ptr (evO_conc hT hp)
  obtain ⟨c, hc, hrun⟩ := loadAV_run (P := P) hE r h hd
  refine ⟨w, c, ?_, hc, r, Ext.refl _ _ _⟩
  simp only [execOp, ho, Sem.run_bind, hv, Instr.loadAt, sureAddr_run, Result.andThen_ok, hrun, Sem.run_pure]
 | convert src dst x =>
  rw [ho] at h
  replace h := show (match kindOf E src with
   | .slice e => match isByteK (kindOf E e) with
    | true => match kindOf E dst with
     | .string => (evO M x T).obind (strOf H)
     | .slice _ => match Nat.beq src dst with | true => (evO M x T).obind (ownSlice e H) | false => none
     | _ => none
    | false => none
   | _ => none) = some v from h
  split at h
  ·
   rename_i e hk
   have hus := hE.slice hk
   split at h
   ·
    rename_i hby
    have hue := hE.int (isByteK_eq hby)
    split at h
    ·
     rename_i hkd
     have hud := hE.string hkd
     obtain ⟨y, hy, h⟩ := obind_some h
     have hyc := evO_conc hT hy
     have h := show oe (asSlice y) (bc (isNils y) (some (.str [])) ((asLst y).obind fun q => bc (Nat.beq q.1 1) ((bytesOfL (catL q.2)).omap .str) none)) (fun q => ((cellsAt H q.1 q.2.1 q.2.2.1).obind bytesOfL).omap .str) = some v from h
     rw [no_lst hyc] at h
     have h := show oe (asSlice y) (bc (isNils y) (some (.str [])) none) (fun q => ((cellsAt H q.1 q.2.1 q.2.2.1).obind bytesOfL).omap .str) = some v from h
     cases hq : asSlice y with
     | none =>
      rw [hq, oe_none] at h
      obtain ⟨h1, h2⟩ := bc_some h
      cases h2
      refine ⟨w, .string ⟨#[]⟩, ?_, rfl, r, Ext.refl _ _ _⟩
      rcases isNils_true h1 with rfl | ⟨ad, rfl⟩
      ·
       have hv : opv ct x = .slice none 0 0 := (Option.some.inj hyc).symm
       simp only [execOp, ho, Sem.run_bind, hv, run_convert_bytes_string w src dst e _ _ _ hus hue hud, Conv.bytesToString, Sem.run_pure, Result.andThen_ok]
       rfl
      ·
       have hv : opv ct x = .slice (some ad) 0 0 := (Option.some.inj hyc).symm
       simp only [execOp, ho, Sem.run_bind, hv, run_convert_bytes_string w src dst e _ _ _ hus hue hud, Conv.bytesToString, Sem.run_pure, Result.andThen_ok, loadCells_zero]
       rfl
     | some q =>
      rw [hq, oe_some] at h
      obtain rfl := asSlice_some hq
      obtain ⟨b, off, len, cap⟩ := q
      obtain ⟨bs, hbs, rfl⟩ := omap_some h
      obtain ⟨l, hl, hbs⟩ := obind_some hbs
      obtain ⟨d, o', c', hv, hd⟩ := conc_slice hyc
      rw [hv] at hyc
      obtain ⟨xs, hxs, hll, hrun, _⟩ := cellsAt_run (P := P) r hl hd
      obtain ⟨ns, hns, hbs'⟩ := bytesOfL_conc hbs hxs
      have hload : (loadCells ⟨d, o', none⟩ len).run P w = .ok (ns.map (Value.int .u8)).toArray w := by
       by_cases h0 : len = 0
       ·
        subst h0
        have : l = [] := List.eq_nil_of_length_eq_zero hll
        subst this
        cases hxs
        rw [<- hns]; rfl
       ·
        obtain rfl := slice_at hyc h0
        rw [<- hns]; exact hrun
      refine ⟨w, .string ⟨bs.toArray⟩, ?_, rfl, r, Ext.refl _ _ _⟩
      simp only [execOp, ho, Sem.run_bind, hv, run_convert_bytes_string w src dst e _ _ _ hus hue hud, run_bytesToString w _ len c' ns hload, Result.andThen_ok, Sem.run_pure, foldl_push, hbs']
      simp
    ·
     rename_i e' hkd
     split at h
     ·
      rename_i hsd
      have hsd' : src = dst := Nat.eq_of_beq_eq_true hsd
      obtain ⟨y, hy, h⟩ := obind_some h
      subst hsd'
      have hyc := evO_conc hT hy
      obtain ⟨q, hq, h⟩ := obind_some h
      obtain ⟨z, hz, h⟩ := obind_some h
      obtain ⟨k, hk2, h⟩ := obind_some h
      obtain ⟨hown, h⟩ := bc_some h
      cases h
      obtain rfl := asSlice_some hq
      obtain rfl := asCells_some hk2
      obtain ⟨d, o', c', hv, hd⟩ := conc_slice hyc
      obtain ⟨l, e2, x2, w2⟩ := k
      simp only at hown
      obtain ⟨hown, hee⟩ := and_true' hown
      subst hown
      obtain rfl := Nat.eq_of_beq_eq_true hee
      obtain ⟨arr, fz, hh, _, _, hfz, _, _, _⟩ := r.blk _ _ d hz hd
      obtain ⟨lo, hi⟩ := fz
      have hfz : FzOk (lo, hi) arr.size := hfz
      have hsh : w.shape? d = some (e2, arr.size) := by simp only [World.shape?, hh]
      have hf' : FzOk (if lo == hi then (arr.size, arr.size + 1) else (min lo arr.size, max hi (arr.size + 1))) arr.size := by
       unfold FzOk at hfz ⊢
       simp only at hfz
       by_cases he : lo = hi
       ·
        right; simp [he]
       ·
        right
        rcases hfz with hfz | hfz
        ·
         exact absurd hfz he
        ·
         simp [he]; omega
      obtain ⟨r', x'⟩ := r.refz hz hd hh hf' (by assumption)
      refine ⟨_, _, ?_, hyc, r', x'⟩
      simp only [execOp, ho, Sem.run_bind, hv, convert, run_und hus, run_und hue, Result.andThen_ok, beq_self_eq_true, markStringish, run_shape, hsh, run_freeze, freeze_put hh Nat.one_ne_zero, Sem.run_pure]
     ·
      cases h
    ·
     cases h
   ·
    cases h
  ·
   cases h
 | _ => rw [ho] at h; cases h
end Go.Ev
namespace Go.Ev
variable {P : Program} {E : Env}
def Made (P : Program) (E : Env) (s : Sg) (w : World) (x : Blk) (f : Nat -> AV) (m : Sem Next) : Prop :=
 ∃ ka sz obj w1 c, (w1 = w ∨ w1 = drewW w) /\ m.run P w = .ok (.value c) (pushW w1 obj) /\
  (∀ s' : Sg, s.Le s' -> ∀ id w', w'.heap[w.heap.size]? = some obj -> s'.mu id = none -> conc (addB s' id w.heap.size ka sz) (f id) = some c /\ BlkOk E (addB s' id w.heap.size ka sz) id w.heap.size w' x)
theorem made_cells {s : Sg} {w' : World} {l : List AV} {xs : List Value} {e : TypeId} (hl : concL s l = some xs) {s' : Sg} (hle : s.Le s') {id d : Nat} (hm : s'.mu id = none) {ka sz : Nat} (hh : w'.heap[d]? = some (.cells xs.toArray e)) :
 BlkOk E (addB s' id d ka sz) id d w' (.cells l e true true) := by
 have hxl := concL_length hl
 refine ⟨_, _, hh, ?_, by simp [hxl], .inl rfl, fun _ => by simp [hxl], (fun h => by cases h), fun _ => ?_⟩
 case refine_2 => rw [List.drop_eq_nil_of_le (by simp [hxl])]; exact ⟨Jk.nil _, .inl rfl⟩
 show concL _ _ = _
 rw [concL_mono (addB_le hm) _ _ (concL_mono hle _ _ hl)]
 congr 1
 simp [<- hxl]
theorem made_ptr {s' : Sg} {id d ka sz : Nat} : conc (addB s' id d ka sz) (.ptr id 0) = some (.pointer (some ⟨d, 0, none⟩)) := by
 simp [conc, addB]
theorem made_slice {s' : Sg} {id d ka sz l c : Nat} (h : l ≤ c) : conc (addB s' id d ka sz) (.slice id 0 l (.ex c)) = some (.slice (some ⟨d, 0, none⟩) l c) := by
 simp [conc, sliceC, addB, h]
theorem wrap_nat {n : Nat} (h : n ≤ 16777216) : IntKind.i64.wrap (n : Int) = (n : Int) := by
 have h2 : ((n : Int) % 18446744073709551616) = n := by omega
 simp only [IntKind.wrap, IntKind.signed, IntKind.bits]
 simp [h2]; omega
theorem makeSlice_run {t e : TypeId} {k1 k2 : IntKind} {l c : Nat} {j : TypeInfo} {zv : Value} (hu : P.underlying t = some (.slice e)) (hj : P.info? e = some j) (hz : j.zero = some zv) (hsz : zv.cells.size = j.size)
 (hlc : l ≤ c) (hc : c ≤ 1048576) (hb : j.bytes ≤ 1048576) (w : World) :
 (Instr.makeSlice t (.int k1 (l : Int)) (.int k2 (c : Int))).run P w = .ok (.slice (some ⟨w.heap.size, 0, none⟩) l c) (pushW w (.cells (List.replicate c zv.cells.toList).flatten.toArray e)) := by
 have hm : (j.bytes : Int) * (c : Int) ≤ 2 ^ 48 := by
  have h1 : j.bytes * c ≤ 1048576 * 1048576 := Nat.mul_le_mul hb hc
  have h3 : ((j.bytes * c : Nat) : Int) = (j.bytes : Int) * (c : Int) := Int.natCast_mul _ _
  rw [<- h3]; omega
 have hw1 := wrap_nat (n := l) (by omega)
 have hw2 := wrap_nat (n := c) (by omega)
 simp only [Instr.makeSlice, Sem.run_bind, run_und hu, Result.andThen_ok, asInt, asIntOf, Sem.run_pure, run_info hj, hw1, hw2]
 rw [if_neg (by simp; omega)]
 simp only [Sem.run_bind, run_askRoom, Result.andThen_ok, run_size hj, Int.toNat_natCast]
 by_cases h0 : c * j.size = 0
 ·
  have e1 : (List.replicate c zv.cells.toList).flatten = [] := List.eq_nil_of_length_eq_zero (by rw [length_rep]; simp only [Array.length_toList, hsz, h0])
  simp only [h0, if_true, Sem.run_pure, Result.andThen_ok, newRow, Sem.run_bind, run_newObj, e1]
  have hr0 : Array.range 0 = #[] := rfl
  rw [hr0, Array.map_empty]
  rfl
 ·
  rw [if_neg h0]
  simp only [Sem.run_bind, run_zero hj hz, Result.andThen_ok, Sem.run_pure, newRow, run_newObj]
  have := range_cells zv.cells c
  rw [hsz] at this
  simp only [hsz]
  rw [this]
  rfl
theorem evAlloc_ok (hE : EnvTy E P) {s : Sg} {w : World} {M : Nat} {T : Tm} {ct : Array Value} (hT : TRel s M T ct) {o : Oper} {x : Blk} {f : Nat -> AV} (h : evAlloc M o.op E T = some (x, f)) :
 Made P E s w x f (execOp (opv ct) o) := by
 cases ho : o.op with
 | alloc t =>
  rw [ho] at h
  obtain ⟨z, hz, he⟩ := omap_some (show (zeroT E t).omap (fun z => (Blk.cells z.cells t true true, fun b => AV.ptr b 0)) = some (x, f) from h)
  cases he
  obtain ⟨i', j, zv, hi', hj, hsz, hby, hzv, hzc, hzl, hzs⟩ := zeroT_some hE hz
  refine ⟨0, 0, .cells zv.cells.toList.toArray t, w, .pointer (some ⟨w.heap.size, 0, none⟩), .inl rfl, ?_, fun s' hle id w' hh hm => ⟨made_ptr, made_cells (hzc s) hle hm hh⟩⟩
  simp only [execOp, ho, Instr.alloc, Sem.run_bind, run_zero hj hzv, Result.andThen_ok, newVar, newRow, run_newObj, Sem.run_pure, Array.toArray_toList]
  rfl
 | box t a =>
  rw [ho] at h
  obtain ⟨z, hz, he⟩ := omap_some (show (evO M a T).omap (fun v => (Blk.cells v.cells t true true, fun b => AV.ptr b 0)) = some (x, f) from h)
  cases he
  have hc := concL_cells (evO_conc hT hz)
  refine ⟨0, 0, .cells (opv ct a).cells.toList.toArray t, w, .pointer (some ⟨w.heap.size, 0, none⟩), .inl rfl, ?_, fun s' hle id w' hh hm => ⟨made_ptr, made_cells hc hle hm hh⟩⟩
  simp only [execOp, ho, Instr.box, Sem.run_bind, newVar, newRow, run_newObj, Result.andThen_ok, Sem.run_pure, Array.toArray_toList]
  rfl
 | buildSlice t n ps =>
  rw [ho] at h
  replace h := show (match kindOf E t with
   | .slice e => match Nat.ble (Nat.mul n (sizeT E e)) 16777216 with
    | true => (zeroT E e).obind fun z => (fillParts M (fun i => some (Nat.mul i (sizeT E e), sizeT E e)) T ps.toList (repL n z.cells)).omap fun l => (Blk.cells l e true true, fun b => AV.slice b 0 n (.ex n))
    | false => none
   | _ => none) = some (x, f) from h
  split at h
  ·
   rename_i e hk
   have hu := hE.slice hk
   split at h
   ·
    rename_i hb
    obtain ⟨z, hz, h⟩ := obind_some h
    obtain ⟨l, hl, he⟩ := omap_some h
    cases he
    obtain ⟨i, j, zv, hi, hj, hsz, hby, hzv, hzc, hzl, hzs⟩ := zeroT_some hE hz
    have hse : sizeT E e = i.size := by simp [sizeT, hi]
    obtain ⟨ys, hys, hf⟩ := fillParts_run (cplace := fun i => some (i * sizeT E e, sizeT E e)) (fun i q hq => hq) hT ps.toList _ l _ hl (concL_rep (hzc s) n)
    refine ⟨0, 0, .cells ys.toArray e, w, .slice (some ⟨w.heap.size, 0, none⟩) n n, .inl rfl, ?_, fun s' hle id w' hh hm => ⟨made_slice (Nat.le_refl _), made_cells hys hle hm hh⟩⟩
    have hb' : n * sizeT E e ≤ 16777216 := ble_iff.1 hb
    have hrun := run_size (P := P) hj w
    rw [hsz, <- hse] at hrun
    have hz' : ((if n * sizeT E e = 0 then pure #[] else do pure (<- zeroValue e).cells : Sem (Array Value)).run P w).andThen (fun z w => .ok ((Array.range (n * sizeT E e)).map fun i => z[i % z.size]!) w) = .ok (List.replicate n zv.cells.toList).flatten.toArray w := by
     by_cases h0 : n * sizeT E e = 0
     ·
      have e1 : (List.replicate n zv.cells.toList).flatten = [] := List.eq_nil_of_length_eq_zero (by rw [length_rep]; simp only [Array.length_toList, hzs, <- hse, h0])
      rw [if_pos h0, e1]
      simp only [Sem.run_pure, Result.andThen_ok, h0]
      have hr0 : Array.range 0 = #[] := rfl
      rw [hr0, Array.map_empty]
     ·
      rw [if_neg h0]
      simp only [Sem.run_bind, run_zero hj hzv, Result.andThen_ok, Sem.run_pure]
      have := range_cells zv.cells n
      rw [hzs, <- hse] at this
      simp only [hzs, <- hse]
      rw [this]
    have hps : (Array.map (fun x => (x.1, opv ct x.2)) ps).toList = ps.toList.map fun p => (p.1, opv ct p.2) := by simp
    by_cases h0 : n * sizeT E e = 0
    ·
     rw [if_pos h0] at hz'
     simp only [Sem.run_pure, Result.andThen_ok] at hz'
     have hz2 := (Result.ok.inj hz').1
     simp only [execOp, ho, Instr.buildSlice, Sem.run_bind, run_und hu, Result.andThen_ok, hrun]
     rw [if_neg (by omega), if_pos h0]
     simp only [Sem.run_bind, Sem.run_pure, Result.andThen_ok]
     rw [hz2, hps, hf]
     rfl
    ·
     rw [if_neg h0] at hz'
     simp only [Sem.run_bind, run_zero hj hzv, Result.andThen_ok, Sem.run_pure] at hz'
     have hz2 := (Result.ok.inj hz').1
     simp only [execOp, ho, Instr.buildSlice, Sem.run_bind, run_und hu, Result.andThen_ok, hrun]
     rw [if_neg (by omega), if_neg h0]
     simp only [Sem.run_bind, run_zero hj hzv, Sem.run_pure, Result.andThen_ok]
     rw [hz2, hps, hf]
     rfl
   ·
    cases h
  ·
   cases h
 | makeSlice t a b =>
  rw [ho] at h
  replace h := show (match kindOf E t with
   | .slice e => (zeroT E e).obind fun z => (evO M a T).obind fun l => (evO M b T).obind fun c => (natOf l).obind fun l => (natOf c).obind fun c =>
    match Nat.ble l c && (Nat.ble c 1048576 && Nat.ble (bytesT E e) 1048576) with
    | true => some (Blk.cells (repL c z.cells) e true true, fun b => AV.slice b 0 l (.ex c))
    | false => none
   | _ => none) = some (x, f) from h
  split at h
  ·
   rename_i e hk
   have hu := hE.slice hk
   obtain ⟨z, hz, h⟩ := obind_some h
   obtain ⟨la, hla, h⟩ := obind_some h
   obtain ⟨cb, hcb, h⟩ := obind_some h
   obtain ⟨l, hl, h⟩ := obind_some h
   obtain ⟨c, hc, h⟩ := obind_some h
   split at h
   ·
    rename_i hb
    cases h
    obtain ⟨h1, h2⟩ := and_true' hb
    obtain ⟨i, j, zv, hi, hj, hsz, hby, hzv, hzc, hzl, hzs⟩ := zeroT_some hE hz
    have hrm := bytes_room hi h2
    obtain ⟨k1, e1⟩ := natOf_conc hl (evO_conc hT hla)
    obtain ⟨k2, e2⟩ := natOf_conc hc (evO_conc hT hcb)
    refine ⟨0, 0, .cells (List.replicate c zv.cells.toList).flatten.toArray e, w, .slice (some ⟨w.heap.size, 0, none⟩) l c, .inl rfl, ?_, fun s' hle id w' hh hm => ⟨made_slice (ble_iff.1 h1), made_cells (concL_rep (hzc s) c) hle hm hh⟩⟩
    simp only [execOp, ho, Sem.run_bind, e1, e2, makeSlice_run hu hj hzv (by rw [hzs, hsz]) (ble_iff.1 h1) hrm.1 (by rw [hby]; exact hrm.2) w, Result.andThen_ok, Sem.run_pure]
   ·
    cases h
  ·
   cases h
 | convert src dst a =>
  rw [ho] at h
  replace h := show (match kindOf E src with
   | .string => match kindOf E dst with
    | .slice e => match isByteK (kindOf E e) && Nat.beq (sizeT E e) 1 with
     | true => (evO M a T).obind fun v => (match v with
      | .str l => some (Blk.cells (l.map fun c => AV.int .u8 (.ofNat c.toNat)) e false true, fun b => AV.slice b 0 l.length (.rest 0 (sizeT E e) l.length))
      | _ => none)
     | false => none
    | _ => none
   | _ => none) = some (x, f) from h
  split at h
  ·
   rename_i hk
   have hus := hE.string hk
   split at h
   ·
    rename_i e hkd
    have hud := hE.slice hkd
    split at h
    ·
     rename_i hb
     obtain ⟨hby, hsz⟩ := and_true' hb
     have hue := hE.int (isByteK_eq hby)
     have hsz' : sizeT E e = 1 := Nat.eq_of_beq_eq_true hsz
     obtain ⟨v, hv, h⟩ := obind_some h
     split at h
     ·
      rename_i l
      cases h
      have hvc := conc_str (evO_conc hT hv)
      have hrun := run_bytes_of_string (P := P) w src dst e ⟨l.toArray⟩ hus hud hue
      have hcap : l.length ≤ grownCap w (ByteArray.mk l.toArray).size 0 e := by
       unfold grownCap Question.cut
       exact Nat.le_add_right _ _
      have hrow : (bytesRow ⟨l.toArray⟩ (grownCap w (ByteArray.mk l.toArray).size 0 e)) = (l.map fun c => Value.int .u8 c.toNat).toArray ++ Array.replicate (grownCap w (ByteArray.mk l.toArray).size 0 e - l.length) (.int .u8 0) := by
       unfold bytesRow
       congr 1
       simp
      refine ⟨grownCap w (ByteArray.mk l.toArray).size 0 e, 1, .cells (bytesRow ⟨l.toArray⟩ (grownCap w (ByteArray.mk l.toArray).size 0 e)) e ((bytesRow ⟨l.toArray⟩ (grownCap w (ByteArray.mk l.toArray).size 0 e)).size, (bytesRow ⟨l.toArray⟩ (grownCap w (ByteArray.mk l.toArray).size 0 e)).size + 1), drewW w,
       .slice (some ⟨w.heap.size, 0, none⟩) (ByteArray.mk l.toArray).size (grownCap w (ByteArray.mk l.toArray).size 0 e), .inr rfl, ?_, ?_⟩
      ·
       simp only [execOp, ho, Sem.run_bind, hvc, hrun, Result.andThen_ok, Sem.run_pure]
       rfl
      ·
       intro s' hle id w' hh hm
       have hc : conc (addB s' id w.heap.size (grownCap w (ByteArray.mk l.toArray).size 0 e) 1) (.slice id 0 l.length (.rest 0 (sizeT E e) l.length)) = some (.slice (some ⟨w.heap.size, 0, none⟩) l.length (grownCap w (ByteArray.mk l.toArray).size 0 e)) := by
        simp only [conc, sliceC]
        rw [if_pos ⟨Nat.le_refl _, by simp [addB]; exact hcap, by simp, by simp [addB, hsz']⟩, addB_mu]
        simp [addB]
       refine ⟨hc, _, _, hh, ?_, ?_, .inr ?_, (fun h => by cases h), fun _ => ?_, fun _ => ?_⟩
       ·
        show concL _ _ = _; rw [bytes_conc, hrow]
        simp
       ·
        rw [hrow]; simp
       ·
        exact Nat.le_refl _
       ·
        rw [hrow]
        simp [addB, hsz']
        omega
       ·
        refine ⟨?_, .inr hby⟩
        rw [hrow]
        refine Jk.of fun v hv => ?_
        have hv := List.mem_of_mem_drop hv
        simp only [Array.toList_append, Array.toList_replicate, List.mem_append, List.mem_map, List.mem_replicate] at hv
        rcases hv with ⟨c, _, rfl⟩ | ⟨_, rfl⟩
        ·
         exact ⟨.int .u8 c.toNat, fun _ => rfl⟩
        ·
         exact ⟨.int .u8 0, fun _ => rfl⟩
     ·
      cases h
    ·
     cases h
   ·
    cases h
  ·
   cases h
 | _ => rw [ho] at h; cases h
end Go.Ev
