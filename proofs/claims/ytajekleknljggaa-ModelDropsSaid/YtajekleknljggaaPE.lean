/-
  A model without memory, and what a step of the program does to it. No conditions.
-/
import Derived.Test.YtajekleknljggaaPD
set_option linter.unusedVariables false
set_option linter.unusedSimpArgs false
namespace Go.Ev
open Go.Proofs
noncomputable section
set_option maxRecDepth 100000
/-! The model, without memory. -/
structure MS where
 bs : List (List UInt8)
 ss : List Shot
 next : Int
abbrev shsOf (zs : List (Shot × AV)) : List Shot := zs.map (·.1)
def shS (ss : List Shot) (id : Int) : Int := fidx (fun z : Shot => decide (z.id = id)) ss
theorem fidx_map {α β : Type} (f : α -> β) (p : β -> Bool) (l : List α) : fidx p (l.map f) = fidx (fun a => p (f a)) l := by
 unfold fidx
 rw [List.findIdx?_map]; rfl
theorem shIx_eq (zs : List (Shot × AV)) (id : Int) : shIx zs id = shS (shsOf zs) id := by
 unfold shIx shS
 exact (fidx_map (fun z : Shot × AV => z.1) (fun z : Shot => decide (z.id = id)) zs).symm
def putS (ss : List Shot) (i : Nat) : List Shot := match ss[ss.length - 1]? with
 | some z => ss.set (ss.length - 1) { z with w := z.w.set i true }
 | none => ss
theorem putZ_eq (zs : List (Shot × AV)) (i : Nat) : shsOf (putZ zs i) = putS (shsOf zs) i := by
 unfold putZ putS
 rw [List.length_map, List.getElem?_map]
 cases h : zs[zs.length - 1]? with
 | none => rfl
 | some z =>
  show List.map _ (zs.set _ _) = List.set _ _ _
  rw [List.map_set]
def mrgS (ss : List Shot) (i k : Nat) : List Shot :=
 if h : 0 < i /\ i < ss.length then ss.set (i - 1) { (ss[i - 1]'(by omega)) with w := mrgTo (ss[i - 1]'(by omega)).w (ss[i]'h.2).w k } else ss
theorem mrgZ_eq (zs : List (Shot × AV)) (i k : Nat) : shsOf (mrgZ zs i k) = mrgS (shsOf zs) i k := by
 by_cases h : 0 < i /\ i < zs.length
 ·
  rw [mrgZ_pos h.1 h.2]
  unfold mrgS
  rw [dif_pos (by rw [List.length_map]; exact h)]
  show List.map _ (zs.set _ _) = _
  rw [List.map_set]
  simp only [shsOf, List.getElem_map]
 ·
  have e1 : mrgZ zs i k = zs := dif_neg h
  have e2 : mrgS (shsOf zs) i k = shsOf zs := dif_neg (by rw [List.length_map]; exact h)
  rw [e1, e2]
def dropS (ss : List Shot) (i n : Nat) : List Shot := (mrgS ss i n).eraseIdx i
theorem map_eraseIdx' {α β : Type} (f : α -> β) : ∀ (l : List α) (i : Nat), (l.eraseIdx i).map f = (l.map f).eraseIdx i
 | [], _ => rfl
 | _ :: _, 0 => rfl
 | a :: l, i + 1 => by
  show f a :: (l.eraseIdx i).map f = f a :: (l.map f).eraseIdx i
  rw [map_eraseIdx' f l i]
theorem dropZ_eq (zs : List (Shot × AV)) (i n : Nat) : shsOf (dropZ zs i n) = dropS (shsOf zs) i n := by
 unfold dropZ dropS
 rw [<- mrgZ_eq]
 exact map_eraseIdx' _ _ _
def rollS (ss : List Shot) (i n : Nat) : List Shot := match ss[i]? with
 | some z => (ss.take (i + 1)).set i ⟨z.id, z.bs, List.replicate n false⟩
 | none => ss
abbrev BS := List (List UInt8) × List Shot
def impRecS (st : BS) (r : Rec) : Nat -> BS
 | 0 => st
 | k + 1 => ((impRecS st r k).1.set (r.fr.toNat + k) (recBlk r k), putS (impRecS st r k).2 (r.fr.toNat + k))
def impAllS (st : BS) (rs : List Rec) : Nat -> BS
 | 0 => st
 | k + 1 => impRecS (impAllS st rs k) (rs.getD k ⟨0, 0, false, []⟩) (rs.getD k ⟨0, 0, false, []⟩).cnt.toNat
def wrtBS (ss : List Shot) (base : Int) (b : Nat) : Nat -> Bool
 | 0 => decide (base < 0)
 | k + 1 => wrtBS ss base b k || ((ss[base.toNat + k]?).map fun z => z.w.getD b false).getD false
def wrtS (ss : List Shot) (base : Int) (to : Nat) : Nat -> List Int
 | 0 => []
 | b + 1 => if wrtBS ss base b (to - base.toNat) then wrtS ss base to b ++ [(b : Int)] else wrtS ss base to b
theorem wrtB_eq (zs : List (Shot × AV)) (base : Int) (to b : Nat) (k : Nat) : wrtB zs base to b k = wrtBS (shsOf zs) base b k := by
 induction k with
 | zero => rfl
 | succ k ih =>
  show (wrtB zs base to b k || _) = (wrtBS (shsOf zs) base b k || _)
  rw [ih, List.getElem?_map]
  congr 1
  cases zs[base.toNat + k]? <;> rfl
theorem wrtTo_eq (zs : List (Shot × AV)) (base : Int) (to n : Nat) : wrtTo zs base to n = wrtS (shsOf zs) base to n := by
 induction n with
 | zero => rfl
 | succ n ih => unfold wrtTo wrtS; rw [wrtB_eq, ih]
def baseS (ss : List Shot) (want : Int) : Bool := match ss[ss.length - 1]? with
 | none => decide (want = -1)
 | some z => decide (want ≠ -1) && (decide (z.id = want) && !(decide (0 ≤ fidx (fun b => b) z.w)))
def expLS (ss : List Shot) (s : Shot) (n : Nat) (base i : Int) (j : Nat) : List Int := if base = -1 then (wrtS ss (-1) j n).filter fun b => !zB s.bs b else wrtS ss i j n
def exportS (n : Nat) (ss : List Shot) (base id : Int) : List UInt8 × Int :=
 if shS ss id = -1 ∨ (base ≠ -1 /\ shS ss base = -1) then ([], 13) else if id ≤ base then ([], 26) else
 match ss[(shS ss id).toNat]? with
 | some z => encS (expStrm n base id z (expLS ss z n base (shS ss base) (shS ss id).toNat))
 | none => ([], 0)
theorem expS_eq (n : Nat) (zs : List (Shot × AV)) (base id : Int) : expS n zs base id = exportS n (shsOf zs) base id := by
 unfold expS exportS
 rw [shIx_eq, shIx_eq, List.getElem?_map]
 split
 ·
  rfl
 split
 ·
  rfl
 cases zs[(shS (shsOf zs) id).toNat]? with
 | none => rfl
 | some z => show encS (expStrm n base id z.1 (expL _ _ _ _ _ _)) = encS (expStrm n base id z.1 (expLS _ _ _ _ _ _)); unfold expL expLS; rw [wrtTo_eq, wrtTo_eq]
def impErrS (w : List UInt8) (n : Nat) (ss : List Shot) (next : Int) : Int :=
 if (parseS w).1 ≠ 0 then (parseS w).1 else if (parseS w).2.blocks ≠ n then 23 else if baseS ss (parseS w).2.base = false then 24 else if 8 ≤ ss.length then 3 else if (parseS w).2.id < next then 25 else 0
def impStS (w : List UInt8) (bs : List (List UInt8)) (ss : List Shot) : BS :=
 impAllS (if (parseS w).2.base = -1 then zeroBs bs.length else bs, ss) (parseS w).2.recs (parseS w).2.recs.length
abbrev Out := List UInt8 × Int × Int
def bad (e : Int) : Out := ([], 0, e)
def hasB (m : MS) (b : Int) : Prop := 0 ≤ b /\ b < m.bs.length
instance (m : MS) (b : Int) : Decidable (hasB m b) := inferInstanceAs (Decidable (_ /\ _))
def wrS (m : MS) (b : Int) (d : List UInt8) : Out × MS := if d.length = 64 /\ hasB m b then (bad 0, { m with bs := m.bs.set b.toNat d, ss := putS m.ss b.toNat }) else (bad 1, m)
def snapS (m : MS) : Out × MS := if 8 ≤ m.ss.length ∨ 1000000 < m.next then (bad 3, m) else (([], m.next, 0), { m with ss := m.ss ++ [⟨m.next, m.bs, List.replicate m.bs.length false⟩], next := m.next + 1 })
def dropStep (m : MS) (id : Int) : Out × MS := if shS m.ss id = -1 then (bad 13, m) else (bad 0, { m with ss := dropS m.ss (shS m.ss id).toNat m.bs.length })
def rollStep (m : MS) (id : Int) : Out × MS := match m.ss[(shS m.ss id).toNat]? with
 | some z => if shS m.ss id = -1 then (bad 13, m) else (bad 0, { m with bs := z.bs, ss := rollS m.ss (shS m.ss id).toNat m.bs.length })
 | none => (bad 13, m)
def peekS (m : MS) (id b : Int) : Out := if ¬ hasB m b then bad 1 else if shS m.ss id = -1 then bad 13 else match m.ss[(shS m.ss id).toNat]? with
 | some z => (z.bs.getD b.toNat [], 0, 0)
 | none => bad 0
def expStep (m : MS) (base id : Int) : Out := if (exportS m.bs.length m.ss base id).2 = 0 then ((exportS m.bs.length m.ss base id).1, 0, 0) else bad (exportS m.bs.length m.ss base id).2
def impStep (m : MS) (w : List UInt8) : Out × MS := if impErrS w m.bs.length m.ss m.next ≠ 0 then (bad (impErrS w m.bs.length m.ss m.next), m) else
 (bad 0, ⟨(impStS w m.bs m.ss).1, (impStS w m.bs m.ss).2 ++ [⟨(parseS w).2.id, (impStS w m.bs m.ss).1, List.replicate m.bs.length false⟩], (parseS w).2.id + 1⟩)
structure Stp where
 kind : Int
 block : Int
 size : Int
 id : Int
 base : Int
 data : List UInt8
def readS (m : MS) (b : Int) : Out := if hasB m b then (m.bs.getD b.toNat [], 0, 0) else bad 1
def stepS (m : MS) (x : Stp) : Out × MS :=
 if x.kind = 1 then (readS m x.block, m) else if x.kind = 2 then wrS m x.block x.data else if x.kind = 3 then wrS m x.block (List.replicate 64 0) else
 if x.kind = 4 then (bad 0, m) else if x.kind = 8 then (bad 0, m) else if x.kind = 5 then snapS m else if x.kind = 6 then dropStep m x.id else if x.kind = 7 then rollStep m x.id else
 if x.kind = 9 then (peekS m x.id x.block, m) else if x.kind = 10 then (expStep m x.base x.id, m) else if x.kind = 11 then impStep m x.data else (bad 1, m)
end
end Go.Ev
namespace Go.Ev
open Go.Proofs
noncomputable section
set_option maxRecDepth 100000
def idsOf (ss : List Shot) : List Int := ss.map (·.id)
theorem set_ids {ss : List Shot} {i : Nat} {s : Shot} (h : ∀ hi : i < ss.length, s.id = ss[i].id) : idsOf (ss.set i s) = idsOf ss := by
 unfold idsOf
 rw [List.map_set]
 by_cases hi : i < ss.length
 ·
  rw [h hi, show ss[i].id = (ss.map (·.id))[i]'(by rw [List.length_map]; exact hi) by rw [List.getElem_map], List.set_getElem_self]
 ·
  rw [List.set_eq_of_length_le (by rw [List.length_map]; omega)]
theorem putS_ids (ss : List Shot) (i : Nat) : idsOf (putS ss i) = idsOf ss := by
 unfold putS
 split
 ·
  rename_i z hz
  refine set_ids fun hi => ?_
  rw [List.getElem?_eq_getElem hi] at hz
  cases hz; rfl
 ·
  rfl
theorem mrgS_ids (ss : List Shot) (i k : Nat) : idsOf (mrgS ss i k) = idsOf ss := by
 unfold mrgS
 split
 ·
  exact set_ids fun hi => rfl
 ·
  rfl
theorem dropS_ids (ss : List Shot) (i n : Nat) : idsOf (dropS ss i n) = (idsOf ss).eraseIdx i := by
 unfold dropS
 rw [<- mrgS_ids ss i n]
 exact map_eraseIdx' _ _ _
theorem rollS_ids (ss : List Shot) (i n : Nat) (hi : i < ss.length) : idsOf (rollS ss i n) = (idsOf ss).take (i + 1) := by
 unfold rollS
 rw [List.getElem?_eq_getElem hi]
 show idsOf ((ss.take (i + 1)).set i _) = _
 rw [set_ids (fun h => by rw [List.getElem_take])]
 unfold idsOf
 rw [List.map_take]
theorem impRecS_ids (st : BS) (r : Rec) (k : Nat) : idsOf (impRecS st r k).2 = idsOf st.2 := by
 induction k with
 | zero => rfl
 | succ k ih => show idsOf (putS _ _) = _; rw [putS_ids, ih]
theorem impAllS_ids (st : BS) (rs : List Rec) (k : Nat) : idsOf (impAllS st rs k).2 = idsOf st.2 := by
 induction k with
 | zero => rfl
 | succ k ih => show idsOf (impRecS _ _ _).2 = _; rw [impRecS_ids, ih]
structure MS.ok (m : MS) : Prop where
 r : (idsOf m.ss).Pairwise (· < ·)
 b : ∀ x ∈ idsOf m.ss, 1 ≤ x /\ x < m.next
 n : 1 ≤ m.next /\ m.next ≤ 1000001
theorem MS.ok.re {m : MS} (h : m.ok) {bs : List (List UInt8)} {ss : List Shot} (hs : idsOf ss = idsOf m.ss) : MS.ok ⟨bs, ss, m.next⟩ := ⟨by show (idsOf ss).Pairwise _; rw [hs]; exact h.r, by show ∀ x ∈ idsOf ss, _; rw [hs]; exact h.b, h.n⟩
theorem MS.ok.sub {m : MS} (h : m.ok) {bs : List (List UInt8)} {ss : List Shot} (hs : (idsOf ss).Sublist (idsOf m.ss)) : MS.ok ⟨bs, ss, m.next⟩ := ⟨h.r.sublist hs, fun x hx => h.b x (hs.subset hx), h.n⟩
theorem MS.ok.add {m : MS} (h : m.ok) {bs : List (List UInt8)} {ss : List Shot} {s : Shot} (hs : idsOf ss = idsOf m.ss) (h1 : m.next ≤ s.id) (h2 : s.id ≤ 1000000) : MS.ok ⟨bs, ss ++ [s], s.id + 1⟩ := by
 have e : idsOf (ss ++ [s]) = idsOf m.ss ++ [s.id] := by unfold idsOf at hs ⊢; rw [List.map_append, hs]; rfl
 have h3 := h.n
 refine ⟨?_, fun x hx => ?_, ?_⟩
 ·
  show (idsOf (ss ++ [s])).Pairwise _
  rw [e, List.pairwise_append]
  refine ⟨h.r, List.pairwise_singleton _ _, fun a ha b hb => ?_⟩
  rw [List.mem_singleton] at hb
  have := (h.b a ha).2
  omega
 ·
  change x ∈ idsOf (ss ++ [s]) at hx
  rw [e] at hx
  rcases List.mem_append.1 hx with hx | hx
  ·
   have := h.b x hx
   exact ⟨this.1, by show x < s.id + 1; omega⟩
  ·
   rw [List.mem_singleton] at hx
   exact ⟨by omega, by show x < s.id + 1; omega⟩
 ·
  exact ⟨by show 1 ≤ s.id + 1; omega, by show s.id + 1 ≤ _; omega⟩
theorem MS.ok.rise {m : MS} (h : m.ok) {i j : Nat} (hi : i < m.ss.length) (hj : j < m.ss.length) (hij : i < j) : m.ss[i].id < m.ss[j].id := by
 have := List.pairwise_iff_getElem.1 h.r i j (by unfold idsOf; rw [List.length_map]; exact hi) (by unfold idsOf; rw [List.length_map]; exact hj) hij
 unfold idsOf at this
 rw [List.getElem_map, List.getElem_map] at this
 exact this
theorem shS_cases (ss : List Shot) (id : Int) : shS ss id = -1 ∨ ∃ i, ∃ hi : i < ss.length, shS ss id = i /\ ss[i].id = id := by
 rcases fidx_cases (fun z : Shot => decide (z.id = id)) ss with ⟨h, _⟩ | ⟨i, hi, h, hp⟩
 ·
  exact .inl h
 ·
  exact .inr ⟨i, hi, h, of_decide_eq_true hp⟩
end
end Go.Ev
namespace Go.Ev
open Go.Proofs
noncomputable section
set_option maxRecDepth 100000
theorem fn10 : E1.fn 10 = some Try.f10 := by kernel_rfl
theorem write24D {H : Hp} {p : Nat} {i : Int} {bs : List (List UInt8)} {zs : List (Shot × AV)} {next : Int} {bv sv dv : AV} {d : List UInt8} {K : AV -> Hp -> Prop} (h : MAt H p bs zs next bv sv) (hd : Dv H dv d)
 (h1 : ¬ (d.length = 64 /\ 0 ≤ i /\ i < bs.length) -> K (.int .i64 1) H)
 (h2 : d.length = 64 -> ∀ j : Nat, i = j -> j < bs.length -> ∀ H', MAt H' p (bs.set j d) (putZ zs j) next bv sv -> Upd H H' (Fo p bv sv zs) (Fo p bv sv zs) -> K (.int .i64 0) H') : Call (.func 24 [] []) [.ptr p 0, .int .i64 i, dv] H K := by
 rcases hd with rfl | ⟨b, x, rfl, hb, hlt⟩
 ·
  exact write24L h h1 h2
 refine enterE (N := 22) rfl fn24 rfl rfl rfl rfl rfl fun hwf => ?_
 by_cases c1 : d.length = 64
 ·
  have c1' : ¬ (d.length : Int) ≠ 64 := by omega
  simp (disch := (refine ofP ?_; first | assumption | decide | omega | (simp only [new_next, set_next] <;> omega) | with_unfolding_all exact ofR rfl | with_unfolding_all exact ofNt rfl)) only [go_sem, c1', List.length_map]
  refine has22 h ?_
  by_cases c2 : 0 ≤ i /\ i < bs.length
  ·
   obtain ⟨j, rfl⟩ := Int.eq_ofNat_of_zero_le c2.1
   rw [decide_eq_true c2]
   have hs : s2aV 64 (.slice b 0 d.length (capR x d.length)) = some (.ptr b 0) := by
    rw [c1]; cases x <;> rfl
   have hp : cellsAt H b 0 64 = some (d.map eB) := by
    rw [(kn hb).2.2.1]
    show takeE 64 (dropL 0 (d.map eB)) = _
    rw [dropL_eq, takeE_eq, List.drop_zero, if_pos (by rw [List.length_map]; omega), List.take_of_length_le (by rw [List.length_map]; omega)]
   simp (disch := (refine ofP ?_; decide)) only [go_sem, hs, hp]
   have hj : j < bs.length := by omega
   refine put46 h hj c1 fun H' h' u => ?_
   simp (disch := (refine ofP ?_; decide)) only [go_sem]
   exact .inl (h2 c1 j rfl hj H' h' u)
  ·
   rw [decide_eq_false c2]
   simp (disch := (refine ofP ?_; decide)) only [go_sem]
   exact .inl (h1 fun h => c2 h.2)
 ·
  have c1' : (d.length : Int) ≠ 64 := by omega
  simp (disch := (refine ofP ?_; first | assumption | decide | omega | (simp only [new_next, set_next] <;> omega) | with_unfolding_all exact ofR rfl | with_unfolding_all exact ofNt rfl)) only [go_sem, c1', List.length_map]
  exact .inl (h1 fun h => c1 h.1)
theorem catL_zero (n : Nat) : catL ((zeroBs n).map eBlk) = (List.replicate n (List.replicate 64 (AV.int .u8 0))).flatten := by
 unfold zeroBs
 rw [List.map_replicate]
 induction n with
 | zero => rfl
 | succ n ih => rw [List.replicate_succ (a := eBlk _), List.replicate_succ (a := List.replicate 64 (AV.int .u8 0)), List.flatten_cons, <- ih, catL_eq, catL_eq, List.flatMap_cons, eBlk_cells]; rfl
theorem new10 {H : Hp} {n : Int} {K : AV -> Hp -> Prop} (h1 : ¬ (1 ≤ n /\ n ≤ 64) -> K (.tuple [.nilp, .int .i64 1]) H)
 (h2 : ∀ k : Nat, n = k -> 1 ≤ k -> k ≤ 64 -> ∀ H' bv, MAt H' (H.next + 1) (zeroBs k) [] 1 bv .nils -> Fr H H' -> H.next ≤ sB bv -> K (.tuple [.ptr (H.next + 1) 0, .int .i64 0]) H') : Call (.func 10 [] []) [.int .i64 n] H K := by
 refine enterE (N := 14) rfl fn10 rfl rfl rfl rfl rfl fun hwf => ?_
 by_cases c1 : n < 1
 ·
  simp (disch := (refine ofP ?_; decide)) only [go_sem, c1]
  exact .inl (h1 (by omega))
 by_cases c2 : 64 < n
 ·
  simp (disch := (refine ofP ?_; decide)) only [go_sem, c1, c2]
  exact .inl (h1 (by omega))
 obtain ⟨k, rfl⟩ := Int.eq_ofNat_of_zero_le (show 0 ≤ n by omega)
 have hbig : Nat.ble (Nat.mul k 64) 16777216 = true := ble_iff.2 (by show k * 64 ≤ _; omega)
 have hbig2 : Nat.ble k 1048576 = true := ble_iff.2 (by omega)
 have hrep : repL k (List.replicate 64 (AV.int .u8 0)) = catL ((zeroBs k).map eBlk) := by rw [repL_eq, catL_zero]
 have hzl : (zeroBs k).length = k := List.length_replicate
 simp (disch := (refine ofP ?_; first | assumption | decide | omega | (simp only [new_next, set_next] <;> omega) | with_unfolding_all exact ofR rfl | with_unfolding_all exact ofNt rfl)) only [go_sem, c1, c2, hrep, hbig2, Bool.true_and]
 refine .inl (h2 k rfl (by omega) (by omega) _ (.slice H.next 0 k (.ex k)) ?_ ((Fr.alloc _ _).trans (Fr.alloc _ _)) (Nat.le_refl _))
 have hb1 : ((newBlk (newBlk H (.cells (catL ((zeroBs k).map eBlk)) 53 true true)).2 (.cells [.slice H.next 0 k (.ex k), .nils, .int .i64 1] 72 true true)).2).m.get H.next = some (.cells (catL ((zeroBs k).map eBlk)) 53 true true) := (get_new_n (by simp only [new_next]; omega)).trans get_new_s
 have h64 : ∀ y ∈ zeroBs k, y.length = 64 := fun y hy => by unfold zeroBs at hy; rw [List.eq_of_mem_replicate hy, List.length_replicate]
 exact ⟨get_new_s, Nat.lt_succ_self _, ⟨by rw [(cat_seg (eBlk_len h64)).1, List.length_map], .inr ⟨H.next, true, Nat.zero_le _, by simp only [new_next]; omega, by rw [hzl]; rfl, hb1⟩⟩, .inl ⟨rfl, rfl⟩, fun z hz => (by cases hz), fun i j hi => absurd hi (Nat.not_lt_zero _), h64, fun z hz => (by cases hz), ⟨by omega, by omega⟩, Nat.zero_le _⟩
end
end Go.Ev
namespace Go.Ev
open Go.Proofs
noncomputable section
set_option maxRecDepth 100000
theorem MAt.blk {H : Hp} {p : Nat} {bs : List (List UInt8)} {zs : List (Shot × AV)} {next : Int} {bv sv : AV} (h : MAt H p bs zs next bv sv) {i : Nat} (hi : i < bs.length) : cellsAt H (sB bv) (i * 64) 64 = some (bs[i].map eB) := by
 obtain ⟨x, hx, hlt, _⟩ := h.b.ty h.n.1
 have hs := ((cat_seg (eBlk_len h.bl)).2 i).1
 have hl := (cat_seg (eBlk_len h.bl)).1
 have h64 := h.bl _ (List.getElem_mem hi)
 rw [List.length_map] at hl
 rw [(kn hx).2.2.1]
 show takeE 64 (dropL (i * 64) (catL (bs.map eBlk))) = _
 have hlt' : i < (bs.map eBlk).length := by rw [List.length_map]; exact hi
 have hc : catL ((bs.map eBlk).drop i) = bs[i].map eB ++ catL ((bs.map eBlk).drop (i + 1)) := by
  rw [List.drop_eq_getElem_cons hlt', List.getElem_map, catL_eq, List.flatMap_cons, <- catL_eq, eBlk_cells]
 rw [dropL_eq, takeE_eq, if_pos (by rw [List.length_drop, hl]; omega), hs, hc, List.take_append_of_le_length (by rw [List.length_map]; omega), List.take_of_length_le (by rw [List.length_map]; omega)]
end
end Go.Ev
namespace Go.Ev
open Go.Proofs
noncomputable section
set_option maxRecDepth 100000
def MOK (H : Hp) (p : Nat) (m : MS) (F : Nat -> Prop) : Prop := ∃ zs bv sv, MAt H p m.bs zs m.next bv sv /\ shsOf zs = m.ss /\ F = Fo p bv sv zs
theorem MOK.keep {H H' : Hp} {p : Nat} {m : MS} {F : Nat -> Prop} (h : MOK H p m F) (hf : Fr H H') : MOK H' p m F := by
 obtain ⟨zs, bv, sv, h1, h2, h3⟩ := h
 exact ⟨zs, bv, sv, h1.keep hf, h2, h3⟩
def OutV (v : AV) (o : Out) : Prop := ∃ b, v = .tuple [b, .int .i64 o.2.1, .int .i64 o.2.2] /\ (b = .lst 1 (o.1.map eB) ∨ (b = .nils /\ o.1 = []))
theorem OutV.bad (e : Int) : OutV (.tuple [.nils, .int .i64 0, .int .i64 e]) (bad e) := ⟨.nils, rfl, .inr ⟨rfl, rfl⟩⟩
theorem zs_eq {ss : List Shot} {zs : List (Shot × AV)} (h : shsOf zs = ss) {i : Nat} (hi : i < zs.length) : ss[i]? = some zs[i].1 := by
 rw [<- h, List.getElem?_map, List.getElem?_eq_getElem hi]; rfl
set_option maxHeartbeats 4000000 in
theorem do12x {H : Hp} {p : Nat} {m : MS} {F : Nat -> Prop} {x : Stp} {dv : AV} {K : AV -> Hp -> Prop} (hkd : x.kind = 2 ∨ x.kind = 5 ∨ x.kind = 6 ∨ x.kind = 10) (h : MOK H p m F) (hok : m.ok) (hone : oneC dv = true) (hd : x.kind = 2 ∨ x.kind = 11 -> Dv H dv x.data) (hlen : x.data.length ≤ 140737488351232)
 (hk : ∀ v H' F', OutV v (stepS m x).1 -> MOK H' p (stepS m x).2 F' -> Upd H H' F F' -> (x.kind = 1 ∨ x.kind = 9 ∨ x.kind = 10 -> Fr H H' /\ F' = F) -> K v H') : Call (.func 12 [] []) [.ptr p 0, .agg [.int .i64 x.kind, .int .i64 x.block, .int .i64 x.size, .int .i64 x.id, .int .i64 x.base, dv]] H K := by
 obtain ⟨kind, block, size, id, base, data⟩ := x
 obtain ⟨zs, bv, sv, h, hss, rfl⟩ := h
 have hn := h.n
 simp only at hd hlen hkd
 refine enterE (N := 100) rfl fn12 rfl rfl rfl rfl rfl fun hwf => ?_
 by_cases c2 : kind = 2
 ·
  subst c2
  simp (disch := (refine ofP ?_; first | assumption | decide | omega | (simp only [new_next, set_next] <;> omega) | with_unfolding_all exact ofR rfl | with_unfolding_all exact ofNt rfl)) only [go_sem, hone, oneC_cells hone]
  have h1 : MAt (newBlk H (.cells [.int .i64 2, .int .i64 block, .int .i64 size, .int .i64 id, .int .i64 base, dv] 34 true true)).2 p m.bs zs m.next bv sv := h.keep (Fr.alloc _ _)
  have f1 : Fr H (newBlk H (.cells [.int .i64 2, .int .i64 block, .int .i64 size, .int .i64 id, .int .i64 base, dv] 34 true true)).2 := Fr.alloc _ _
  have g3 : (newBlk H (.cells [.int .i64 2, .int .i64 block, .int .i64 size, .int .i64 id, .int .i64 base, dv] 34 true true)).2.m.get H.next = some (.cells [.int .i64 2, .int .i64 block, .int .i64 size, .int .i64 id, .int .i64 base, dv] 34 true true) := get_new_s
  have n1 : (newBlk H (.cells [.int .i64 2, .int .i64 block, .int .i64 size, .int .i64 id, .int .i64 base, dv] 34 true true)).2.next = H.next + 1 := rfl
  generalize (newBlk H (.cells [.int .i64 2, .int .i64 block, .int .i64 size, .int .i64 id, .int .i64 base, dv] 34 true true)).2 = H1 at h1 f1 g3 n1 ⊢
  have u1 : Upd H H1 (Fo p bv sv zs) (Fo p bv sv zs) := Upd.fr f1
  have hp1 := h1.lt
  replace hk := fun v H2 F2 a b c => hk v H2 F2 a b c (fun h => absurd h (show ¬ ((2 : Int) = 1 ∨ (2 : Int) = 9 ∨ (2 : Int) = 10) by decide))
  have hd1 := (hd (.inl rfl)).keep f1
  have es : stepS m ⟨2, block, size, id, base, data⟩ = wrS m block data := rfl
  rw [es] at hk
  unfold wrS at hk
  refine write24D h1 hd1 (fun hno => ?_) (fun h64 j hj1 hj2 H' hm u => ?_)
  ·
   rw [if_neg (show ¬ (data.length = 64 /\ hasB m block) from hno)] at hk
   simp (disch := (refine ofP ?_; decide)) only [go_sem]
   exact .inl (hk _ _ _ (OutV.bad 1) ⟨zs, bv, sv, h1, hss, rfl⟩ u1)
  ·
   subst hj1
   rw [if_pos (show data.length = 64 /\ hasB m (j : Int) from ⟨h64, by omega, by omega⟩)] at hk
   simp (disch := (refine ofP ?_; decide)) only [go_sem]
   exact .inl (hk _ _ _ (OutV.bad 0) ⟨putZ zs j, bv, sv, hm, by rw [putZ_eq, hss]; rfl, rfl⟩ (by rw [fo_putZ]; exact u1.trans u))
 by_cases c5 : kind = 5
 ·
  subst c5
  simp (disch := (refine ofP ?_; first | assumption | decide | omega | (simp only [new_next, set_next] <;> omega) | with_unfolding_all exact ofR rfl | with_unfolding_all exact ofNt rfl)) only [go_sem, hone, oneC_cells hone]
  have h1 : MAt (newBlk H (.cells [.int .i64 5, .int .i64 block, .int .i64 size, .int .i64 id, .int .i64 base, dv] 34 true true)).2 p m.bs zs m.next bv sv := h.keep (Fr.alloc _ _)
  have f1 : Fr H (newBlk H (.cells [.int .i64 5, .int .i64 block, .int .i64 size, .int .i64 id, .int .i64 base, dv] 34 true true)).2 := Fr.alloc _ _
  have g3 : (newBlk H (.cells [.int .i64 5, .int .i64 block, .int .i64 size, .int .i64 id, .int .i64 base, dv] 34 true true)).2.m.get H.next = some (.cells [.int .i64 5, .int .i64 block, .int .i64 size, .int .i64 id, .int .i64 base, dv] 34 true true) := get_new_s
  have n1 : (newBlk H (.cells [.int .i64 5, .int .i64 block, .int .i64 size, .int .i64 id, .int .i64 base, dv] 34 true true)).2.next = H.next + 1 := rfl
  generalize (newBlk H (.cells [.int .i64 5, .int .i64 block, .int .i64 size, .int .i64 id, .int .i64 base, dv] 34 true true)).2 = H1 at h1 f1 g3 n1 ⊢
  have u1 : Upd H H1 (Fo p bv sv zs) (Fo p bv sv zs) := Upd.fr f1
  have hp1 := h1.lt
  replace hk := fun v H2 F2 a b c => hk v H2 F2 a b c (fun h => absurd h (show ¬ ((5 : Int) = 1 ∨ (5 : Int) = 9 ∨ (5 : Int) = 10) by decide))
  have es : stepS m ⟨5, block, size, id, base, data⟩ = snapS m := rfl
  rw [es] at hk
  unfold snapS at hk
  have hsl : m.ss.length = zs.length := by rw [<- hss, List.length_map]
  have hnx := hok.n
  refine snap25 h1 ⟨by omega, by omega⟩ (fun hno => ?_) (fun q1 q2 H' wv sv' hm u => ?_)
  ·
   rw [if_pos (by rw [hsl]; exact hno)] at hk
   simp (disch := (refine ofP ?_; decide)) only [go_sem]
   exact .inl (hk _ _ _ (OutV.bad 3) ⟨zs, bv, sv, h1, hss, rfl⟩ u1)
  ·
   rw [if_neg (by rw [hsl]; omega)] at hk
   simp (disch := (refine ofP ?_; decide)) only [go_sem]
   exact .inl (hk _ _ _ ⟨.nils, rfl, .inr ⟨rfl, rfl⟩⟩ ⟨_, bv, sv', hm, by show List.map _ _ = _; rw [List.map_append]; exact congrArg (· ++ _) hss, rfl⟩ (u1.trans u))
 by_cases c6 : kind = 6
 ·
  subst c6
  simp (disch := (refine ofP ?_; first | assumption | decide | omega | (simp only [new_next, set_next] <;> omega) | with_unfolding_all exact ofR rfl | with_unfolding_all exact ofNt rfl)) only [go_sem, hone, oneC_cells hone]
  have h1 : MAt (newBlk H (.cells [.int .i64 6, .int .i64 block, .int .i64 size, .int .i64 id, .int .i64 base, dv] 34 true true)).2 p m.bs zs m.next bv sv := h.keep (Fr.alloc _ _)
  have f1 : Fr H (newBlk H (.cells [.int .i64 6, .int .i64 block, .int .i64 size, .int .i64 id, .int .i64 base, dv] 34 true true)).2 := Fr.alloc _ _
  have g3 : (newBlk H (.cells [.int .i64 6, .int .i64 block, .int .i64 size, .int .i64 id, .int .i64 base, dv] 34 true true)).2.m.get H.next = some (.cells [.int .i64 6, .int .i64 block, .int .i64 size, .int .i64 id, .int .i64 base, dv] 34 true true) := get_new_s
  have n1 : (newBlk H (.cells [.int .i64 6, .int .i64 block, .int .i64 size, .int .i64 id, .int .i64 base, dv] 34 true true)).2.next = H.next + 1 := rfl
  generalize (newBlk H (.cells [.int .i64 6, .int .i64 block, .int .i64 size, .int .i64 id, .int .i64 base, dv] 34 true true)).2 = H1 at h1 f1 g3 n1 ⊢
  have u1 : Upd H H1 (Fo p bv sv zs) (Fo p bv sv zs) := Upd.fr f1
  have hp1 := h1.lt
  replace hk := fun v H2 F2 a b c => hk v H2 F2 a b c (fun h => absurd h (show ¬ ((6 : Int) = 1 ∨ (6 : Int) = 9 ∨ (6 : Int) = 10) by decide))
  have es : stepS m ⟨6, block, size, id, base, data⟩ = dropStep m id := rfl
  rw [es] at hk
  unfold dropStep at hk
  refine drop26 h1 (fun hno => ?_) (fun i hi hx H' sv' hm u => ?_)
  ·
   rw [shIx_eq, hss] at hno
   rw [if_pos hno] at hk
   simp (disch := (refine ofP ?_; decide)) only [go_sem]
   exact .inl (hk _ _ _ (OutV.bad 13) ⟨zs, bv, sv, h1, hss, rfl⟩ u1)
  ·
   rw [shIx_eq, hss] at hx
   rw [hx, if_neg (by omega)] at hk
   simp (disch := (refine ofP ?_; decide)) only [go_sem]
   exact .inl (hk _ _ _ (OutV.bad 0) ⟨_, bv, sv', hm, by rw [dropZ_eq, hss]; rfl, rfl⟩ (u1.trans u))
 by_cases c10 : kind = 10
 ·
  subst c10
  simp (disch := (refine ofP ?_; first | assumption | decide | omega | (simp only [new_next, set_next] <;> omega) | with_unfolding_all exact ofR rfl | with_unfolding_all exact ofNt rfl)) only [go_sem, hone, oneC_cells hone]
  have h1 : MAt (newBlk H (.cells [.int .i64 10, .int .i64 block, .int .i64 size, .int .i64 id, .int .i64 base, dv] 34 true true)).2 p m.bs zs m.next bv sv := h.keep (Fr.alloc _ _)
  have f1 : Fr H (newBlk H (.cells [.int .i64 10, .int .i64 block, .int .i64 size, .int .i64 id, .int .i64 base, dv] 34 true true)).2 := Fr.alloc _ _
  have g3 : (newBlk H (.cells [.int .i64 10, .int .i64 block, .int .i64 size, .int .i64 id, .int .i64 base, dv] 34 true true)).2.m.get H.next = some (.cells [.int .i64 10, .int .i64 block, .int .i64 size, .int .i64 id, .int .i64 base, dv] 34 true true) := get_new_s
  have n1 : (newBlk H (.cells [.int .i64 10, .int .i64 block, .int .i64 size, .int .i64 id, .int .i64 base, dv] 34 true true)).2.next = H.next + 1 := rfl
  generalize (newBlk H (.cells [.int .i64 10, .int .i64 block, .int .i64 size, .int .i64 id, .int .i64 base, dv] 34 true true)).2 = H1 at h1 f1 g3 n1 ⊢
  have u1 : Upd H H1 (Fo p bv sv zs) (Fo p bv sv zs) := Upd.fr f1
  have hp1 := h1.lt
  have es : stepS m ⟨10, block, size, id, base, data⟩ = (expStep m base id, m) := rfl
  rw [es] at hk
  unfold expStep at hk
  refine export29 h1 (fun i j hi hj hij => ?_) ?_
  ·
   have e1 := hok.rise (i := i) (j := j) (by rw [<- hss, List.length_map]; exact hi) (by rw [<- hss, List.length_map]; exact hj) hij
   have e2 := zs_eq hss hi
   have e3 := zs_eq hss hj
   rw [List.getElem?_eq_getElem (by rw [<- hss, List.length_map]; exact hi)] at e2
   rw [List.getElem?_eq_getElem (by rw [<- hss, List.length_map]; exact hj)] at e3
   rw [Option.some.inj e2, Option.some.inj e3] at e1
   exact e1
  ·
   rw [expS_eq, hss]
   generalize exportS m.bs.length m.ss base id = o at hk
   by_cases c : o.2 = 0
   ·
    rw [if_pos c] at hk
    rw [c]
    simp (disch := (refine ofP ?_; decide)) only [go_sem]
    exact .inl (hk _ _ _ ⟨_, rfl, .inl rfl⟩ ⟨zs, bv, sv, h1, hss, rfl⟩ u1 (fun _ => ⟨f1, rfl⟩))
   ·
    rw [if_neg c] at hk
    simp (disch := (refine ofP ?_; first | assumption | decide | omega | (simp only [new_next, set_next] <;> omega) | with_unfolding_all exact ofR rfl | with_unfolding_all exact ofNt rfl)) only [go_sem, c, true_imp_iff, false_imp_iff, and_true, true_and]
    exact .inl (hk _ _ _ (OutV.bad _) ⟨zs, bv, sv, h1, hss, rfl⟩ u1 (fun _ => ⟨f1, rfl⟩))
 exfalso
 omega
theorem do12 {H : Hp} {p : Nat} {m : MS} {F : Nat -> Prop} {x : Stp} {dv : AV} {K : AV -> Hp -> Prop} (hkd : x.kind = 2 ∨ x.kind = 5 ∨ x.kind = 6 ∨ x.kind = 10) (h : MOK H p m F) (hok : m.ok) (hone : oneC dv = true) (hd : x.kind = 2 ∨ x.kind = 11 -> Dv H dv x.data) (hlen : x.data.length ≤ 140737488351232)
 (hk : ∀ v H' F', OutV v (stepS m x).1 -> MOK H' p (stepS m x).2 F' -> Upd H H' F F' -> K v H') : Call (.func 12 [] []) [.ptr p 0, .agg [.int .i64 x.kind, .int .i64 x.block, .int .i64 x.size, .int .i64 x.id, .int .i64 x.base, dv]] H K :=
 do12x hkd h hok hone hd hlen fun v H' F' a b c _ => hk v H' F' a b c
end
end Go.Ev
namespace Go.Ev
open Go.Proofs
noncomputable section
set_option maxRecDepth 100000
theorem fn41 : E1.fn 41 = some Try.f41 := by kernel_rfl
theorem fn20 : E1.fn 20 = some Try.f20 := by kernel_rfl
theorem fill41 {H : Hp} {n : Int} {K : AV -> Hp -> Prop} (hk : K (.agg (List.replicate 64 (.int .u8 n))) H) : Call (.func 41 [] []) [.int .u8 n] H K := by
 refine enterE (N := 13) rfl fn41 rfl rfl rfl rfl rfl fun hwf => ?_
 have n2 : (newBlk H (.cells (List.replicate 64 (.int .u8 0)) 53 true true)).2.next = H.next + 1 := rfl
 have g2 : (newBlk H (.cells (List.replicate 64 (.int .u8 0)) 53 true true)).2.m.get H.next = some (.cells (List.replicate 64 (.int .u8 0)) 53 true true) := get_new_s
 have f2 : Fr H (newBlk H (.cells (List.replicate 64 (.int .u8 0)) 53 true true)).2 := Fr.alloc _ _
 have n3 : (newBlk (newBlk H (.cells (List.replicate 64 (.int .u8 0)) 53 true true)).2 (.cells (List.replicate 64 (.int .u8 0)) 53 true true)).2.next = H.next + 2 := rfl
 have g3 : (newBlk (newBlk H (.cells (List.replicate 64 (.int .u8 0)) 53 true true)).2 (.cells (List.replicate 64 (.int .u8 0)) 53 true true)).2.m.get (H.next + 1) = some (.cells (List.replicate 64 (.int .u8 0)) 53 true true) := get_new_s
 have g23 : (newBlk (newBlk H (.cells (List.replicate 64 (.int .u8 0)) 53 true true)).2 (.cells (List.replicate 64 (.int .u8 0)) 53 true true)).2.m.get H.next = some (.cells (List.replicate 64 (.int .u8 0)) 53 true true) := (get_new_n (by omega)).trans g2
 have f3 : Fr H (newBlk (newBlk H (.cells (List.replicate 64 (.int .u8 0)) 53 true true)).2 (.cells (List.replicate 64 (.int .u8 0)) 53 true true)).2 := f2.trans (Fr.alloc _ _)
 simp (disch := (refine ofP ?_; decide)) only [go_sem]
 generalize (newBlk (newBlk H (.cells (List.replicate 64 (.int .u8 0)) 53 true true)).2 (.cells (List.replicate 64 (.int .u8 0)) 53 true true)).2 = H1 at n3 g3 g23 f3 ⊢
 refine loopE 4080 (by kernel_rfl) (fun r G H' => ∃ i : Nat, i ≤ 64 /\ r = 64 - i /\ G.get 4 = some (.int .i64 (i : Int)) /\ H'.m.get (H.next + 1) = some (.cells (List.replicate i (.int .u8 n) ++ List.replicate (64 - i) (.int .u8 0)) 53 true true) /\ H'.m.get H.next = some (.cells (List.replicate 64 (.int .u8 0)) 53 true true) /\ Fr H H') 64 ⟨0, by omega, rfl, rfl, g3, g23, f3⟩ ?_
 rintro r G H' hG ⟨i, hi, rfl, g4, g3, g2, f⟩
 by_cases hlt : i < 64
 ·
  have hput : putCells H' (H.next + 1) i [.int .u8 n] = some (setBlk H' (H.next + 1) (.cells (List.replicate (i + 1) (.int .u8 n) ++ List.replicate (64 - (i + 1)) (.int .u8 0)) 53 true true)) := by
   rw [putCells_def, g3]
   show putB H' (H.next + 1) i [.int .u8 n] (.cells (List.replicate i (.int .u8 n) ++ List.replicate (64 - i) (.int .u8 0)) 53 true true) = _
   rw [putB_c, setE_one (by rw [List.length_append, List.length_replicate, List.length_replicate]; omega)]
   have e : (List.replicate i (AV.int .u8 n) ++ List.replicate (64 - i) (AV.int .u8 0)).set i (.int .u8 n) = List.replicate (i + 1) (.int .u8 n) ++ List.replicate (64 - (i + 1)) (.int .u8 0) := by
    rw [List.set_append_right _ _ (by rw [List.length_replicate]; exact Nat.le_refl _), List.length_replicate, Nat.sub_self, show 64 - i = (64 - (i + 1)) + 1 by omega, List.replicate_succ, List.set_cons_zero, List.replicate_succ', List.append_assoc]; rfl
   rw [e]; rfl
  have hix : idxAddr (.array 64 5) EE (.ptr (H.next + 1) 0) i = some (.ptr (H.next + 1) i) := by
   show bc (Nat.blt i 64) (some (AV.ptr (H.next + 1) (0 + i * sizeT EE 5))) none = _
   rw [(blt_iff _ _).2 hlt, ty5s, Nat.zero_add, Nat.mul_one]; rfl
  have hi64 : (i : Int) < 64 := by omega
  simp (disch := (refine ofP ?_; first | decide | omega)) only [go_sem, g4, hG, hi64, hix, hput, wrap_i64]
  exact ⟨_, by omega, i + 1, by omega, rfl, rfl, rfl, g2, f.set (Nat.le_succ _) _⟩
 ·
  obtain rfl : i = 64 := by omega
  have hld : cellsAt H' (H.next + 1) 0 64 = some (List.replicate 64 (.int .u8 n)) := by
   rw [(kn g3).2.2.1]
   show takeE 64 (dropL 0 (List.replicate 64 (AV.int .u8 n) ++ [])) = _
   rw [List.append_nil, dropL_eq, takeE_eq, List.drop_zero, if_pos (by rw [List.length_replicate]; exact Nat.le_refl _), List.take_of_length_le (by rw [List.length_replicate]; exact Nat.le_refl _)]
  have hfl : flatL (List.replicate 64 (AV.int .u8 n)) = true := flat_rep rfl
  have hte : takeE 64 (List.replicate 64 (AV.int .u8 n)) = some (List.replicate 64 (AV.int .u8 n)) := by rw [takeE_eq, if_pos (by rw [List.length_replicate]; exact Nat.le_refl _), List.take_of_length_le (by rw [List.length_replicate]; exact Nat.le_refl _)]
  have hpl : plainV (.agg (List.replicate 64 (AV.int .u8 n))) = true := by
   show (List.replicate 64 (AV.int .u8 n)).all scalB = true
   rw [List.all_eq_true]
   intro x hx
   rw [List.eq_of_mem_replicate hx]; rfl
  have hst : storeN H' 64 (.ptr H.next 0) (.agg (List.replicate 64 (.int .u8 n))) = some (.undef, setBlk H' H.next (.cells (List.replicate 64 (.int .u8 n)) 53 true true)) := by
   rw [storeN_a List.length_replicate]
   have : putCells H' H.next 0 (List.replicate 64 (.int .u8 n)) = some (setBlk H' H.next (.cells (List.replicate 64 (.int .u8 n)) 53 true true)) := by
    rw [putCells_def, g2]
    show putB H' H.next 0 (List.replicate 64 (AV.int .u8 n)) (.cells (List.replicate 64 (.int .u8 0)) 53 true true) = _
    rw [putB_c, hfl, setE_all (by rw [List.length_replicate, List.length_replicate])]; rfl
   rw [this]; rfl
  have hl2 : cellsAt (setBlk H' H.next (.cells (List.replicate 64 (.int .u8 n)) 53 true true)) H.next 0 64 = some (List.replicate 64 (.int .u8 n)) := by
   rw [(kn (H := setBlk H' H.next (.cells (List.replicate 64 (.int .u8 n)) 53 true true)) get_set_s).2.2.1]
   show takeE 64 (dropL 0 (List.replicate 64 (AV.int .u8 n))) = _
   rw [dropL_eq, takeE_eq, List.drop_zero, if_pos (by rw [List.length_replicate]; exact Nat.le_refl _), List.take_of_length_le (by rw [List.length_replicate]; exact Nat.le_refl _)]
  have fz := f.set (Nat.le_refl _) (.cells (List.replicate 64 (.int .u8 n)) 53 true true)
  simp (disch := (refine ofP ?_; first | assumption | decide | omega | (simp only [new_next, set_next] <;> omega) | with_unfolding_all exact ofR rfl | with_unfolding_all exact ofNt rfl)) only [go_sem, g4, hG, hld, hst, hl2, hte]
  exact .inr (.inl ⟨fz, _, FZ.plain hpl, hk⟩)
theorem data20 {H : Hp} {c : UInt8} {K : AV -> Hp -> Prop} (hk : K (.lst 1 ((List.replicate 64 c).map eB)) H) : Call (.func 20 [] []) [.int .u8 c.toNat] H K := by
 refine enterE (N := 7) rfl fn20 rfl rfl rfl rfl rfl fun hwf => ?_
 simp (disch := (refine ofP ?_; decide)) only [go_sem]
 refine fill41 ?_
 have e : List.replicate 64 (AV.int .u8 (c.toNat : Int)) = (List.replicate 64 c).map eB := by rw [List.map_replicate]; rfl
 rw [e]
 have hst := store_64 (H := H) (x := List.replicate 64 c) List.length_replicate
 have ho : Own (setBlk (newBlk H (.cells (List.replicate 64 (.int .u8 0)) 53 true true)).2 H.next (.cells ((List.replicate 64 c).map eB) 53 true true)) H.next 53 1 (.slice H.next 0 64 (.ex 64)) 64 ((List.replicate 64 c).map eB) := ⟨by rw [List.length_map, List.length_replicate], .inr ⟨H.next, true, Nat.le_refl _, Nat.lt_succ_self _, rfl, get_set_s⟩⟩
 simp (disch := (refine ofP ?_; decide)) only [go_sem, hst, arr_ptr]
 refine .inr (.inl ⟨(Fr.alloc _ _).set (Nat.le_refl _) _, _, ho.fz (l := (List.replicate 64 c).map eB) (by decide) hwf (by rw [List.length_map, List.length_replicate]) (catL_eB _) (eB_len _) (FZL.plain (plain_map fun _ => rfl)), hk⟩)
def eStp (x : Stp) : AV := .agg [.int .i64 x.kind, .int .i64 x.block, .int .i64 x.size, .int .i64 x.id, .int .i64 x.base, .lst 1 (x.data.map eB)]
theorem eStp_cells (x : Stp) : (eStp x).cells = [.int .i64 x.kind, .int .i64 x.block, .int .i64 x.size, .int .i64 x.id, .int .i64 x.base, .lst 1 (x.data.map eB)] := rfl
attribute [go_sem] eStp_cells
end
end Go.Ev
namespace Go.Ev
open Go.Proofs
noncomputable section
set_option maxRecDepth 100000
def ibOf (ss : List Shot) : List (Int × List (List UInt8)) := ss.map fun s => (s.id, s.bs)
theorem set_ib {ss : List Shot} {i : Nat} {s : Shot} (h : ∀ hi : i < ss.length, s.id = ss[i].id /\ s.bs = ss[i].bs) : ibOf (ss.set i s) = ibOf ss := by
 unfold ibOf
 rw [List.map_set]
 by_cases hi : i < ss.length
 ·
  rw [(h hi).1, (h hi).2, show (ss[i].id, ss[i].bs) = (ss.map fun s => (s.id, s.bs))[i]'(by rw [List.length_map]; exact hi) by rw [List.getElem_map], List.set_getElem_self]
 ·
  rw [List.set_eq_of_length_le (by rw [List.length_map]; omega)]
theorem putS_ib (ss : List Shot) (i : Nat) : ibOf (putS ss i) = ibOf ss := by
 unfold putS
 split
 ·
  rename_i z hz
  refine set_ib fun hi => ?_
  rw [List.getElem?_eq_getElem hi] at hz
  cases hz; exact ⟨rfl, rfl⟩
 ·
  rfl
theorem mrgS_ib (ss : List Shot) (i k : Nat) : ibOf (mrgS ss i k) = ibOf ss := by
 unfold mrgS
 split
 ·
  exact set_ib fun hi => ⟨rfl, rfl⟩
 ·
  rfl
theorem dropS_ib (ss : List Shot) (i n : Nat) : ibOf (dropS ss i n) = (ibOf ss).eraseIdx i := by
 unfold dropS
 rw [<- mrgS_ib ss i n]
 exact map_eraseIdx' _ _ _
theorem impRecS_ib (st : BS) (r : Rec) (k : Nat) : ibOf (impRecS st r k).2 = ibOf st.2 := by
 induction k with
 | zero => rfl
 | succ k ih => show ibOf (putS _ _) = _; rw [putS_ib, ih]
theorem impAllS_ib (st : BS) (rs : List Rec) (k : Nat) : ibOf (impAllS st rs k).2 = ibOf st.2 := by
 induction k with
 | zero => rfl
 | succ k ih => show ibOf (impRecS _ _ _).2 = _; rw [impRecS_ib, ih]
theorem impErr0 {w : List UInt8} {n : Nat} {ss : List Shot} {next : Int} (h : impErrS w n ss next = 0) : (parseS w).1 = 0 /\ (parseS w).2.blocks = n /\ baseS ss (parseS w).2.base = true /\ ss.length < 8 /\ next ≤ (parseS w).2.id := by
 unfold impErrS at h
 split at h
 ·
  rename_i h1; exact absurd h h1
 rename_i h1
 split at h
 ·
  cases h
 rename_i h2
 split at h
 ·
  cases h
 rename_i h3
 split at h
 ·
  cases h
 split at h
 ·
  cases h
 exact ⟨Decidable.not_not.1 h1, Decidable.not_not.1 h2, by simpa using h3, by omega, by omega⟩
theorem stepS_cases (P : Out × MS -> Prop) (m : MS) (x : Stp) (same : ∀ o, P (o, m)) (wr : ∀ b d, P (wrS m b d)) (sn : x.kind = 5 -> P (snapS m)) (dr : x.kind = 6 -> P (dropStep m x.id)) (ro : x.kind = 7 -> P (rollStep m x.id)) (im : x.kind = 11 -> P (impStep m x.data)) : P (stepS m x) := by
 unfold stepS
 split
 ·
  exact same _
 split
 ·
  exact wr _ _
 split
 ·
  exact wr _ _
 split
 ·
  exact same _
 split
 ·
  exact same _
 split
 ·
  rename_i h; exact sn h
 split
 ·
  rename_i h; exact dr h
 split
 ·
  rename_i h; exact ro h
 split
 ·
  exact same _
 split
 ·
  exact same _
 split
 ·
  rename_i h; exact im h
 ·
  exact same _
theorem stepS_ok {m : MS} {x : Stp} (h : m.ok) (hl : x.data.length ≤ 140737488351232) : (stepS m x).2.ok := by
 refine stepS_cases (fun r => r.2.ok) m x (fun o => h) (fun b d => ?_) (fun _ => ?_) (fun _ => ?_) (fun _ => ?_) (fun _ => ?_)
 ·
  unfold wrS
  split
  ·
   exact h.re (putS_ids _ _)
  ·
   exact h
 ·
  unfold snapS
  split
  ·
   exact h
  ·
   exact h.add rfl (Int.le_refl _) (by show m.next ≤ _; omega)
 ·
  unfold dropStep
  split
  ·
   exact h
  ·
   exact h.sub (by rw [dropS_ids]; exact List.eraseIdx_sublist _ _)
 ·
  unfold rollStep
  split
  ·
   rename_i z hz
   split
   ·
    exact h
   ·
    exact h.sub (by rw [rollS_ids _ _ _ (List.getElem?_eq_some_iff.1 hz).1]; exact List.take_sublist _ _)
  ·
   exact h
 ·
  unfold impStep
  split
  ·
   exact h
  ·
   rename_i h0
   obtain ⟨e1, _, _, _, e5⟩ := impErr0 (Decidable.not_not.1 h0)
   have hs := parse_ok hl e1
   exact h.add (s := ⟨(parseS x.data).2.id, (impStS x.data m.bs m.ss).1, List.replicate m.bs.length false⟩) (by unfold impStS; rw [impAllS_ids]) e5 hs.i.2
def First (m : MS) (id : Int) (B : List (List UInt8)) : Prop := (ibOf m.ss)[0]? = some (id, B)
theorem First.step {m : MS} {x : Stp} {id : Int} {B : List (List UInt8)} (h : First m id B) (hr : x.kind ≠ 7) (hd : ¬ (x.kind = 6 /\ x.id = id)) : First (stepS m x).2 id B := by
 have app : ∀ (l : List (Int × List (List UInt8))) y, l[0]? = some (id, B) -> (l ++ [y])[0]? = some (id, B) := fun l y h => by
  rw [List.getElem?_append_left (List.getElem?_eq_some_iff.1 h).1]; exact h
 unfold First at h ⊢
 refine stepS_cases (fun r => (ibOf r.2.ss)[0]? = some (id, B)) m x (fun o => h) (fun b d => ?_) (fun _ => ?_) (fun h6 => ?_) (fun h7 => absurd h7 hr) (fun _ => ?_)
 ·
  unfold wrS
  split
  ·
   show (ibOf (putS _ _))[0]? = _; rw [putS_ib]; exact h
  ·
   exact h
 ·
  unfold snapS
  split
  ·
   exact h
  ·
   show (ibOf (m.ss ++ [_]))[0]? = _
   unfold ibOf at h ⊢
   rw [List.map_append]; exact app _ _ h
 ·
  unfold dropStep
  split
  ·
   exact h
  ·
   rename_i hne
   rcases shS_cases m.ss x.id with hx | ⟨i, hi, hx, hid⟩
   ·
    exact absurd hx hne
   ·
    show (ibOf (dropS _ _ _))[0]? = _
    rw [dropS_ib, hx, show ((i : Int)).toNat = i from rfl]
    have hi0 : i ≠ 0 := by
     rintro rfl
     have : (ibOf m.ss)[0]? = some (m.ss[0].id, m.ss[0].bs) := by unfold ibOf; rw [List.getElem?_map, List.getElem?_eq_getElem hi]; rfl
     rw [this] at h
     exact hd ⟨h6, by rw [<- hid]; exact congrArg (·.1) (Option.some.inj h)⟩
    rw [List.getElem?_eraseIdx, if_pos (by omega)]; exact h
 ·
  unfold impStep
  split
  ·
   exact h
  ·
   show (ibOf ((impStS x.data m.bs m.ss).2 ++ [_]))[0]? = _
   have e : ibOf (impStS x.data m.bs m.ss).2 = ibOf m.ss := by unfold impStS; exact impAllS_ib _ _ _
   unfold ibOf at h e ⊢
   rw [List.map_append, e]; exact app _ _ h
end
end Go.Ev
