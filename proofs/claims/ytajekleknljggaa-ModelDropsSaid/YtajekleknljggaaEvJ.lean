/-
  What slice arguments hold, whatever their elements are made of; level two at the top of a law. No conditions.
-/
import Derived.Test.YtajekleknljggaaEvI
set_option linter.unusedVariables false
set_option linter.unusedSimpArgs false
namespace Go.Ev
open Go.RowKit Go.ChangeShapes Go.WideShapes Go.ChangeAt
noncomputable section
section
variable {H : Type} {enc : TypeId × Value -> H} {P : Program} {W : World}
theorem open_lstQ {α : Type} {eA : α -> AV} {mk : List AV -> AV} {Inv : α -> Prop} {Q : DataW H -> Prop} {sz : Nat} {t e : TypeId} (ht : P.underlying t = some (.slice e)) (hsz : P.cellsOf e = sz) (hpos : 0 < sz) (hmk : ∀ cs : List AV, cs.length = sz -> flatL cs = true -> (mk cs).cells = cs)
 (hel : ∀ fuel (cs : List Value) x, cs.length = sz -> DataW.trod enc P W 0 (fun _ => true) true fuel e cs = some x -> Q x.1 -> ∃ a, Inv a /\ VR false noMp (absH W) (eA a) (mk (cs.map (absV W.heap.size))) /\ flatL (cs.map (absV W.heap.size)) = true)
 {v : Value} {fuel : Nat} {x : DataW H × List MemPlace} (h : DataW.trod enc P W 0 (fun _ => true) true fuel t [v] = some x) (hQ : ∀ es rs, x.1 = .slice es rs -> ∀ d ∈ es, Q d) :
 ∃ l : List α, (∀ a ∈ l, Inv a) /\ VR false noMp (absH W) (.lst sz (l.map eA)) (absV W.heap.size v) /\ oneC (absV W.heap.size v) = true /\ conc (idSg W.heap.size) (absV W.heap.size v) = some v /\ (l.length : Int) < 9223372036854775808 /\ (l = [] ∨ ∃ es rs, x.1 = .slice es rs /\ es.length = l.length) := by
 have fin : oneC (absV W.heap.size v) = true -> conc (idSg W.heap.size) (absV W.heap.size v) = some v := absV_conc
 rcases DataW.trod_slice ht h with ⟨hc, _⟩ | ⟨a, len, cap, elems, rest, n, _, hc, hx, _, hlc, hcm, hel', hall, hrest, _⟩
 ·
  cases hc
  exact ⟨[], by simp, VR.lst0_mk (.inl rfl), rfl, rfl, by simp, .inl rfl⟩
 cases hc
 rw [hsz] at hall hrest
 by_cases hcap : cap = 0
 ·
  subst hcap
  obtain rfl : len = 0 := by omega
  obtain ⟨b, o, sp⟩ := a
  cases sp with
  | none =>
   have ha : absV W.heap.size (.slice (some ⟨b, o, none⟩) 0 0) = if b < W.heap.size /\ 0 ≤ 0 then AV.slice b o 0 (.ex 0) else .esl ⟨b, o, none⟩ := rfl
   rw [ha] at fin ⊢
   split
   ·
    rename_i hb
    rw [if_pos hb] at fin
    exact ⟨[], by simp, VR.lst0_mk (.inr (.inl ⟨b, o, .ex 0, rfl, trivial, fun _ => rfl⟩)), rfl, fin rfl, by simp, .inl rfl⟩
   ·
    exact ⟨[], by simp, VR.lst0_mk (.inr (.inr ⟨_, rfl⟩)), rfl, rfl, by simp, .inl rfl⟩
  | some sp => exact ⟨[], by simp, VR.lst0_mk (.inr (.inr ⟨⟨b, o, some sp⟩, rfl⟩)), rfl, rfl, by simp, .inl rfl⟩
 ·
  -- there is room: the block is there
  have h0 : ∃ cs, W.cells? 0 a sz = some cs := by
   by_cases hl0 : 0 < len
   ·
    have h1 := hall 0 hl0
    rw [List.getElem?_eq_getElem (by omega)] at h1
    obtain ⟨cs, hcs, _⟩ := Option.bind_eq_some_iff.1 h1
    rw [Nat.zero_mul] at hcs
    exact ⟨cs, by simpa [Addr.add] using hcs⟩
   ·
    obtain rfl : len = 0 := by omega
    obtain ⟨hr1, hr2⟩ := hrest rfl
    have h1 := hr2 0 (by omega)
    rw [List.getElem?_eq_getElem (by omega)] at h1
    obtain ⟨cs, hcs, _⟩ := Option.bind_eq_some_iff.1 h1
    simp only [Nat.zero_add, Nat.zero_mul] at hcs
    exact ⟨cs, by simpa [Addr.add] using hcs⟩
  obtain ⟨cs0, hcs0⟩ := h0
  obtain ⟨hc0, hj0⟩ := cells_at hcs0
  have hcell0 : ∃ u, W.cell? a = some u := by
   have := hj0 0 hpos
   rw [List.getElem?_eq_getElem (by omega)] at this
   exact ⟨_, by simpa [Addr.add] using this⟩
  obtain ⟨u0, hu0⟩ := hcell0
  obtain ⟨b, o, sp⟩ := a
  have hsp : sp = none := by
   unfold World.cell? at hu0
   split at hu0
   ·
    split at hu0
    ·
     cases hu0
    ·
     rename_i hs; cases sp with
     | none => rfl
     | some s => exact absurd rfl hs
   ·
    cases hu0
  subst hsp
  have hb : b < W.heap.size := by
   obtain ⟨arr, e', fz, hh, _, _⟩ := absH_cell hu0
   exact (Array.getElem?_eq_some_iff.1 hh).1
  have habs : absV W.heap.size (.slice (some ⟨b, o, none⟩) len cap) = .slice b o len (.ex cap) := by
   show (if b < W.heap.size /\ len ≤ cap then AV.slice b o len (.ex cap) else _) = _
   rw [if_pos ⟨hb, hlc⟩]
  rw [habs] at fin ⊢
  have each : ∀ i, i < len -> ∃ (a : α) (cs : List AV), Inv a /\ VR false noMp (absH W) (eA a) (mk cs) /\ flatL cs = true /\ cs.length = sz /\ ∀ j, j < sz -> ∃ u, W.cell? ⟨b, o + (i * sz + j), none⟩ = some u /\ cs[j]? = some (absV W.heap.size u) := by
   intro i hi
   have h1 := hall i hi
   rw [List.getElem?_eq_getElem (by omega)] at h1
   obtain ⟨cs, hcs, htr⟩ := Option.bind_eq_some_iff.1 h1
   obtain ⟨hcl, hcj⟩ := cells_at hcs
   obtain ⟨a, ha, hv, hf⟩ := hel _ _ _ hcl htr (hQ _ _ (by rw [hx]) _ (List.mem_map.2 ⟨_, List.getElem_mem (by omega), rfl⟩))
   refine ⟨a, _, ha, hv, hf, by simpa using hcl, fun j hj => ?_⟩
   have h2 := hcj j hj
   rw [List.getElem?_eq_getElem (by omega)] at h2
   refine ⟨_, ?_, by rw [List.getElem?_map, List.getElem?_eq_getElem (by omega)]; rfl⟩
   rw [addr_add, addr_add] at h2
   rw [<- h2]; congr 2; omega
  have hch : ∀ m, m ≤ len -> ∃ (l : List α) (L : List (List AV)), l.length = m /\ L.length = m /\ (∀ a ∈ l, Inv a) /\ VRL false noMp (absH W) (l.map eA) (L.map mk) /\ (∀ c ∈ L, flatL c = true /\ c.length = sz) /\
   ∀ i j, i < m -> j < sz -> ∃ u, W.cell? ⟨b, o + (i * sz + j), none⟩ = some u /\ (L.flatten)[i * sz + j]? = some (absV W.heap.size u) := by
   intro m
   induction m with
   | zero => exact fun _ => ⟨[], [], rfl, rfl, by simp, VRL.nil.2 rfl, by simp, fun i j hi => by omega⟩
   | succ m ih =>
    intro hm
    obtain ⟨l, L, hl, hL, hI, hV, hF, hA⟩ := ih (by omega)
    obtain ⟨a, cs, ha, hv, hf, hcl, hj⟩ := each m (by omega)
    have hfl : L.flatten.length = m * sz := by
     rw [<- hL]
     clear hA hV hL ih hI
     induction L with
     | nil => simp
     | cons c L ihL =>
      rw [List.flatten_cons, List.length_append, (hF c (by simp)).2, ihL fun c hc => hF c (by simp [hc])]
      simp [Nat.add_mul]; omega
    refine ⟨l ++ [a], L ++ [cs], by simp [hl], by simp [hL], fun x hx => ?_, ?_, fun c hc => ?_, fun i j hi hj' => ?_⟩
    ·
     rcases List.mem_append.1 hx with h | h
     ·
      exact hI x h
     ·
      simp at h; subst h; exact ha
    ·
     rw [List.map_append, List.map_append]
     exact VRL.app hV (VRL.one hv)
    ·
     rcases List.mem_append.1 hc with h | h
     ·
      exact hF c h
     ·
      simp at h; subst h; exact ⟨hf, hcl⟩
    ·
     rw [List.flatten_append, List.flatten_cons, List.flatten_nil, List.append_nil]
     by_cases h : i < m
     ·
      obtain ⟨u, hu1, hu2⟩ := hA i j h hj'
      have hlt : i * sz + j < L.flatten.length := by
       rw [hfl]
       have : (i + 1) * sz ≤ m * sz := Nat.mul_le_mul_right _ h
       rw [Nat.add_mul] at this; omega
      exact ⟨u, hu1, by rw [List.getElem?_append_left hlt]; exact hu2⟩
     ·
      obtain rfl : i = m := by omega
      obtain ⟨u, hu1, hu2⟩ := hj j hj'
      exact ⟨u, hu1, by rw [List.getElem?_append_right (by omega), hfl, show i * sz + j - i * sz = j by omega]; exact hu2⟩
  obtain ⟨l, L, hl, hL, hI, hV, hF, hA⟩ := hch len (Nat.le_refl _)
  have hfl : L.flatten.length = len * sz := by
   rw [<- hL]
   clear hA hV hL
   induction L with
   | nil => simp
   | cons c L ihL =>
    rw [List.flatten_cons, List.length_append, (hF c (by simp)).2, ihL fun c hc => hF c (by simp [hc])]
    simp [Nat.add_mul]; omega
  refine ⟨l, hI, ?_, rfl, fin rfl, by rw [hl]; unfold maxLen at hcm; omega, .inr ⟨_, _, by rw [hx], by rw [List.length_map, hl]; exact hel'⟩⟩
  by_cases hle : l = []
  ·
   subst hle
   obtain rfl : len = 0 := by simpa using hl.symm
   exact VR.lst0_mk (.inr (.inl ⟨b, o, _, rfl, trivial, fun h => by omega⟩))
  have hcat : catL (L.map mk) = L.flatten := by
   clear hA hV hL hfl
   induction L with
   | nil => rfl
   | cons c L ihL =>
    rw [List.map_cons, List.flatten_cons]
    show appL (mk c).cells (catL (L.map mk)) = _
    rw [appL_eq, hmk c (hF c (by simp)).2 (hF c (by simp)).1, ihL fun c hc => hF c (by simp [hc])]
  have hlm : (l.map eA).length = len := by rw [List.length_map, hl]
  have key := VR.lst1_mk (w := false) (σ := noMp) (H := absH W) (l := l.map eA) (l' := L.map mk) (sz := sz) (c := b) (o := o) (k := .ex cap) (by simpa using hle) hpos ?_ trivial (by rw [hlm]; exact hlc) hV ?_ ?_
  ·
   rw [hlm] at key; exact key
  ·
   obtain ⟨arr, e', fz, hh, _, hg⟩ := absH_cell hu0
   exact ⟨fun b h => (nomatch h), hb, by rw [hg]; rfl⟩
  ·
   intro x hx
   obtain ⟨c, hc, rfl⟩ := List.mem_map.1 hx
   rw [hmk c (hF c hc).2 (hF c hc).1]; exact (hF c hc).2
  ·
   rw [hcat, hlm]
   obtain ⟨arr, e', fz, hh, _, hg⟩ := absH_cell hu0
   have hlen0 : 0 < len := by
    rcases Nat.eq_zero_or_pos len with h | h
    ·
     exfalso; apply hle; apply List.eq_nil_of_length_eq_zero; omega
    ·
     exact h
   have hk : ∀ k, k < len * sz -> ((arr.toList.map (absV W.heap.size)).drop o)[k]? = L.flatten[k]? := by
    intro k hk
    have hi : k / sz < len := Nat.div_lt_of_lt_mul (by rw [Nat.mul_comm]; exact hk)
    have hj : k % sz < sz := Nat.mod_lt _ hpos
    have hk2 : k / sz * sz + k % sz = k := by rw [Nat.mul_comm]; exact Nat.div_add_mod k sz
    obtain ⟨u, hu1, hu2⟩ := hA (k / sz) (k % sz) hi hj
    rw [hk2] at hu1 hu2
    obtain ⟨arr', e'', fz', hh', hget', _⟩ := absH_cell hu1
    rw [hh] at hh'; cases hh'
    rw [hu2, List.getElem?_drop, List.getElem?_map]
    simp [hget']
   have hseg : ((arr.toList.map (absV W.heap.size)).drop o).take (len * sz) = L.flatten := by
    refine List.ext_getElem? fun k => ?_
    rw [List.getElem?_take]
    split
    ·
     rename_i hlt; exact hk k hlt
    ·
     rw [List.getElem?_eq_none (by omega)]
   have hne : len * sz ≠ 0 := by
    intro h0
    rcases Nat.mul_eq_zero.1 h0 with h | h <;> omega
   rw [cellsAt_pos hne]
   unfold cellsAt'
   rw [hg]
   show (takeE (len * sz) (dropL o (arr.toList.map (absV W.heap.size)))).obind (chkL false) = _
   rw [dropL_eq, takeE_eq, if_pos (by have := congrArg List.length hseg; rw [hfl, List.length_take] at this; omega), hseg]
   show bc (flatL L.flatten) (some L.flatten) none = _
   have hflat : flatL L.flatten = true := by
    clear hA hV hL hfl hcat hk hseg
    induction L with
    | nil => rfl
    | cons c L ihL => rw [List.flatten_cons]; exact flat_app (hF c (by simp)).1 (ihL fun c hc => hF c (by simp [hc]))
   rw [hflat]; rfl
theorem open_lst {α : Type} {eA : α -> AV} {mk : List AV -> AV} {Inv : α -> Prop} {sz : Nat} {t e : TypeId} (ht : P.underlying t = some (.slice e)) (hsz : P.cellsOf e = sz) (hpos : 0 < sz) (hmk : ∀ cs : List AV, cs.length = sz -> flatL cs = true -> (mk cs).cells = cs)
 (hel : ∀ fuel (cs : List Value) x, cs.length = sz -> DataW.trod enc P W 0 (fun _ => true) true fuel e cs = some x -> ∃ a, Inv a /\ VR false noMp (absH W) (eA a) (mk (cs.map (absV W.heap.size))) /\ flatL (cs.map (absV W.heap.size)) = true)
 {v : Value} {fuel : Nat} {x : DataW H × List MemPlace} (h : DataW.trod enc P W 0 (fun _ => true) true fuel t [v] = some x) :
 ∃ l : List α, (∀ a ∈ l, Inv a) /\ VR false noMp (absH W) (.lst sz (l.map eA)) (absV W.heap.size v) /\ oneC (absV W.heap.size v) = true /\ conc (idSg W.heap.size) (absV W.heap.size v) = some v /\ (l.length : Int) < 9223372036854775808 := by
 obtain ⟨l, h1, h2, h3, h4, h5, _⟩ := open_lstQ (Q := fun _ => True) ht hsz hpos hmk (fun fuel cs x hl hx _ => hel fuel cs x hl hx) h (fun _ _ _ _ _ => trivial)
 exact ⟨l, h1, h2, h3, h4, h5⟩
theorem wt_slice {t e : TypeId} (ht : P.underlying t = some (.slice e)) {es rs : List (DataW H)} (h : ((DataW.slice es rs).weights P t).all (· ≤ reachBytes) = true) : es.length * P.bytesOf e ≤ reachBytes /\ ∀ d ∈ es, (d.weights P e).all (· ≤ reachBytes) = true := by
 unfold DataW.weights at h
 rw [ht] at h
 simp only [List.all_cons, List.all_append, Bool.and_eq_true, decide_eq_true_eq] at h
 refine ⟨Nat.le_trans (Nat.mul_le_mul_right _ (Nat.le_add_right _ _)) h.1, ?_⟩
 have h2 := h.2.1
 clear h
 induction es with
 | nil => intro d hd; cases hd
 | cons a l ih =>
  unfold DataW.weightsAll at h2
  rw [List.all_append, Bool.and_eq_true] at h2
  intro d hd
  rcases List.mem_cons.1 hd with rfl | hd
  ·
   exact h2.1
  ·
   exact ih h2.2 d hd
theorem wt_each {ts : List TypeId} {ds : List (DataW H)} (h : (DataW.weightsEach P ts ds).all (· ≤ reachBytes) = true) : ∀ (j : Nat) t d, ts[j]? = some t -> ds[j]? = some d -> (d.weights P t).all (· ≤ reachBytes) = true := by
 induction ts generalizing ds with
 | nil => intro j t d ht; cases j <;> cases ht
 | cons t0 ts ih =>
  cases ds with
  | nil => intro j t d _ hd; cases j <;> cases hd
  | cons d0 ds =>
   unfold DataW.weightsEach at h
   rw [List.all_append, Bool.and_eq_true] at h
   intro j t d ht hd
   cases j with
   | zero => cases ht; cases hd; exact h.1
   | succ j => exact ih h.2 j t d ht hd
theorem wt_struct {t : TypeId} {fs : Array Field} (ht : P.underlying t = some (.struct fs)) {ps : List (DataW H)} (h : ((DataW.agg ps).weights P t).all (· ≤ reachBytes) = true) : (DataW.weightsEach P (fs.toList.map (·.type)) ps).all (· ≤ reachBytes) = true := by
 unfold DataW.weights at h
 rw [ht] at h
 exact h
end
end
end Go.Ev
namespace Go.Ev
open Go.RowKit Go.ChangeShapes Go.WideShapes Go.ChangeAt
noncomputable section
theorem absH_wf (w : World) : Wfh (absH w) := by
 intro a ha
 rw [absH_get]
 have : w.heap[a]? = none := by
  rw [Array.getElem?_eq_none_iff]; exact ha
 rw [this]; rfl
theorem top2 {E : Env} {f : FuncId} {as1 as2 : List AV} {W : World} (hv : VRL false noMp (absH W) as2 as1) (h : WCall2 E (.func f [] []) as2 noHp fun v _ => v = .bool true) :
 WCall E (.func f [] []) as1 (absH W) fun v _ => v = .bool true := (WCall2.down rfl h (absH_wf W) hv).mono fun _ _ h => h.1
end
end Go.Ev
