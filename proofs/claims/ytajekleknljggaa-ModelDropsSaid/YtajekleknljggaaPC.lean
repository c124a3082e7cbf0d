/-
  A model in memory: blocks, snapshots taken, dropped, rolled back to. No conditions.
-/
import Derived.Test.YtajekleknljggaaPB
set_option linter.unusedVariables false
set_option linter.unusedSimpArgs false
namespace Go.Ev
open Go.Proofs
noncomputable section
set_option maxRecDepth 100000
theorem fn22 : E1.fn 22 = some Try.f22 := by kernel_rfl
theorem fn75 : E1.fn 75 = some Try.f75 := by kernel_rfl
theorem fn74 : E1.fn 74 = some Try.f74 := by kernel_rfl
theorem fn48 : E1.fn 48 = some Try.f48 := by kernel_rfl
def eBlk (b : List UInt8) : AV := .agg (b.map eB)
theorem eBlk_cells (b : List UInt8) : (eBlk b).cells = b.map eB := rfl
def eBo (b : Bool) : AV := .bool b
structure Shot where
 id : Int
 bs : List (List UInt8)
 w : List Bool
def shC (zs : List (Shot × AV)) : List AV := zs.flatMap fun z => [.int .i64 z.1.id, .lst 64 (z.1.bs.map eBlk), z.2]
theorem shC_len (zs : List (Shot × AV)) : (shC zs).length = zs.length * 3 := by
 unfold shC
 induction zs with
 | nil => rfl
 | cons z zs ih => rw [List.flatMap_cons, List.length_append, ih, List.length_cons]; simp only [List.length_cons, List.length_nil]; omega
theorem shC_get {zs : List (Shot × AV)} {i : Nat} (hi : i < zs.length) : ((shC zs).drop (i * 3)).take 3 = [.int .i64 zs[i].1.id, .lst 64 (zs[i].1.bs.map eBlk), zs[i].2] := by
 induction zs generalizing i with
 | nil => cases hi
 | cons z zs ih =>
  cases i with
  | zero => rfl
  | succ i =>
   have e : shC (z :: zs) = [.int .i64 z.1.id, .lst 64 (z.1.bs.map eBlk), z.2] ++ shC zs := by unfold shC; rw [List.flatMap_cons]
   rw [e, List.getElem_cons_succ, <- ih (by simpa using hi), show (i + 1) * 3 = 3 + i * 3 by omega, <- List.drop_drop]; rfl
def ShAt (H : Hp) (sv : AV) (zs : List (Shot × AV)) : Prop :=
 (sv = .nils /\ zs = []) ∨ ∃ b N junk, sv = .slice b 0 zs.length (.rest 0 3 N) /\ H.m.get b = some (.cells (shC zs ++ junk) 95 false true) /\ zs.length * 3 + junk.length = N * 3 /\ b < H.next /\ flatL (shC zs ++ junk) = true
structure MAt (H : Hp) (p : Nat) (bs : List (List UInt8)) (zs : List (Shot × AV)) (next : Int) (bv sv : AV) : Prop where
 m : H.m.get p = some (.cells [bv, sv, .int .i64 next] 72 true true)
 lt : p < H.next
 b : Own H 0 53 64 bv bs.length (catL (bs.map eBlk))
 s : ShAt H sv zs
 w : ∀ z ∈ zs, Own H 0 4 1 z.2 z.1.w.length (catL (z.1.w.map eBo))
 nd : ∀ (i j : Nat) (hi : i < zs.length) (hj : j < zs.length), i ≠ j -> sB zs[i].2 ≠ sB zs[j].2
 bl : ∀ x ∈ bs, x.length = 64
 zl : ∀ z ∈ zs, z.1.w.length = bs.length /\ z.1.bs.length = bs.length /\ ∀ x ∈ z.1.bs, x.length = 64
 n : 0 < bs.length /\ bs.length ≤ 64
 k : zs.length ≤ 8
section
variable {H : Hp} {p : Nat} {bs : List (List UInt8)} {zs : List (Shot × AV)} {next : Int} {bv sv : AV}
theorem ShAt.len (h : ShAt H sv zs) {ty : TypeId} : lenAV (.slice ty) EE sv = some (.int .i64 (zs.length : Int)) := by
 rcases h with ⟨rfl, rfl⟩ | ⟨b, N, junk, rfl, _⟩ <;> rfl
theorem ShAt.idx (h : ShAt H sv zs) {i : Nat} (hi : i < zs.length) : idxAddr (.slice 95) EE sv i = some (.ptr (sB sv) (i * 3)) := by
 rcases h with ⟨rfl, rfl⟩ | ⟨b, N, junk, rfl, _⟩
 ·
  cases hi
 ·
  show bc (Nat.blt i zs.length) (some (AV.ptr b (Nat.add 0 (Nat.mul i (sizeT EE 95))))) none = _
  rw [(blt_iff _ _).2 hi, show sizeT EE 95 = 3 from ty95s]
  show some (AV.ptr b (0 + i * 3)) = _
  rw [Nat.zero_add]; rfl
theorem ShAt.cells (h : ShAt H sv zs) {i : Nat} (hi : i < zs.length) : cellsAt H (sB sv) (i * 3) 3 = some [.int .i64 zs[i].1.id, .lst 64 (zs[i].1.bs.map eBlk), zs[i].2] := by
 rcases h with ⟨rfl, rfl⟩ | ⟨b, N, junk, rfl, hb, _⟩
 ·
  cases hi
 ·
  show cellsAt H b (i * 3) 3 = _
  rw [(kn hb).2.2.1]
  show takeE 3 (dropL (i * 3) (shC zs ++ junk)) = _
  have hl := shC_len zs
  rw [dropL_eq, takeE_eq, if_pos (by rw [List.length_drop, List.length_append]; omega), List.drop_append_of_le_length (by omega), List.take_append_of_le_length (by rw [List.length_drop]; omega), shC_get hi]
end
theorem has22 {H : Hp} {p : Nat} {bs : List (List UInt8)} {zs : List (Shot × AV)} {next b : Int} {bv sv : AV} {K : AV -> Hp -> Prop} (h : MAt H p bs zs next bv sv) (hk : K (.bool (decide (0 ≤ b /\ b < bs.length))) H) : Call (.func 22 [] []) [.ptr p 0, .int .i64 b] H K := by
 refine enterE (N := 16) rfl fn22 rfl rfl rfl rfl rfl fun hwf => ?_
 have hl := h.b.isSl.len (E := EE) (e := 53)
 by_cases h0 : 0 ≤ b
 ·
  by_cases h1 : b < bs.length
  ·
   rw [decide_eq_true (show 0 ≤ b /\ b < bs.length from ⟨h0, h1⟩)] at hk
   simp (disch := (refine ofP ?_; decide)) only [go_sem, kn h.m, hl, h0, h1]
   exact .inl hk
  ·
   rw [decide_eq_false (show ¬ (0 ≤ b /\ b < bs.length) from fun h => h1 h.2)] at hk
   simp (disch := (refine ofP ?_; decide)) only [go_sem, kn h.m, hl, h0, h1]
   exact .inl hk
 ·
  rw [decide_eq_false (show ¬ (0 ≤ b /\ b < bs.length) from fun h => h0 h.1)] at hk
  simp (disch := (refine ofP ?_; first | assumption | decide | omega | (simp only [new_next, set_next] <;> omega) | with_unfolding_all exact ofR rfl | with_unfolding_all exact ofNt rfl)) only [go_sem, kn h.m, hl, h0]
  exact .inl hk
def fidx {α : Type} (p : α -> Bool) (l : List α) : Int := match l.findIdx? p with | some i => (i : Int) | none => -1
theorem fidx_at {α : Type} {p : α -> Bool} {l : List α} {i : Nat} (hi : i < l.length) (hp : p l[i] = true) (hno : ∀ j (hj : j < l.length), j < i -> p l[j] = false) : fidx p l = i := by
 have : l.findIdx? p = some i := by
  rw [List.findIdx?_eq_some_iff_getElem]
  exact ⟨hi, hp, fun j hj => by rw [hno j (by omega) hj]; decide⟩
 unfold fidx
 rw [this]
theorem fidx_no {α : Type} {p : α -> Bool} {l : List α} (hno : ∀ j (hj : j < l.length), p l[j] = false) : fidx p l = -1 := by
 have : l.findIdx? p = none := by
  rw [List.findIdx?_eq_none_iff]
  intro x hx
  obtain ⟨j, hj, rfl⟩ := List.getElem_of_mem hx
  exact hno j hj
 unfold fidx
 rw [this]
theorem fidx_cases {α : Type} (p : α -> Bool) (l : List α) : (fidx p l = -1 /\ ∀ j (hj : j < l.length), p l[j] = false) ∨ ∃ i, ∃ hi : i < l.length, fidx p l = i /\ p l[i] = true := by
 unfold fidx
 cases h : l.findIdx? p with
 | none => exact .inl ⟨rfl, fun j hj => List.findIdx?_eq_none_iff.1 h _ (List.getElem_mem hj)⟩
 | some i =>
  obtain ⟨hi, hp, _⟩ := List.findIdx?_eq_some_iff_getElem.1 h
  exact .inr ⟨i, hi, rfl, hp⟩
def shIx (zs : List (Shot × AV)) (id : Int) : Int := fidx (fun z => decide (z.1.id = id)) zs
theorem isId75 {H : Hp} {b : Nat} {id i : Int} {x y : AV} {K : AV -> Hp -> Prop} (hb : H.m.get b = some (.cells [.int .i64 id] 3 true true)) (hlt : b < H.next) (h1 : oneC x = true) (h2 : oneC y = true) (hk : K (.bool (decide (i = id))) H) : Call (.func 75 [] [.ptr b 0]) [.agg [.int .i64 i, x, y]] H K := by
 refine enterE (N := 8) rfl fn75 rfl rfl rfl rfl rfl fun hwf => ?_
 simp (disch := (refine ofP ?_; first | assumption | decide | omega | (simp only [new_next, set_next] <;> omega) | with_unfolding_all exact ofR rfl | with_unfolding_all exact ofNt rfl)) only [go_sem, fun z => get_new_n (H := H) (x := z) (Nat.ne_of_lt hlt), hb, h1, h2]
 exact .inr (.inl ⟨(Fr.refl H).newT _, _, FZ.scal rfl, hk⟩)
theorem idx74 {H : Hp} {b : Nat} {id : Int} {sv : AV} {zs : List (Shot × AV)} {K : AV -> Hp -> Prop} (hb : H.m.get b = some (.cells [.int .i64 id] 3 true true)) (hlt0 : b < H.next) (hs : ShAt H sv zs) (hw : ∀ z ∈ zs, oneC z.2 = true) (hl : zs.length ≤ 8) (hk : K (.int .i64 (shIx zs id)) H) :
 Call (.func 74 [] []) [sv, .func 75 [] [.ptr b 0]] H K := by
 have hlen := hs.len (ty := 95)
 refine enterE (N := 19) rfl fn74 rfl rfl rfl rfl rfl fun hwf => ?_
 simp (disch := (refine ofP ?_; decide)) only [go_sem, hlen]
 refine loopE 524080 (by kernel_rfl) (fun r G H' => H' = H /\ ∃ i : Nat, i ≤ zs.length /\ r = zs.length - i /\ G.get 8 = some (.int .i64 i) /\ ∀ j (hj : j < zs.length), j < i -> decide (zs[j].1.id = id) = false) zs.length ⟨rfl, 0, Nat.zero_le _, rfl, rfl, fun j _ h => absurd h (by omega)⟩ ?_
 rintro r G H' hG ⟨rfl, i, hi, rfl, g8, hno⟩
 unfold shIx at hk
 by_cases hlt : i < zs.length
 ·
  simp (disch := (refine ofP ?_; first | decide | omega)) only [go_sem, g8, hG, hs.idx hlt, hs.cells hlt]
  refine isId75 hb hlt0 rfl (hw _ (List.getElem_mem hlt)) ?_
  by_cases hp : zs[i].1.id = id
  ·
   simp (disch := (refine ofP ?_; first | assumption | decide | omega | (simp only [new_next, set_next] <;> omega) | with_unfolding_all exact ofR rfl | with_unfolding_all exact ofNt rfl)) only [go_sem, decide_t hp, g8, hG]
   rw [fidx_at hlt (decide_t hp) hno] at hk
   exact .inl hk
  ·
   simp (disch := (refine ofP ?_; first | assumption | decide | omega | (simp only [new_next, set_next] <;> omega) | with_unfolding_all exact ofR rfl | with_unfolding_all exact ofNt rfl)) only [go_sem, decide_f hp, g8, hG, wrap_i64]
   refine ⟨_, by omega, i + 1, hlt, rfl, rfl, fun j hj h => ?_⟩
   by_cases hji : j = i
   ·
    subst hji; exact decide_f hp
   ·
    exact hno j hj (by omega)
 ·
  simp (disch := (refine ofP ?_; first | decide | omega)) only [go_sem, g8, hG]
  rw [fidx_no fun j hj => hno j hj (by omega)] at hk
  exact .inl hk
theorem ShAt.keep {H H' : Hp} {sv : AV} {zs : List (Shot × AV)} (h : ShAt H sv zs) (hf : Fr H H') : ShAt H' sv zs := by
 refine h.imp id ?_
 rintro ⟨b, N, junk, h1, h2, h3, h4, h5⟩
 exact ⟨b, N, junk, h1, (hf.get b h4).trans h2, h3, Nat.lt_of_lt_of_le h4 hf.nx, h5⟩
theorem MAt.keep {H H' : Hp} {p : Nat} {bs : List (List UInt8)} {zs : List (Shot × AV)} {next : Int} {bv sv : AV} (h : MAt H p bs zs next bv sv) (hf : Fr H H') : MAt H' p bs zs next bv sv :=
 ⟨(hf.get p h.lt).trans h.m, Nat.lt_of_lt_of_le h.lt hf.nx, h.b.keep hf, h.s.keep hf, fun z hz => (h.w z hz).keep hf, h.nd, h.bl, h.zl, h.n, h.k⟩
theorem index48 {H : Hp} {p : Nat} {bs : List (List UInt8)} {zs : List (Shot × AV)} {next id : Int} {bv sv : AV} {K : AV -> Hp -> Prop} (h : MAt H p bs zs next bv sv) (hk : K (.int .i64 (shIx zs id)) H) : Call (.func 48 [] []) [.ptr p 0, .int .i64 id] H K := by
 refine enterE (N := 11) rfl fn48 rfl rfl rfl rfl rfl fun hwf => ?_
 have h' : MAt (newBlk H (.cells [.int .i64 id] 3 true true)).2 p bs zs next bv sv := h.keep (Fr.alloc _ _)
 simp (disch := (refine ofP ?_; decide)) only [go_sem, kn h'.m]
 refine idx74 get_new_s (Nat.lt_succ_self _) h'.s (fun z hz => (h.w z hz).one) h.k ?_
 simp (disch := (refine ofP ?_; decide)) only [go_sem]
 exact .inr (.inl ⟨(Fr.refl H).newT _, _, FZ.scal rfl, hk⟩)
end
end Go.Ev
namespace Go.Ev
open Go.Proofs
noncomputable section
set_option maxRecDepth 100000
attribute [go_sem] eBlk_cells
theorem fn46 : E1.fn 46 = some Try.f46 := by kernel_rfl
theorem fn24 : E1.fn 24 = some Try.f24 := by kernel_rfl
def Fo (p : Nat) (bv sv : AV) (zs : List (Shot × AV)) (c : Nat) : Prop := c = p ∨ c = sB bv ∨ (sv ≠ .nils /\ c = sB sv) ∨ ∃ z ∈ zs, c = sB z.2
structure Upd (H H' : Hp) (F F' : Nat -> Prop) : Prop where
 nx : H.next ≤ H'.next
 old : ∀ c, c < H.next -> ¬ F c -> H'.m.get c = H.m.get c
 new : ∀ c, F' c -> F c ∨ H.next ≤ c
theorem Upd.refl (H : Hp) (F : Nat -> Prop) : Upd H H F F := ⟨Nat.le_refl _, fun _ _ _ => rfl, fun _ h => .inl h⟩
theorem Upd.trans {H H' H'' : Hp} {F F' F'' : Nat -> Prop} (h : Upd H H' F F') (k : Upd H' H'' F' F'') : Upd H H'' F F'' := by
 refine ⟨Nat.le_trans h.nx k.nx, fun c hc hf => ?_, fun c hc => ?_⟩
 ·
  have : ¬ F' c := fun h' => by
   rcases h.new c h' with h' | h'
   ·
    exact hf h'
   ·
    omega
  rw [k.old c (Nat.lt_of_lt_of_le hc h.nx) this, h.old c hc hf]
 ·
  rcases k.new c hc with h' | h'
  ·
   exact h.new c h'
  ·
   exact .inr (Nat.le_trans h.nx h')
theorem Upd.fr {H H' : Hp} {F : Nat -> Prop} (h : Fr H H') : Upd H H' F F := ⟨h.nx, fun c hc _ => h.get c hc, fun _ h => .inl h⟩
theorem Upd.set {H H' : Hp} {F F' : Nat -> Prop} (h : Upd H H' F F') {c : Nat} (hc : F' c) (z : Blk) : Upd H (setBlk H' c z) F F' :=
 ⟨h.nx, fun a ha hf => by
  rw [get_set_n]
  ·
   exact h.old a ha hf
  ·
   rintro rfl
   rcases h.new _ hc with h' | h'
   ·
    exact hf h'
   ·
    omega, h.new⟩
section
variable {H : Hp} {e sz n c base : Nat} {v : AV} {cs : List AV} {z : Blk}
theorem Own.setN (h : Own H base e sz v n cs) (hn : v = .nils ∨ c ≠ sB v) : Own (setBlk H c z) base e sz v n cs := by
 refine ⟨h.1, h.2.imp id ?_⟩
 rintro ⟨b, x, h1, h2, rfl, h4⟩
 refine ⟨b, x, h1, h2, rfl, ?_⟩
 rw [get_set_n]
 ·
  exact h4
 ·
  rintro rfl
  rcases hn with hn | hn
  ·
   cases hn
  ·
   exact hn rfl
theorem Own.ty (h : Own H base e sz v n cs) (hn : 0 < n) : ∃ x, H.m.get (sB v) = some (.cells cs e x true) /\ sB v < H.next /\ sO v = 0 /\ v ≠ .nils := by
 rcases h.2 with ⟨rfl, h0⟩ | ⟨b, x, h1, h2, rfl, h4⟩
 ·
  omega
 ·
  exact ⟨x, h4, h2, rfl, fun h => by cases h⟩
theorem Own.re (h : Own H base e sz v n cs) (hn : 0 < n) {cs' : List AV} (hl : cs'.length = cs.length) {x : Bool} (hx : H.m.get (sB v) = some (.cells cs e x true)) : Own (setBlk H (sB v) (.cells cs' e x true)) base e sz v n cs' := by
 rcases h.2 with ⟨rfl, h0⟩ | ⟨b, y, h1, h2, rfl, h4⟩
 ·
  omega
 ·
  change H.m.get b = _ at hx
  rw [h4] at hx
  cases hx
  exact ⟨hl.trans h.1, .inr ⟨b, x, h1, h2, rfl, get_set_s⟩⟩
theorem ne_ty {a b e' : Nat} {l l' : List AV} {x w x' w' : Bool} (h1 : H.m.get a = some (.cells l e x w)) (h2 : H.m.get b = some (.cells l' e' x' w')) (h : Nat.beq e e' = false) : a ≠ b := by
 rintro rfl
 rw [h1] at h2
 cases h2
 rw [Nat.beq_refl] at h; cases h
end
section
variable {H : Hp} {p : Nat} {bs : List (List UInt8)} {zs : List (Shot × AV)} {next : Int} {bv sv : AV}
theorem ShAt.setN {c : Nat} {z : Blk} (h : ShAt H sv zs) (hn : sv = .nils ∨ c ≠ sB sv) : ShAt (setBlk H c z) sv zs := by
 refine h.imp id ?_
 rintro ⟨b, N, junk, rfl, h2, h3, h4, h5⟩
 refine ⟨b, N, junk, rfl, ?_, h3, h4, h5⟩
 rw [get_set_n]
 ·
  exact h2
 ·
  rintro rfl
  rcases hn with hn | hn
  ·
   cases hn
  ·
   exact hn rfl
theorem ShAt.ty (h : ShAt H sv zs) : sv = .nils ∨ ∃ cs, H.m.get (sB sv) = some (.cells cs 95 false true) /\ sv ≠ .nils := by
 rcases h with ⟨rfl, rfl⟩ | ⟨b, N, junk, rfl, h2, h3, h4⟩
 ·
  exact .inl rfl
 ·
  exact .inr ⟨_, h2, fun h => by cases h⟩
theorem MAt.wpos (h : MAt H p bs zs next bv sv) {z : Shot × AV} (hz : z ∈ zs) : 0 < z.1.w.length := by rw [(h.zl z hz).1]; exact h.n.1
theorem MAt.setB (h : MAt H p bs zs next bv sv) {bs' : List (List UInt8)} (hl : bs'.length = bs.length) (hb : ∀ x ∈ bs', x.length = 64) {x : Bool} (hx : H.m.get (sB bv) = some (.cells (catL (bs.map eBlk)) 53 x true)) :
 MAt (setBlk H (sB bv) (.cells (catL (bs'.map eBlk)) 53 x true)) p bs' zs next bv sv := by
 have hc : ∀ l : List (List UInt8), (∀ x ∈ l, x.length = 64) -> (catL (l.map eBlk)).length = l.length * 64 := fun l hl => by
  rw [(cat_seg (sz := 64) fun x hx => by obtain ⟨y, hy, rfl⟩ := List.mem_map.1 hx; rw [eBlk_cells, List.length_map]; exact hl y hy).1, List.length_map]
 refine ⟨(get_set_n (ne_ty h.m hx rfl)).trans h.m, h.lt, ?_, h.s.setN ?_, fun z hz => (h.w z hz).setN (.inr ?_), h.nd, hb, fun z hz => ?_, by rw [hl]; exact h.n, h.k⟩
 ·
  have := h.b.re h.n.1 (cs' := catL (bs'.map eBlk)) (by rw [hc _ hb, hc _ h.bl, hl]) hx
  rw [hl]; exact this
 ·
  rcases h.s.ty with h' | ⟨cs, h', _⟩
  ·
   exact .inl h'
  ·
   exact .inr (ne_ty hx h' rfl)
 ·
  obtain ⟨y, hy, _⟩ := (h.w z hz).ty (h.wpos hz)
  exact ne_ty hx hy rfl
 ·
  rw [hl]; exact h.zl z hz
theorem MAt.setW (h : MAt H p bs zs next bv sv) {j : Nat} (hj : j < zs.length) {w' : List Bool} (hl : w'.length = zs[j].1.w.length) {x : Bool} (hx : H.m.get (sB zs[j].2) = some (.cells (catL (zs[j].1.w.map eBo)) 4 x true)) :
 MAt (setBlk H (sB zs[j].2) (.cells (catL (w'.map eBo)) 4 x true)) p bs (zs.set j ({ zs[j].1 with w := w' }, zs[j].2)) next bv sv := by
 have hc : ∀ l : List Bool, (catL (l.map eBo)).length = l.length := fun l => by
  rw [(cat_seg (sz := 1) fun x hx => by obtain ⟨y, hy, rfl⟩ := List.mem_map.1 hx; rfl).1, List.length_map, Nat.mul_one]
 have hzj := List.getElem_mem hj
 have hsh : shC (zs.set j ({ zs[j].1 with w := w' }, zs[j].2)) = shC zs := by
  have e : ∀ (l : List (Shot × AV)) (j : Nat) (hj : j < l.length), shC (l.set j ({ l[j].1 with w := w' }, l[j].2)) = shC l := by
   intro l
   induction l with
   | nil => intro j hj; cases hj
   | cons a l ih =>
    intro j hj
    cases j with
    | zero => rfl
    | succ j =>
     have := ih j (by simpa using hj)
     show shC (a :: l.set j _) = _
     unfold shC at this ⊢
     rw [List.flatMap_cons, List.flatMap_cons]
     congr 1
  exact e zs j hj
 have hmem : ∀ z ∈ zs.set j ({ zs[j].1 with w := w' }, zs[j].2), z = ({ zs[j].1 with w := w' }, zs[j].2) ∨ ∃ i, ∃ hi : i < zs.length, i ≠ j /\ z = zs[i] := by
  intro z hz
  obtain ⟨i, hi, rfl⟩ := List.getElem_of_mem hz
  rw [List.length_set] at hi
  by_cases hij : i = j
  ·
   subst hij; exact .inl (by rw [List.getElem_set_self])
  ·
   exact .inr ⟨i, hi, hij, by rw [List.getElem_set_ne (Ne.symm hij)]⟩
 have hsbne : ∀ i (hi : i < zs.length), i ≠ j -> sB zs[j].2 ≠ sB zs[i].2 := fun i hi hij => h.nd j i hj hi (Ne.symm hij)
 refine ⟨(get_set_n (ne_ty h.m hx rfl)).trans h.m, h.lt, h.b.setN (.inr ?_), ?_, fun z hz => ?_, ?_, h.bl, fun z hz => ?_, h.n, by rw [List.length_set]; exact h.k⟩
 ·
  obtain ⟨y, hy, _⟩ := h.b.ty h.n.1
  exact ne_ty hx hy rfl
 ·
  have h1 := h.s.setN (c := sB zs[j].2) (z := .cells (catL (w'.map eBo)) 4 x true) (by
   rcases h.s.ty with h' | ⟨cs, h', _⟩
   ·
    exact .inl h'
   ·
    exact .inr (ne_ty hx h' rfl))
  rcases h1 with ⟨h1, h2⟩ | ⟨b, N, junk, h1, h2, h3, h4, h5⟩
  ·
   rw [h2] at hj; cases hj
  ·
   exact .inr ⟨b, N, junk, by rw [List.length_set]; exact h1, by rw [hsh]; exact h2, by rw [List.length_set]; exact h3, h4, by rw [hsh]; exact h5⟩
 ·
  rcases hmem z hz with rfl | ⟨i, hi, hij, rfl⟩
  ·
   have := (h.w _ hzj).re (h.wpos hzj) (cs' := catL (w'.map eBo)) (by rw [hc, hc, hl]) hx
   show Own _ 0 4 1 zs[j].2 w'.length _
   rw [hl]; exact this
  ·
   exact (h.w _ (List.getElem_mem hi)).setN (.inr (hsbne i hi hij))
 ·
  intro i k hi hk hik
  have e : ∀ i (hi : i < (zs.set j ({ zs[j].1 with w := w' }, zs[j].2)).length), sB (zs.set j ({ zs[j].1 with w := w' }, zs[j].2))[i].2 = sB (zs[i]'(by rw [List.length_set] at hi; exact hi)).2 := fun i hi => by
   by_cases hij : i = j
   ·
    subst hij; rw [List.getElem_set_self]
   ·
    rw [List.getElem_set_ne (Ne.symm hij)]
  rw [e i hi, e k hk]
  exact h.nd i k _ _ hik
 ·
  rcases hmem z hz with rfl | ⟨i, hi, hij, rfl⟩
  ·
   exact ⟨hl.trans (h.zl _ hzj).1, (h.zl _ hzj).2⟩
  ·
   exact h.zl _ (List.getElem_mem hi)
theorem fo_set {j : Nat} (hj : j < zs.length) {s' : Shot} : Fo p bv sv (zs.set j (s', zs[j].2)) = Fo p bv sv zs := by
 have e : ∀ c, (∃ z ∈ zs.set j (s', zs[j].2), c = sB z.2) ↔ ∃ z ∈ zs, c = sB z.2 := fun c => by
  constructor
  ·
   rintro ⟨z, hz, rfl⟩
   obtain ⟨i, hi, rfl⟩ := List.getElem_of_mem hz
   rw [List.length_set] at hi
   refine ⟨zs[i], List.getElem_mem hi, ?_⟩
   by_cases hij : i = j
   ·
    subst hij; rw [List.getElem_set_self]
   ·
    rw [List.getElem_set_ne (Ne.symm hij)]
  ·
   rintro ⟨z, hz, rfl⟩
   obtain ⟨i, hi, rfl⟩ := List.getElem_of_mem hz
   refine ⟨(zs.set j (s', zs[j].2))[i]'(by rw [List.length_set]; exact hi), List.getElem_mem _, ?_⟩
   by_cases hij : i = j
   ·
    subst hij; rw [List.getElem_set_self]
   ·
    rw [List.getElem_set_ne (Ne.symm hij)]
 funext c
 unfold Fo
 rw [propext (e c)]
end
end
end Go.Ev
namespace Go.Ev
open Go.Proofs
noncomputable section
set_option maxRecDepth 100000
theorem catL_set_seg {sz : Nat} {l : List AV} {i : Nat} {y : AV} (hi : i < l.length) (hc : ∀ x ∈ l, x.cells.length = sz) : catL (l.set i y) = (catL l).take (i * sz) ++ (y.cells ++ (catL l).drop (i * sz + sz)) := by
 obtain ⟨_, h2⟩ := cat_seg hc
 rw [(h2 i).2, show i * sz + sz = (i + 1) * sz by rw [Nat.add_mul, Nat.one_mul], (h2 (i + 1)).1, List.set_eq_take_append_cons_drop, if_pos hi, catL_app, catL_eq (y :: _), List.flatMap_cons, <- catL_eq]
theorem eBlk_len {bs : List (List UInt8)} (h : ∀ x ∈ bs, x.length = 64) : ∀ x ∈ bs.map eBlk, x.cells.length = 64 := fun x hx => by
 obtain ⟨y, hy, rfl⟩ := List.mem_map.1 hx
 rw [eBlk_cells, List.length_map]; exact h y hy
def putZ (zs : List (Shot × AV)) (i : Nat) : List (Shot × AV) := match zs[zs.length - 1]? with
 | some z => zs.set (zs.length - 1) ({ z.1 with w := z.1.w.set i true }, z.2)
 | none => zs
theorem putZ_pos {zs : List (Shot × AV)} (i : Nat) (h : 0 < zs.length) : putZ zs i = zs.set (zs.length - 1) ({ (zs[zs.length - 1]'(by omega)).1 with w := (zs[zs.length - 1]'(by omega)).1.w.set i true }, (zs[zs.length - 1]'(by omega)).2) := by
 unfold putZ
 rw [List.getElem?_eq_getElem (by omega)]
section
variable {H : Hp} {p : Nat} {bs : List (List UInt8)} {zs : List (Shot × AV)} {next : Int} {bv sv : AV}
theorem MAt.idxB (h : MAt H p bs zs next bv sv) {ty : TypeId} {i : Nat} (hi : i < bs.length) : idxAddr (.slice ty) EE bv i = some (.ptr (sB bv) (i * sizeT EE ty)) := by
 have := h.b.isSl.idx (E := EE) (e := ty) hi
 obtain ⟨_, _, _, h0, _⟩ := h.b.ty h.n.1
 rw [h0, Nat.zero_add] at this
 exact this
theorem MAt.putBlk (h : MAt H p bs zs next bv sv) {i : Nat} (hi : i < bs.length) {b : List UInt8} (hb : b.length = 64) :
 ∃ H', putCells H (sB bv) (i * 64) (b.map eB) = some H' /\ MAt H' p (bs.set i b) zs next bv sv /\ Upd H H' (Fo p bv sv zs) (Fo p bv sv zs) := by
 obtain ⟨x, hx, _⟩ := h.b.ty h.n.1
 refine ⟨setBlk H (sB bv) (.cells (catL ((bs.set i b).map eBlk)) 53 x true), ?_, h.setB (by rw [List.length_set]) (fun y hy => ?_) hx, (Upd.refl _ _).set (.inr (.inl rfl)) _⟩
 ·
  have hfl : flatL (b.map eB) = true := by rw [<- catL_eB]; exact flat_eB b
  have hl : (catL (bs.map eBlk)).length = bs.length * 64 := by rw [(cat_seg (eBlk_len h.bl)).1, List.length_map]
  rw [putCells_def, hx]
  show putB H (sB bv) (i * 64) (b.map eB) (.cells (catL (bs.map eBlk)) 53 x true) = _
  have hle : (i + 1) * 64 ≤ bs.length * 64 := Nat.mul_le_mul_right _ hi
  rw [putB_c, hfl, setE_seg (by rw [List.length_map, hl, hb]; omega), List.length_map, hb, List.map_set, catL_set_seg (by rw [List.length_map]; exact hi) (eBlk_len h.bl)]
  rfl
 ·
  rcases List.mem_or_eq_of_mem_set hy with hy | rfl
  ·
   exact h.bl y hy
  ·
   exact hb
end
theorem put46 {H : Hp} {p i : Nat} {bs : List (List UInt8)} {zs : List (Shot × AV)} {next : Int} {bv sv : AV} {b : List UInt8} {K : AV -> Hp -> Prop} (h : MAt H p bs zs next bv sv) (hi : i < bs.length) (hb : b.length = 64)
 (hk : ∀ H', MAt H' p (bs.set i b) (putZ zs i) next bv sv -> Upd H H' (Fo p bv sv zs) (Fo p bv sv zs) -> K (.tuple []) H') : Call (.func 46 [] []) [.ptr p 0, .int .i64 i, eBlk b] H K := by
 unfold eBlk
 refine enterE (N := 32) rfl fn46 rfl rfl rfl rfl rfl fun hwf => ?_
 simp (disch := (refine ofP ?_; decide)) only [go_sem]
 refine drawE (by kernel_rfl) (by kernel_rfl) ?_
 have h1 : MAt (newBlk H (.cells (b.map eB) 53 true true)).2 p bs zs next bv sv := h.keep (Fr.alloc _ _)
 have u1 : Upd H (newBlk H (.cells (b.map eB) 53 true true)).2 (Fo p bv sv zs) (Fo p bv sv zs) := Upd.fr (Fr.alloc _ _)
 have hld : cellsAt (newBlk H (.cells (b.map eB) 53 true true)).2 H.next 0 64 = some (b.map eB) := by
  rw [(kn (H := (newBlk H (.cells (b.map eB) 53 true true)).2) get_new_s).2.2.1]
  show takeE 64 (dropL 0 (b.map eB)) = _
  rw [dropL_eq, takeE_eq, List.drop_zero, if_pos (by rw [List.length_map, hb]; exact Nat.le_refl _), List.take_of_length_le (by rw [List.length_map, hb]; exact Nat.le_refl _)]
 obtain ⟨H2, hput, h2, u2⟩ := h1.putBlk hi hb
 have hst : storeN (newBlk H (.cells (b.map eB) 53 true true)).2 64 (.ptr (sB bv) (i * 64)) (.agg (b.map eB)) = some (.undef, H2) := by
  show bc (Nat.beq (lenL (b.map eB)) 64) ((putCells _ (sB bv) (i * 64) (b.map eB)).omap fun H => (AV.undef, H)) none = _
  rw [lenL_eq, List.length_map, hb, hput]; rfl
 have u := u1.trans u2
 have hsl := h2.s.len (ty := 95)
 simp (disch := (refine ofP ?_; decide)) only [go_sem, kn h1.m, hld, h1.idxB hi, hst]
 by_cases hz : zs.length = 0
 ·
  have hz0 : zs = [] := List.eq_nil_of_length_eq_zero hz
  have hz' : ¬ (0 : Int) < (zs.length : Int) := by omega
  simp (disch := (refine ofP ?_; decide)) only [go_sem, kn h2.m, hsl, hz']
  exact .inl (hk H2 (by rw [show putZ zs i = zs by rw [hz0]; rfl]; exact h2) u)
 ·
  have hz' : (0 : Int) < (zs.length : Int) := by omega
  have hj : zs.length - 1 < zs.length := by omega
  have hzj := List.getElem_mem hj
  have hwl : i < zs[zs.length - 1].1.w.length := by rw [(h.zl _ hzj).1]; exact hi
  have ho := h2.w _ hzj
  obtain ⟨x, hx, _, hs0, hnn⟩ := ho.ty (h2.wpos hzj)
  have hcs := h2.s.cells hj
  have hix := h2.s.idx hj
  have hwi := ho.isSl.idx (E := EE) (e := 4) hwl
  rw [hs0, Nat.zero_add] at hwi
  have hcell2 : cellAt H2 (sB sv) ((zs.length - 1) * 3 + 2) = some zs[zs.length - 1].2 := cellsAt_cell (j := 2) hcs (by decide)
  have hpw : putCells H2 (sB zs[zs.length - 1].2) i [.bool true] = some (setBlk H2 (sB zs[zs.length - 1].2) (.cells (catL ((zs[zs.length - 1].1.w.set i true).map eBo)) 4 x true)) := by
   have hcl : (catL (zs[zs.length - 1].1.w.map eBo)).length = zs[zs.length - 1].1.w.length := by
    rw [(cat_seg (sz := 1) fun x hx => by obtain ⟨y, hy, rfl⟩ := List.mem_map.1 hx; rfl).1, List.length_map, Nat.mul_one]
   have hset : catL ((zs[zs.length - 1].1.w.set i true).map eBo) = (catL (zs[zs.length - 1].1.w.map eBo)).set i (.bool true) := by
    rw [List.map_set]
    have := catL_set (sz := 1) (l := zs[zs.length - 1].1.w.map eBo) (i := i) (o := 0) (x := .bool true) (y := .bool true) (fun z hz => by obtain ⟨y, hy, rfl⟩ := List.mem_map.1 hz; rfl) (by rw [List.length_map]; exact hwl) (by decide) (by rw [List.getElem_map]; rfl)
    rw [Nat.mul_one, Nat.add_zero] at this
    exact this.symm
   rw [putCells_def, hx]
   show putB H2 _ i [.bool true] (.cells (catL (zs[zs.length - 1].1.w.map eBo)) 4 x true) = _
   rw [putB_c, setE_one (by rw [hcl]; exact hwl), hset]; rfl
  have h3 := h2.setW hj (w' := zs[zs.length - 1].1.w.set i true) (by rw [List.length_set]) hx
  have u3 := u.set (.inr (.inr (.inr ⟨_, hzj, rfl⟩))) (.cells (catL ((zs[zs.length - 1].1.w.set i true).map eBo)) 4 x true)
  have hw1 : wrapI .i64 ((zs.length : Int) - 1) = ((zs.length - 1 : Nat) : Int) := by rw [wrap_i64 (by have := h.k; omega) (by have := h.k; omega)]; omega
  simp (disch := (refine ofP ?_; decide)) only [go_sem, kn h2.m, hsl, hz', hw1, hix, hcell2, hwi, hpw]
  refine .inl (hk _ ?_ u3)
  rw [putZ_pos i (by omega)]
  exact h3
theorem write24L {H : Hp} {p : Nat} {i : Int} {bs : List (List UInt8)} {zs : List (Shot × AV)} {next : Int} {bv sv : AV} {d : List UInt8} {K : AV -> Hp -> Prop} (h : MAt H p bs zs next bv sv)
 (h1 : ¬ (d.length = 64 /\ 0 ≤ i /\ i < bs.length) -> K (.int .i64 1) H)
 (h2 : d.length = 64 -> ∀ j : Nat, i = j -> j < bs.length -> ∀ H', MAt H' p (bs.set j d) (putZ zs j) next bv sv -> Upd H H' (Fo p bv sv zs) (Fo p bv sv zs) -> K (.int .i64 0) H') : Call (.func 24 [] []) [.ptr p 0, .int .i64 i, .lst 1 (d.map eB)] H K := by
 refine enterE (N := 22) rfl fn24 rfl rfl rfl rfl rfl fun hwf => ?_
 by_cases c1 : d.length = 64
 ·
  have c1' : ¬ (d.length : Int) ≠ 64 := by omega
  simp (disch := (refine ofP ?_; decide)) only [go_sem, c1', List.length_map]
  refine has22 h ?_
  by_cases c2 : 0 ≤ i /\ i < bs.length
  ·
   obtain ⟨j, rfl⟩ := Int.eq_ofNat_of_zero_le c2.1
   rw [decide_eq_true c2]
   have hfl : flatL (d.map eB) = true := by rw [<- catL_eB]; exact flat_eB d
   have hl : (d.map eB).length = 64 := by rw [List.length_map, c1]
   have ht : takeE 64 (d.map eB) = some (d.map eB) := by rw [takeE_eq, if_pos (by omega), List.take_of_length_le (by omega)]
   have hs : s2aV 64 (.lst 1 (d.map eB)) = some (.ept (d.map eB) 0) := by
    show bc (Nat.beq 1 1 && (Nat.blt 0 64 && flatL (d.map eB))) ((takeE 64 (d.map eB)).omap fun l => AV.ept l 0) none = _
    rw [hfl, ht]; rfl
   have hp : takeE 64 (dropL 0 (d.map eB)) = some (d.map eB) := by rw [dropL_eq, List.drop_zero, ht]
   simp (disch := (refine ofP ?_; first | assumption | decide | omega | (simp only [new_next, set_next] <;> omega) | with_unfolding_all exact ofR rfl | with_unfolding_all exact ofNt rfl)) only [go_sem, hs, hp, ht]
   have hj : j < bs.length := by omega
   refine put46 h hj c1 fun H' h' u => ?_
   simp (disch := (refine ofP ?_; decide)) only [go_sem]
   exact .inl (h2 c1 j rfl hj H' h' u)
  ·
   rw [decide_eq_false c2]
   simp (disch := (refine ofP ?_; decide)) only [go_sem]
   exact .inl (h1 fun h => c2 h.2)
 ·
  have c1' : (d.length : Int) ≠ 64 := by omega
  simp (disch := (refine ofP ?_; decide)) only [go_sem, c1', List.length_map]
  exact .inl (h1 fun h => c1 h.1)
end
end Go.Ev
namespace Go.Ev
open Go.Proofs
noncomputable section
set_option maxRecDepth 100000
theorem fn16 : E1.fn 16 = some Try.f16 := by kernel_rfl
theorem fn47 : E1.fn 47 = some Try.f47 := by kernel_rfl
theorem fn25 : E1.fn 25 = some Try.f25 := by kernel_rfl
theorem eBlk_plain (b : List UInt8) : plainV (eBlk b) = true := by
 show (b.map eB).all scalB = true
 rw [List.all_map, List.all_eq_true]; intro x _; rfl
theorem eBlk_flat (bs : List (List UInt8)) : flatL (catL (bs.map eBlk)) = true := by
 rw [catL_map (g := fun b => b.map eB) fun b => eBlk_cells b]
 induction bs with
 | nil => rfl
 | cons b bs ih =>
  rw [List.flatMap_cons]
  have : ∀ l r : List AV, flatL l = true -> flatL r = true -> flatL (l ++ r) = true := by
   intro l r hl hr
   induction l with
   | nil => exact hr
   | cons x l ih =>
    rw [flatL_cons'] at hl
    rw [List.cons_append, flatL_cons']
    cases hx : oneC x with
    | false => rw [hx] at hl; cases hl
    | true => rw [hx] at hl; exact ih hl
  exact this _ _ (by rw [<- catL_eB]; exact flat_eB b) ih
section
variable {H : Hp} {p : Nat} {bs : List (List UInt8)} {zs : List (Shot × AV)} {next : Int} {bv sv : AV}
theorem MAt.clone (h : MAt H p bs zs next bv sv) {K : AV -> Hp -> Prop} (hk : ∀ v H', Acc EE H H' 53 64 v (bs.map eBlk) -> K v H') : Call (.func 39 [] []) [bv] H K := by
 have hn := h.n
 obtain ⟨x, hx, hlt, _⟩ := h.b.ty hn.1
 rcases h.b.2 with ⟨_, h0⟩ | ⟨b, y, _, hlt, hbv, hb⟩
 ·
  omega
 ·
  subst hbv
  have hl : (catL (bs.map eBlk)).length = bs.length * 64 := by rw [(cat_seg (eBlk_len h.bl)).1, List.length_map]
  have := clone39_mem (H := H) (b := b) (o := 0) (k := if y then Cap.ex bs.length else Cap.rest 0 64 bs.length) (l := bs.map eBlk) (K := K) (by rw [List.length_map]; omega) (eBlk_len h.bl) (eBlk_flat bs) (by
   rw [(kn hb).2.2.1, List.length_map, beqF (by omega)]
   show takeE _ (dropL 0 _) = _
   rw [dropL_eq, takeE_eq, List.drop_zero, if_pos (by rw [hl]; exact Nat.le_refl _), List.take_of_length_le (by rw [hl]; exact Nat.le_refl _)]) hlt hk
  rw [List.length_map] at this
  exact this
end
theorem blocks16 {H : Hp} {p : Nat} {bs : List (List UInt8)} {zs : List (Shot × AV)} {next : Int} {bv sv : AV} {K : AV -> Hp -> Prop} (h : MAt H p bs zs next bv sv) (hk : K (.lst 64 (bs.map eBlk)) H) : Call (.func 16 [] []) [.ptr p 0] H K := by
 refine enterE (N := 10) rfl fn16 rfl rfl rfl rfl rfl fun hwf => ?_
 simp (disch := (refine ofP ?_; decide)) only [go_sem, kn h.m]
 refine h.clone fun v H' ha => ?_
 simp (disch := (refine ofP ?_; decide)) only [go_sem]
 exact ha.out_plain hwf (plain_map fun b => eBlk_plain b) hk
theorem flatL_app : ∀ {l r : List AV}, flatL (l ++ r) = true ↔ flatL l = true /\ flatL r = true
 | [], r => by simp [show flatL [] = true from rfl]
 | x :: l, r => by
  rw [List.cons_append, flatL_cons', flatL_cons']
  cases hx : oneC x with
  | false => exact ⟨fun h => (by cases h), fun h => (by cases h.1)⟩
  | true => exact flatL_app
theorem shC_app (zs ys : List (Shot × AV)) : shC (zs ++ ys) = shC zs ++ shC ys := List.flatMap_append
theorem ShAt.push {H : Hp} {sv : AV} {zs : List (Shot × AV)} {z : Shot × AV} (h : ShAt H sv zs) (hz : oneC z.2 = true) (hk : zs.length ≤ 8) :
 ∃ sv' H', evAppend EE H 95 sv 1 [.int .i64 z.1.id, .lst 64 (z.1.bs.map eBlk), z.2] = some (sv', H') /\ ShAt H' sv' (zs ++ [z]) /\ H.next ≤ H'.next /\ (∀ c, c < H.next -> (sv = .nils ∨ c ≠ sB sv) -> H'.m.get c = H.m.get c) /\ ((sv ≠ .nils /\ sB sv' = sB sv) ∨ H.next ≤ sB sv') := by
 have hfl : flatL [AV.int .i64 z.1.id, .lst 64 (z.1.bs.map eBlk), z.2] = true := by rw [flatL_cons', flatL_cons', flatL_cons', hz]; rfl
 have hs1 : shC (zs ++ [z]) = shC zs ++ [.int .i64 z.1.id, .lst 64 (z.1.bs.map eBlk), z.2] := by rw [shC_app]; congr 1
 rcases h with ⟨rfl, rfl⟩ | ⟨b, N, junk, rfl, hb, hN, hlt, hf⟩
 ·
  refine ⟨_, _, app_nil (E := EE) (e := 95) (sz := 3) (n := 1) ty95g ty95s (by decide) (by decide), .inr ⟨H.next, 1, [], rfl, ?_, rfl, Nat.lt_succ_self _, ?_⟩, Nat.le_succ _, fun c hc _ => get_new_n (Nat.ne_of_lt hc), .inr (Nat.le_refl _)⟩
  ·
   rw [List.append_nil]; exact get_new_s
  ·
   rw [List.append_nil]; exact hfl
 ·
  by_cases hin : zs.length + 1 ≤ N
  ·
   have hl := shC_len zs
   have hj : 3 ≤ junk.length := by omega
   refine ⟨_, _, app_in hb ty95s (by decide) (by decide) rfl hfl hin (by rw [List.length_append, hl]; exact hN), .inr ⟨b, N, junk.drop 3, by rw [List.length_append]; rfl, ?_, by rw [List.length_append, List.length_drop, List.length_singleton]; omega, hlt, ?_⟩, Nat.le_refl _, fun c hc hn => get_set_n (hn.resolve_left (fun h => (by cases h))), .inl ⟨fun h => (by cases h), rfl⟩⟩
   ·
    have e : (shC zs ++ junk).take (zs.length * 3) ++ ([AV.int .i64 z.1.id, .lst 64 (z.1.bs.map eBlk), z.2] ++ (shC zs ++ junk).drop (zs.length * 3 + 3)) = shC (zs ++ [z]) ++ junk.drop 3 := by
     rw [hs1, List.take_append_of_le_length (by omega), List.take_of_length_le (by omega), List.drop_append, hl, List.drop_of_length_le (by omega), List.nil_append, show zs.length * 3 + 3 - zs.length * 3 = 3 by omega, List.append_assoc]
    rw [<- e]; exact get_set_s
   ·
    rw [hs1]
    obtain ⟨f1, f2⟩ := flatL_app.1 hf
    have f3 : flatL (junk.drop 3) = true := (flatL_app (l := junk.take 3).1 (by rw [List.take_append_drop]; exact f2)).2
    exact flatL_app.2 ⟨flatL_app.2 ⟨f1, hfl⟩, f3⟩
  ·
   have hl := shC_len zs
   have hj : junk = [] := List.eq_nil_of_length_eq_zero (by omega)
   subst hj
   have hNn : N = zs.length := by simp at hN; omega
   subst hNn
   rw [List.append_nil] at hb hf
   have ho : Own H 0 95 3 (.slice b 0 zs.length (.rest 0 3 zs.length)) zs.length (shC zs) := ⟨hl, .inr ⟨b, false, Nat.zero_le _, hlt, rfl, hb⟩⟩
   obtain ⟨H', h1, h2, _, h4, h5⟩ := ho.append (m := 1) ty95s (by decide) (by decide) rfl hfl (growOk_grows ty95g (by omega)) (Nat.zero_le _)
   refine ⟨_, H', h1, ?_, by omega, fun c hc hn => h5 c hn hc, .inr (Nat.le_refl _)⟩
   rcases h2.2 with ⟨h, _⟩ | ⟨b', x, _, hlt', hv, hb'⟩
   ·
    cases h
   ·
    cases x
    ·
     cases hv
     exact .inr ⟨H.next, zs.length + 1, [], by rw [List.length_append]; rfl, by rw [List.append_nil, hs1]; exact hb', by rw [List.length_append]; rfl, hlt', by rw [List.append_nil, hs1]; exact flatL_app.2 ⟨hf, hfl⟩⟩
    ·
     cases hv
theorem Own.tr {H H' : Hp} {base e sz n : Nat} {v : AV} {cs : List AV} (h : Own H base e sz v n cs) (hn : H.next ≤ H'.next) (hg : v = .nils ∨ H'.m.get (sB v) = H.m.get (sB v)) : Own H' base e sz v n cs := by
 refine ⟨h.1, h.2.imp id ?_⟩
 rintro ⟨b, x, h1, h2, rfl, h4⟩
 refine ⟨b, x, h1, Nat.lt_of_lt_of_le h2 hn, rfl, ?_⟩
 rcases hg with hg | hg
 ·
  cases hg
 ·
  exact hg.trans h4
theorem rep_false (n : Nat) : catL ((List.replicate n false).map eBo) = List.replicate n (.bool false) := by
 rw [List.map_replicate]
 induction n with
 | zero => rfl
 | succ n ih => rw [List.replicate_succ, List.replicate_succ]; show (eBo false).cells ++ catL _ = _; rw [ih]; rfl
theorem shoot47 {H : Hp} {p : Nat} {id : Int} {bs : List (List UInt8)} {zs : List (Shot × AV)} {next : Int} {bv sv : AV} {K : AV -> Hp -> Prop} (h : MAt H p bs zs next bv sv) (hz : zs.length < 8) (hid : -9223372036854775808 ≤ id /\ id < 9223372036854775807)
 (hk : ∀ H' wv sv', MAt H' p bs (zs ++ [(⟨id, bs, List.replicate bs.length false⟩, wv)]) (id + 1) bv sv' -> Upd H H' (Fo p bv sv zs) (Fo p bv sv' (zs ++ [(⟨id, bs, List.replicate bs.length false⟩, wv)])) -> K (.tuple []) H') : Call (.func 47 [] []) [.ptr p 0, .int .i64 id] H K := by
 have hn := h.n
 refine enterE (N := 28) rfl fn47 rfl rfl rfl rfl rfl fun hwf => ?_
 simp (disch := assumption) only [go_sem]
 refine drawX [0,0,0,0,4,0,0,2,0,0,0,1,0,0,0,0,0,0,0,0] (by kernel_rfl) (by kernel_rfl) rfl (by kernel_rfl) ?_
 have hlt := h.lt
 have m0 := h.m
 simp (disch := (refine ofP ?_; first | assumption | decide | omega | (simp only [new_next, set_next] <;> omega) | with_unfolding_all exact ofR rfl | with_unfolding_all exact ofNt rfl)) only [go_sem, kn m0, m0]
 refine blocks16 h ?_
 have hbl := h.b.isSl.len (E := EE) (e := 53)
 obtain ⟨x, hx, hblt, _⟩ := h.b.ty hn.1
 obtain ⟨H1, hH1⟩ : ∃ X, X = (newBlk H (.cells (List.replicate bs.length (.bool false)) 4 true true)).2 := ⟨_, rfl⟩
 have f1 : Fr H H1 := by rw [hH1]; exact Fr.alloc _ _
 have n1 : H1.next = H.next + 1 := by rw [hH1]; rfl
 have g1 : H1.m.get H.next = some (.cells (List.replicate bs.length (.bool false)) 4 true true) := by rw [hH1]; exact get_new_s
 obtain ⟨H2, hH2⟩ : ∃ X, X = (newBlk H1 (.cells [.int .i64 id, .lst 64 (bs.map eBlk), .slice H.next 0 bs.length (.ex bs.length)] 95 true true)).2 := ⟨_, rfl⟩
 have f2 : Fr H H2 := by rw [hH2]; exact f1.trans (Fr.alloc _ _)
 have f12 : Fr H1 H2 := by rw [hH2]; exact Fr.alloc _ _
 have n2 : H2.next = H.next + 2 := by rw [hH2]; show H1.next + 1 = _; rw [n1]
 have g2 : H2.m.get H.next = _ := (f12.get _ (by omega)).trans g1
 have h2 := h.keep f2
 obtain ⟨sv', H3, hpush, hs3, n3, g3, hsb⟩ := h2.s.push (z := (⟨id, bs, List.replicate bs.length false⟩, .slice H.next 0 bs.length (.ex bs.length))) rfl h.k
 have hsne : ∀ c l e' x' w', H2.m.get c = some (.cells l e' x' w') -> Nat.beq e' 95 = false -> sv = .nils ∨ c ≠ sB sv := fun c l e' x' w' hc he => by
  rcases h2.s.ty with h' | ⟨cs, h', _⟩
  ·
   exact .inl h'
  ·
   exact .inr (ne_ty hc h' he)
 have p3 : H3.m.get p = some (.cells [bv, sv, .int .i64 next] 72 true true) := (g3 p h2.lt (hsne p _ _ _ _ h2.m rfl)).trans h2.m
 have hrep : repL bs.length (AV.bool false).cells = List.replicate bs.length (.bool false) := by
  show repL bs.length [.bool false] = _
  rw [repL_eq, List.flatten_replicate_singleton]
 have hbig : Nat.ble bs.length 1048576 = true := ble_iff.2 (by omega)
 have hft : flatL [AV.int .i64 id, .lst 64 (bs.map eBlk), .slice H.next 0 bs.length (.ex bs.length)] = true := rfl
 simp (disch := (refine ofP ?_; first | assumption | decide | omega | (simp only [new_next, set_next] <;> omega) | with_unfolding_all exact ofR rfl | with_unfolding_all exact ofNt rfl)) only [go_sem, kn m0, m0, hbl, hrep, hbig, Bool.true_and]
 rw [<- hH1]
 rw [<- hH2]
 have hpush' : evAppend EE H2 95 sv 1 [.int .i64 id, .lst 64 (bs.map eBlk), .slice H.next 0 bs.length (.ex bs.length)] = some (sv', H3) := hpush
 have hsv : oneC sv' = true := by
  rcases hs3 with ⟨rfl, _⟩ | ⟨b, N, junk, rfl, _⟩ <;> rfl
 have p3' : (setBlk H3 p (.cells [bv, sv', .int .i64 next] 72 true true)).m.get p = _ := get_set_s
 simp (disch := (refine ofP ?_; first | assumption | decide | omega | (simp only [new_next, set_next] <;> omega) | with_unfolding_all exact ofR rfl | with_unfolding_all exact ofNt rfl)) only [go_sem, hpush', kn p3, p3, hsv, storeN_1 (oneC_cells hsv), kn p3', p3', wrap_i64]
 have hplt := h2.lt
 have hps : sv' = .nils ∨ p ≠ sB sv' := by
  rcases hsb with ⟨hnn, he⟩ | he
  ·
   rw [he]; exact .inr ((hsne p _ _ _ _ h2.m rfl).resolve_left hnn)
  ·
   exact .inr (by omega)
 generalize hz1 : Blk.cells [bv, sv', .int .i64 next] 72 true true = z1
 have tr : ∀ c, c < H2.next -> (sv = .nils ∨ c ≠ sB sv) -> c ≠ p -> (setBlk (setBlk H3 p z1) p (.cells [bv, sv', .int .i64 (id + 1)] 72 true true)).m.get c = H2.m.get c := fun c h1 h2 h3 => by
  rw [get_set_n h3, get_set_n h3]; exact g3 c h1 h2
 have hnx : H2.next ≤ (setBlk (setBlk H3 p z1) p (.cells [bv, sv', .int .i64 (id + 1)] 72 true true)).next := n3
 have hw1 : Own H2 0 4 1 (.slice H.next 0 bs.length (.ex bs.length)) (List.replicate bs.length false).length (catL ((List.replicate bs.length false).map eBo)) := by
  rw [rep_false, List.length_replicate]
  exact ⟨by rw [List.length_replicate, Nat.mul_one], .inr ⟨H.next, true, Nat.zero_le _, by omega, rfl, g2⟩⟩
 have hwp : H.next ≠ p := Nat.ne_of_gt h.lt
 have hmat : MAt (setBlk (setBlk H3 p z1) p (.cells [bv, sv', .int .i64 (id + 1)] 72 true true)) p bs (zs ++ [(⟨id, bs, List.replicate bs.length false⟩, .slice H.next 0 bs.length (.ex bs.length))]) (id + 1) bv sv' := by
  refine ⟨get_set_s, Nat.lt_of_lt_of_le hplt hnx, h2.b.tr hnx (.inr ?_), (hs3.setN hps).setN hps, fun z hz => ?_, fun i j hi hj hij => ?_, h.bl, fun z hz => ?_, hn, by rw [List.length_append]; exact hz⟩
  ·
   obtain ⟨y, hy, hylt, _⟩ := h2.b.ty hn.1
   exact tr _ hylt (hsne _ _ _ _ _ hy rfl) (ne_ty hy h2.m rfl)
  ·
   rcases List.mem_append.1 hz with hz | hz
   ·
    obtain ⟨y, hy, hylt, _⟩ := (h2.w z hz).ty (h2.wpos hz)
    exact (h2.w z hz).tr hnx (.inr (tr _ hylt (hsne _ _ _ _ _ hy rfl) (ne_ty hy h2.m rfl)))
   ·
    rw [List.mem_singleton] at hz
    subst hz
    exact hw1.tr hnx (.inr (tr _ (by show H.next < _; omega) (hsne _ _ _ _ _ g2 rfl) hwp))
  ·
   have old : ∀ i (hi : i < zs.length), sB zs[i].2 < H.next := fun i hi => by
    obtain ⟨y, hy, hylt, _⟩ := (h.w _ (List.getElem_mem hi)).ty (h.wpos (List.getElem_mem hi))
    exact hylt
   rw [List.length_append, List.length_singleton] at hi hj
   by_cases h1 : i < zs.length
   ·
    rw [List.getElem_append_left h1]
    by_cases h2 : j < zs.length
    ·
     rw [List.getElem_append_left h2]; exact h.nd i j h1 h2 hij
    ·
     rw [List.getElem_append_right (by omega), List.getElem_singleton]
     exact Nat.ne_of_lt (old i h1)
   ·
    rw [List.getElem_append_right (by omega), List.getElem_singleton]
    have h2 : j < zs.length := by omega
    rw [List.getElem_append_left h2]
    exact Nat.ne_of_gt (old j h2)
  ·
   rcases List.mem_append.1 hz with hz | hz
   ·
    exact h.zl z hz
   ·
    rw [List.mem_singleton] at hz
    subst hz
    exact ⟨List.length_replicate, rfl, h.bl⟩
 refine .inl (hk _ _ _ hmat ⟨?_, fun c hc hf => ?_, fun c hc => ?_⟩)
 ·
  exact Nat.le_trans f2.nx hnx
 ·
  have hcp : c ≠ p := fun h' => hf (.inl h')
  have hcs : sv = .nils ∨ c ≠ sB sv := by
   by_cases hs : sv = .nils
   ·
    exact .inl hs
   ·
    exact .inr fun h' => hf (.inr (.inr (.inl ⟨hs, h'⟩)))
  rw [tr c (by omega) hcs hcp]; exact f2.get c hc
 ·
  rcases hc with hc | hc | ⟨hnn, hc⟩ | ⟨z, hz, hc⟩
  ·
   exact .inl (.inl hc)
  ·
   exact .inl (.inr (.inl hc))
  ·
   rcases hsb with ⟨h1, h2⟩ | h1
   ·
    exact .inl (.inr (.inr (.inl ⟨h1, hc.trans h2⟩)))
   ·
    exact .inr (by omega)
  ·
   rcases List.mem_append.1 hz with hz | hz
   ·
    exact .inl (.inr (.inr (.inr ⟨z, hz, hc⟩)))
   ·
    rw [List.mem_singleton] at hz
    subst hz
    exact .inr (Nat.le_of_eq hc.symm)
theorem snap25 {H : Hp} {p : Nat} {bs : List (List UInt8)} {zs : List (Shot × AV)} {next : Int} {bv sv : AV} {K : AV -> Hp -> Prop} (h : MAt H p bs zs next bv sv) (hnx : -1000000000 ≤ next /\ next ≤ 1000000000)
 (h1 : 8 ≤ zs.length ∨ 1000000 < next -> K (.tuple [.int .i64 0, .int .i64 3]) H)
 (h2 : zs.length < 8 -> next ≤ 1000000 -> ∀ H' wv sv', MAt H' p bs (zs ++ [(⟨next, bs, List.replicate bs.length false⟩, wv)]) (next + 1) bv sv' -> Upd H H' (Fo p bv sv zs) (Fo p bv sv' (zs ++ [(⟨next, bs, List.replicate bs.length false⟩, wv)])) -> K (.tuple [.int .i64 next, .int .i64 0]) H') : Call (.func 25 [] []) [.ptr p 0] H K := by
 refine enterE (N := 28) rfl fn25 rfl rfl rfl rfl rfl fun hwf => ?_
 have hsl := h.s.len (ty := 95)
 by_cases c1 : 8 ≤ zs.length
 ·
  have c1' : (8 : Int) ≤ (zs.length : Int) := by omega
  simp (disch := (refine ofP ?_; decide)) only [go_sem, kn h.m, hsl, c1']
  exact .inl (h1 (.inl c1))
 have c1' : ¬ (8 : Int) ≤ (zs.length : Int) := by omega
 by_cases c2 : 1000000 < next
 ·
  simp (disch := (refine ofP ?_; decide)) only [go_sem, kn h.m, hsl, c1', c2]
  exact .inl (h1 (.inr c2))
 simp (disch := (refine ofP ?_; decide)) only [go_sem, kn h.m, hsl, c1', c2]
 refine shoot47 h (by omega) ⟨by omega, by omega⟩ fun H' wv sv' h' u => ?_
 have e : wrapI .i64 (next + 1 - 1) = next := by rw [wrap_i64 (by omega) (by omega)]; omega
 simp (disch := (refine ofP ?_; decide)) only [go_sem, kn h'.m, e]
 exact .inl (h2 (by omega) (by omega) _ _ _ h' u)
end
end Go.Ev
namespace Go.Ev
open Go.Proofs
noncomputable section
set_option maxRecDepth 100000
theorem fn12 : E1.fn 12 = some Try.f12 := by kernel_rfl
theorem ept_all {b : List UInt8} (hb : b.length = 64) : evSlice (.array 64 5) EE (.ept (b.map eB) 0) none none none = some (.lst 1 (b.map eB)) := by
 have hfl : flatL (b.map eB) = true := by rw [<- catL_eB]; exact flat_eB b
 have hl : (b.map eB).length = 64 := by rw [List.length_map, hb]
 show bc (Nat.beq (sizeT EE 5) 1 && flatL (b.map eB)) ((takeE 64 (dropL 0 (b.map eB))).obind fun l => lstCut 1 l none none none) none = _
 rw [ty5s, hfl, dropL_eq, List.drop_zero, takeE_eq, if_pos (by omega), List.take_of_length_le (by omega)]
 show lstCut 1 (b.map eB) none none none = _
 generalize b.map eB = l at hl hfl
 unfold lstCut
 have e : boundsN (lenL l) (lenL l) none none none = some (0, 64, 64) := by rw [lenL_eq, hl]; rfl
 rw [e]
 show some (AV.lst 1 (dropL 0 (takeL 64 l))) = _
 rw [dropL_eq, List.drop_zero, takeL_eq, List.take_of_length_le (by omega)]
theorem idx_lst64 {l : List (List UInt8)} {i : Nat} (hi : i < l.length) : idxAddr (.slice 53) EE (.lst 64 (l.map eBlk)) i = some (.ept (l[i].map eB) 0) := by
 rw [ia_lst_map hi]
 show bc (Nat.beq 64 (sizeT EE 53)) (some (AV.ept (l[i].map eB) 0)) none = _
 rw [ty53s]; rfl
end
end Go.Ev
namespace Go.Ev
open Go.Proofs
noncomputable section
set_option maxRecDepth 100000
section
variable {H : Hp} {p : Nat} {bs : List (List UInt8)} {zs : List (Shot × AV)} {next : Int} {bv sv : AV}
theorem ShAt.one (h : ShAt H sv zs) : oneC sv = true := by
 rcases h with ⟨rfl, _⟩ | ⟨b, N, junk, rfl, _⟩ <;> rfl
theorem ShAt.cut (h : ShAt H sv zs) {m : Nat} (hm : m ≤ zs.length) (h0 : 0 < zs.length) : ∃ sv', evSlice (.slice 95) EE sv none (some (.int .i64 (m : Int))) none = some sv' /\ ShAt H sv' (zs.take m) /\ sv' ≠ .nils /\ sB sv' = sB sv /\ sv ≠ .nils := by
 rcases h with ⟨_, rfl⟩ | ⟨b, N, junk, rfl, hb, hN, hlt, hf⟩
 ·
  cases h0
 ·
  have hl := shC_len zs
  refine ⟨.slice b 0 m (.rest 0 3 N), ?_, .inr ⟨b, N, shC (zs.drop m) ++ junk, by rw [List.length_take, Nat.min_eq_left hm], ?_, ?_, hlt, ?_⟩, fun h => (by cases h), rfl, fun h => (by cases h)⟩
  ·
   have hmN : m ≤ N := by omega
   have e : boundsN zs.length N none (some (.int .i64 (m : Int))) none = some (0, m, N) := by
    show (bc (Nat.ble m N) (some m) none).obind (fun h => (some 0).omap fun l' => (l', h, N)) = _
    rw [ble_iff.2 hmN]; rfl
   show bc (Nat.beq 3 (sizeT EE 95)) ((boundsN zs.length N none (some (.int .i64 (m : Int))) none).obind fun r => _) none = _
   rw [ty95s, e]
   show bc (Nat.blt 0 N || Nat.beq 0 0) (some (AV.slice b (Nat.add 0 (Nat.mul 0 3)) (Nat.sub m 0) (.rest (Nat.add 0 0) 3 (Nat.sub N 0)))) _ = _
   have : (Nat.blt 0 N || Nat.beq 0 0) = true := by simp
   rw [this]; rfl
  ·
   rw [<- List.append_assoc, <- shC_app, List.take_append_drop]; exact hb
  ·
   rw [List.length_append, shC_len, List.length_take, List.length_drop]; omega
  ·
   rw [<- List.append_assoc, <- shC_app, List.take_append_drop]; exact hf
theorem shC_set {i : Nat} (hi : i < zs.length) {s' : Shot} {wv : AV} (h1 : s'.id = zs[i].1.id) (h2 : s'.bs = zs[i].1.bs) : shC (zs.set i (s', wv)) = (shC zs).set (i * 3 + 2) wv := by
 induction zs generalizing i with
 | nil => cases hi
 | cons z zs ih =>
  have e : ∀ (a : Shot × AV) (l : List (Shot × AV)), shC (a :: l) = [.int .i64 a.1.id, .lst 64 (a.1.bs.map eBlk), a.2] ++ shC l := fun a l => by unfold shC; rw [List.flatMap_cons]
  cases i with
  | zero =>
   show shC ((s', wv) :: zs) = _
   rw [e, e, h1, h2]; rfl
  | succ i =>
   show shC (z :: zs.set i (s', wv)) = _
   rw [e, e, ih (by simpa using hi) h1 h2, show (i + 1) * 3 + 2 = (i * 3 + 2) + 3 by omega]; first | done | rfl
theorem flatL_set : ∀ {l : List AV} {i : Nat} {x : AV}, flatL l = true -> oneC x = true -> flatL (l.set i x) = true
 | [], _, _, _, _ => rfl
 | y :: l, 0, x, h, hx => by
  rw [flatL_cons'] at h
  show flatL (x :: l) = true
  rw [flatL_cons', hx]
  cases hy : oneC y with
  | false => rw [hy] at h; cases h
  | true => rw [hy] at h; exact h
 | y :: l, i + 1, x, h, hx => by
  rw [flatL_cons'] at h
  show flatL (y :: l.set i x) = true
  rw [flatL_cons']
  cases hy : oneC y with
  | false => rw [hy] at h; cases h
  | true => rw [hy] at h; exact flatL_set h hx
theorem ShAt.setW (h : ShAt H sv zs) {i : Nat} (hi : i < zs.length) {s' : Shot} {wv : AV} (h1 : s'.id = zs[i].1.id) (h2 : s'.bs = zs[i].1.bs) (hw : oneC wv = true) :
 ∃ z, putCells H (sB sv) (i * 3 + 2) [wv] = some (setBlk H (sB sv) z) /\ ShAt (setBlk H (sB sv) z) sv (zs.set i (s', wv)) /\ sv ≠ .nils := by
 rcases h with ⟨_, rfl⟩ | ⟨b, N, junk, rfl, hb, hN, hlt, hf⟩
 ·
  cases hi
 ·
  have hl := shC_len zs
  have e : (shC zs ++ junk).set (i * 3 + 2) wv = shC (zs.set i (s', wv)) ++ junk := by rw [shC_set hi h1 h2, List.set_append_left _ _ (by omega)]
  refine ⟨.cells (shC (zs.set i (s', wv)) ++ junk) 95 false true, ?_, .inr ⟨b, N, junk, by rw [List.length_set], get_set_s, by rw [List.length_set]; exact hN, hlt, by rw [<- e]; exact flatL_set hf hw⟩, fun h => (by cases h)⟩
  rw [putCells_def]
  show (H.m.get b).obind _ = _
  rw [hb]
  show putB H b (i * 3 + 2) [wv] (.cells (shC zs ++ junk) 95 false true) = _
  rw [putB_c, flatL_cons', hw, setE_one (by rw [List.length_append]; omega), e]; rfl
end
end
end Go.Ev
namespace Go.Ev
open Go.Proofs
noncomputable section
set_option maxRecDepth 100000
section
variable {H : Hp} {p : Nat} {bs : List (List UInt8)} {zs : List (Shot × AV)} {next : Int} {bv sv : AV}
theorem MAt.re (h : MAt H p bs zs next bv sv) {bs' : List (List UInt8)} {zs' : List (Shot × AV)} {next' : Int} {bv' sv' : AV} (hs : ShAt H sv' zs') (hsb : sv' = .nils ∨ p ≠ sB sv') (hb : Own H 0 53 64 bv' bs'.length (catL (bs'.map eBlk))) (hpb : p ≠ sB bv')
 (hw : ∀ z ∈ zs', Own H 0 4 1 z.2 z.1.w.length (catL (z.1.w.map eBo)) /\ p ≠ sB z.2) (nd : ∀ (i j : Nat) (hi : i < zs'.length) (hj : j < zs'.length), i ≠ j -> sB zs'[i].2 ≠ sB zs'[j].2) (bl : ∀ x ∈ bs', x.length = 64)
 (zl : ∀ z ∈ zs', z.1.w.length = bs'.length /\ z.1.bs.length = bs'.length /\ ∀ x ∈ z.1.bs, x.length = 64) (n : 0 < bs'.length /\ bs'.length ≤ 64) (k : zs'.length ≤ 8) : MAt (setBlk H p (.cells [bv', sv', .int .i64 next'] 72 true true)) p bs' zs' next' bv' sv' :=
 ⟨get_set_s, h.lt, hb.setN (.inr hpb), hs.setN hsb, fun z hz => (hw z hz).1.setN (.inr (hw z hz).2), nd, bl, zl, n, k⟩
theorem MAt.pb (h : MAt H p bs zs next bv sv) : p ≠ sB bv := by
 obtain ⟨x, hx, _⟩ := h.b.ty h.n.1
 exact ne_ty h.m hx rfl
theorem MAt.pw (h : MAt H p bs zs next bv sv) {z : Shot × AV} (hz : z ∈ zs) : p ≠ sB z.2 := by
 obtain ⟨x, hx, _⟩ := (h.w z hz).ty (h.wpos hz)
 exact ne_ty h.m hx rfl
theorem MAt.ps (h : MAt H p bs zs next bv sv) : sv = .nils ∨ p ≠ sB sv := by
 rcases h.s.ty with h' | ⟨cs, h', _⟩
 ·
  exact .inl h'
 ·
  exact .inr (ne_ty h.m h' rfl)
end
end
end Go.Ev
namespace Go.Ev
open Go.Proofs
noncomputable section
set_option maxRecDepth 100000
theorem fn49 : E1.fn 49 = some Try.f49 := by kernel_rfl
theorem sl_rest {b len N a c : Nat} (h1 : a ≤ c) (h2 : c ≤ N) (h3 : a < N) : evSlice (.slice 95) EE (.slice b 0 len (.rest 0 3 N)) (some (.int .i64 (a : Int))) (some (.int .i64 (c : Int))) none = some (.slice b (a * 3) (c - a) (.rest a 3 (N - a))) := by
 have e : boundsN len N (some (.int .i64 (a : Int))) (some (.int .i64 (c : Int))) none = some (a, c, N) := by
  show (bc (Nat.ble c N) (some c) none).obind (fun h => (bc (Nat.ble a h) (some a) none).omap fun l' => (l', h, N)) = _
  rw [ble_iff.2 h2]
  show (bc (Nat.ble a c) (some a) none).omap (fun l' => (l', c, N)) = _
  rw [ble_iff.2 h1]; rfl
 show bc (Nat.beq 3 (sizeT EE 95)) ((boundsN len N (some (.int .i64 (a : Int))) (some (.int .i64 (c : Int))) none).obind fun r => _) none = _
 rw [ty95s, e]
 show bc (Nat.blt a N || Nat.beq a 0) (some (AV.slice b (0 + a * 3) (c - a) (.rest (0 + a) 3 (N - a)))) _ = _
 rw [(blt_iff _ _).2 h3, Nat.zero_add, Nat.zero_add]; rfl
theorem sl_rest_hi {b len N c : Nat} (h2 : c ≤ N) : evSlice (.slice 95) EE (.slice b 0 len (.rest 0 3 N)) none (some (.int .i64 (c : Int))) none = some (.slice b 0 c (.rest 0 3 N)) := by
 have e : boundsN len N none (some (.int .i64 (c : Int))) none = some (0, c, N) := by
  show (bc (Nat.ble c N) (some c) none).obind (fun h => (some 0).omap fun l' => (l', h, N)) = _
  rw [ble_iff.2 h2]; rfl
 show bc (Nat.beq 3 (sizeT EE 95)) ((boundsN len N none (some (.int .i64 (c : Int))) none).obind fun r => _) none = _
 rw [ty95s, e]
 show bc (Nat.blt 0 N || Nat.beq 0 0) (some (AV.slice b (Nat.add 0 (Nat.mul 0 3)) (Nat.sub c 0) (.rest (Nat.add 0 0) 3 (Nat.sub N 0)))) _ = _
 have : (Nat.blt 0 N || Nat.beq 0 0) = true := by simp
 rw [this]; rfl
theorem sl_rest_lo {b len N a : Nat} (h1 : a ≤ len) (h2 : len ≤ N) : evSlice (.slice 95) EE (.slice b 0 len (.rest 0 3 N)) (some (.int .i64 (a : Int))) none none = some (if a < N ∨ a = 0 then .slice b (a * 3) (len - a) (.rest a 3 (N - a)) else .slice b 0 0 (.tail 0 a 3 false)) := by
 have e : boundsN len N (some (.int .i64 (a : Int))) none none = some (a, len, N) := by
  show (some len).obind (fun h => (bc (Nat.ble a h) (some a) none).omap fun l' => (l', h, N)) = _
  show (bc (Nat.ble a len) (some a) none).omap (fun l' => (l', len, N)) = _
  rw [ble_iff.2 h1]; rfl
 show bc (Nat.beq 3 (sizeT EE 95)) ((boundsN len N (some (.int .i64 (a : Int))) none none).obind fun r => _) none = _
 rw [ty95s, e]
 show bc (Nat.blt a N || Nat.beq a 0) (some (AV.slice b (0 + a * 3) (len - a) (.rest (0 + a) 3 (N - a)))) (some (.slice b 0 0 (.tail 0 a 3 false))) = _
 by_cases h : a < N ∨ a = 0
 ·
  rw [if_pos h]
  have : (Nat.blt a N || Nat.beq a 0) = true := by
   rcases h with h | h
   ·
    rw [(blt_iff _ _).2 h]; rfl
   ·
    subst h; simp
  rw [this, Nat.zero_add, Nat.zero_add]; rfl
 ·
  rw [if_neg h]
  have h3 : Nat.blt a N = false := by
   cases hb : Nat.blt a N with
   | false => rfl
   | true => exact absurd (.inl ((blt_iff _ _).1 hb)) h
  rw [h3, beqF (fun h0 => h (.inr h0))]; rfl
theorem sl_rest3 {b len N a c : Nat} (h1 : a ≤ c) (h2 : c ≤ len) (h3 : len ≤ N) : ∃ v, evSlice (.slice 95) EE (.slice b 0 len (.rest 0 3 N)) (some (.int .i64 (a : Int))) (some (.int .i64 (c : Int))) (some (.int .i64 (len : Int))) = some v := by
 have e : boundsN len N (some (.int .i64 (a : Int))) (some (.int .i64 (c : Int))) (some (.int .i64 (len : Int))) = some (a, c, len) := by
  show (bc (Nat.ble len N) (some len) none).obind (fun m => (bc (Nat.ble c m) (some c) none).obind fun h => (bc (Nat.ble a h) (some a) none).omap fun l => (l, h, m)) = _
  rw [ble_iff.2 h3]
  show (bc (Nat.ble c len) (some c) none).obind (fun h => (bc (Nat.ble a h) (some a) none).omap fun l => (l, h, len)) = _
  rw [ble_iff.2 h2]
  show (bc (Nat.ble a c) (some a) none).omap (fun l => (l, c, len)) = _
  rw [ble_iff.2 h1]; rfl
 refine ⟨.slice b (addrAt len a 0 3) (c - a) (.ex (len - a)), ?_⟩
 show bc (Nat.beq 3 (sizeT EE 95)) ((boundsN len N (some (.int .i64 (a : Int))) (some (.int .i64 (c : Int))) (some (.int .i64 (len : Int)))).obind fun r => some (AV.slice b (addrAt r.2.2 r.1 0 3) (Nat.sub r.2.1 r.1) (.ex (Nat.sub r.2.2 r.1)))) none = _
 rw [ty95s, e]; rfl
theorem shC_erase {zs : List (Shot × AV)} {i : Nat} : shC (zs.eraseIdx i) = (shC zs).take (i * 3) ++ (shC zs).drop (i * 3 + 3) := by
 rw [List.eraseIdx_eq_take_drop_succ, shC_app]
 have e : ∀ (l : List (Shot × AV)) (n : Nat), shC (l.take n) = (shC l).take (n * 3) /\ shC (l.drop n) = (shC l).drop (n * 3) := by
  intro l
  induction l with
  | nil => intro n; simp [shC]
  | cons a l ih =>
   intro n
   have e : shC (a :: l) = [.int .i64 a.1.id, .lst 64 (a.1.bs.map eBlk), a.2] ++ shC l := by unfold shC; rw [List.flatMap_cons]
   cases n with
   | zero => simp [shC]
   | succ n =>
    obtain ⟨i1, i2⟩ := ih n
    refine ⟨?_, ?_⟩
    ·
     rw [List.take_succ_cons, e, show (n + 1) * 3 = n * 3 + 3 by omega]
     have : shC (a :: l.take n) = [.int .i64 a.1.id, .lst 64 (a.1.bs.map eBlk), a.2] ++ shC (l.take n) := by unfold shC; rw [List.flatMap_cons]
     rw [this, i1]; rfl
    ·
     rw [List.drop_succ_cons, i2, e, show (n + 1) * 3 = n * 3 + 3 by omega]; rfl
 rw [(e zs i).1, (e zs (i + 1)).2, show (i + 1) * 3 = i * 3 + 3 by omega]
theorem clear_last {HA : Hp} {b n N : Nat} {csA : List AV} {zs' : List (Shot × AV)} {k : Cap} (hb : HA.m.get b = some (.cells csA 95 false true)) (hlt : b < HA.next) (hN : csA.length = N * 3) (hn : n + 1 ≤ N) (hf : flatL csA = true) (hz : zs'.length = n) (hc : csA.take (n * 3) = shC zs') :
 ∃ z, clearTo EE HA 95 (.slice b (n * 3) 1 k) = some (.undef, setBlk HA b z) /\ ShAt (setBlk HA b z) (.slice b 0 n (.rest 0 3 N)) zs' := by
 refine ⟨.cells (csA.take (n * 3) ++ ([.int .i64 0, .nils, .nils] ++ csA.drop (n * 3 + 3))) 95 false true, ?_, .inr ⟨b, N, [.int .i64 0, .nils, .nils] ++ csA.drop (n * 3 + 3), by rw [hz], by rw [<- hc]; exact get_set_s, ?_, hlt, ?_⟩⟩
 ·
  show (zeroT EE 95).obind _ = _
  rw [ty95z]
  show bc (Nat.beq 1 0) (some (AV.undef, HA)) ((putCells HA b (n * 3) (repL 1 [.int .i64 0, .nils, .nils])).omap fun H => (AV.undef, H)) = _
  have h1 : putCells HA b (n * 3) [.int .i64 0, .nils, .nils] = some (setBlk HA b (.cells (csA.take (n * 3) ++ ([.int .i64 0, .nils, .nils] ++ csA.drop (n * 3 + 3))) 95 false true)) := by
   rw [putCells_def, hb]
   show putB HA b (n * 3) [.int .i64 0, .nils, .nils] (.cells csA 95 false true) = _
   rw [putB_c, setE_seg (by show n * 3 + 3 ≤ _; omega)]; rfl
  show ((putCells HA b (n * 3) [.int .i64 0, .nils, .nils]).omap fun H => (AV.undef, H)) = _
  rw [h1]; rfl
 ·
  rw [List.length_append, List.length_drop, hz]; show n * 3 + (3 + _) = _; omega
 ·
  have h1 : flatL (shC zs') = true := by rw [<- hc]; exact (flatL_app (l := csA.take (n * 3)) (r := csA.drop (n * 3)).1 (by rw [List.take_append_drop]; exact hf)).1
  have h2 : flatL (csA.drop (n * 3 + 3)) = true := (flatL_app (l := csA.take (n * 3 + 3)) (r := csA.drop (n * 3 + 3)).1 (by rw [List.take_append_drop]; exact hf)).2
  exact flatL_app.2 ⟨h1, h2⟩
theorem delete49 {H : Hp} {i : Nat} {sv : AV} {zs : List (Shot × AV)} {K : AV -> Hp -> Prop} (hs : ShAt H sv zs) (hi : i < zs.length) (hk8 : zs.length ≤ 8)
 (hk : ∀ H' sv', ShAt H' sv' (zs.eraseIdx i) -> H'.next = H.next -> (∀ c, c ≠ sB sv -> H'.m.get c = H.m.get c) -> sB sv' = sB sv -> sv' ≠ .nils -> sv ≠ .nils -> K sv' H') : Call (.func 49 [] []) [sv, .int .i64 i, .int .i64 ((i + 1 : Nat) : Int)] H K := by
 rcases hs with ⟨_, rfl⟩ | ⟨b, N, junk, rfl, hb, hN, hlt, hf⟩
 ·
  cases hi
 have hl := shC_len zs
 obtain ⟨v3, hv3⟩ := sl_rest3 (b := b) (len := zs.length) (N := N) (a := i) (c := i + 1) (by omega) (by omega) (by omega)
 refine enterE (N := 33) rfl fn49 rfl rfl rfl rfl rfl fun hwf => ?_
 have hne : ¬ (i : Int) = ((i + 1 : Nat) : Int) := by omega
 simp (disch := (refine ofP ?_; decide)) only [go_sem, hv3, hne]
 refine drawE (by kernel_rfl) (by kernel_rfl) ?_
 have s1 := sl_rest_hi (b := b) (len := zs.length) (N := N) (c := i) (by omega)
 have s2 := sl_rest_lo (b := b) (len := zs.length) (N := N) (a := i + 1) (by omega) (by omega)
 by_cases hm : i + 1 = zs.length
 ·
  -- the last one
  have hsrc : srcCells EE H 95 (if i + 1 < N ∨ i + 1 = 0 then AV.slice b ((i + 1) * 3) (zs.length - (i + 1)) (.rest (i + 1) 3 (N - (i + 1))) else .slice b 0 0 (.tail 0 (i + 1) 3 false)) = some (0, []) := by
   split
   ·
    rw [src_slice, show zs.length - (i + 1) = 0 by omega, Nat.zero_mul, cellsAt_zero]; rfl
   ·
    rw [src_slice, Nat.zero_mul, cellsAt_zero]; rfl
  have happ : evAppend EE H 95 (.slice b 0 i (.rest 0 3 N)) 0 [] = some (.slice b 0 i (.rest 0 3 N), H) := rfl
  have s3 := sl_rest (b := b) (len := i) (N := N) (a := i) (c := zs.length) (by omega) (by omega) (by omega)
  rw [show zs.length - i = 1 by omega] at s3
  have he : (shC zs ++ junk).take (i * 3) = shC (zs.eraseIdx i) := by
   rw [shC_erase, List.take_append_of_le_length (by omega), List.drop_of_length_le (by omega), List.append_nil]
  obtain ⟨z, hz1, hz2⟩ := clear_last (k := .rest i 3 (N - i)) hb hlt (by rw [List.length_append, hl]; exact hN) (show i + 1 ≤ N by omega) hf (show (zs.eraseIdx i).length = i by rw [List.length_eraseIdx, if_pos hi]; omega) he
  simp (disch := (refine ofP ?_; decide)) only [go_sem, s1, s2, hsrc, happ, s3, hz1]
  exact .inl (hk _ _ hz2 rfl (fun c hc => get_set_n hc) rfl (fun h => (by cases h)) (fun h => (by cases h)))
 ·
  obtain ⟨m, hmm⟩ : ∃ m, zs.length = i + 1 + m := ⟨zs.length - (i + 1), by omega⟩
  have hm0 : 0 < m := by omega
  have hiN : i + 1 < N := by omega
  rw [if_pos (Or.inl hiN), show zs.length - (i + 1) = m by omega] at s2
  have hmv : ((shC zs).drop ((i + 1) * 3)).length = m * 3 := by rw [List.length_drop, hl]; omega
  have hsrc : srcCells EE H 95 (AV.slice b ((i + 1) * 3) m (.rest (i + 1) 3 (N - (i + 1)))) = some (m, (shC zs).drop ((i + 1) * 3)) := by
   rw [src_slice, show sizeT EE 95 = 3 from ty95s, (kn hb).2.2.1, beqF (by omega)]
   show (takeE (m * 3) (dropL ((i + 1) * 3) (shC zs ++ junk))).omap _ = _
   rw [dropL_eq, takeE_eq, if_pos (by rw [List.length_drop, List.length_append]; omega), List.drop_append_of_le_length (by omega), List.take_append_of_le_length (by omega), List.take_of_length_le (by omega)]; rfl
  have hff : flatL ((shC zs).drop ((i + 1) * 3)) = true := (flatL_app (l := (shC zs).take ((i + 1) * 3)) (r := (shC zs).drop ((i + 1) * 3)).1 (by rw [List.take_append_drop]; exact (flatL_app.1 hf).1)).2
  have happ := app_in (E := EE) (H := H) (b := b) (e := 95) (sz := 3) (len := i) (m := m) (n := N) (new := (shC zs).drop ((i + 1) * 3)) hb ty95s (by decide) hm0 hmv hff (by omega) (by rw [List.length_append, hl]; exact hN)
  obtain ⟨csA, hcA⟩ : ∃ csA, csA = (shC zs ++ junk).take (i * 3) ++ ((shC zs).drop ((i + 1) * 3) ++ (shC zs ++ junk).drop (i * 3 + ((shC zs).drop ((i + 1) * 3)).length)) := ⟨_, rfl⟩
  rw [<- hcA] at happ
  have hAl : csA.length = N * 3 := by rw [hcA, List.length_append, List.length_append, hmv, List.length_take, List.length_drop, List.length_append]; omega
  have hAf : flatL csA = true := by
   rw [hcA]
   exact flatL_app.2 ⟨(flatL_app (l := (shC zs ++ junk).take (i * 3)) (r := (shC zs ++ junk).drop (i * 3)).1 (by rw [List.take_append_drop]; exact hf)).1, flatL_app.2 ⟨hff, (flatL_app (l := (shC zs ++ junk).take (i * 3 + ((shC zs).drop ((i + 1) * 3)).length)) (r := (shC zs ++ junk).drop (i * 3 + ((shC zs).drop ((i + 1) * 3)).length)).1 (by rw [List.take_append_drop]; exact hf)).2⟩⟩
  have hAt : csA.take ((i + m) * 3) = shC (zs.eraseIdx i) := by
   rw [hcA, shC_erase, List.take_append_of_le_length (by omega : i * 3 ≤ (shC zs).length), <- List.append_assoc]
   rw [List.take_append_of_le_length (by rw [List.length_append, hmv, List.length_take]; omega), List.take_of_length_le (by rw [List.length_append, hmv, List.length_take]; omega), show (i + 1) * 3 = i * 3 + 3 by omega]
  have s3 := sl_rest (b := b) (len := i + m) (N := N) (a := i + m) (c := zs.length) (by omega) (by omega) (by omega)
  rw [show zs.length - (i + m) = 1 by omega] at s3
  obtain ⟨z, hz1, hz2⟩ := clear_last (k := .rest (i + m) 3 (N - (i + m))) (HA := setBlk H b (.cells csA 95 false true)) get_set_s hlt hAl (show i + m + 1 ≤ N by omega) hAf (show (zs.eraseIdx i).length = i + m by rw [List.length_eraseIdx, if_pos hi]; omega) hAt
  simp (disch := (refine ofP ?_; decide)) only [go_sem, s1, s2, hsrc, happ, s3, hz1]
  exact .inl (hk _ _ hz2 rfl (fun c hc => (get_set_n hc).trans (get_set_n hc)) rfl (fun h => (by cases h)) (fun h => (by cases h)))
end
end Go.Ev
namespace Go.Ev
open Go.Proofs
noncomputable section
set_option maxRecDepth 100000
theorem fn26 : E1.fn 26 = some Try.f26 := by kernel_rfl
theorem catL_bo (w : List Bool) : catL (w.map eBo) = w.map eBo := by
 rw [catL_map (g := fun b => [eBo b]) fun _ => rfl]
 induction w with
 | nil => rfl
 | cons b w ih => rw [List.flatMap_cons, ih]; rfl
def mrgTo (a b : List Bool) : Nat -> List Bool
 | 0 => a
 | k + 1 => if b.getD k false then (mrgTo a b k).set k true else mrgTo a b k
theorem mrgTo_len (a b : List Bool) (k : Nat) : (mrgTo a b k).length = a.length := by
 induction k with
 | zero => rfl
 | succ k ih => unfold mrgTo; split <;> simp [ih]
def mrgZ (zs : List (Shot × AV)) (i k : Nat) : List (Shot × AV) :=
 if h : 0 < i /\ i < zs.length then zs.set (i - 1) ({ (zs[i - 1]'(by omega)).1 with w := mrgTo (zs[i - 1]'(by omega)).1.w (zs[i]'h.2).1.w k }, (zs[i - 1]'(by omega)).2) else zs
theorem mrgZ_pos {zs : List (Shot × AV)} {i k : Nat} (h0 : 0 < i) (h : i < zs.length) : mrgZ zs i k = zs.set (i - 1) ({ (zs[i - 1]'(by omega)).1 with w := mrgTo (zs[i - 1]'(by omega)).1.w zs[i].1.w k }, (zs[i - 1]'(by omega)).2) := dif_pos ⟨h0, h⟩
theorem mrgZ_len (zs : List (Shot × AV)) (i k : Nat) : (mrgZ zs i k).length = zs.length := by
 unfold mrgZ; split
 ·
  rw [List.length_set]
 ·
  rfl
theorem mrgZ_zero (zs : List (Shot × AV)) (i : Nat) : mrgZ zs i 0 = zs := by
 by_cases h : 0 < i /\ i < zs.length
 ·
  rw [mrgZ_pos h.1 h.2]
  show zs.set (i - 1) (zs[i - 1]'(by omega)) = zs
  exact List.set_getElem_self _
 ·
  exact dif_neg h
theorem mrgZ_at {zs : List (Shot × AV)} {i k : Nat} (hi : i < zs.length) : (mrgZ zs i k)[i]'(by rw [mrgZ_len]; exact hi) = zs[i] := by
 by_cases h : 0 < i
 ·
  have := mrgZ_pos (k := k) h hi
  simp only [this]
  rw [List.getElem_set_ne (by omega)]
 ·
  have : mrgZ zs i k = zs := dif_neg (by omega)
  simp only [this]
theorem mrgZ_f {zs : List (Shot × AV)} {i k : Nat} (hi : i < zs.length) (hb : zs[i].1.w.getD k false = false) : mrgZ zs i (k + 1) = mrgZ zs i k := by
 by_cases h : 0 < i
 ·
  have e : ∀ a, mrgTo a zs[i].1.w (k + 1) = mrgTo a zs[i].1.w k := fun a => by
   show (if zs[i].1.w.getD k false = true then _ else _) = _
   rw [hb]; rfl
  rw [mrgZ_pos h hi, mrgZ_pos h hi, e]
 ·
  unfold mrgZ
  rw [dif_neg (by omega), dif_neg (by omega)]
theorem mrgZ_t {zs : List (Shot × AV)} {i k : Nat} (h0 : 0 < i) (hi : i < zs.length) (hb : zs[i].1.w.getD k false = true) (hj : i - 1 < (mrgZ zs i k).length) :
 mrgZ zs i (k + 1) = (mrgZ zs i k).set (i - 1) ({ (mrgZ zs i k)[i - 1].1 with w := (mrgZ zs i k)[i - 1].1.w.set k true }, (mrgZ zs i k)[i - 1].2) := by
 have e : ∀ a, mrgTo a zs[i].1.w (k + 1) = (mrgTo a zs[i].1.w k).set k true := fun a => by
  show (if zs[i].1.w.getD k false = true then _ else _) = _
  rw [hb]; rfl
 have e1 := mrgZ_pos (k := k) h0 hi
 have e2 : (mrgZ zs i k)[i - 1] = ({ (zs[i - 1]'(by omega)).1 with w := mrgTo (zs[i - 1]'(by omega)).1.w zs[i].1.w k }, (zs[i - 1]'(by omega)).2) := by
  simp only [e1]
  rw [List.getElem_set_self]
 rw [e2, e1, List.set_set, mrgZ_pos h0 hi, e]
theorem erase_get {α : Type} {l : List α} {i j : Nat} (hj : j < (l.eraseIdx i).length) : ∃ k, ∃ hk : k < l.length, (l.eraseIdx i)[j] = l[k] /\ k = (if j < i then j else j + 1) := by
 have hl : (l.eraseIdx i).length = if i < l.length then l.length - 1 else l.length := List.length_eraseIdx
 by_cases hji : j < i
 ·
  refine ⟨j, by split at hl <;> omega, ?_, by rw [if_pos hji]⟩
  rw [List.getElem_eraseIdx, dif_pos hji]
 ·
  have hk : j + 1 < l.length := by split at hl <;> omega
  exact ⟨j + 1, hk, by rw [List.getElem_eraseIdx, dif_neg hji], by rw [if_neg hji]⟩
def dropZ (zs : List (Shot × AV)) (i n : Nat) : List (Shot × AV) := (mrgZ zs i n).eraseIdx i
section
variable {H : Hp} {p : Nat} {bs : List (List UInt8)} {zs : List (Shot × AV)} {next : Int} {bv sv : AV}
theorem MAt.wcell (h : MAt H p bs zs next bv sv) {i k : Nat} (hi : i < zs.length) (hk : k < bs.length) : cellAt H (sB zs[i].2) k = some (.bool (zs[i].1.w[k]'(by rw [(h.zl _ (List.getElem_mem hi)).1]; exact hk))) := by
 have hw := (h.zl _ (List.getElem_mem hi)).1
 have ho := h.w _ (List.getElem_mem hi)
 obtain ⟨_, _, _, h0, _⟩ := ho.ty (h.wpos (List.getElem_mem hi))
 have := ho.cell (i := k) (by omega)
 rw [h0, Nat.zero_add, catL_bo, List.getElem?_map, List.getElem?_eq_getElem (by omega)] at this
 exact this
theorem MAt.widx (h : MAt H p bs zs next bv sv) {i k : Nat} (hi : i < zs.length) (hk : k < bs.length) {ty : TypeId} (hty : sizeT EE ty = 1) : idxAddr (.slice ty) EE zs[i].2 k = some (.ptr (sB zs[i].2) k) := by
 have hw := (h.zl _ (List.getElem_mem hi)).1
 have ho := h.w _ (List.getElem_mem hi)
 obtain ⟨_, _, _, h0, _⟩ := ho.ty (h.wpos (List.getElem_mem hi))
 have := ho.isSl.idx (E := EE) (e := ty) (i := k) (by omega)
 rw [h0, Nat.zero_add, hty, Nat.mul_one] at this
 exact this
theorem MAt.wlen (h : MAt H p bs zs next bv sv) {i : Nat} (hi : i < zs.length) {ty : TypeId} : lenAV (.slice ty) EE zs[i].2 = some (.int .i64 (bs.length : Int)) := by
 have := (h.w _ (List.getElem_mem hi)).isSl.len (E := EE) (e := ty)
 rw [(h.zl _ (List.getElem_mem hi)).1] at this
 exact this
theorem MAt.scell (h : MAt H p bs zs next bv sv) {i : Nat} (hi : i < zs.length) : cellAt H (sB sv) (i * 3 + 2) = some zs[i].2 := cellsAt_cell (j := 2) (h.s.cells hi) (by decide)
theorem MAt.putW (h : MAt H p bs zs next bv sv) {j k : Nat} (hj : j < zs.length) (hk : k < bs.length) :
 ∃ z, putCells H (sB zs[j].2) k [.bool true] = some (setBlk H (sB zs[j].2) z) /\ MAt (setBlk H (sB zs[j].2) z) p bs (zs.set j ({ zs[j].1 with w := zs[j].1.w.set k true }, zs[j].2)) next bv sv := by
 have hw := (h.zl _ (List.getElem_mem hj)).1
 obtain ⟨x, hx, _⟩ := (h.w _ (List.getElem_mem hj)).ty (h.wpos (List.getElem_mem hj))
 refine ⟨.cells (catL ((zs[j].1.w.set k true).map eBo)) 4 x true, ?_, h.setW hj (by rw [List.length_set]) hx⟩
 rw [putCells_def, hx]
 show putB H _ k [.bool true] (.cells (catL (zs[j].1.w.map eBo)) 4 x true) = _
 rw [putB_c, catL_bo, setE_one (by rw [List.length_map]; omega), catL_bo, List.map_set]; rfl
end
set_option maxHeartbeats 2000000 in
theorem drop26 {H : Hp} {p : Nat} {id : Int} {bs : List (List UInt8)} {zs : List (Shot × AV)} {next : Int} {bv sv : AV} {K : AV -> Hp -> Prop} (h : MAt H p bs zs next bv sv) (h1 : shIx zs id = -1 -> K (.int .i64 13) H)
 (h2 : ∀ (i : Nat), i < zs.length -> shIx zs id = i -> ∀ H' sv', MAt H' p bs (dropZ zs i bs.length) next bv sv' -> Upd H H' (Fo p bv sv zs) (Fo p bv sv' (dropZ zs i bs.length)) -> K (.int .i64 0) H') : Call (.func 26 [] []) [.ptr p 0, .int .i64 id] H K := by
 refine enterE (N := 55) rfl fn26 rfl rfl rfl rfl rfl fun hwf => ?_
 simp (disch := (refine ofP ?_; decide)) only [go_sem]
 refine index48 h ?_
 rcases fidx_cases (fun z : Shot × AV => decide (z.1.id = id)) zs with ⟨hx, _⟩ | ⟨i, hi, hx, _⟩
 ·
  have hx : shIx zs id = -1 := hx
  rw [hx]
  simp (disch := (refine ofP ?_; decide)) only [go_sem]
  exact .inl (h1 hx)
 ·
  have hx : shIx zs id = i := hx
  rw [hx]
  have hk8 := h.k
  have hn := h.n
  simp (disch := (refine ofP ?_; first | decide | omega)) only [go_sem, kn h.m, h.s.idx hi, h.scell hi, h.wlen hi]
  refine loopE 17592181850304 (by kernel_rfl) (fun r G H' => ∃ k : Nat, k ≤ bs.length /\ r = bs.length - k /\ G.get 22 = some (.int .i64 (k : Int)) /\ MAt H' p bs (mrgZ zs i k) next bv sv /\ Upd H H' (Fo p bv sv zs) (Fo p bv sv (mrgZ zs i k))) bs.length ?_ ?_
  ·
   refine ⟨0, Nat.zero_le _, (Nat.sub_zero _).symm, rfl, ?_⟩
   rw [mrgZ_zero]
   exact ⟨h, Upd.refl _ _⟩
  ·
   rintro r G H' hG ⟨k, hk, rfl, g22, hM, u⟩
   have hi' : i < (mrgZ zs i k).length := by rw [mrgZ_len]; exact hi
   have hzi := mrgZ_at (k := k) hi
   by_cases hlt : k < bs.length
   ·
    have hwl : k < zs[i].1.w.length := by rw [(h.zl _ (List.getElem_mem hi)).1]; exact hlt
    have hc := hM.wcell hi' hlt
    have hix := hM.widx hi' hlt ty4s
    simp only [hzi] at hc hix
    by_cases hb : zs[i].1.w[k] = true
    ·
     rw [hb] at hc
     by_cases h0 : 0 < i
     ·
      have hj : i - 1 < (mrgZ zs i k).length := by omega
      have h0' : (0 : Int) < (i : Int) := by omega
      have hw1 : wrapI .i64 ((i : Int) - 1) = ((i - 1 : Nat) : Int) := by rw [wrap_i64 (by omega) (by omega)]; omega
      obtain ⟨z, hput, hM2⟩ := hM.putW hj hlt
      have hjx := hM.widx hj hlt ty4s
      have hsc := hM.scell hj
      simp (disch := (refine ofP ?_; first | decide | omega)) only [go_sem, g22, hG, hix, hc, h0', kn hM.m, hw1, hM.s.idx hj, hsc, hjx, hput, wrap_i64]
      refine ⟨_, by omega, k + 1, hlt, rfl, rfl, ?_⟩
      have et := mrgZ_t h0 hi (by rw [getD_lt hwl]; exact hb) hj
      rw [et]
      refine ⟨hM2, ?_⟩
      rw [fo_set hj]
      exact u.set (.inr (.inr (.inr ⟨_, List.getElem_mem hj, rfl⟩))) z
     ·
      have h0' : ¬ (0 : Int) < (i : Int) := by omega
      simp (disch := (refine ofP ?_; first | decide | omega)) only [go_sem, g22, hG, hix, hc, h0', wrap_i64]
      have e0 : ∀ k, mrgZ zs i k = zs := fun k => dif_neg (by omega)
      rw [e0] at hM u
      refine ⟨_, by omega, k + 1, hlt, rfl, rfl, ?_⟩
      rw [e0]
      exact ⟨hM, u⟩
    ·
     have hb : zs[i].1.w[k] = false := by simpa using hb
     rw [hb] at hc
     simp (disch := (refine ofP ?_; first | decide | omega)) only [go_sem, g22, hG, hix, hc, wrap_i64]
     refine ⟨_, by omega, k + 1, hlt, rfl, rfl, ?_⟩
     rw [mrgZ_f hi (by rw [getD_lt hwl]; exact hb)]
     exact ⟨hM, u⟩
   ·
    obtain rfl : k = bs.length := by omega
    have hw1 : wrapI .i64 ((i : Int) + 1) = ((i + 1 : Nat) : Int) := by rw [wrap_i64 (by omega) (by omega)]; omega
    simp (disch := (refine ofP ?_; first | decide | omega)) only [go_sem, g22, hG, kn hM.m, hw1]
    refine delete49 hM.s hi' hM.k fun H2 sv' hs2 hn2 hg2 hsb hnn' hnn => ?_
    have hps := hM.ps.resolve_left hnn
    obtain ⟨cs, hcs, _⟩ := hM.s.ty.resolve_left hnn
    have p2 := (hg2 p hps).trans hM.m
    simp (disch := (refine ofP ?_; first | assumption | decide | omega | (simp only [new_next, set_next] <;> omega) | with_unfolding_all exact ofR rfl | with_unfolding_all exact ofNt rfl)) only [go_sem, kn p2, p2, storeN_1 (oneC_cells hs2.one), hs2.one]
    have hmem : ∀ z ∈ (mrgZ zs i bs.length).eraseIdx i, z ∈ mrgZ zs i bs.length := fun z hz => List.mem_of_mem_eraseIdx hz
    have hwx : ∀ z ∈ mrgZ zs i bs.length, sB z.2 ≠ sB sv := fun z hz => by
     obtain ⟨x, hx, _⟩ := (hM.w z hz).ty (hM.wpos hz)
     exact ne_ty hx hcs rfl
    have hbx : sB bv ≠ sB sv := by
     obtain ⟨x, hx, _⟩ := hM.b.ty hM.n.1
     exact ne_ty hx hcs rfl
    have hfin : MAt (setBlk H2 p (.cells [bv, sv', .int .i64 next] 72 true true)) p bs (dropZ zs i bs.length) next bv sv' := by
     refine ⟨get_set_s, by show p < H2.next; rw [hn2]; exact hM.lt, (hM.b.tr (Nat.le_of_eq hn2.symm) (.inr (hg2 _ hbx))).setN (.inr hM.pb), hs2.setN (.inr (by rw [hsb]; exact hps)), fun z hz => ?_, fun a b ha hb hab => ?_, hM.bl, fun z hz => hM.zl z (hmem z hz), hM.n, ?_⟩
     ·
      exact ((hM.w z (hmem z hz)).tr (Nat.le_of_eq hn2.symm) (.inr (hg2 _ (hwx z (hmem z hz))))).setN (.inr (hM.pw (hmem z hz)))
     ·
      obtain ⟨a', ha', e1, e2⟩ := erase_get (l := mrgZ zs i bs.length) (i := i) ha
      obtain ⟨b', hb', e3, e4⟩ := erase_get (l := mrgZ zs i bs.length) (i := i) hb
      show sB ((mrgZ zs i bs.length).eraseIdx i)[a].2 ≠ sB ((mrgZ zs i bs.length).eraseIdx i)[b].2
      rw [e1, e3]
      refine hM.nd a' b' ha' hb' ?_
      rw [e2, e4]
      split <;> split <;> omega
     ·
      have := hM.k
      unfold dropZ
      rw [List.length_eraseIdx]; split <;> omega
    refine .inl (h2 i hi hx _ _ hfin ⟨?_, fun c hc hf => ?_, fun c hc => ?_⟩)
    ·
     show H.next ≤ H2.next
     rw [hn2]; exact u.nx
    ·
     have hcs' : c ≠ sB sv := fun h' => hf (.inr (.inr (.inl ⟨hnn, h'⟩)))
     rw [get_set_n (fun h' => hf (.inl h')), hg2 c hcs', u.old c hc hf]
    ·
     rcases hc with hc | hc | ⟨_, hc⟩ | ⟨z, hz, hc⟩
     ·
      exact .inl (.inl hc)
     ·
      exact .inl (.inr (.inl hc))
     ·
      exact .inl (.inr (.inr (.inl ⟨hnn, hc.trans hsb⟩)))
     ·
      exact u.new c (.inr (.inr (.inr ⟨z, hmem z hz, hc⟩)))
end
end Go.Ev
namespace Go.Ev
open Go.Proofs
noncomputable section
set_option maxRecDepth 100000
section
variable {H : Hp} {p : Nat} {bs : List (List UInt8)} {zs : List (Shot × AV)} {next : Int} {bv sv : AV}
end
end
end Go.Ev
namespace Go.Ev
open Go.Proofs
noncomputable section
set_option maxRecDepth 100000
structure StrOk (s : Strm) : Prop where
 b : 1 ≤ s.blocks /\ s.blocks ≤ 64
 i : 1 ≤ s.id /\ s.id ≤ 1000000
 n : s.recs.length ≤ 100000
 r : ∀ r ∈ s.recs, recOk s.blocks s.base r = true /\ (r.zs = true -> r.data = []) /\ r.data.length ≤ 100000
theorem recsRun_ok {w : List UInt8} (hw : w.length ≤ 140737488351232) : ∀ (k p i : Nat) (s : Strm), RecsI w p s i -> i + k ≤ 65536 -> (∀ r ∈ s.recs, recOk s.blocks s.base r = true) -> ∀ e p' s', recsRun w k p s = (e, p', s') -> e = 0 -> s'.blocks = s.blocks /\ s'.base = s.base /\ s'.id = s.id /\ s'.recs.length ≤ 65536 /\ zsOk s' /\ (∀ r ∈ s'.recs, recOk s'.blocks s'.base r = true /\ r.data.length ≤ 100000)
 | 0, p, i, s, hI, hk, hr, e, p', s', h, he => by
  cases h
  exact ⟨rfl, rfl, rfl, by rw [hI.n]; omega, hI.z, fun r h => ⟨hr r h, (hI.d r h).1⟩⟩
 | k + 1, p, i, s, hI, hk, hr, e, p', s', h, he => by
  have h := show (if recErr w p s = 0 then recsRun w k (p + 5 + recSize w p + 8) (s.snoc (recAt w p)) else (recErr w p s, p, s)) = (e, p', s') from h
  by_cases h0 : recErr w p s = 0
  ·
   rw [if_pos h0] at h
   have hg : goodS (s.snoc (recAt w p)) = true := by
    unfold recErr at h0
    repeat' split at h0
    all_goals (first | (cases h0; done) | skip)
    rename_i hq
    cases hgs : goodS (s.snoc (recAt w p)) with
    | true => rfl
    | false => exact absurd hgs hq
   have := (goodS_facts hg).2.2.2.2.2.2
   refine recsRun_ok hw k _ (i + 1) (s.snoc (recAt w p)) (hI.next hw h0) (by omega) (fun r hr => ?_) e p' s' h he
   obtain ⟨j, hj, rfl⟩ := List.getElem_of_mem hr
   exact rec_ok this hj
  ·
   rw [if_neg h0] at h
   cases h
   exact absurd he h0
theorem parse_ok {w : List UInt8} (hw : w.length ≤ 140737488351232) (h : (parseS w).1 = 0) : StrOk (parseS w).2 := by
 unfold parseS at h ⊢
 by_cases h1 : headErr w ≠ 0
 ·
  rw [if_pos h1] at h
  exact absurd h h1
 rw [if_neg h1] at h ⊢
 have he : headErr w = 0 := Decidable.not_not.1 h1
 have hh : 1 ≤ hBl w /\ hBl w ≤ 64 /\ 24 ≤ w.length /\ 1 ≤ hId w /\ hId w ≤ 1000000 := by
  unfold headErr at he
  repeat' split at he
  all_goals (first | (cases he; done) | (refine ⟨by omega, by omega, by omega, by omega, by omega⟩))
 have k5 : numAt w 14 2 < 65536 := Nat.lt_of_lt_of_le (leNum_lt _) (by
  have : ((w.drop 14).take 2).length ≤ 2 := by rw [List.length_take]; omega
  exact Nat.pow_le_pow_right (by decide) this)
 simp only at h ⊢
 have hI : RecsI w 24 (headStrm w) 0 := ⟨by omega, ⟨by show 0 ≤ hBl w; omega, by show hBl w ≤ 64; omega⟩, rfl, fun r hr => (by cases hr), fun r hr => (by cases hr)⟩
 obtain ⟨r1, r2, hr⟩ : ∃ r1 r2, recsRun w (numAt w 14 2) 24 (headStrm w) = (r1, r2) := ⟨_, _, rfl⟩
 obtain ⟨p', s'⟩ := r2
 rw [hr] at h ⊢
 simp only at h ⊢
 by_cases h2 : r1 ≠ 0
 ·
  rw [if_pos h2] at h; exact absurd h h2
 rw [if_neg h2] at h ⊢
 by_cases h3 : endErr w p' ≠ 0
 ·
  rw [if_pos h3] at h; exact absurd h h3
 rw [if_neg h3]
 obtain ⟨e1, e2, e3, e4, e5, e6⟩ := recsRun_ok hw _ _ 0 _ hI (by omega) (fun r hr => (by cases hr)) _ _ _ hr (Decidable.not_not.1 h2)
 exact ⟨by rw [e1]; exact ⟨hh.1, hh.2.1⟩, by rw [e3]; exact hh.2.2.2, by show s'.recs.length ≤ _; omega, fun r hr => ⟨(e6 r hr).1, e5 r hr, (e6 r hr).2⟩⟩
def recBlk (r : Rec) (i : Nat) : List UInt8 := if r.zs then List.replicate 64 0 else (r.data.drop (i * 64)).take 64
section
variable {H : Hp} {p : Nat} {bs : List (List UInt8)} {zs : List (Shot × AV)} {next : Int} {bv sv : AV}
theorem MAt.fo_lt (h : MAt H p bs zs next bv sv) {c : Nat} (hc : Fo p bv sv zs c) : c < H.next := by
 rcases hc with rfl | rfl | ⟨hn, rfl⟩ | ⟨z, hz, rfl⟩
 ·
  exact h.lt
 ·
  obtain ⟨_, _, hl, _⟩ := h.b.ty h.n.1; exact hl
 ·
  rcases h.s with ⟨h', _⟩ | ⟨b, N, junk, rfl, _, _, hl, _⟩
  ·
   exact absurd h' hn
  ·
   exact hl
 ·
  obtain ⟨_, _, hl, _⟩ := (h.w z hz).ty (h.wpos hz); exact hl
theorem fo_putZ {i : Nat} : Fo p bv sv (putZ zs i) = Fo p bv sv zs := by
 by_cases h : 0 < zs.length
 ·
  rw [putZ_pos i h]; exact fo_set (by omega)
 ·
  have : zs = [] := List.eq_nil_of_length_eq_zero (by omega)
  subst this; rfl
end
end
end Go.Ev
namespace Go.Ev
open Go.Proofs
noncomputable section
set_option maxRecDepth 100000
def zeroBs (n : Nat) : List (List UInt8) := List.replicate n (List.replicate 64 0)
theorem MAt.clear {H : Hp} {p : Nat} {bs : List (List UInt8)} {zs : List (Shot × AV)} {next : Int} {bv sv : AV} (h : MAt H p bs zs next bv sv) :
 ∃ z, clearTo EE H 53 bv = some (.undef, setBlk H (sB bv) z) /\ MAt (setBlk H (sB bv) z) p (zeroBs bs.length) zs next bv sv := by
 obtain ⟨x, hx, _⟩ := h.b.ty h.n.1
 have hn := h.n
 have hcat : catL ((zeroBs bs.length).map eBlk) = (List.replicate bs.length (List.replicate 64 (AV.int .u8 0))).flatten := by
  have e : ∀ (z : List UInt8) (n : Nat), catL (List.replicate n (eBlk z)) = (List.replicate n (z.map eB)).flatten := fun z n => by
   induction n with
   | zero => rfl
   | succ n ih => rw [List.replicate_succ (a := eBlk z), List.replicate_succ (a := z.map eB), List.flatten_cons, <- ih, catL_eq, catL_eq, List.flatMap_cons, eBlk_cells]
  unfold zeroBs
  rw [List.map_replicate, e]; rfl
 refine ⟨.cells (catL ((zeroBs bs.length).map eBlk)) 53 x true, ?_, h.setB (by unfold zeroBs; rw [List.length_replicate]) (fun y hy => by unfold zeroBs at hy; rw [List.eq_of_mem_replicate hy, List.length_replicate]) hx⟩
 rcases h.b.2 with ⟨_, h0⟩ | ⟨b, y, _, hlt, rfl, hb⟩
 ·
  omega
 ·
  have hl : (catL (bs.map eBlk)).length = bs.length * 64 := by rw [(cat_seg (eBlk_len h.bl)).1, List.length_map]
  change H.m.get b = _ at hx
  rw [hb] at hx
  cases hx
  show (zeroT EE 53).obind _ = _
  rw [ty53z]
  show bc (Nat.beq bs.length 0) (some (AV.undef, H)) ((putCells H b 0 (repL bs.length (List.replicate 64 (.int .u8 0)))).omap fun H => (AV.undef, H)) = _
  rw [beqF (by omega)]
  have hput : putCells H b 0 (repL bs.length (List.replicate 64 (.int .u8 0))) = some (setBlk H b (.cells (catL ((zeroBs bs.length).map eBlk)) 53 x true)) := by
   rw [putCells_def, hb, repL_eq, <- hcat]
   show putB H b 0 (catL ((zeroBs bs.length).map eBlk)) (.cells (catL (bs.map eBlk)) 53 x true) = _
   have h64 : (catL ((zeroBs bs.length).map eBlk)).length = bs.length * 64 := by
    rw [(cat_seg (eBlk_len (bs := zeroBs bs.length) (fun y hy => by unfold zeroBs at hy; rw [List.eq_of_mem_replicate hy, List.length_replicate]))).1, List.length_map]
    unfold zeroBs; rw [List.length_replicate]
   rw [putB_c, eBlk_flat, setE_all (by rw [h64, hl])]; rfl
  show ((putCells H b 0 (repL bs.length (List.replicate 64 (.int .u8 0)))).omap fun H => (AV.undef, H)) = _
  rw [hput]; rfl
end
end Go.Ev
namespace Go.Ev
open Go.Proofs
noncomputable section
set_option maxRecDepth 100000
theorem arr_ptr {c : Nat} : evSlice (.array 64 5) EE (.ptr c 0) none none none = some (.slice c 0 64 (.ex 64)) := by
 show (boundsN 64 64 none none none).omap (fun r => AV.slice c (addrAt r.2.2 r.1 0 (sizeT EE 5)) (Nat.sub r.2.1 r.1) (.ex (Nat.sub r.2.2 r.1))) = _
 rw [ty5s]; rfl
end
end Go.Ev
