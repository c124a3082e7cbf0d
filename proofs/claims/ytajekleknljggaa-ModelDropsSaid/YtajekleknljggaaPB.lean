/-
  Streams read strictly: what the program computes. No conditions.
-/
import Derived.Test.YtajekleknljggaaPA
set_option linter.unusedVariables false
set_option linter.unusedSimpArgs false
namespace Go.Ev
open Go.Proofs
noncomputable section
set_option maxRecDepth 100000
theorem fn68 : E1.fn 68 = some Try.f68 := by kernel_rfl
theorem fn70 : E1.fn 70 = some Try.f70 := by kernel_rfl
theorem fn69 : E1.fn 69 = some Try.f69 := by kernel_rfl
def capR (x : Bool) (n : Nat) : Cap := if x then .ex n else .rest 0 1 n
theorem bounds_lo {n i : Nat} (h : i ≤ n) : boundsN n n (some (.int .i64 (i : Int))) none none = some (i, n, n) := by
 show (some n).obind (fun h => (bc (Nat.ble i h) (some i) none).omap fun l' => (l', h, n)) = _
 show (bc (Nat.ble i n) (some i) none).omap (fun l' => (l', n, n)) = _
 rw [ble_iff.2 h]; rfl
theorem bounds_hi {n i : Nat} (h : i ≤ n) : boundsN n n none (some (.int .i64 (i : Int))) none = some (0, i, n) := by
 show (bc (Nat.ble i n) (some i) none).obind (fun h => (some 0).omap fun l' => (l', h, n)) = _
 rw [ble_iff.2 h]; rfl
theorem bounds_both {n a c : Nat} (h1 : a ≤ c) (h2 : c ≤ n) : boundsN n n (some (.int .i64 (a : Int))) (some (.int .i64 (c : Int))) none = some (a, c, n) := by
 show (bc (Nat.ble c n) (some c) none).obind (fun h => (bc (Nat.ble a h) (some a) none).omap fun l' => (l', h, n)) = _
 rw [ble_iff.2 h2]
 show (bc (Nat.ble a c) (some a) none).omap (fun l' => (l', c, n)) = _
 rw [ble_iff.2 h1]; rfl
theorem sl5_both {b n a c : Nat} {x : Bool} (h1 : a < c) (h2 : c ≤ n) : ∃ k, evSlice (.slice 5) EE (.slice b 0 n (capR x n)) (some (.int .i64 (a : Int))) (some (.int .i64 (c : Int))) none = some (.slice b a (c - a) k) /\ capSz k 1 /\ capLe k (c - a) := by
 have e := bounds_both (Nat.le_of_lt h1) h2
 cases x with
 | true =>
  refine ⟨.ex (n - a), ?_, trivial, by show c - a ≤ n - a; omega⟩
  show (boundsN n n (some (.int .i64 (a : Int))) (some (.int .i64 (c : Int))) none).omap (fun r => AV.slice b (addrAt r.2.2 r.1 0 (sizeT EE 5)) (Nat.sub r.2.1 r.1) (.ex (Nat.sub r.2.2 r.1))) = _
  rw [e]
  show some (AV.slice b (addrAt n a 0 (sizeT EE 5)) (c - a) (.ex (n - a))) = _
  unfold addrAt
  rw [beqF (by omega), ty5s]
  show some (AV.slice b (0 + a * 1) _ _) = _
  rw [Nat.zero_add, Nat.mul_one]
 | false =>
  refine ⟨.rest a 1 (n - a), ?_, rfl, by show c - a ≤ n - a; omega⟩
  show bc (Nat.beq 1 (sizeT EE 5)) ((boundsN n n (some (.int .i64 (a : Int))) (some (.int .i64 (c : Int))) none).obind fun r => _) none = _
  rw [ty5s, e]
  show bc (Nat.blt a n || Nat.beq a 0) (some (AV.slice b (0 + a * 1) (c - a) (.rest (0 + a) 1 (n - a)))) _ = _
  rw [(blt_iff _ _).2 (by omega), Nat.zero_add, Nat.mul_one, Nat.zero_add]; rfl
theorem sl5_hi {b n i : Nat} {x : Bool} (h : i ≤ n) : ∃ k, evSlice (.slice 5) EE (.slice b 0 n (capR x n)) none (some (.int .i64 (i : Int))) none = some (.slice b 0 i k) /\ capSz k 1 /\ capLe k i := by
 have e := bounds_hi h
 cases x with
 | true =>
  refine ⟨.ex n, ?_, trivial, h⟩
  show (boundsN n n none (some (.int .i64 (i : Int))) none).omap (fun r => AV.slice b (addrAt r.2.2 r.1 0 (sizeT EE 5)) (Nat.sub r.2.1 r.1) (.ex (Nat.sub r.2.2 r.1))) = _
  rw [e]
  show some (AV.slice b (addrAt n 0 0 (sizeT EE 5)) i (.ex n)) = _
  unfold addrAt
  cases Nat.beq n 0 with
  | true => rfl
  | false =>
   show some (AV.slice b (0 + 0 * _) _ _) = _
   rw [Nat.zero_mul]
 | false =>
  refine ⟨.rest 0 1 n, ?_, rfl, h⟩
  show bc (Nat.beq 1 (sizeT EE 5)) ((boundsN n n none (some (.int .i64 (i : Int))) none).obind fun r => _) none = _
  rw [ty5s, e]
  show bc (Nat.blt 0 n || Nat.beq 0 0) (some (AV.slice b (Nat.add 0 (Nat.mul 0 1)) (Nat.sub i 0) (.rest (Nat.add 0 0) 1 (Nat.sub n 0)))) _ = _
  rw [show (Nat.blt 0 n || Nat.beq 0 0) = true by simp]; rfl
theorem check_mem {H : Hp} {b a : Nat} {k : Cap} {x : Bool} {w l : List UInt8} {K : AV -> Hp -> Prop} (hb : H.m.get b = some (.cells (w.map eB) 5 x true)) (hl : l = (w.drop a).take l.length) (hw : w.length < 9223372036854775807) (hal : a + l.length ≤ w.length) (hk1 : capSz k 1) (hk2 : capLe k l.length)
 (hk : K (.int .u64 (fnvCheck l)) H) : Call (.func 72 [] []) [.slice b a l.length k] H K := by
 refine WCall2.read (v := .int .u64 (fnvCheck l)) rfl (check_ok (l := l) (H := noHp) (K := fun v' _ => v' = .int .u64 (fnvCheck l)) (by omega) rfl) (fun σ H1 as1 r hv => ?_) hk
 obtain ⟨y, r', h1, h2, rfl⟩ := VRL.cons.1 hv
 rw [VRL.nil] at h2
 subst h2
 have hm : (l.map eB).length = l.length := List.length_map _
 have := read_sl (sz := 1) (l := l.map eB) (o := a) (b := b) (k := k) r (by rw [hm]; exact h1) (by
  rw [hm, Nat.mul_one, (kn hb).2.2.1, catL_eB]
  by_cases h0 : l.length = 0
  ·
   rw [h0]
   rw [List.eq_nil_of_length_eq_zero h0]; rfl
  ·
   rw [beqF h0]
   show takeE l.length (dropL a (w.map eB)) = _
   rw [dropL_eq, takeE_eq, if_pos (by rw [List.length_drop, List.length_map]; omega), <- List.map_drop, <- List.map_take, <- hl]) (plain_map fun _ => rfl) (fun z hz => by obtain ⟨c, _, rfl⟩ := List.mem_map.1 hz; rfl) (by decide) hk1 (fun _ => by rw [hm]; exact hk2)
 exact VRL.one this
def Dv (H : Hp) (dv : AV) (w : List UInt8) : Prop := dv = .lst 1 (w.map eB) ∨ ∃ b x, dv = .slice b 0 w.length (capR x w.length) /\ H.m.get b = some (.cells (w.map eB) 5 x true) /\ b < H.next
section
variable {H : Hp} {dv : AV} {w : List UInt8}
theorem Dv.keep (h : Dv H dv w) {H' : Hp} (hf : Fr H H') : Dv H' dv w := by
 refine h.imp id ?_
 rintro ⟨b, x, h1, h2, h3⟩
 exact ⟨b, x, h1, (hf.get b h3).trans h2, Nat.lt_of_lt_of_le h3 hf.nx⟩
theorem Dv.one (h : Dv H dv w) : oneC dv = true := by
 rcases h with rfl | ⟨b, x, rfl, _⟩ <;> rfl
theorem Dv.len (h : Dv H dv w) {ty : TypeId} : lenAV (.slice ty) EE dv = some (.int .i64 (w.length : Int)) := by
 rcases h with rfl | ⟨b, x, rfl, _⟩
 ·
  rw [len_lst, List.length_map]
 ·
  rfl
theorem Dv.cut (h : Dv H dv w) {a c : Nat} (h1 : a < c) (h2 : c ≤ w.length) (hw : w.length < 9223372036854775807) : ∃ sv, evSlice (.slice 5) EE dv (some (.int .i64 (a : Int))) (some (.int .i64 (c : Int))) none = some sv /\ ∀ K : AV -> Hp -> Prop, K (.int .u64 (fnvCheck ((w.take c).drop a))) H -> Call (.func 72 [] []) [sv] H K := by
 have hl : ((w.take c).drop a).length = c - a := by rw [List.length_drop, List.length_take]; omega
 rcases h with rfl | ⟨b, x, rfl, hb, _⟩
 ·
  refine ⟨.lst 1 (((w.take c).drop a).map eB), by rw [sl_lst a c (by rw [List.length_map]; omega) (Nat.le_of_lt h1) ty5s.symm, List.map_drop, List.map_take], fun K hk => check_ok (by omega) hk⟩
 ·
  obtain ⟨k, e, k1, k2⟩ := sl5_both (b := b) (x := x) h1 h2
  refine ⟨_, e, fun K hk => ?_⟩
  have := check_mem (l := (w.take c).drop a) (k := k) hb (by rw [hl, List.drop_take]) hw (by omega) k1 (by rw [hl]; exact k2) hk
  rw [hl] at this
  exact this
theorem Dv.cutTo (h : Dv H dv w) {c : Nat} (h2 : c ≤ w.length) (hw : w.length < 9223372036854775807) : ∃ sv, evSlice (.slice 5) EE dv none (some (.int .i64 (c : Int))) none = some sv /\ ∀ K : AV -> Hp -> Prop, K (.int .u64 (fnvCheck (w.take c))) H -> Call (.func 72 [] []) [sv] H K := by
 have hl : (w.take c).length = c := by rw [List.length_take]; omega
 rcases h with rfl | ⟨b, x, rfl, hb, _⟩
 ·
  refine ⟨.lst 1 ((w.take c).map eB), by rw [sl_lst_hi c (by rw [List.length_map]; omega) ty5s.symm, List.map_take], fun K hk => check_ok (by omega) hk⟩
 ·
  obtain ⟨k, e, k1, k2⟩ := sl5_hi (b := b) (x := x) h2
  refine ⟨_, e, fun K hk => ?_⟩
  have := check_mem (l := w.take c) (k := k) (a := 0) hb (by rw [hl, List.drop_zero]) hw (by omega) k1 (by rw [hl]; exact k2) hk
  rw [hl] at this
  exact this
theorem Dv.clone (h : Dv H dv w) (hw : w.length ≤ 140737488351232) {K : AV -> Hp -> Prop} (hk : K (.lst 1 (w.map eB)) H) : Call (.func 23 [] []) [dv] H K := by
 rcases h with rfl | ⟨b, x, rfl, hb, hlt⟩
 ·
  exact clone23b hw hk
 ·
  refine WCall2.out fun hwf => ?_
  have hm : (w.map eB).length = w.length := List.length_map _
  have := clone23_mem (H := H) (b := b) (o := 0) (k := capR x w.length) (l := w.map eB) (K := XO H K) (by rw [hm]; exact hw) (fun z hz => by obtain ⟨c, _, rfl⟩ := List.mem_map.1 hz; rfl) (flat_eB w) (by
   rw [hm, Nat.mul_one, (kn hb).2.2.1, catL_eB]
   by_cases h0 : w.length = 0
   ·
    rw [h0, List.eq_nil_of_length_eq_zero h0]; rfl
   ·
    rw [beqF h0]
    show takeE w.length (dropL 0 (w.map eB)) = _
    rw [dropL_eq, takeE_eq, List.drop_zero, if_pos (by rw [hm]; exact Nat.le_refl _), List.take_of_length_le (by rw [hm]; exact Nat.le_refl _)]) hlt (fun v H' ha => ha.out_plain hwf (plain_map fun _ => rfl) hk)
  rw [hm] at this
  exact this
theorem newReader_dv (h : Dv H dv w) (hw : w.length ≤ 140737488351232) {K : AV -> Hp -> Prop} (hk : K (.ptr H.next 0) (newBlk H (.cells [.lst 1 (w.map eB)] 120 true true)).2) : Call (.func 42 [] []) [dv] H K := by
 refine enterE (N := 7) rfl fn42 rfl rfl rfl rfl rfl fun hwf => ?_
 simp (disch := (refine ofP ?_; decide)) only [go_sem]
 refine h.clone hw ?_
 simp (disch := (refine ofP ?_; decide)) only [go_sem]
 exact .inl hk
end
structure RdAt (dv : AV) (H : Hp) (rb rd : Nat) (w : List UInt8) (p : Nat) (bl ba id : Int) (rv : AV) : Prop where
 r : H.m.get rb = some (.cells [.ptr rd 0, dv, .int .i64 bl, .int .i64 ba, .int .i64 id, rv] 101 true true)
 d : H.m.get rd = some (.cells [.lst 1 ((w.drop p).map eB)] 120 true true)
 ne : rb ≠ rd
 lr : rb < H.next
 ld : rd < H.next
def rdH (H : Hp) (rd : Nat) (w : List UInt8) (p : Nat) : Hp := setBlk H rd (.cells [.lst 1 ((w.drop p).map eB)] 120 true true)
theorem RdAt.move {dv : AV} {H : Hp} {rb rd : Nat} {w : List UInt8} {p : Nat} {bl ba id : Int} {rv : AV} (h : RdAt dv H rb rd w p bl ba id rv) (p' : Nat) : RdAt dv (rdH H rd w p') rb rd w p' bl ba id rv :=
 ⟨(get_set_n h.ne).trans h.r, get_set_s, h.ne, h.lr, h.ld⟩
theorem wf_lt {H : Hp} (hwf : WF H) {b : Nat} {x : Blk} (h : H.m.get b = some x) : b < H.next := by
 by_cases hb : b < H.next
 ·
  exact hb
 ·
  rw [hwf b (by omega)] at h; cases h
theorem leNum_lt4 {l : List UInt8} (h : l.length ≤ 4) : leNum l < 4294967296 := Nat.lt_of_lt_of_le (leNum_lt l) (Nat.pow_le_pow_right (by decide) h)
theorem conv_small {n : Nat} (h : n < 4294967296) : wrapI .i64 (n : Int) = n := wrap_i64 (by omega) (by omega)
def numAt (w : List UInt8) (p n : Nat) : Nat := leNum ((w.drop p).take n)
theorem numAt_lt {w : List UInt8} {p n : Nat} (h : n ≤ 4) : numAt w p n < 4294967296 := leNum_lt4 (by rw [List.length_take]; omega)
theorem num68 {dv : AV} {H : Hp} {rb rd : Nat} {w : List UInt8} {p n : Nat} {bl ba id : Int} {rv : AV} {K : AV -> Hp -> Prop} (h : RdAt dv H rb rd w p bl ba id rv) (hw : w.length ≤ 140737488351232) (hn : n ≤ 4) (hp : p + n ≤ w.length) (hk : K (.int .i64 (numAt w p n)) (rdH H rd w (p + n))) :
 Call (.func 68 [] []) [.ptr rb 0, .int .i64 n] H K := by
 obtain ⟨m0, m1, hne⟩ := h
 refine enterE (N := 18) rfl fn68 rfl rfl rfl rfl rfl fun hwf => ?_
 simp (disch := (refine ofP ?_; decide)) only [go_sem, kn m0]
 refine num_ok (by rw [List.length_drop]; omega) m1 (fun hx => by rw [List.length_drop] at hx; omega) fun _ _ => ?_
 have e : List.take 8 (List.take (Int.toNat (n : Int)) (List.drop p w)) = (w.drop p).take n := by rw [Int.toNat_natCast, List.take_take]; congr 1; omega
 have e2 : List.drop (Int.toNat (n : Int)) (List.drop p w) = w.drop (p + n) := by rw [Int.toNat_natCast, List.drop_drop]
 have e3 : wrapI .i64 ((leNum ((w.drop p).take n) : Nat) : Int) = (numAt w p n : Int) := conv_small (numAt_lt hn)
 rw [e, e2]
 simp (disch := (refine ofP ?_; decide)) only [go_sem, e3]
 exact .inl hk
theorem at70 {dv : AV} {H : Hp} {rb rd : Nat} {w : List UInt8} {p : Nat} {bl ba id : Int} {rv : AV} {K : AV -> Hp -> Prop} (h : RdAt dv H rb rd w p bl ba id rv) (hdv : Dv H dv w) (hw : w.length ≤ 140737488351232) (hp : p ≤ w.length) (hk : K (.int .i64 p) H) : Call (.func 70 [] []) [.ptr rb 0] H K := by
 obtain ⟨m0, m1, hne⟩ := h
 refine enterE (N := 14) rfl fn70 rfl rfl rfl rfl rfl fun hwf => ?_
 simp (disch := (refine ofP ?_; decide)) only [go_sem]
 refine drawX [0,0,0,4,0,0,0,0,0,2,0,0] (by kernel_rfl) (by kernel_rfl) rfl (by kernel_rfl) ?_
 have hlt := wf_lt hwf m0
 simp (disch := (refine ofP ?_; first | assumption | decide | omega | (simp only [new_next, set_next] <;> omega) | with_unfolding_all exact ofR rfl | with_unfolding_all exact ofNt rfl)) only [go_sem, kn m0, m0, hdv.len, hdv.one, oneC_cells hdv.one]
 refine left_ok (by rw [List.length_drop]; omega) m1 ?_
 rw [List.length_drop]
 have e : wrapI .i64 ((w.length : Int) - ((w.length - p : Nat) : Int)) = (p : Int) := by rw [wrap_i64 (by omega) (by omega)]; omega
 simp (disch := (refine ofP ?_; decide)) only [go_sem, e]
 exact .inl hk
theorem checks69 {dv : AV} {H : Hp} {rb rd : Nat} {w : List UInt8} {p from_ : Nat} {bl ba id : Int} {rv : AV} {K : AV -> Hp -> Prop} (h : RdAt dv H rb rd w p bl ba id rv) (hdv : Dv H dv w) (hw : w.length ≤ 140737488351232) (hf : from_ < p) (hp : p + 8 ≤ w.length)
 (hk : K (.int .i64 (if fnvCheck ((w.take p).drop from_) = numAt w p 8 then 0 else 22)) (rdH H rd w (p + 8))) : Call (.func 69 [] []) [.ptr rb 0, .int .i64 from_] H K := by
 have hr := h
 obtain ⟨m0, m1, hne⟩ := h
 refine enterE (N := 28) rfl fn69 rfl rfl rfl rfl rfl fun hwf => ?_
 simp (disch := (refine ofP ?_; decide)) only [go_sem]
 refine drawX [0,0,0,4,0,0,2,0,0,0] (by kernel_rfl) (by kernel_rfl) rfl (by kernel_rfl) ?_
 have hlt := wf_lt hwf m0
 simp (disch := (refine ofP ?_; first | assumption | decide | omega | (simp only [new_next, set_next] <;> omega) | with_unfolding_all exact ofR rfl | with_unfolding_all exact ofNt rfl)) only [go_sem, kn m0, m0, hdv.one, oneC_cells hdv.one]
 refine at70 hr hdv hw (by omega) ?_
 obtain ⟨sv, hs, hcall⟩ := hdv.cut hf (by omega : p ≤ w.length) (by omega)
 simp (disch := (refine ofP ?_; decide)) only [go_sem, hs]
 refine hcall _ ?_
 simp (disch := (refine ofP ?_; decide)) only [go_sem, kn m0]
 refine num_ok (by rw [List.length_drop]; omega) m1 (fun hx => by rw [List.length_drop] at hx; omega) fun _ _ => ?_
 have e : List.take 8 (List.take (Int.toNat 8) (List.drop p w)) = (w.drop p).take 8 := by rw [show Int.toNat 8 = 8 from rfl, List.take_take]; congr 1
 have e2 : List.drop (Int.toNat 8) (List.drop p w) = w.drop (p + 8) := by rw [show Int.toNat 8 = 8 from rfl, List.drop_drop]
 rw [e, e2]
 by_cases hc : fnvCheck ((w.take p).drop from_) = numAt w p 8
 ·
  rw [if_pos hc] at hk
  have hc' : ((numAt w p 8 : Nat) : Int) = (fnvCheck ((w.take p).drop from_) : Nat) := by rw [hc]
  have hc2 : ¬ (((leNum ((w.drop p).take 8)) : Nat) : Int) ≠ (fnvCheck ((w.take p).drop from_) : Nat) := fun h => h hc'
  simp (disch := (refine ofP ?_; decide)) only [go_sem, hc2]
  exact .inl hk
 ·
  rw [if_neg hc] at hk
  have hc2 : (((leNum ((w.drop p).take 8)) : Nat) : Int) ≠ (fnvCheck ((w.take p).drop from_) : Nat) := fun h => hc (by have h := Int.ofNat.inj h; exact h.symm)
  simp (disch := (refine ofP ?_; decide)) only [go_sem, hc2]
  exact .inl hk
end
end Go.Ev
namespace Go.Ev
open Go.Proofs
noncomputable section
set_option maxRecDepth 100000
theorem fn43 : E1.fn 43 = some Try.f43 := by kernel_rfl
theorem take66 {dv : AV} {H : Hp} {rb rd : Nat} {w : List UInt8} {p n : Nat} {bl ba id : Int} {rv : AV} {K : AV -> Hp -> Prop} (h : RdAt dv H rb rd w p bl ba id rv) (hw : w.length ≤ 140737488351232) (hp : p + n ≤ w.length) (hk : K (.tuple [.lst 1 (((w.drop p).take n).map eB), .bool true]) (rdH H rd w (p + n))) :
 Call (.func 66 [] []) [.ptr rd 0, .int .i64 n] H K := by
 refine take_ok (by rw [List.length_drop]; omega) h.d (fun hx => by rw [List.length_drop] at hx; omega) fun _ _ => ?_
 have e2 : List.drop (Int.toNat (n : Int)) (List.drop p w) = w.drop (p + n) := by rw [Int.toNat_natCast, List.drop_drop]
 rw [e2, Int.toNat_natCast]
 exact hk
theorem left67 {dv : AV} {H : Hp} {rb rd : Nat} {w : List UInt8} {p : Nat} {bl ba id : Int} {rv : AV} {K : AV -> Hp -> Prop} (h : RdAt dv H rb rd w p bl ba id rv) (hw : w.length ≤ 140737488351232) (hk : K (.int .i64 ((w.length - p : Nat) : Int)) H) :
 Call (.func 67 [] []) [.ptr rd 0] H K := left_ok (by rw [List.length_drop]; omega) h.d (by rw [List.length_drop]; exact hk)
theorem bytes_eB (l : List UInt8) : bytesOfL (l.map eB) = some l := by
 induction l with
 | nil => rfl
 | cons c l ih =>
  have hc : UInt8.ofNat c.toNat = c := by simp
  show (bc (kindEq .u8 .u8) ((natI (c.toNat : Int)).obind fun n => (bytesOfL (l.map eB)).omap (UInt8.ofNat n :: ·)) none) = _
  rw [ih, natI_nat]
  show some (UInt8.ofNat c.toNat :: l) = _
  rw [hc]
theorem str_lst {H : Hp} {l : List UInt8} : strOf H (.lst 1 (l.map eB)) = some (.str l) := by
 show (bytesOfL (catL (l.map eB))).omap AV.str = _
 rw [catL_eB, bytes_eB]; rfl
attribute [go_sem] str_lst
def hBl (w : List UInt8) : Int := numAt w 4 2
def hBa (w : List UInt8) : Int := (numAt w 6 4 : Int) - 1
def hId (w : List UInt8) : Int := numAt w 10 4
def hN (w : List UInt8) : Int := numAt w 14 2
def headErr (w : List UInt8) : Int :=
 if w.length < 4 then 21 else if w.take 4 ≠ [82, 86, 83, 49] then 20 else if w.length < 24 then 21 else if fnvCheck (w.take 16) ≠ numAt w 16 8 then 22 else if hBl w < 1 ∨ 64 < hBl w then 23 else
 if hId w < 1 ∨ 1000000 < hId w ∨ (hBa w ≠ -1 /\ (hBa w < 1 ∨ hId w ≤ hBa w)) then 25 else 0
theorem RdAt.upd {dv : AV} {H : Hp} {rb rd : Nat} {w : List UInt8} {p : Nat} {bl ba id : Int} {rv : AV} (h : RdAt dv H rb rd w p bl ba id rv) (bl' ba' id' : Int) (rv' : AV) :
 RdAt dv (setBlk H rb (.cells [.ptr rd 0, dv, .int .i64 bl', .int .i64 ba', .int .i64 id', rv'] 101 true true)) rb rd w p bl' ba' id' rv' := ⟨get_set_s, (get_set_n h.ne.symm).trans h.d, h.ne, h.lr, h.ld⟩
theorem RdAt.far {dv : AV} {H : Hp} {rb rd : Nat} {w : List UInt8} {p : Nat} {bl ba id : Int} {rv : AV} (h : RdAt dv H rb rd w p bl ba id rv) (z1 z2 : Blk) : RdAt dv (setBlk (newBlk H z1).2 H.next z2) rb rd w p bl ba id rv :=
 ⟨(get_set_n (Nat.ne_of_lt h.lr)).trans ((get_new_n (Nat.ne_of_lt h.lr)).trans h.r), (get_set_n (Nat.ne_of_lt h.ld)).trans ((get_new_n (Nat.ne_of_lt h.ld)).trans h.d), h.ne, Nat.lt_succ_of_lt h.lr, Nat.lt_succ_of_lt h.ld⟩
theorem RdAt.frame {Hb H : Hp} {rd : Nat} {w : List UInt8} {p : Nat} (hf : Fr Hb H) (h2 : Hb.next ≤ rd) : Fr Hb (rdH H rd w p) := hf.set h2 _
set_option maxHeartbeats 2000000 in
theorem head43 {dv : AV} {H Hb : Hp} {rb rd : Nat} {w : List UInt8} {K : AV -> Hp -> Prop} (h : RdAt dv H rb rd w 0 0 0 0 .nils) (hdv : Dv Hb dv w) (hw : w.length ≤ 140737488351232) (hf : Fr Hb H) (h1 : Hb.next ≤ rb) (h2 : Hb.next ≤ rd)
 (he : headErr w ≠ 0 -> ∀ H', Fr Hb H' -> K (.tuple [.int .i64 0, .int .i64 (headErr w)]) H')
 (hk : headErr w = 0 -> ∀ H', Fr Hb H' -> RdAt dv H' rb rd w 24 (hBl w) (hBa w) (hId w) .nils -> K (.tuple [.int .i64 (hN w), .int .i64 0]) H') : Call (.func 43 [] []) [.ptr rb 0] H K := by
 have hr := h
 obtain ⟨m0, m1, hne⟩ := h
 refine enterE (N := 97) rfl fn43 rfl rfl rfl rfl rfl fun hwf => ?_
 simp (disch := (refine ofP ?_; decide)) only [go_sem, kn m0]
 by_cases c1 : w.length < 4
 ·
  refine take_ok (by rw [List.length_drop]; omega) m1 (fun hx => ?_) fun _ hx => by rw [List.length_drop] at hx; omega
  have e : headErr w = 21 := if_pos c1
  rw [e] at he
  simp (disch := (refine ofP ?_; decide)) only [go_sem]
  exact .inl (he (by decide) _ hf)
 refine take66 (n := 4) hr (by omega) (by omega) ?_
 have hr := hr.move 4
 have hf := RdAt.frame (w := w) (p := 4) hf h2
 rw [show 0 + 4 = 4 from rfl, List.drop_zero]
 generalize rdH H rd w 4 = H1 at hr hf
 obtain ⟨n0, n1, _⟩ := id hr
 by_cases c2 : w.take 4 ≠ [82, 86, 83, 49]
 ·
  have e : headErr w = 20 := by unfold headErr; rw [if_neg c1, if_pos c2]
  rw [e] at he
  simp (disch := (refine ofP ?_; decide)) only [go_sem, c2]
  exact .inl (he (by decide) _ hf)
 by_cases c3 : w.length < 24
 ·
  have e : headErr w = 21 := by unfold headErr; rw [if_neg c1, if_neg c2, if_pos c3]
  rw [e] at he
  simp (disch := (refine ofP ?_; decide)) only [go_sem, c2, kn n0]
  refine left67 hr (by omega) ?_
  simp (disch := (refine ofP ?_; first | decide | omega)) only [go_sem]
  exact .inl (he (by decide) _ hf)
 simp (disch := (refine ofP ?_; decide)) only [go_sem, c2, kn n0]
 refine left67 hr (by omega) ?_
 simp (disch := (refine ofP ?_; first | decide | omega)) only [go_sem]
 have b24 : 24 ≤ w.length := by omega
 have l1 := numAt_lt (w := w) (p := 4) (n := 2) (by decide)
 have l2 := numAt_lt (w := w) (p := 6) (n := 4) (by decide)
 have l3 := numAt_lt (w := w) (p := 10) (n := 4) (by decide)
 have l4 := numAt_lt (w := w) (p := 14) (n := 2) (by decide)
 have c4 : ¬ ((w.length - 4 : Nat) : Int) < 20 := by omega
 clear m0 m1 n0 n1
 refine num68 (n := 2) hr (by omega) (by decide) (by omega) ?_
 have hr := hr.move (4 + 2)
 have hf := RdAt.frame (w := w) (p := 4 + 2) hf h2
 generalize rdH H1 rd w (4 + 2) = H2 at hr hf
 obtain ⟨n0, n1, _⟩ := id hr
 simp (disch := (refine ofP ?_; first | assumption | decide | omega | (simp only [new_next, set_next] <;> omega) | with_unfolding_all exact ofR rfl | with_unfolding_all exact ofNt rfl)) only [go_sem, kn n0, n0]
 have hr := hr.upd (hBl w) 0 0 .nils
 have hf := hf.set h1 (.cells [.ptr rd 0, dv, .int .i64 (hBl w), .int .i64 0, .int .i64 0, .nils] 101 true true)
 rw [show ((numAt w 4 2 : Nat) : Int) = hBl w from rfl]
 generalize setBlk H2 rb (.cells [.ptr rd 0, dv, .int .i64 (hBl w), .int .i64 0, .int .i64 0, .nils] 101 true true) = H3 at hr hf
 clear n0 n1
 refine num68 (n := 4) hr (by omega) (by decide) (by omega) ?_
 have hr := hr.move (4 + 2 + 4)
 have hf := RdAt.frame (w := w) (p := 4 + 2 + 4) hf h2
 generalize rdH H3 rd w (4 + 2 + 4) = H4 at hr hf
 obtain ⟨n0, n1, _⟩ := id hr
 have wb : wrapI .i64 ((numAt w 6 4 : Nat) - 1 : Int) = hBa w := by rw [wrap_i64 (by omega) (by omega)]; rfl
 simp (disch := (refine ofP ?_; first | assumption | decide | omega | (simp only [new_next, set_next] <;> omega) | with_unfolding_all exact ofR rfl | with_unfolding_all exact ofNt rfl)) only [go_sem, kn n0, n0, wb]
 have hr := hr.upd (hBl w) (hBa w) 0 .nils
 have hf := hf.set h1 (.cells [.ptr rd 0, dv, .int .i64 (hBl w), .int .i64 (hBa w), .int .i64 0, .nils] 101 true true)
 rw [show hBa w = hBa w from rfl]
 generalize setBlk H4 rb (.cells [.ptr rd 0, dv, .int .i64 (hBl w), .int .i64 (hBa w), .int .i64 0, .nils] 101 true true) = H5 at hr hf
 clear n0 n1
 refine num68 (n := 4) hr (by omega) (by decide) (by omega) ?_
 have hr := hr.move (4 + 2 + 4 + 4)
 have hf := RdAt.frame (w := w) (p := 4 + 2 + 4 + 4) hf h2
 generalize rdH H5 rd w (4 + 2 + 4 + 4) = H6 at hr hf
 obtain ⟨n0, n1, _⟩ := id hr
 simp (disch := (refine ofP ?_; first | assumption | decide | omega | (simp only [new_next, set_next] <;> omega) | with_unfolding_all exact ofR rfl | with_unfolding_all exact ofNt rfl)) only [go_sem, kn n0, n0]
 have hr := hr.upd (hBl w) (hBa w) (hId w) .nils
 have hf := hf.set h1 (.cells [.ptr rd 0, dv, .int .i64 (hBl w), .int .i64 (hBa w), .int .i64 (hId w), .nils] 101 true true)
 rw [show ((numAt w (4 + 2 + 4) 4 : Nat) : Int) = hId w from rfl]
 generalize setBlk H6 rb (.cells [.ptr rd 0, dv, .int .i64 (hBl w), .int .i64 (hBa w), .int .i64 (hId w), .nils] 101 true true) = H7 at hr hf
 clear n0 n1
 refine num68 (n := 2) hr (by omega) (by decide) (by omega) ?_
 have hr := hr.move (4 + 2 + 4 + 4 + 2)
 have hf := RdAt.frame (w := w) (p := 4 + 2 + 4 + 4 + 2) hf h2
 generalize rdH H7 rd w (4 + 2 + 4 + 4 + 2) = H8 at hr hf
 rw [show ((numAt w (4 + 2 + 4 + 4) 2 : Nat) : Int) = hN w from rfl]
 simp (disch := (refine ofP ?_; decide)) only [go_sem]
 refine checks69 (p := 16) (from_ := 0) hr (hdv.keep hf) (by omega) (by decide) (by omega) ?_
 have hr := hr.move 24
 have hf := RdAt.frame (w := w) (p := 24) hf h2
 rw [show 16 + 8 = 24 from rfl, List.drop_zero]
 generalize rdH H8 rd w 24 = H9 at hr hf
 by_cases c5 : fnvCheck (w.take 16) ≠ numAt w 16 8
 ·
  have e : headErr w = 22 := by unfold headErr; rw [if_neg c1, if_neg c2, if_neg c3, if_pos c5]
  rw [e] at he
  rw [if_neg c5]
  simp (disch := (refine ofP ?_; decide)) only [go_sem]
  exact .inl (he (by decide) _ hf)
 rw [if_pos (Decidable.not_not.1 c5)]
 obtain ⟨n0, n1, _⟩ := id hr
 have hnx := hf.nx
 by_cases c6 : hBl w < 1
 ·
  have e : headErr w = 23 := by unfold headErr; rw [if_neg c1, if_neg c2, if_neg c3, if_neg c5, if_pos (.inl c6)]
  rw [e] at he
  simp (disch := (refine ofP ?_; first | decide | omega)) only [go_sem, kn n0, c6]
  exact .inl (he (by decide) _ (by (repeat first | assumption | exact Fr.refl _ | refine Fr.newT ?_ _ | refine Fr.set ?_ (by omega) _)))
 by_cases c7 : 64 < hBl w
 ·
  have e : headErr w = 23 := by unfold headErr; rw [if_neg c1, if_neg c2, if_neg c3, if_neg c5, if_pos (.inr c7)]
  rw [e] at he
  simp (disch := (refine ofP ?_; first | decide | omega)) only [go_sem, kn n0, c6, c7]
  exact .inl (he (by decide) _ (by (repeat first | assumption | exact Fr.refl _ | refine Fr.newT ?_ _ | refine Fr.set ?_ (by omega) _)))
 by_cases d1 : hId w < 1
 ·
  have e : headErr w = 25 := by unfold headErr; rw [if_neg c1, if_neg c2, if_neg c3, if_neg c5, if_neg (by omega), if_pos (by omega)]
  rw [e] at he
  simp (disch := (refine ofP ?_; first | decide | omega)) only [go_sem, kn n0, c6, c7, d1]
  exact .inl (he (by decide) _ (by (repeat first | assumption | exact Fr.refl _ | refine Fr.newT ?_ _ | refine Fr.set ?_ (by omega) _)))
 by_cases d2 : 1000000 < hId w
 ·
  have e : headErr w = 25 := by unfold headErr; rw [if_neg c1, if_neg c2, if_neg c3, if_neg c5, if_neg (by omega), if_pos (by omega)]
  rw [e] at he
  simp (disch := (refine ofP ?_; first | decide | omega)) only [go_sem, kn n0, c6, c7, d1, d2]
  exact .inl (he (by decide) _ (by (repeat first | assumption | exact Fr.refl _ | refine Fr.newT ?_ _ | refine Fr.set ?_ (by omega) _)))
 have fin : headErr w = 0 -> ∀ z1 z2, XO H K (.tuple [.int .i64 (hN w), .int .i64 0]) (setBlk (newBlk H9 z1).2 H9.next z2) := fun e z1 z2 => .inl (hk e _ (by (repeat first | assumption | exact Fr.refl _ | refine Fr.newT ?_ _ | refine Fr.set ?_ (by omega) _)) (hr.far z1 z2))
 by_cases d3 : hBa w = -1
 ·
  have e : headErr w = 0 := by unfold headErr; rw [if_neg c1, if_neg c2, if_neg c3, if_neg c5, if_neg (by omega), if_neg (by omega)]
  simp (disch := (refine ofP ?_; first | decide | omega)) only [go_sem, kn n0, c6, c7, d1, d2, d3]
  exact fin e _ _
 by_cases d4 : hBa w < 1
 ·
  have e : headErr w = 25 := by unfold headErr; rw [if_neg c1, if_neg c2, if_neg c3, if_neg c5, if_neg (by omega), if_pos (by omega)]
  rw [e] at he
  simp (disch := (refine ofP ?_; first | decide | omega)) only [go_sem, kn n0, c6, c7, d1, d2, d3, d4]
  exact .inl (he (by decide) _ (by (repeat first | assumption | exact Fr.refl _ | refine Fr.newT ?_ _ | refine Fr.set ?_ (by omega) _)))
 by_cases d5 : hId w ≤ hBa w
 ·
  have e : headErr w = 25 := by unfold headErr; rw [if_neg c1, if_neg c2, if_neg c3, if_neg c5, if_neg (by omega), if_pos (by omega)]
  rw [e] at he
  simp (disch := (refine ofP ?_; first | decide | omega)) only [go_sem, kn n0, c6, c7, d1, d2, d3, d4, d5]
  exact .inl (he (by decide) _ (by (repeat first | assumption | exact Fr.refl _ | refine Fr.newT ?_ _ | refine Fr.set ?_ (by omega) _)))
 have e : headErr w = 0 := by unfold headErr; rw [if_neg c1, if_neg c2, if_neg c3, if_neg c5, if_neg (by omega), if_neg (by omega)]
 simp (disch := (refine ofP ?_; first | decide | omega)) only [go_sem, kn n0, c6, c7, d1, d2, d3, d4, d5]
 exact fin e _ _
end
end Go.Ev
namespace Go.Ev
open Go.Proofs
noncomputable section
set_option maxRecDepth 100000
theorem fn44 : E1.fn 44 = some Try.f44 := by kernel_rfl
def eRecM (r : Rec) : AV := .agg [.int .i64 r.fr, .int .i64 r.cnt, .bool r.zs, bif r.zs then .nils else .lst 1 (r.data.map eB)]
theorem eRecM_cells (r : Rec) : (eRecM r).cells = [.int .i64 r.fr, .int .i64 r.cnt, .bool r.zs, bif r.zs then .nils else .lst 1 (r.data.map eB)] := rfl
theorem bytes_no (l : List UInt8) : NoB (.lst 1 (l.map eB)) := NoB.lst (by decide) (NoB.map fun c => NoB.plain rfl)
theorem eRecM_no (r : Rec) (hz : r.zs = true -> r.data = []) (σ : Mp) (H1 : Hp) (a : AV) (h : VR false σ H1 (eRecM r) a) : VR false noMp H1 (eRec r) a := by
 obtain ⟨l', h3, rfl⟩ := h.agg
 obtain ⟨a0, r0, v0, h4, rfl⟩ := VRL.cons.1 h3
 obtain ⟨a1, r1, v1, h5, rfl⟩ := VRL.cons.1 h4
 obtain ⟨a2, r2, v2, h6, rfl⟩ := VRL.cons.1 h5
 obtain ⟨a3, r3, v3, h7, rfl⟩ := VRL.cons.1 h6
 rw [VRL.nil] at h7
 subst h7
 have n0 := NoB.plain (v := .int .i64 r.fr) rfl _ _ _ v0
 have n1 := NoB.plain (v := .int .i64 r.cnt) rfl _ _ _ v1
 have n2 := NoB.plain (v := .bool r.zs) rfl _ _ _ v2
 have n3 : VR false noMp H1 (.lst 1 (r.data.map eB)) a3 := by
  cases hzs : r.zs with
  | true =>
   rw [hzs] at v3
   obtain rfl := VR.nils (show VR false σ H1 .nils a3 from v3)
   rw [hz hzs]
   exact VR.lst0_mk (.inl rfl)
  | false =>
   rw [hzs] at v3
   exact bytes_no _ _ _ _ v3
 exact VR.agg_mk (VRL.cons.2 ⟨_, _, n0, VRL.cons.2 ⟨_, _, n1, VRL.cons.2 ⟨_, _, n2, VRL.cons.2 ⟨_, _, n3, VRL.nil.2 rfl, rfl⟩, rfl⟩, rfl⟩, rfl⟩)
theorem eRecM_fz {H0 H : Hp} (r : Rec) (hz : r.zs = true -> r.data = []) : FZ H0 H (eRec r) (eRecM r) := by
 refine FZ.agg (.cons .int (.cons .int (.cons .bool (.cons ?_ .nil))))
 cases hzs : r.zs with
 | true => rw [hz hzs]; exact FZ.nils0
 | false => exact FZ.lst (FZL.plain (plain_map fun _ => rfl))
def zsOk (s : Strm) : Prop := ∀ r ∈ s.recs, r.zs = true -> r.data = []
theorem good_mem {Hb H : Hp} {rv : AV} {s : Strm} {K : AV -> Hp -> Prop} (ha : Acc EE Hb H 68 4 rv (s.recs.map eRecM)) (hzs : zsOk s) (hl : s.recs.length ≤ 1000000) (hd : ∀ r ∈ s.recs, r.data.length ≤ 1000000 /\ smallI r.fr /\ smallI r.cnt) (hk : K (.bool (goodS s)) H) :
 Call (.func 71 [] []) [.agg [.int .i64 s.blocks, .int .i64 s.base, .int .i64 s.id, rv]] H K := by
 refine WCall2.read (v := .bool (goodS s)) rfl (good_ok (s := s) (H := noHp) (K := fun v' _ => v' = .bool (goodS s)) hl hd rfl) (fun σ H1 as1 r hv => ?_) hk
 obtain ⟨y, r', h1, h2, rfl⟩ := VRL.cons.1 hv
 rw [VRL.nil] at h2
 subst h2
 obtain ⟨l', h3, rfl⟩ := h1.agg
 obtain ⟨a0, r0, v0, h4, rfl⟩ := VRL.cons.1 h3
 obtain ⟨a1, r1, v1, h5, rfl⟩ := VRL.cons.1 h4
 obtain ⟨a2, r2, v2, h6, rfl⟩ := VRL.cons.1 h5
 obtain ⟨a3, r3, v3, h7, rfl⟩ := VRL.cons.1 h6
 rw [VRL.nil] at h7
 subst h7
 have n0 := NoB.plain (v := .int .i64 s.blocks) rfl _ _ _ v0
 have n1 := NoB.plain (v := .int .i64 s.base) rfl _ _ _ v1
 have n2 := NoB.plain (v := .int .i64 s.id) rfl _ _ _ v2
 have ha' : Acc E1 Hb H 68 4 rv (s.recs.map eRecM) := ⟨ha.fr, ha.own, ha.el, ha.hsz, ha.hpos, ha.hg⟩
 have n3 := ha'.readG (g := eRec) (fun r hr => eRecM_no r (hzs r hr)) r v3
 exact VRL.one (VR.agg_mk (VRL.cons.2 ⟨_, _, n0, VRL.cons.2 ⟨_, _, n1, VRL.cons.2 ⟨_, _, n2, VRL.cons.2 ⟨_, _, n3, VRL.nil.2 rfl, rfl⟩, rfl⟩, rfl⟩, rfl⟩))
structure RecAt (dv : AV) (Hb H : Hp) (rb rd : Nat) (w : List UInt8) (p : Nat) (s : Strm) (rv : AV) : Prop where
 at_ : RdAt dv H rb rd w p s.blocks s.base s.id rv
 acc : Acc EE Hb H 68 4 rv (s.recs.map eRecM)
 h1 : Hb.next ≤ rb
 h2 : Hb.next ≤ rd
section
variable {dv : AV} {Hb H : Hp} {rb rd p : Nat} {w : List UInt8} {s : Strm} {rv : AV}
theorem RecAt.move (h : RecAt dv Hb H rb rd w p s rv) (p' : Nat) : RecAt dv Hb (rdH H rd w p') rb rd w p' s rv := ⟨h.at_.move p', h.acc.other h.at_.d rfl h.h2, h.h1, h.h2⟩
theorem RecAt.far (h : RecAt dv Hb H rb rd w p s rv) (z1 z2 : Blk) : RecAt dv Hb (setBlk (newBlk H z1).2 H.next z2) rb rd w p s rv := ⟨h.at_.far z1 z2, h.acc.keep ((Fr.alloc _ _).set (Nat.le_refl _) _), h.h1, h.h2⟩
theorem RecAt.set (h : RecAt dv Hb H rb rd w p s rv) {c : Nat} (h1 : c ≠ rb) (h2 : c ≠ rd) (h3 : rv = .nils ∨ c ≠ sB rv) (h4 : Hb.next ≤ c) (z : Blk) : RecAt dv Hb (setBlk H c z) rb rd w p s rv :=
 ⟨⟨(get_set_n h1.symm).trans h.at_.r, (get_set_n h2.symm).trans h.at_.d, h.at_.ne, h.at_.lr, h.at_.ld⟩, h.acc.otherN h3 h4, h.h1, h.h2⟩
end
def recSize (w : List UInt8) (p : Nat) : Nat := if numAt w p 1 = 1 then numAt w (p + 3) 2 * 64 else 0
def recAt (w : List UInt8) (p : Nat) : Rec := ⟨numAt w (p + 1) 2, numAt w (p + 3) 2, decide (numAt w p 1 = 2), (w.drop (p + 5)).take (recSize w p)⟩
def Strm.snoc (s : Strm) (r : Rec) : Strm := { s with recs := s.recs ++ [r] }
def recErr (w : List UInt8) (p : Nat) (s : Strm) : Int :=
 if w.length < p + 5 then 21 else if numAt w p 1 ≠ 1 /\ numAt w p 1 ≠ 2 then 11 else
 if numAt w (p + 3) 2 < 1 ∨ s.blocks ≤ numAt w (p + 1) 2 ∨ s.blocks - numAt w (p + 1) 2 < numAt w (p + 3) 2 then 25 else
 if w.length < p + 5 + recSize w p + 8 then 21 else if fnvCheck ((w.take (p + 5 + recSize w p)).drop p) ≠ numAt w (p + 5 + recSize w p) 8 then 22 else
 if goodS (s.snoc (recAt w p)) = false then 26 else 0
set_option maxHeartbeats 4000000 in
theorem record44 {dv : AV} {H Hb : Hp} {rb rd p : Nat} {w : List UInt8} {s : Strm} {rv : AV} {K : AV -> Hp -> Prop} (h : RecAt dv Hb H rb rd w p s rv) (hdv : Dv Hb dv w) (hw : w.length ≤ 140737488351232) (hp : p ≤ w.length) (hbl : 0 ≤ s.blocks /\ s.blocks ≤ 64)
 (hl : s.recs.length ≤ 100000) (hd : ∀ r ∈ s.recs, r.data.length ≤ 100000 /\ smallI r.fr /\ smallI r.cnt) (hzs : zsOk s)
 (he : recErr w p s ≠ 0 -> ∀ H', Fr Hb H' -> K (.int .i64 (recErr w p s)) H')
 (hk : recErr w p s = 0 -> ∀ H' rv', RecAt dv Hb H' rb rd w (p + 5 + recSize w p + 8) (s.snoc (recAt w p)) rv' -> K (.int .i64 0) H') : Call (.func 44 [] []) [.ptr rb 0] H K := by
 refine enterE (N := 114) rfl fn44 rfl rfl rfl rfl rfl fun hwf => ?_
 simp (disch := (refine ofP ?_; decide)) only [go_sem]
 refine at70 h.at_ (hdv.keep h.acc.fr) (by omega) hp ?_
 obtain ⟨n0, n1, _⟩ := id h.at_
 simp (disch := (refine ofP ?_; decide)) only [go_sem, kn n0]
 refine left67 h.at_ (by omega) ?_
 by_cases c1 : w.length < p + 5
 ·
  have e : recErr w p s = 21 := if_pos c1
  rw [e] at he
  simp (disch := (refine ofP ?_; first | decide | omega)) only [go_sem]
  exact .inl (he (by decide) _ h.acc.fr)
 simp (disch := (refine ofP ?_; first | decide | omega)) only [go_sem]
 clear n0 n1
 have k1 := numAt_lt (w := w) (p := p) (n := 1) (by decide)
 have k2 := numAt_lt (w := w) (p := p + 1) (n := 2) (by decide)
 have k3 := numAt_lt (w := w) (p := p + 3) (n := 2) (by decide)
 refine num68 (n := 1) h.at_ (by omega) (by decide) (by omega) ?_
 have h := h.move (p + 1)
 generalize rdH H rd w (p + 1) = H1 at h
 simp (disch := (refine ofP ?_; decide)) only [go_sem]
 refine num68 (n := 2) h.at_ (by omega) (by decide) (by omega) ?_
 have h := h.move (p + 1 + 2)
 rw [show p + 1 + 2 = p + 3 from rfl] at h ⊢
 generalize rdH H1 rd w (p + 3) = H2 at h
 simp (disch := (refine ofP ?_; first | decide | omega)) only [go_sem]
 have hc1 : rb ≠ H2.next := Nat.ne_of_lt h.at_.lr
 have hc2 : rd ≠ H2.next := Nat.ne_of_lt h.at_.ld
 have hc3 := h.acc.sep (Nat.le_refl H2.next)
 have hc4 := h.acc.fr.nx
 have h := h.far (.cells [.int .i64 0, .int .i64 0, .bool false, .nils] 68 true true) (.cells [.int .i64 (numAt w (p + 1) 2), .int .i64 0, .bool false, .nils] 68 true true)
 have g0 : (setBlk (newBlk H2 (.cells [.int .i64 0, .int .i64 0, .bool false, .nils] 68 true true)).2 H2.next (.cells [.int .i64 (numAt w (p + 1) 2), .int .i64 0, .bool false, .nils] 68 true true)).m.get H2.next = _ := get_set_s
 have gn : (setBlk (newBlk H2 (.cells [.int .i64 0, .int .i64 0, .bool false, .nils] 68 true true)).2 H2.next (.cells [.int .i64 (numAt w (p + 1) 2), .int .i64 0, .bool false, .nils] 68 true true)).next = H2.next + 1 := rfl
 generalize setBlk (newBlk H2 (.cells [.int .i64 0, .int .i64 0, .bool false, .nils] 68 true true)).2 H2.next (.cells [.int .i64 (numAt w (p + 1) 2), .int .i64 0, .bool false, .nils] 68 true true) = H3 at h g0 gn
 refine num68 (n := 2) h.at_ (by omega) (by decide) (by omega) ?_
 have h := h.move (p + 3 + 2)
 rw [show p + 3 + 2 = p + 5 from rfl] at h ⊢
 have g0 : (rdH H3 rd w (p + 5)).m.get H2.next = _ := (get_set_n hc2.symm).trans g0
 have gn : (rdH H3 rd w (p + 5)).next = H2.next + 1 := gn
 generalize rdH H3 rd w (p + 5) = H4 at h g0 gn
 generalize H2.next = c at *
 have hcr := h.at_.lr
 by_cases q : numAt w p 1 ≠ 1 /\ numAt w p 1 ≠ 2
 ·
  have e : recErr w p s = 11 := by unfold recErr; rw [if_neg c1, if_pos q]
  rw [e] at he
  have q1 : ¬ ((numAt w p 1 : Nat) : Int) = 1 := by omega
  have q2 : ¬ ((numAt w p 1 : Nat) : Int) = 2 := by omega
  simp (disch := (refine ofP ?_; first | assumption | decide | omega | (simp only [new_next, set_next] <;> omega) | with_unfolding_all exact ofR rfl | with_unfolding_all exact ofNt rfl)) only [go_sem, kn g0, g0, q1, q2]
  exact .inl (he (by decide) _ (h.acc.fr.set (by omega) _ |>.set (by omega) _))
 have hx : ∀ zs : Bool, RecAt dv Hb (setBlk (setBlk H4 c (.cells [.int .i64 (numAt w (p + 1) 2), .int .i64 (numAt w (p + 3) 2), .bool false, .nils] 68 true true)) c (.cells [.int .i64 (numAt w (p + 1) 2), .int .i64 (numAt w (p + 3) 2), .bool zs, .nils] 68 true true)) rb rd w (p + 5) s rv := fun zs =>
  (h.set hc1.symm hc2.symm hc3 hc4 _).set hc1.symm hc2.symm hc3 hc4 _
 have hg : ∀ zs : Bool, (setBlk (setBlk H4 c (.cells [.int .i64 (numAt w (p + 1) 2), .int .i64 (numAt w (p + 3) 2), .bool false, .nils] 68 true true)) c (.cells [.int .i64 (numAt w (p + 1) 2), .int .i64 (numAt w (p + 3) 2), .bool zs, .nils] 68 true true)).m.get c = some (.cells [.int .i64 (numAt w (p + 1) 2), .int .i64 (numAt w (p + 3) 2), .bool zs, .nils] 68 true true) := fun zs => get_set_s
 have hq : (numAt w p 1 = 1 /\ decide (((numAt w p 1 : Nat) : Int) = 2) = false) ∨ (numAt w p 1 = 2 /\ decide (((numAt w p 1 : Nat) : Int) = 2) = true) := by
  by_cases q1 : numAt w p 1 = 1
  ·
   exact .inl ⟨q1, decide_eq_false (by omega)⟩
  ·
   exact .inr ⟨by omega, decide_eq_true (by omega)⟩
 rcases hq with ⟨q1, q2⟩ | ⟨q1, q2⟩
 ·
  have q3 : ((numAt w p 1 : Nat) : Int) = 1 := by omega
  have hsz : recSize w p = numAt w (p + 3) 2 * 64 := if_pos q1
  have hzf : (recAt w p).zs = false := decide_eq_false (by omega)
  simp (disch := (refine ofP ?_; first | assumption | decide | omega | (simp only [new_next, set_next] <;> omega) | with_unfolding_all exact ofR rfl | with_unfolding_all exact ofNt rfl)) only [go_sem, kn g0, g0, q2, q3]
  have h := hx false
  have g0 := hg false
  clear hx hg
  generalize setBlk (setBlk H4 c (.cells [.int .i64 (numAt w (p + 1) 2), .int .i64 (numAt w (p + 3) 2), .bool false, .nils] 68 true true)) c (.cells [.int .i64 (numAt w (p + 1) 2), .int .i64 (numAt w (p + 3) 2), .bool false, .nils] 68 true true) = H5 at h g0 ⊢
  obtain ⟨n0, n1, _⟩ := id h.at_
  refine drawE (by kernel_rfl) (by kernel_rfl) ?_
  by_cases d : numAt w (p + 3) 2 < 1 ∨ s.blocks ≤ numAt w (p + 1) 2 ∨ s.blocks - numAt w (p + 1) 2 < numAt w (p + 3) 2
  ·
   have e : recErr w p s = 25 := by unfold recErr; rw [if_neg c1, if_neg q, if_pos d]
   rw [e] at he
   by_cases d1 : ((numAt w (p + 3) 2 : Nat) : Int) < 1
   ·
    simp (disch := (refine ofP ?_; first | assumption | decide | omega | (simp only [new_next, set_next] <;> omega) | with_unfolding_all exact ofR rfl | with_unfolding_all exact ofNt rfl)) only [go_sem, kn g0, g0, d1]
    exact .inl (he (by decide) _ h.acc.fr)
   by_cases d2 : s.blocks ≤ ((numAt w (p + 1) 2 : Nat) : Int)
   ·
    simp (disch := (refine ofP ?_; first | assumption | decide | omega | (simp only [new_next, set_next] <;> omega) | with_unfolding_all exact ofR rfl | with_unfolding_all exact ofNt rfl)) only [go_sem, kn g0, g0, kn n0, d1, d2]
    exact .inl (he (by decide) _ h.acc.fr)
   have d3 : s.blocks - ((numAt w (p + 1) 2 : Nat) : Int) < ((numAt w (p + 3) 2 : Nat) : Int) := by omega
   simp (disch := (refine ofP ?_; first | assumption | decide | omega | (simp only [new_next, set_next] <;> omega) | with_unfolding_all exact ofR rfl | with_unfolding_all exact ofNt rfl)) only [go_sem, kn g0, g0, kn n0, d1, d2, d3, wrap_i64]
   exact .inl (he (by decide) _ h.acc.fr)
  have d1 : ¬ ((numAt w (p + 3) 2 : Nat) : Int) < 1 := by omega
  have d2 : ¬ s.blocks ≤ ((numAt w (p + 1) 2 : Nat) : Int) := by omega
  have d3 : ¬ s.blocks - ((numAt w (p + 1) 2 : Nat) : Int) < ((numAt w (p + 3) 2 : Nat) : Int) := by omega
  have hm : wrapI .i64 (((numAt w (p + 3) 2 : Nat) : Int) * 64) = ((recSize w p : Nat) : Int) := by rw [wrap_i64 (by omega) (by omega), hsz]; omega
  simp (disch := (refine ofP ?_; first | assumption | decide | omega | (simp only [new_next, set_next] <;> omega) | with_unfolding_all exact ofR rfl | with_unfolding_all exact ofNt rfl)) only [go_sem, kn g0, g0, kn n0, d1, d2, d3, wrap_i64 (n := s.blocks - ((numAt w (p + 1) 2 : Nat) : Int)), hm, q3]
  refine left67 h.at_ (by omega) ?_
  have hrl : recSize w p ≤ 274877906944 := by rw [hsz]; omega
  have hw8 : wrapI .i64 (((recSize w p : Nat) : Int) + 8) = ((recSize w p + 8 : Nat) : Int) := by rw [wrap_i64 (by omega) (by omega)]; omega
  by_cases d4 : w.length < p + 5 + recSize w p + 8
  ·
   have e : recErr w p s = 21 := by unfold recErr; rw [if_neg c1, if_neg q, if_neg d, if_pos d4]
   rw [e] at he
   have d4' : ((w.length - (p + 5) : Nat) : Int) < ((recSize w p + 8 : Nat) : Int) := by omega
   simp (disch := (refine ofP ?_; decide)) only [go_sem, hw8, d4']
   exact .inl (he (by decide) _ h.acc.fr)
  have d4' : ¬ ((w.length - (p + 5) : Nat) : Int) < ((recSize w p + 8 : Nat) : Int) := by omega
  simp (disch := (refine ofP ?_; decide)) only [go_sem, hw8, d4', kn n0]
  refine take66 (n := recSize w p) h.at_ (by omega) (by omega) ?_
  have h := h.move (p + 5 + recSize w p)
  have g0 : (rdH H5 rd w (p + 5 + recSize w p)).m.get c = _ := (get_set_n hc2.symm).trans g0
  generalize rdH H5 rd w (p + 5 + recSize w p) = H6 at h g0
  clear n0 n1
  have hpos : (0 : Int) < ((recSize w p : Nat) : Int) := by omega
  simp (disch := (refine ofP ?_; first | assumption | decide | omega | (simp only [new_next, set_next] <;> omega) | with_unfolding_all exact ofR rfl | with_unfolding_all exact ofNt rfl)) only [go_sem, kn g0, g0, hpos]
  have h := h.set hc1.symm hc2.symm hc3 hc4 (.cells [.int .i64 (numAt w (p + 1) 2), .int .i64 (numAt w (p + 3) 2), .bool false, .lst 1 (((w.drop (p + 5)).take (recSize w p)).map eB)] 68 true true)
  have g0 : (setBlk H6 c (.cells [.int .i64 (numAt w (p + 1) 2), .int .i64 (numAt w (p + 3) 2), .bool false, .lst 1 (((w.drop (p + 5)).take (recSize w p)).map eB)] 68 true true)).m.get c = _ := get_set_s
  generalize setBlk H6 c (.cells [.int .i64 (numAt w (p + 1) 2), .int .i64 (numAt w (p + 3) 2), .bool false, .lst 1 (((w.drop (p + 5)).take (recSize w p)).map eB)] 68 true true) = H7 at h g0 ⊢
  refine checks69 (p := p + 5 + recSize w p) (from_ := p) h.at_ (hdv.keep h.acc.fr) (by omega) (by omega) (by omega) ?_
  have h := h.move (p + 5 + recSize w p + 8)
  have g0 : (rdH H7 rd w (p + 5 + recSize w p + 8)).m.get c = _ := (get_set_n hc2.symm).trans g0
  generalize rdH H7 rd w (p + 5 + recSize w p + 8) = H8 at h g0
  by_cases d5 : fnvCheck ((w.take (p + 5 + recSize w p)).drop p) ≠ numAt w (p + 5 + recSize w p) 8
  ·
   have e : recErr w p s = 22 := by unfold recErr; rw [if_neg c1, if_neg q, if_neg d, if_neg d4, if_pos d5]
   rw [e] at he
   rw [if_neg d5]
   simp (disch := (refine ofP ?_; decide)) only [go_sem]
   exact .inl (he (by decide) _ h.acc.fr)
  rw [if_pos (Decidable.not_not.1 d5)]
  obtain ⟨n0, n1, _⟩ := id h.at_
  simp (disch := (refine ofP ?_; decide)) only [go_sem]
  refine drawE (by kernel_rfl) (by kernel_rfl) ?_
  have hlen : (s.recs.map eRecM).length < 1048576 := by rw [List.length_map]; omega
  have hnew : (eRecM (recAt w p)).cells = [.int .i64 (numAt w (p + 1) 2), .int .i64 (numAt w (p + 3) 2), .bool false, .lst 1 (((w.drop (p + 5)).take (recSize w p)).map eB)] := by rw [eRecM_cells, hzf]; rfl
  have hfl : flatL [AV.int .i64 (numAt w (p + 1) 2), .int .i64 (numAt w (p + 3) 2), .bool false, .lst 1 (((w.drop (p + 5)).take (recSize w p)).map eB)] = true := rfl
  have hpush := h.acc.push hlen _ (show [AV.int .i64 (numAt w (p + 1) 2), .int .i64 (numAt w (p + 3) 2), .bool false, .lst 1 (((w.drop (p + 5)).take (recSize w p)).map eB)].length = 4 from rfl) hfl
  have hpd := h.acc.pushed hlen (eRecM (recAt w p)) hnew rfl hfl
  obtain ⟨hpn, hpg⟩ := h.acc.push_get hlen (new := [.int .i64 (numAt w (p + 1) 2), .int .i64 (numAt w (p + 3) 2), .bool false, .lst 1 (((w.drop (p + 5)).take (recSize w p)).map eB)]) rfl hfl
  have p0 := hpg _ _ n0 rfl h.at_.lr
  have p1 := hpg _ _ n1 rfl h.at_.ld
  rw [List.length_map] at hpush hpd
  simp (disch := (refine ofP ?_; first | assumption | decide | omega | (simp only [new_next, set_next] <;> omega) | with_unfolding_all exact ofR rfl | with_unfolding_all exact ofNt rfl)) only [go_sem, kn n0, kn g0, hpush, kn p0, p0]
  have hs2 : (s.snoc (recAt w p)).recs.map eRecM = s.recs.map eRecM ++ [eRecM (recAt w p)] := by show (s.recs ++ [recAt w p]).map eRecM = _; rw [List.map_append]; rfl
  have ha2 := hpd.other (c := rb) (z := .cells [.ptr rd 0, dv, .int .i64 s.blocks, .int .i64 s.base, .int .i64 s.id, .slice (H8.next + 1) 0 (s.recs.length + 1) (.rest 0 4 (s.recs.length + 1))] 101 true true) p0 rfl h.h1
  rw [<- hs2] at ha2
  have hdl : (recAt w p).data.length ≤ 100000 := by have hrs : recSize w p ≤ 4096 := (by unfold recSize; split <;> omega); show (List.take _ _).length ≤ _; rw [List.length_take]; omega
  have hsm : smallI (recAt w p).fr /\ smallI (recAt w p).cnt := ⟨⟨by show _ ≤ ((numAt w (p + 1) 2 : Nat) : Int); omega, by show ((numAt w (p + 1) 2 : Nat) : Int) ≤ _; omega⟩, ⟨by show _ ≤ ((numAt w (p + 3) 2 : Nat) : Int); omega, by show ((numAt w (p + 3) 2 : Nat) : Int) ≤ _; omega⟩⟩
  have hz2 : zsOk (s.snoc (recAt w p)) := fun r hr hz => by
   rcases List.mem_append.1 (show r ∈ s.recs ++ [recAt w p] from hr) with hr | hr
   ·
    exact hzs r hr hz
   ·
    rw [List.mem_singleton] at hr
    subst hr
    rw [hzf] at hz; cases hz
  have hd2 : ∀ r ∈ (s.snoc (recAt w p)).recs, r.data.length ≤ 1000000 /\ smallI r.fr /\ smallI r.cnt := fun r hr => by
   rcases List.mem_append.1 (show r ∈ s.recs ++ [recAt w p] from hr) with hr | hr
   ·
    have := hd r hr; exact ⟨by omega, this.2⟩
   ·
    rw [List.mem_singleton] at hr
    subst hr
    exact ⟨by omega, hsm⟩
  refine good_mem (s := s.snoc (recAt w p)) ha2 hz2 (by show (s.recs ++ [recAt w p]).length ≤ _; rw [List.length_append, List.length_singleton]; omega) hd2 ?_
  have hfin : RecAt dv Hb (setBlk (puH EE H8 68 rv [.int .i64 (numAt w (p + 1) 2), .int .i64 (numAt w (p + 3) 2), .bool false, .lst 1 (((w.drop (p + 5)).take (recSize w p)).map eB)]) rb (.cells [.ptr rd 0, dv, .int .i64 s.blocks, .int .i64 s.base, .int .i64 s.id, .slice (H8.next + 1) 0 (s.recs.length + 1) (.rest 0 4 (s.recs.length + 1))] 101 true true)) rb rd w (p + 5 + recSize w p + 8) (s.snoc (recAt w p)) (.slice (H8.next + 1) 0 (s.recs.length + 1) (.rest 0 4 (s.recs.length + 1))) :=
   ⟨⟨get_set_s, (get_set_n h.at_.ne.symm).trans p1, h.at_.ne, Nat.lt_of_lt_of_le h.at_.lr (by show _ ≤ (puH _ _ _ _ _).next; rw [hpn]; omega), Nat.lt_of_lt_of_le h.at_.ld (by show _ ≤ (puH _ _ _ _ _).next; rw [hpn]; omega)⟩, ha2, h.h1, h.h2⟩
  cases hgs : goodS (s.snoc (recAt w p)) with
  | false =>
   have e : recErr w p s = 26 := by unfold recErr; rw [if_neg c1, if_neg q, if_neg d, if_neg d4, if_neg d5, if_pos hgs]
   rw [e] at he
   simp (disch := (refine ofP ?_; decide)) only [go_sem]
   exact .inl (he (by decide) _ ha2.fr)
  | true =>
   have e : recErr w p s = 0 := by unfold recErr; rw [if_neg c1, if_neg q, if_neg d, if_neg d4, if_neg d5, hgs]; rfl
   simp (disch := (refine ofP ?_; decide)) only [go_sem]
   exact .inl (hk e _ _ hfin)
 ·
  have q3 : ((numAt w p 1 : Nat) : Int) = 2 := by omega
  have q4 : ¬ ((numAt w p 1 : Nat) : Int) = 1 := by omega
  have hsz : recSize w p = 0 := if_neg (by omega)
  have hzf : (recAt w p).zs = true := decide_eq_true (by omega)
  simp (disch := (refine ofP ?_; first | assumption | decide | omega | (simp only [new_next, set_next] <;> omega) | with_unfolding_all exact ofR rfl | with_unfolding_all exact ofNt rfl)) only [go_sem, kn g0, g0, q2, q3, q4]
  have h := hx true
  have g0 := hg true
  clear hx hg
  generalize setBlk (setBlk H4 c (.cells [.int .i64 (numAt w (p + 1) 2), .int .i64 (numAt w (p + 3) 2), .bool false, .nils] 68 true true)) c (.cells [.int .i64 (numAt w (p + 1) 2), .int .i64 (numAt w (p + 3) 2), .bool true, .nils] 68 true true) = H5 at h g0 ⊢
  obtain ⟨n0, n1, _⟩ := id h.at_
  refine drawE (by kernel_rfl) (by kernel_rfl) ?_
  by_cases d : numAt w (p + 3) 2 < 1 ∨ s.blocks ≤ numAt w (p + 1) 2 ∨ s.blocks - numAt w (p + 1) 2 < numAt w (p + 3) 2
  ·
   have e : recErr w p s = 25 := by unfold recErr; rw [if_neg c1, if_neg q, if_pos d]
   rw [e] at he
   by_cases d1 : ((numAt w (p + 3) 2 : Nat) : Int) < 1
   ·
    simp (disch := (refine ofP ?_; first | assumption | decide | omega | (simp only [new_next, set_next] <;> omega) | with_unfolding_all exact ofR rfl | with_unfolding_all exact ofNt rfl)) only [go_sem, kn g0, g0, d1]
    exact .inl (he (by decide) _ h.acc.fr)
   by_cases d2 : s.blocks ≤ ((numAt w (p + 1) 2 : Nat) : Int)
   ·
    simp (disch := (refine ofP ?_; first | assumption | decide | omega | (simp only [new_next, set_next] <;> omega) | with_unfolding_all exact ofR rfl | with_unfolding_all exact ofNt rfl)) only [go_sem, kn g0, g0, kn n0, d1, d2]
    exact .inl (he (by decide) _ h.acc.fr)
   have d3 : s.blocks - ((numAt w (p + 1) 2 : Nat) : Int) < ((numAt w (p + 3) 2 : Nat) : Int) := by omega
   simp (disch := (refine ofP ?_; first | assumption | decide | omega | (simp only [new_next, set_next] <;> omega) | with_unfolding_all exact ofR rfl | with_unfolding_all exact ofNt rfl)) only [go_sem, kn g0, g0, kn n0, d1, d2, d3, wrap_i64]
   exact .inl (he (by decide) _ h.acc.fr)
  have d1 : ¬ ((numAt w (p + 3) 2 : Nat) : Int) < 1 := by omega
  have d2 : ¬ s.blocks ≤ ((numAt w (p + 1) 2 : Nat) : Int) := by omega
  have d3 : ¬ s.blocks - ((numAt w (p + 1) 2 : Nat) : Int) < ((numAt w (p + 3) 2 : Nat) : Int) := by omega
  simp (disch := (refine ofP ?_; first | assumption | decide | omega | (simp only [new_next, set_next] <;> omega) | with_unfolding_all exact ofR rfl | with_unfolding_all exact ofNt rfl)) only [go_sem, kn g0, g0, kn n0, d1, d2, d3, wrap_i64 (n := s.blocks - ((numAt w (p + 1) 2 : Nat) : Int)), q3, q4]
  refine left67 h.at_ (by omega) ?_
  have hrl : recSize w p ≤ 274877906944 := by rw [hsz]; omega
  have hw8 : wrapI .i64 ((0 : Int) + 8) = ((recSize w p + 8 : Nat) : Int) := by rw [wrap_i64 (by omega) (by omega)]; rw [hsz]; rfl
  by_cases d4 : w.length < p + 5 + recSize w p + 8
  ·
   have e : recErr w p s = 21 := by unfold recErr; rw [if_neg c1, if_neg q, if_neg d, if_pos d4]
   rw [e] at he
   have d4' : ((w.length - (p + 5) : Nat) : Int) < ((recSize w p + 8 : Nat) : Int) := by omega
   simp (disch := (refine ofP ?_; decide)) only [go_sem, hw8, d4']
   exact .inl (he (by decide) _ h.acc.fr)
  have d4' : ¬ ((w.length - (p + 5) : Nat) : Int) < ((recSize w p + 8 : Nat) : Int) := by omega
  simp (disch := (refine ofP ?_; decide)) only [go_sem, hw8, d4', kn n0]
  refine (show ∀ {K}, Call (.func 66 [] []) [.ptr rd 0, .int .i64 ((recSize w p : Nat) : Int)] H5 K -> Call (.func 66 [] []) [.ptr rd 0, .int .i64 0] H5 K from fun hh => by rw [hsz] at hh; exact hh) ?_
  refine take66 (n := recSize w p) h.at_ (by omega) (by omega) ?_
  have h := h.move (p + 5 + recSize w p)
  have g0 : (rdH H5 rd w (p + 5 + recSize w p)).m.get c = _ := (get_set_n hc2.symm).trans g0
  generalize rdH H5 rd w (p + 5 + recSize w p) = H6 at h g0
  clear n0 n1
  simp (disch := (refine ofP ?_; decide)) only [go_sem]
  refine checks69 (p := p + 5 + recSize w p) (from_ := p) h.at_ (hdv.keep h.acc.fr) (by omega) (by omega) (by omega) ?_
  have h := h.move (p + 5 + recSize w p + 8)
  have g0 : (rdH H6 rd w (p + 5 + recSize w p + 8)).m.get c = _ := (get_set_n hc2.symm).trans g0
  generalize rdH H6 rd w (p + 5 + recSize w p + 8) = H8 at h g0
  by_cases d5 : fnvCheck ((w.take (p + 5 + recSize w p)).drop p) ≠ numAt w (p + 5 + recSize w p) 8
  ·
   have e : recErr w p s = 22 := by unfold recErr; rw [if_neg c1, if_neg q, if_neg d, if_neg d4, if_pos d5]
   rw [e] at he
   rw [if_neg d5]
   simp (disch := (refine ofP ?_; decide)) only [go_sem]
   exact .inl (he (by decide) _ h.acc.fr)
  rw [if_pos (Decidable.not_not.1 d5)]
  obtain ⟨n0, n1, _⟩ := id h.at_
  simp (disch := (refine ofP ?_; decide)) only [go_sem]
  refine drawE (by kernel_rfl) (by kernel_rfl) ?_
  have hlen : (s.recs.map eRecM).length < 1048576 := by rw [List.length_map]; omega
  have hnew : (eRecM (recAt w p)).cells = [.int .i64 (numAt w (p + 1) 2), .int .i64 (numAt w (p + 3) 2), .bool true, .nils] := by rw [eRecM_cells, hzf]; rfl
  have hfl : flatL [AV.int .i64 (numAt w (p + 1) 2), .int .i64 (numAt w (p + 3) 2), .bool true, .nils] = true := rfl
  have hpush := h.acc.push hlen _ (show [AV.int .i64 (numAt w (p + 1) 2), .int .i64 (numAt w (p + 3) 2), .bool true, .nils].length = 4 from rfl) hfl
  have hpd := h.acc.pushed hlen (eRecM (recAt w p)) hnew rfl hfl
  obtain ⟨hpn, hpg⟩ := h.acc.push_get hlen (new := [.int .i64 (numAt w (p + 1) 2), .int .i64 (numAt w (p + 3) 2), .bool true, .nils]) rfl hfl
  have p0 := hpg _ _ n0 rfl h.at_.lr
  have p1 := hpg _ _ n1 rfl h.at_.ld
  rw [List.length_map] at hpush hpd
  simp (disch := (refine ofP ?_; first | assumption | decide | omega | (simp only [new_next, set_next] <;> omega) | with_unfolding_all exact ofR rfl | with_unfolding_all exact ofNt rfl)) only [go_sem, kn n0, kn g0, hpush, kn p0, p0]
  have hs2 : (s.snoc (recAt w p)).recs.map eRecM = s.recs.map eRecM ++ [eRecM (recAt w p)] := by show (s.recs ++ [recAt w p]).map eRecM = _; rw [List.map_append]; rfl
  have ha2 := hpd.other (c := rb) (z := .cells [.ptr rd 0, dv, .int .i64 s.blocks, .int .i64 s.base, .int .i64 s.id, .slice (H8.next + 1) 0 (s.recs.length + 1) (.rest 0 4 (s.recs.length + 1))] 101 true true) p0 rfl h.h1
  rw [<- hs2] at ha2
  have hdl : (recAt w p).data.length ≤ 100000 := by have hrs : recSize w p ≤ 4096 := (by unfold recSize; split <;> omega); show (List.take _ _).length ≤ _; rw [List.length_take]; omega
  have hsm : smallI (recAt w p).fr /\ smallI (recAt w p).cnt := ⟨⟨by show _ ≤ ((numAt w (p + 1) 2 : Nat) : Int); omega, by show ((numAt w (p + 1) 2 : Nat) : Int) ≤ _; omega⟩, ⟨by show _ ≤ ((numAt w (p + 3) 2 : Nat) : Int); omega, by show ((numAt w (p + 3) 2 : Nat) : Int) ≤ _; omega⟩⟩
  have hz2 : zsOk (s.snoc (recAt w p)) := fun r hr hz => by
   rcases List.mem_append.1 (show r ∈ s.recs ++ [recAt w p] from hr) with hr | hr
   ·
    exact hzs r hr hz
   ·
    rw [List.mem_singleton] at hr
    subst hr
    show List.take (recSize w p) _ = []
    rw [hsz]; rfl
  have hd2 : ∀ r ∈ (s.snoc (recAt w p)).recs, r.data.length ≤ 1000000 /\ smallI r.fr /\ smallI r.cnt := fun r hr => by
   rcases List.mem_append.1 (show r ∈ s.recs ++ [recAt w p] from hr) with hr | hr
   ·
    have := hd r hr; exact ⟨by omega, this.2⟩
   ·
    rw [List.mem_singleton] at hr
    subst hr
    exact ⟨by omega, hsm⟩
  refine good_mem (s := s.snoc (recAt w p)) ha2 hz2 (by show (s.recs ++ [recAt w p]).length ≤ _; rw [List.length_append, List.length_singleton]; omega) hd2 ?_
  have hfin : RecAt dv Hb (setBlk (puH EE H8 68 rv [.int .i64 (numAt w (p + 1) 2), .int .i64 (numAt w (p + 3) 2), .bool true, .nils]) rb (.cells [.ptr rd 0, dv, .int .i64 s.blocks, .int .i64 s.base, .int .i64 s.id, .slice (H8.next + 1) 0 (s.recs.length + 1) (.rest 0 4 (s.recs.length + 1))] 101 true true)) rb rd w (p + 5 + recSize w p + 8) (s.snoc (recAt w p)) (.slice (H8.next + 1) 0 (s.recs.length + 1) (.rest 0 4 (s.recs.length + 1))) :=
   ⟨⟨get_set_s, (get_set_n h.at_.ne.symm).trans p1, h.at_.ne, Nat.lt_of_lt_of_le h.at_.lr (by show _ ≤ (puH _ _ _ _ _).next; rw [hpn]; omega), Nat.lt_of_lt_of_le h.at_.ld (by show _ ≤ (puH _ _ _ _ _).next; rw [hpn]; omega)⟩, ha2, h.h1, h.h2⟩
  cases hgs : goodS (s.snoc (recAt w p)) with
  | false =>
   have e : recErr w p s = 26 := by unfold recErr; rw [if_neg c1, if_neg q, if_neg d, if_neg d4, if_neg d5, if_pos hgs]
   rw [e] at he
   simp (disch := (refine ofP ?_; decide)) only [go_sem]
   exact .inl (he (by decide) _ ha2.fr)
  | true =>
   have e : recErr w p s = 0 := by unfold recErr; rw [if_neg c1, if_neg q, if_neg d, if_neg d4, if_neg d5, hgs]; rfl
   simp (disch := (refine ofP ?_; decide)) only [go_sem]
   exact .inl (hk e _ _ hfin)
end
end Go.Ev
namespace Go.Ev
open Go.Proofs
noncomputable section
set_option maxRecDepth 100000
theorem fn45 : E1.fn 45 = some Try.f45 := by kernel_rfl
theorem fn21 : E1.fn 21 = some Try.f21 := by kernel_rfl
def endErr (w : List UInt8) (p : Nat) : Int :=
 if w.length < p + 9 then 21 else if numAt w p 1 ≠ 69 then 11 else if fnvCheck (w.take p) ≠ numAt w (p + 1) 8 then 22 else if p + 9 < w.length then 2 else 0
theorem ends45 {dv : AV} {H Hb : Hp} {rb rd p : Nat} {w : List UInt8} {s : Strm} {rv : AV} {K : AV -> Hp -> Prop} (h : RecAt dv Hb H rb rd w p s rv) (hdv : Dv Hb dv w) (hw : w.length ≤ 140737488351232) (hp : p ≤ w.length)
 (hk : ∀ H' p', RecAt dv Hb H' rb rd w p' s rv -> K (.int .i64 (endErr w p)) H') : Call (.func 45 [] []) [.ptr rb 0] H K := by
 refine enterE (N := 40) rfl fn45 rfl rfl rfl rfl rfl fun hwf => ?_
 obtain ⟨n0, n1, _⟩ := id h.at_
 have hlr := h.at_.lr
 simp (disch := (refine ofP ?_; decide)) only [go_sem, kn n0]
 refine left67 h.at_ (by omega) ?_
 by_cases c1 : w.length < p + 9
 ·
  have e : endErr w p = 21 := if_pos c1
  rw [e] at hk
  have c1' : ((w.length - p : Nat) : Int) < 9 := by omega
  simp (disch := (refine ofP ?_; decide)) only [go_sem, c1']
  exact .inl (hk _ _ h)
 have c1' : ¬ ((w.length - p : Nat) : Int) < 9 := by omega
 simp (disch := (refine ofP ?_; decide)) only [go_sem, c1']
 refine drawX [0,0,0,4,0,2,0,0,0] (by kernel_rfl) (by kernel_rfl) rfl (by kernel_rfl) ?_
 simp (disch := (refine ofP ?_; first | assumption | decide | omega | (simp only [new_next, set_next] <;> omega) | with_unfolding_all exact ofR rfl | with_unfolding_all exact ofNt rfl)) only [go_sem, kn n0, n0]
 refine at70 h.at_ (hdv.keep h.acc.fr) (by omega) hp ?_
 obtain ⟨sv, hs, hcall⟩ := (hdv.keep h.acc.fr).cutTo hp (by omega)
 simp (disch := (refine ofP ?_; decide)) only [go_sem, hs]
 refine hcall _ ?_
 simp (disch := (refine ofP ?_; decide)) only [go_sem]
 have k1 := numAt_lt (w := w) (p := p) (n := 1) (by decide)
 refine num68 (n := 1) h.at_ (by omega) (by decide) (by omega) ?_
 have h := h.move (p + 1)
 generalize rdH H rd w (p + 1) = H1 at h
 clear n0 n1
 obtain ⟨n0, n1, _⟩ := id h.at_
 by_cases c2 : numAt w p 1 ≠ 69
 ·
  have e : endErr w p = 11 := by unfold endErr; rw [if_neg c1, if_pos c2]
  rw [e] at hk
  have c2' : ((numAt w p 1 : Nat) : Int) ≠ 69 := by omega
  simp (disch := (refine ofP ?_; decide)) only [go_sem, c2']
  exact .inl (hk _ _ h)
 have c2' : ¬ ((numAt w p 1 : Nat) : Int) ≠ 69 := by omega
 simp (disch := (refine ofP ?_; decide)) only [go_sem, c2', kn n0]
 refine num_ok (by rw [List.length_drop]; omega) n1 (fun hx => by rw [List.length_drop] at hx; omega) fun _ _ => ?_
 have e : List.take 8 (List.take (Int.toNat 8) (List.drop (p + 1) w)) = (w.drop (p + 1)).take 8 := by rw [show Int.toNat 8 = 8 from rfl, List.take_take]; congr 1
 have e2 : List.drop (Int.toNat 8) (List.drop (p + 1) w) = w.drop (p + 1 + 8) := by rw [show Int.toNat 8 = 8 from rfl, List.drop_drop]
 rw [e, e2]
 have h := h.move (p + 1 + 8)
 rw [show setBlk H1 rd (.cells [.lst 1 ((w.drop (p + 1 + 8)).map eB)] 120 true true) = rdH H1 rd w (p + 1 + 8) from rfl]
 generalize rdH H1 rd w (p + 1 + 8) = H2 at h
 clear n0 n1
 obtain ⟨n0, n1, _⟩ := id h.at_
 by_cases c3 : fnvCheck (w.take p) ≠ numAt w (p + 1) 8
 ·
  have e : endErr w p = 22 := by unfold endErr; rw [if_neg c1, if_neg c2, if_pos c3]
  rw [e] at hk
  have c3' : (((leNum ((w.drop (p + 1)).take 8)) : Nat) : Int) ≠ (fnvCheck (w.take p) : Nat) := fun h => c3 (by have h := Int.ofNat.inj h; exact h.symm)
  simp (disch := (refine ofP ?_; decide)) only [go_sem, c3']
  exact .inl (hk _ _ h)
 have c3' : ¬ (((leNum ((w.drop (p + 1)).take 8)) : Nat) : Int) ≠ (fnvCheck (w.take p) : Nat) := fun h => h (by rw [Decidable.not_not.1 c3]; rfl)
 simp (disch := (refine ofP ?_; decide)) only [go_sem, c3', kn n0]
 refine left67 h.at_ (by omega) ?_
 by_cases c4 : p + 9 < w.length
 ·
  have e : endErr w p = 2 := by unfold endErr; rw [if_neg c1, if_neg c2, if_neg c3, if_pos c4]
  rw [e] at hk
  have c4' : (0 : Int) < ((w.length - (p + 1 + 8) : Nat) : Int) := by omega
  simp (disch := (refine ofP ?_; decide)) only [go_sem, c4']
  exact .inl (hk _ _ h)
 have e : endErr w p = 0 := by unfold endErr; rw [if_neg c1, if_neg c2, if_neg c3, if_neg c4]
 rw [e] at hk
 have c4' : ¬ (0 : Int) < ((w.length - (p + 1 + 8) : Nat) : Int) := by omega
 simp (disch := (refine ofP ?_; decide)) only [go_sem, c4']
 exact .inl (hk _ _ h)
def recsRun (w : List UInt8) : Nat -> Nat -> Strm -> Int × Nat × Strm
 | 0, p, s => (0, p, s)
 | k + 1, p, s => if recErr w p s = 0 then recsRun w k (p + 5 + recSize w p + 8) (s.snoc (recAt w p)) else (recErr w p s, p, s)
def zeroS : Strm := ⟨0, 0, 0, []⟩
def headStrm (w : List UInt8) : Strm := ⟨hBl w, hBa w, hId w, []⟩
def parseS (w : List UInt8) : Int × Strm :=
 if headErr w ≠ 0 then (headErr w, zeroS) else
 let r := recsRun w (numAt w 14 2) 24 (headStrm w)
 if r.1 ≠ 0 then (r.1, zeroS) else if endErr w r.2.1 ≠ 0 then (endErr w r.2.1, zeroS) else (0, r.2.2)
structure RecsI (w : List UInt8) (p : Nat) (s : Strm) (i : Nat) : Prop where
 p : p ≤ w.length
 b : 0 ≤ s.blocks /\ s.blocks ≤ 64
 n : s.recs.length = i
 d : ∀ r ∈ s.recs, r.data.length ≤ 100000 /\ smallI r.fr /\ smallI r.cnt
 z : zsOk s
theorem RecsI.next {w : List UInt8} {p i : Nat} {s : Strm} (h : RecsI w p s i) (hw : w.length ≤ 140737488351232) (he : recErr w p s = 0) : RecsI w (p + 5 + recSize w p + 8) (s.snoc (recAt w p)) (i + 1) := by
 unfold recErr at he
 split at he
 ·
  cases he
 split at he
 ·
  cases he
 rename_i hq
 split at he
 ·
  cases he
 split at he
 ·
  cases he
 have k2 := numAt_lt (w := w) (p := p + 1) (n := 2) (by decide)
 have k3 := numAt_lt (w := w) (p := p + 3) (n := 2) (by decide)
 refine ⟨by omega, h.b, by show (s.recs ++ [recAt w p]).length = _; rw [List.length_append, h.n]; rfl, fun r hr => ?_, fun r hr hz => ?_⟩
 ·
  rcases List.mem_append.1 (show r ∈ s.recs ++ [recAt w p] from hr) with hr | hr
  ·
   exact h.d r hr
  ·
   rw [List.mem_singleton] at hr
   subst hr
   exact ⟨by have hbb := h.b; have hrs : recSize w p ≤ 4096 := (by unfold recSize; split <;> omega); show (List.take _ _).length ≤ _; rw [List.length_take]; omega, ⟨by show _ ≤ ((numAt w (p + 1) 2 : Nat) : Int); omega, by show ((numAt w (p + 1) 2 : Nat) : Int) ≤ _; omega⟩, ⟨by show _ ≤ ((numAt w (p + 3) 2 : Nat) : Int); omega, by show ((numAt w (p + 3) 2 : Nat) : Int) ≤ _; omega⟩⟩
 ·
  rcases List.mem_append.1 (show r ∈ s.recs ++ [recAt w p] from hr) with hr | hr
  ·
   exact h.z r hr hz
  ·
   rw [List.mem_singleton] at hr
   subst hr
   have hz : numAt w p 1 = 2 := of_decide_eq_true hz
   show List.take (recSize w p) _ = []
   rw [show recSize w p = 0 from if_neg (by omega)]; rfl
end
end Go.Ev
namespace Go.Ev
open Go.Proofs
noncomputable section
set_option maxRecDepth 100000
theorem RecAt.stay {dv : AV} {Hb H : Hp} {rb rd p : Nat} {w : List UInt8} {s : Strm} {rv : AV} (h : RecAt dv Hb H rb rd w p s rv) : Fr Hb H := h.acc.fr
theorem eStrm_fz {H0 H : Hp} {rv : AV} {s : Strm} (ha : Acc EE H0 H 68 4 rv (s.recs.map eRecM)) (hwf : WF H0) (hz : zsOk s) : FZ H0 H (eStrm s) (.agg [.int .i64 s.blocks, .int .i64 s.base, .int .i64 s.id, rv]) :=
 FZ.agg (.cons .int (.cons .int (.cons .int (.cons (ha.own.fz ha.hpos hwf rfl rfl ha.el (FZL.map fun r hr => eRecM_fz r (hz r hr))) .nil))))
theorem zeroS_fz {H0 H : Hp} : FZ H0 H (eStrm zeroS) (.agg [.int .i64 0, .int .i64 0, .int .i64 0, .nils]) := FZ.agg (.cons .int (.cons .int (.cons .int (.cons .nils0 .nil))))
set_option maxHeartbeats 4000000 in
theorem parse21V {dv : AV} {H : Hp} {w : List UInt8} {K : AV -> Hp -> Prop} (hdv : Dv H dv w) (hw : w.length ≤ 140737488351232) (hk : K (.tuple [eStrm (parseS w).2, .int .i64 (parseS w).1]) H) : Call (.func 21 [] []) [dv] H K := by
 refine enterE (N := 37) rfl fn21 rfl rfl rfl rfl rfl fun hwf => ?_
 have X0 : ∀ {x : Blk}, Fr H (newBlk H x).2 := Fr.alloc _ _
 simp (disch := (refine ofP ?_; decide)) only [go_sem]
 refine newReader_dv (hdv.keep X0) (by omega) ?_
 simp (disch := (refine ofP ?_; first | assumption | decide | omega | (simp only [new_next, set_next] <;> omega) | with_unfolding_all exact ofR rfl | with_unfolding_all exact ofNt rfl)) only [go_sem, hdv.one, oneC_cells hdv.one, fpStep_1 (oneC_cells hdv.one)]
 have hdv0 : Dv (newBlk H (.cells [.int .i64 0, .int .i64 0, .int .i64 0, .nils] 64 true true)).2 dv w := hdv.keep X0
 have hrd : RdAt dv (newBlk (newBlk (newBlk H (.cells [.int .i64 0, .int .i64 0, .int .i64 0, .nils] 64 true true)).2 (.cells [.lst 1 (w.map eB)] 120 true true)).2 (.cells [.ptr (H.next + 1) 0, dv, .int .i64 0, .int .i64 0, .int .i64 0, .nils] 101 true true)).2 (H.next + 1 + 1) (H.next + 1) w 0 0 0 0 .nils :=
  ⟨by simp (disch := (refine ofP ?_; first | assumption | decide | omega | (simp only [new_next, set_next] <;> omega) | with_unfolding_all exact ofR rfl | with_unfolding_all exact ofNt rfl)) only [go_sem], by simp (disch := (refine ofP ?_; first | assumption | decide | omega | (simp only [new_next, set_next] <;> omega) | with_unfolding_all exact ofR rfl | with_unfolding_all exact ofNt rfl)) only [go_sem, List.drop_zero], by omega, by simp only [new_next]; omega, by simp only [new_next]; omega⟩
 have hf : Fr (newBlk H (.cells [.int .i64 0, .int .i64 0, .int .i64 0, .nils] 64 true true)).2 (newBlk (newBlk (newBlk H (.cells [.int .i64 0, .int .i64 0, .int .i64 0, .nils] 64 true true)).2 (.cells [.lst 1 (w.map eB)] 120 true true)).2 (.cells [.ptr (H.next + 1) 0, dv, .int .i64 0, .int .i64 0, .int .i64 0, .nils] 101 true true)).2 := (Fr.alloc _ _).trans (Fr.alloc _ _)
 generalize (newBlk (newBlk (newBlk H (.cells [.int .i64 0, .int .i64 0, .int .i64 0, .nils] 64 true true)).2 (.cells [.lst 1 (w.map eB)] 120 true true)).2 (.cells [.ptr (H.next + 1) 0, dv, .int .i64 0, .int .i64 0, .int .i64 0, .nils] 101 true true)).2 = H1 at hrd hf ⊢
 have m0 : (newBlk H (.cells [.int .i64 0, .int .i64 0, .int .i64 0, .nils] 64 true true)).2.m.get H.next = some (.cells [.int .i64 0, .int .i64 0, .int .i64 0, .nils] 64 true true) := get_new_s
 have hbn : (newBlk H (.cells [.int .i64 0, .int .i64 0, .int .i64 0, .nils] 64 true true)).2.next = H.next + 1 := rfl
 have f0 : Fr H (newBlk H (.cells [.int .i64 0, .int .i64 0, .int .i64 0, .nils] 64 true true)).2 := Fr.alloc _ _
 generalize (newBlk H (.cells [.int .i64 0, .int .i64 0, .int .i64 0, .nils] 64 true true)).2 = Hb at hf m0 hbn f0 hdv0
 have m0' : ∀ {H'}, Fr Hb H' -> H'.m.get H.next = some (.cells [.int .i64 0, .int .i64 0, .int .i64 0, .nils] 64 true true) := fun hf => (hf.get _ (by omega)).trans m0
 have bad : ∀ {H' : Hp} {e : Int} {z : Blk}, Fr Hb H' -> parseS w = (e, zeroS) -> XO H K (.tuple [.agg [.int .i64 0, .int .i64 0, .int .i64 0, .nils], .int .i64 e]) (setBlk H' H.next z) := fun {H' e z} hf' he => by
  rw [he] at hk
  exact .inr (.inl ⟨(f0.trans hf').set (Nat.le_refl _) _, _, FZ.tuple (.cons zeroS_fz (.cons .int .nil)), hk⟩)
 refine head43 (Hb := Hb) hrd hdv0 hw hf (by omega) (by omega) (fun he H2 hf2 => ?_) (fun he H2 hf2 hr2 => ?_)
 ·
  have hp : parseS w = (headErr w, zeroS) := if_pos he
  have g0 := m0' hf2
  simp (disch := (refine ofP ?_; decide)) only [go_sem]
  refine loopE 33292352 (by kernel_rfl) (fun r G H' => H' = H2 /\ G.get 18 = some (.int .i64 0) /\ G.get 6 = some (.int .i64 (headErr w))) 0 ⟨rfl, rfl, rfl⟩ ?_
  rintro r G H' hG ⟨rfl, g18, g6⟩
  simp (disch := (refine ofP ?_; first | assumption | decide | omega | (simp only [new_next, set_next] <;> omega) | with_unfolding_all exact ofR rfl | with_unfolding_all exact ofNt rfl)) only [go_sem, g18, g6, hG, kn g0, g0, he, show decide ((0 : Int) < 0) = false from rfl]
  exact bad hf2 hp
 ·
  have k4 := numAt_lt (w := w) (p := 14) (n := 2) (by decide)
  have k5 : numAt w 14 2 < 65536 := Nat.lt_of_lt_of_le (leNum_lt _) (by
   have : ((w.drop 14).take 2).length ≤ 2 := by rw [List.length_take]; omega
   exact Nat.pow_le_pow_right (by decide) this)
  have hh : 1 ≤ hBl w /\ hBl w ≤ 64 /\ 24 ≤ w.length := by
   unfold headErr at he
   repeat' split at he
   all_goals (first | (cases he; done) | (refine ⟨by omega, by omega, by omega⟩))
  simp (disch := (refine ofP ?_; decide)) only [go_sem]
  have hA : RecAt dv Hb H2 (H.next + 1 + 1) (H.next + 1) w 24 (headStrm w) .nils := ⟨hr2, Acc.nil' hf2 ty68s (by decide) ty68g, by omega, by omega⟩
  have hI : RecsI w 24 (headStrm w) 0 := ⟨by omega, ⟨by show 0 ≤ hBl w; omega, by show hBl w ≤ 64; omega⟩, rfl, fun r hr => (by cases hr), fun r hr => (by cases hr)⟩
  refine loopE 33292352 (by kernel_rfl) (fun r G H' => ∃ i : Nat, i ≤ numAt w 14 2 /\ r = numAt w 14 2 - i /\ G.get 18 = some (.int .i64 (i : Int)) /\ ((∃ p s rv, G.get 6 = some (.int .i64 0) /\ RecAt dv Hb H' (H.next + 1 + 1) (H.next + 1) w p s rv /\ RecsI w p s i /\ recsRun w (numAt w 14 2) 24 (headStrm w) = recsRun w (numAt w 14 2 - i) p s) ∨
   (∃ e p s, e ≠ 0 /\ G.get 6 = some (.int .i64 e) /\ Fr Hb H' /\ recsRun w (numAt w 14 2) 24 (headStrm w) = (e, p, s)))) (numAt w 14 2) ⟨0, Nat.zero_le _, (Nat.sub_zero _).symm, rfl, .inl ⟨24, headStrm w, .nils, rfl, hA, hI, by rw [Nat.sub_zero]⟩⟩ ?_
  rintro r G H' hG ⟨i, hi, rfl, g18, hst⟩
  have hbad : ∀ e p s, e ≠ 0 -> recsRun w (numAt w 14 2) 24 (headStrm w) = (e, p, s) -> parseS w = (e, zeroS) := fun e p s h0 hr => by
   unfold parseS
   rw [if_neg (by rw [he]; decide)]
   simp only [hr]
   rw [if_pos h0]
  rcases hst with ⟨p, s, rv, g6, hA, hI, hrun⟩ | ⟨e, p, s, h0, g6, hf', hrun⟩
  ·
   by_cases hlt : i < numAt w 14 2
   ·
    simp (disch := (refine ofP ?_; first | decide | omega)) only [go_sem, g18, g6, hG, show hN w = ((numAt w 14 2 : Nat) : Int) from rfl]
    have hst1 : recsRun w (numAt w 14 2 - i) p s = if recErr w p s = 0 then recsRun w (numAt w 14 2 - (i + 1)) (p + 5 + recSize w p + 8) (s.snoc (recAt w p)) else (recErr w p s, p, s) := by
     rw [show numAt w 14 2 - i = (numAt w 14 2 - (i + 1)) + 1 by omega]; rfl
    refine record44 hA hdv0 hw hI.p hI.b (by rw [hI.n]; omega) hI.d hI.z (fun hne H3 hf3 => ?_) (fun h0 H3 rv' hA' => ?_)
    ·
     rw [if_neg hne] at hst1
     simp (disch := (refine ofP ?_; first | assumption | decide | omega | (simp only [new_next, set_next] <;> omega) | with_unfolding_all exact ofR rfl | with_unfolding_all exact ofNt rfl)) only [go_sem, g18, hG, wrap_i64]
     exact ⟨_, by omega, i + 1, hlt, rfl, rfl, .inr ⟨_, p, s, hne, rfl, hf3, hrun.trans hst1⟩⟩
    ·
     rw [if_pos h0] at hst1
     simp (disch := (refine ofP ?_; first | assumption | decide | omega | (simp only [new_next, set_next] <;> omega) | with_unfolding_all exact ofR rfl | with_unfolding_all exact ofNt rfl)) only [go_sem, g18, hG, wrap_i64]
     exact ⟨_, by omega, i + 1, hlt, rfl, rfl, .inl ⟨_, _, rv', hA', hI.next hw h0, hrun.trans hst1⟩⟩
   ·
    obtain rfl : i = numAt w 14 2 := by omega
    have hst1 : recsRun w (numAt w 14 2) 24 (headStrm w) = (0, p, s) := by rw [hrun, Nat.sub_self]; rfl
    have hps : parseS w = if endErr w p ≠ 0 then (endErr w p, zeroS) else (0, s) := by
     unfold parseS
     rw [if_neg (by rw [he]; decide)]
     simp only [hst1]
     rw [if_neg (by decide)]
    simp (disch := (refine ofP ?_; first | decide | omega)) only [go_sem, g18, g6, hG, show hN w = ((numAt w 14 2 : Nat) : Int) from rfl]
    refine ends45 hA hdv0 hw hI.p fun H3 p' hA3 => ?_
    have g0 := m0' hA3.stay
    by_cases c : endErr w p ≠ 0
    ·
     rw [if_pos c] at hps
     simp (disch := (refine ofP ?_; first | assumption | decide | omega | (simp only [new_next, set_next] <;> omega) | with_unfolding_all exact ofR rfl | with_unfolding_all exact ofNt rfl)) only [go_sem, kn g0, g0, c, hG]
     exact bad hA3.stay hps
    ·
     rw [if_neg c] at hps
     have c' : endErr w p = 0 := Decidable.not_not.1 c
     obtain ⟨n0, n1, _⟩ := id hA3.at_
     rw [c']
     simp (disch := (refine ofP ?_; first | assumption | decide | omega | (simp only [new_next, set_next] <;> omega) | with_unfolding_all exact ofR rfl | with_unfolding_all exact ofNt rfl)) only [go_sem, kn g0, g0, kn n0, n0, hG, hA3.acc.own.one]
     have ha := (hA3.acc.base f0).other (z := .cells [.int .i64 s.blocks, .int .i64 s.base, .int .i64 s.id, rv] 64 true true) g0 rfl (Nat.le_refl _)
     rw [hps] at hk
     exact .inr (.inl ⟨ha.fr, _, FZ.tuple (.cons (eStrm_fz ha hwf hI.z) (.cons .int .nil)), hk⟩)
  ·
   have g0 := m0' hf'
   have hps := hbad e p s h0 hrun
   by_cases hlt : i < numAt w 14 2
   ·
    simp (disch := (refine ofP ?_; first | assumption | decide | omega | (simp only [new_next, set_next] <;> omega) | with_unfolding_all exact ofR rfl | with_unfolding_all exact ofNt rfl)) only [go_sem, g18, g6, hG, show hN w = ((numAt w 14 2 : Nat) : Int) from rfl, kn g0, g0, h0]
    exact bad hf' hps
   ·
    simp (disch := (refine ofP ?_; first | assumption | decide | omega | (simp only [new_next, set_next] <;> omega) | with_unfolding_all exact ofR rfl | with_unfolding_all exact ofNt rfl)) only [go_sem, g18, g6, hG, show hN w = ((numAt w 14 2 : Nat) : Int) from rfl, kn g0, g0, h0]
    exact bad hf' hps
theorem parse21 {H : Hp} {w : List UInt8} {K : AV -> Hp -> Prop} (hw : w.length ≤ 140737488351232) (hk : K (.tuple [eStrm (parseS w).2, .int .i64 (parseS w).1]) H) : Call (.func 21 [] []) [.lst 1 (w.map eB)] H K := parse21V (.inl rfl) hw hk
end
end Go.Ev
