/-
  The runs of a list of numbers, in plain words: they lie apart, and spelt out they give the numbers again. Conditions: bounds, as each theorem says.
-/
import Derived.Test.YtbciigjndoaoeaaRuns
set_option linter.unusedVariables false
set_option linter.unusedSimpArgs false
namespace Go.Ev
open Go.Proofs
noncomputable section
set_option maxRecDepth 100000

/-! The runs of numbers, the last one first. -/
def stepR (acc : List (Int × Int)) (n : Int) : List (Int × Int) := match acc with
  | [] => [(n, 1)]
  | p :: r => if n = p.1 + p.2 then (p.1, p.2 + 1) :: r else (n, 1) :: p :: r
def ex (p : Int × Int) : List Int := (List.range p.2.toNat).map fun k => p.1 + (k : Nat)
def expd (l : List (Int × Int)) : List Int := l.flatMap ex
/-- Each one ends where the next one doesn't begin. -/
def apartR : List (Int × Int) → Prop
  | [] => True
  | [p] => 1 ≤ p.2
  | q :: p :: r => 1 ≤ q.2 ∧ q.1 ≠ p.1 + p.2 ∧ apartR (p :: r)

theorem ofN_rev {l : List Int} (hb : ∀ a ∈ l, a < 4611686018427387904) : ∀ i, i ≤ l.length → ofN l i = ((l.take i).foldl stepR []).reverse ∧ (0 < i → ∃ p r, (l.take i).foldl stepR [] = p :: r ∧ p.1 + p.2 = l.getD (i - 1) 0 + 1)
  | 0, _ => ⟨by simp [ofN], fun h => by omega⟩
  | i + 1, hi => by
    have hlt : i < l.length := by omega
    obtain ⟨h1, h2⟩ := ofN_rev hb i (by omega)
    have hg : l.getD i 0 = l[i] := getD_lt hlt
    have hstep : (l.take (i + 1)).foldl stepR [] = stepR ((l.take i).foldl stepR []) l[i] := by rw [List.take_succ_eq_append_getElem hlt, List.foldl_append]; rfl
    rw [hstep, show i + 1 - 1 = i from rfl, hg]
    by_cases h0 : 0 < i
    · obtain ⟨p, r, hp, he⟩ := h2 h0
      rw [hp] at h1 ⊢
      have hpl : i - 1 < l.length := by omega
      have hbp := hb _ (List.getElem_mem hpl)
      by_cases hgo : goesOn l i
      · have hn : l[i] = p.1 + p.2 := by rw [he, ← hg]; exact hgo.2.2
        rw [ofN_t hgo, h1]
        have hs : stepR (p :: r) l[i] = (p.1, p.2 + 1) :: r := if_pos hn
        rw [hs]
        refine ⟨?_, fun _ => ⟨_, _, rfl, by simp only; omega⟩⟩
        have hl : (p :: r).reverse = r.reverse ++ [p] := by simp
        rw [hl, List.reverse_cons]
        unfold bump
        have : (r.reverse ++ [p]).length - 1 = r.reverse.length := by simp
        rw [this, List.set_append_right _ _ (Nat.le_refl _), Nat.sub_self]
        simp [List.getD]
      · have hn : ¬ l[i] = p.1 + p.2 := fun h => hgo ⟨h0, by rw [getD_lt hpl]; exact hbp, by rw [hg, h, he]⟩
        rw [ofN_f hgo, h1, hg]
        have hs : stepR (p :: r) l[i] = (l[i], 1) :: p :: r := if_neg hn
        rw [hs]
        exact ⟨by simp, fun _ => ⟨_, _, rfl, rfl⟩⟩
    · obtain rfl : i = 0 := by omega
      have hgo : ¬ goesOn l 0 := fun h => absurd h.1 (by omega)
      rw [ofN_f hgo, hg]
      exact ⟨by simp [ofN, stepR], fun _ => ⟨_, _, rfl, rfl⟩⟩

theorem ex_succ {f c : Int} (hc : 0 ≤ c) : ex (f, c + 1) = ex (f, c) ++ [f + c] := by
  unfold ex
  have : (c + 1).toNat = c.toNat + 1 := by omega
  simp only [this, List.range_succ, List.map_append, List.map_cons, List.map_nil]
  congr 3; omega
theorem apartR_pos : ∀ {l : List (Int × Int)}, apartR l → ∀ p ∈ l, 1 ≤ p.2
  | [], _, p, h => by simp at h
  | [q], h, p, hp => by simp at hp; subst hp; exact h
  | q :: q' :: r, h, p, hp => by
    rcases List.mem_cons.1 hp with rfl | hp
    · exact h.1
    · exact apartR_pos h.2.2 p hp
theorem apartR_tail {p : Int × Int} {r : List (Int × Int)} (h : apartR (p :: r)) : apartR r := by
  cases r with
  | nil => trivial
  | cons q r => exact h.2.2
theorem stepR_apart {acc : List (Int × Int)} {n : Int} (h : apartR acc) : apartR (stepR acc n) := by
  unfold stepR
  split
  · exact Int.le_refl 1
  · rename_i p r
    split
    · have hp : 1 ≤ p.2 := apartR_pos h p (by simp)
      cases r with
      | nil => show 1 ≤ p.2 + 1; omega
      | cons q r => exact ⟨by show 1 ≤ p.2 + 1; omega, h.2.1, h.2.2⟩
    · rename_i hn
      exact ⟨Int.le_refl 1, hn, h⟩
theorem stepR_expd {acc : List (Int × Int)} {n : Int} (h : apartR acc) : expd (stepR acc n).reverse = expd acc.reverse ++ [n] := by
  unfold stepR
  split
  · simp [expd, ex]
  · rename_i p r
    split
    · rename_i hn
      have hp : 1 ≤ p.2 := apartR_pos h p (by simp)
      simp only [List.reverse_cons, expd, List.flatMap_append, List.flatMap_cons, List.flatMap_nil, List.append_nil]
      rw [ex_succ (by omega), List.append_assoc, hn]
    · simp [expd, ex]
theorem fold_apart : ∀ (l : List Int) (acc : List (Int × Int)), apartR acc → apartR (l.foldl stepR acc) ∧ expd (l.foldl stepR acc).reverse = expd acc.reverse ++ l
  | [], acc, h => ⟨h, by simp⟩
  | n :: l, acc, h => by
    obtain ⟨h1, h2⟩ := fold_apart l (stepR acc n) (stepR_apart h)
    refine ⟨h1, ?_⟩
    rw [List.foldl_cons, h2, stepR_expd h, List.append_assoc]; rfl

/-- **What the runs of numbers are.** -/
theorem ofN_what {l : List Int} (hb : ∀ a ∈ l, a < 4611686018427387904) : apartR (ofN l l.length).reverse ∧ expd (ofN l l.length) = l := by
  obtain ⟨h1, _⟩ := ofN_rev hb l.length (Nat.le_refl _)
  rw [List.take_length] at h1
  obtain ⟨h2, h3⟩ := fold_apart l [] trivial
  rw [h1, List.reverse_reverse]
  exact ⟨h2, by simpa [expd] using h3⟩

theorem fold_ex {f : Int} : ∀ (c : Nat) (acc : List (Int × Int)), (∀ p r, acc = p :: r → f ≠ p.1 + p.2) → (ex (f, (c : Int) + 1)).foldl stepR acc = (f, (c : Int) + 1) :: acc
  | 0, acc, h => by
    have : ex (f, ((0 : Nat) : Int) + 1) = [f] := by simp [ex]
    rw [this]
    cases acc with
    | nil => rfl
    | cons p r => exact if_neg (h p r rfl)
  | c + 1, acc, h => by
    have := ex_succ (f := f) (c := (c : Int) + 1) (by omega)
    rw [show (((c + 1 : Nat) : Int) + 1) = ((c : Int) + 1) + 1 by omega, this, List.foldl_append, fold_ex c acc h]
    exact if_pos rfl
/-- Runs that lie apart are the runs of their numbers. -/
theorem fold_expd : ∀ (m acc : List (Int × Int)), apartR (m.reverse ++ acc) → (expd m).foldl stepR acc = m.reverse ++ acc
  | [], acc, _ => by simp [expd]
  | p :: m, acc, h => by
    have hm : (p :: m).reverse ++ acc = m.reverse ++ (p :: acc) := by simp
    rw [hm] at h ⊢
    have hp : apartR (p :: acc) := by
      have : ∀ (a b : List (Int × Int)), apartR (a ++ b) → apartR b := by
        intro a
        induction a with
        | nil => exact fun b h => h
        | cons x a ih => exact fun b h => ih b (apartR_tail h)
      exact this _ _ h
    have h1 : 1 ≤ p.2 := apartR_pos hp p (by simp)
    obtain ⟨c, hc⟩ : ∃ c : Nat, p.2 = (c : Int) + 1 := ⟨(p.2 - 1).toNat, by omega⟩
    have hpe : p = (p.1, (c : Int) + 1) := by rw [← hc]
    show (ex p ++ expd m).foldl stepR acc = _
    rw [List.foldl_append, hpe, fold_ex c acc fun q r hq => by subst hq; exact hp.2.1, ← hpe]
    exact fold_expd m (p :: acc) h
theorem ofN_expd {m : List (Int × Int)} (hm : apartR m.reverse) (hb : ∀ a ∈ expd m, a < 4611686018427387904) : ofN (expd m) (expd m).length = m := by
  obtain ⟨h1, _⟩ := ofN_rev hb (expd m).length (Nat.le_refl _)
  rw [List.take_length, fold_expd m [] (by simpa using hm)] at h1
  simpa using h1
end
end Go.Ev
