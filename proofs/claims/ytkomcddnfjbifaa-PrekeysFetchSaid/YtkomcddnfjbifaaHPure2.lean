/- The reference's With, First and Rest, by values; what With is of shelves that may be.
   Conditions: at most 1000 shelves. -/
import Derived.Test.YtkomcddnfjbifaaHPure
namespace Go.Proofs.Ytkomcddnfjbifaa.Q
open Go.RowKit Go.Proofs.YtkomcddnfjbifaaW.PrintWords Go.Proofs.YtkomcddnfjbifaaW.PrintLast Go.Proofs.YtkomcddnfjbifaaW.PrintMore
set_option linter.unusedVariables false
set_option linter.unusedSimpArgs false

def rdm (l : List S29) (p : S29 → Bool) (i m : Nat) : List S29 := ((List.range' i m).map fun j : Nat => rd_T29 l (j : Int)).filter p
theorem rdm_succ (l : List S29) (p : S29 → Bool) (i m : Nat) : rdm l p i (m + 1) = (if p (rd_T29 l (i : Int)) then [rd_T29 l (i : Int)] else []) ++ rdm l p (i + 1) m := by
  unfold rdm
  rw [List.range'_succ, List.map_cons, List.filter_cons]
  split <;> rfl
theorem rdm_all (l : List S29) (p : S29 → Bool) : rdm l p 0 l.length = l.filter p := by
  unfold rdm
  rw [range_rd]
theorem with_l1 (l : List S29) (s : S29) (hl : l.length ≤ 1000000) : ∀ (m k i : Nat) (acc : List S29), i + m = l.length → m < k → acc.length + m ≤ 2000001 → demurralref15_With.l1 k acc l (l.length : Int) (i : Int) s.f0 s.f1 s.f2.f0 s.f2.f1 s.f3 = some (acc ++ rdm l (fun x => decide (x.f0 > s.f0)) i m) := by
  intro m
  induction m with
  | zero =>
    intro k i acc hi hk ha
    obtain ⟨k, rfl⟩ : ∃ k', k = k' + 1 := ⟨k - 1, by omega⟩
    rw [demurralref15_With.l1, if_neg (by omega)]
    simp [rdm]
  | succ m ih =>
    intro k i acc hi hk ha
    obtain ⟨k, rfl⟩ : ∃ k', k = k' + 1 := ⟨k - 1, by omega⟩
    rw [demurralref15_With.l1, if_pos (by omega), if_pos (by omega), if_pos (by omega), rdm_succ, nx i (by omega)]
    by_cases e : (rd_T29 l (i : Int)).f0 > s.f0
    · rw [if_pos e, if_pos (by omega), ih k (i + 1) _ (by omega) (by omega) (by rw [List.length_append, List.length_singleton]; omega), if_pos (by exact decide_eq_true e), List.append_assoc]
    · rw [if_neg e, ih k (i + 1) _ (by omega) (by omega) (by omega), if_neg (by exact fun h => e (of_decide_eq_true h)), List.nil_append]
theorem with_l0 (l : List S29) (s : S29) (hl : l.length ≤ 1000000) : ∀ (m k i : Nat) (acc : List S29), i + m = l.length → m + l.length + 1 < k → acc.length + m ≤ 1000000 →
    demurralref15_With.l0 k l acc l (l.length : Int) (i : Int) s.f0 s.f1 s.f2.f0 s.f2.f1 s.f3 = some ((acc ++ rdm l (fun x => decide (x.f0 < s.f0)) i m) ++ s :: l.filter (fun x => decide (x.f0 > s.f0))) := by
  intro m
  induction m with
  | zero =>
    intro k i acc hi hk ha
    obtain ⟨k, rfl⟩ : ∃ k', k = k' + 1 := ⟨k - 1, by omega⟩
    rw [demurralref15_With.l0, if_neg (by omega), if_pos (by omega), show (0 : Int) = ((0 : Nat) : Int) from rfl, with_l1 l s hl l.length k 0 _ (by omega) (by omega) (by rw [List.length_append, List.length_singleton]; omega), rdm_all]
    simp [rdm]
  | succ m ih =>
    intro k i acc hi hk ha
    obtain ⟨k, rfl⟩ : ∃ k', k = k' + 1 := ⟨k - 1, by omega⟩
    rw [demurralref15_With.l0, if_pos (by omega), if_pos (by omega), if_pos (by omega), rdm_succ, nx i (by omega)]
    by_cases e : (rd_T29 l (i : Int)).f0 < s.f0
    · rw [if_pos e, if_pos (by omega), ih k (i + 1) _ (by omega) (by omega) (by rw [List.length_append, List.length_singleton]; omega), if_pos (by exact decide_eq_true e), ← List.append_assoc acc]
    · rw [if_neg e, ih k (i + 1) _ (by omega) (by omega) (by omega), if_neg (by exact fun h => e (of_decide_eq_true h)), List.nil_append]
theorem with_f (l : List S29) (s : S29) (hl : l.length ≤ 900) : demurralref15_With.f 2000 l s.f0 s.f1 s.f2.f0 s.f2.f1 s.f3 = some (l.filter (fun x => decide (x.f0 < s.f0)) ++ s :: l.filter (fun x => decide (x.f0 > s.f0))) := by
  unfold demurralref15_With.f
  rw [show (0 : Int) = ((0 : Nat) : Int) from rfl, with_l0 l s (by omega) l.length 2000 0 [] (by omega) (by omega) (by simp; omega), rdm_all, List.nil_append]
theorem filter_take (l : List S29) (p : S29 → Bool) (i : Nat) (h1 : ∀ j : Nat, j < i → j < l.length → p (rd_T29 l (j : Int)) = true) (h2 : ∀ j : Nat, i ≤ j → j < l.length → p (rd_T29 l (j : Int)) = false) : l.filter p = l.take i := by
  conv => lhs; rw [← List.take_append_drop i l]
  rw [List.filter_append, List.filter_eq_self.2, List.filter_eq_nil_iff.2, List.append_nil]
  · intro x hx
    obtain ⟨j, hj, rfl⟩ := List.getElem_of_mem hx
    rw [List.length_drop] at hj
    rw [List.getElem_drop, ← rd_nat l (i + j) (by omega), h2 (i + j) (by omega) (by omega)]
    decide
  · intro x hx
    obtain ⟨j, hj, rfl⟩ := List.getElem_of_mem hx
    rw [List.length_take] at hj
    rw [List.getElem_take, ← rd_nat l j (by omega)]
    exact h1 j (by omega) (by omega)
theorem filter_drop (l : List S29) (p : S29 → Bool) (i : Nat) (h1 : ∀ j : Nat, j < i → j < l.length → p (rd_T29 l (j : Int)) = false) (h2 : ∀ j : Nat, i ≤ j → j < l.length → p (rd_T29 l (j : Int)) = true) : l.filter p = l.drop i := by
  conv => lhs; rw [← List.take_append_drop i l]
  rw [List.filter_append, List.filter_eq_nil_iff.2, List.filter_eq_self.2, List.nil_append]
  · intro x hx
    obtain ⟨j, hj, rfl⟩ := List.getElem_of_mem hx
    rw [List.length_drop] at hj
    rw [List.getElem_drop, ← rd_nat l (i + j) (by omega)]
    exact h2 (i + j) (by omega) (by omega)
  · intro x hx
    obtain ⟨j, hj, rfl⟩ := List.getElem_of_mem hx
    rw [List.length_take] at hj
    rw [List.getElem_take, ← rd_nat l j (by omega), h1 j (by omega) (by omega)]
    decide
theorem with_set (l : List S29) (s : S29) (hl : l.length ≤ 900) (h : rightB l = true) (i : Nat) (hi : i < l.length) (hu : (rd_T29 l (i : Int)).f0 = s.f0) : demurralref15_With.f 2000 l s.f0 s.f1 s.f2.f0 s.f2.f1 s.f3 = some (l.set i s) := by
  rw [with_f l s hl, List.set_eq_take_append_cons_drop, if_pos hi]
  have hlt : ∀ j : Nat, j < i → (rd_T29 l (j : Int)).f0 < s.f0 := fun j hj => hu ▸ right_rises h i j hj hi
  have hgt : ∀ j : Nat, i < j → j < l.length → s.f0 < (rd_T29 l (j : Int)).f0 := fun j hj hjl => hu ▸ right_rises h j i hj hjl
  rw [filter_take l _ i (fun j hj _ => decide_eq_true (hlt j hj)) (fun j hj hjl => decide_eq_false (by
      by_cases e : j = i
      · subst e; omega
      · have := hgt j (by omega) hjl; omega)),
    filter_drop l _ (i + 1) (fun j hj _ => decide_eq_false (by
      by_cases e : j = i
      · subst e; omega
      · have := hlt j (by omega); omega)) (fun j hj hjl => decide_eq_true (hgt j (by omega) hjl))]
/-- Where the user's place is, in shelves that may be. -/
theorem found_lt {l : List S29} {u : Int} {i : Nat} (h : rightB l = true) (hf : foundR l u i false) : (∀ j : Nat, j < i → (rd_T29 l (j : Int)).f0 < u) ∧ ∀ j : Nat, i ≤ j → j < l.length → u < (rd_T29 l (j : Int)).f0 := by
  have hno := found_no h hf
  obtain ⟨h1, h2, h3, h4⟩ := hf
  constructor
  · intro j hj
    have := h2 (by omega)
    by_cases e : j = i - 1
    · subst e; omega
    · have := right_rises h (i - 1) j (by omega) (by omega)
      omega
  · intro j hj hjl
    have a := h3 (by omega)
    have c := hno j hjl
    by_cases e : j = i
    · subst e; omega
    · have b := right_rises h j i (by omega) hjl
      omega
theorem with_put (l : List S29) (s : S29) (hl : l.length ≤ 900) (h : rightB l = true) (i : Nat) (hf : foundR l s.f0 i false) : demurralref15_With.f 2000 l s.f0 s.f1 s.f2.f0 s.f2.f1 s.f3 = some (l.take i ++ s :: l.drop i) := by
  obtain ⟨a, b⟩ := found_lt h hf
  rw [with_f l s hl, filter_take l _ i (fun j hj _ => decide_eq_true (a j hj)) (fun j hj hjl => decide_eq_false (by have := b j hj hjl; omega)),
    filter_drop l _ i (fun j hj _ => decide_eq_false (by have := a j hj; omega)) (fun j hj hjl => decide_eq_true (b j hj hjl))]
theorem first_f (l : List S26) : demurralref15_First.f l 1 = some (l.take 1) := by
  unfold demurralref15_First.f
  by_cases h : (l.length : Int) < 1
  · rw [if_pos h, List.take_of_length_le (by omega)]
  · rw [if_neg h, if_pos (by omega), if_pos (by omega)]
    rfl
theorem rest_f (l : List S26) : demurralref15_Rest.f l = some (l.drop 1) := by
  unfold demurralref15_Rest.f
  by_cases h : (l.length : Int) = 0
  · obtain rfl : l = [] := List.eq_nil_of_length_eq_zero (by omega)
    rfl
  · rw [if_neg h, if_pos (by omega)]
/-- The place that the reference tells is where the user is, in shelves that may be. -/
theorem at_here (l : List S29) (u : Int) (hl : l.length ≤ 1000) (h : rightB l = true) (i : Nat) (hi : i < l.length) (hu : (rd_T29 l (i : Int)).f0 = u) : demurralref15_At.f 2000 l u = some (i : Int) :=
  at_f_some l u hl i hi hu (fun j hj => by have := right_rises h i j hj hi; omega)
end Go.Proofs.Ytkomcddnfjbifaa.Q
