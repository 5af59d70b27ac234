/- A user's first parcel, in plain Lean.
   Conditions: as each tells. -/
import Derived.Test.YtganchnnfjdooaaHPure2
namespace Go.Proofs.Ytganchnnfjdooaa.Pure
open Go.RowKit Go.Proofs.Ytganchnnfjdooaa.Q Go.Proofs.YtganchnnfjdooaaW.PrintWords Go.Proofs.YtganchnnfjdooaaW.PrintLast Go.Proofs.YtganchnnfjdooaaW.PrintMore

/-- A list without a user's first one. -/
theorem erase_first (u : Int) : ∀ (l : List S27), firstOf l u < l.length →
    (rd_T27 l (firstOf l u)).f1 = u ∧ (l.filter fun p => p.f1 == u) = rd_T27 l (firstOf l u) :: (l.eraseIdx (firstOf l u)).filter (fun p => p.f1 == u) ∧
    ((l.eraseIdx (firstOf l u)).filter fun p => !(p.f1 == u)) = l.filter fun p => !(p.f1 == u)
  | [], h => by simp at h
  | a :: l, h => by
    by_cases ha : a.f1 = u
    · have h0 : firstOf (a :: l) u = 0 := by simp [firstOf, List.findIdx_cons, ha]
      rw [h0]
      have hr : rd_T27 (a :: l) ((0 : Nat) : Int) = a := rfl
      rw [hr]
      refine ⟨ha, ?_, ?_⟩
      · simp [ha]
      · simp [ha]
    · have h0 : firstOf (a :: l) u = firstOf l u + 1 := by
        have hb : (a.f1 == u) = false := by simpa using ha
        simp [firstOf, List.findIdx_cons, hb]
      rw [h0] at h ⊢
      have hlt : firstOf l u < l.length := by simpa using h
      obtain ⟨h1, h2, h3⟩ := erase_first u l hlt
      have hr : rd_T27 (a :: l) ((firstOf l u + 1 : Nat) : Int) = rd_T27 l (firstOf l u) := by
        rw [rd_nat _ _ (by simpa using h), rd_nat _ _ hlt]
        rfl
      rw [hr]
      refine ⟨h1, ?_, ?_⟩
      · rw [List.eraseIdx_cons_succ, List.filter_cons_of_neg (by simpa using ha), List.filter_cons_of_neg (by simpa using ha)]
        exact h2
      · rw [List.eraseIdx_cons_succ, List.filter_cons_of_pos (by simpa using ha), List.filter_cons_of_pos (by simpa using ha), h3]
theorem first_none (u : Int) (l : List S27) (h : (l.filter fun p => p.f1 == u) = []) : ¬ firstOf l u < l.length := by
  intro hlt
  have := (erase_first u l hlt).2.1
  rw [h] at this
  cases this
theorem first_some (u : Int) (l : List S27) (h : (l.filter fun p => p.f1 == u) ≠ []) : firstOf l u < l.length := by
  rcases Nat.lt_or_ge (firstOf l u) l.length with h1 | h1
  · exact h1
  · exfalso
    have hle : firstOf l u = l.length := Nat.le_antisymm List.findIdx_le_length h1
    apply h
    rw [List.filter_eq_nil_iff]
    intro a ha
    have := (List.findIdx_eq_length (p := fun p : S27 => p.f1 == u)).1 hle a ha
    simpa using this
end Go.Proofs.Ytganchnnfjdooaa.Pure
