/- prekeys.Left: how many one-time points a user's shelf has; or why it is not told.
   Conditions: the list is read as shelves, and its points' numbers are of 64 bits. -/
import Derived.Test.YtkomcddnfjbifaaHRight
namespace Go.Proofs.Ytkomcddnfjbifaa.Q
open Go.RowKit Go.Proofs.YtkomcddnfjbifaaW.PrintWords Go.Proofs.YtkomcddnfjbifaaW.PrintLast Go.Proofs.YtkomcddnfjbifaaW.PrintMore
set_option linter.unusedVariables false
set_option linter.unusedSimpArgs false

theorem rd_nat (l : List S29) (i : Nat) (h : i < l.length) : rd_T29 l (i : Int) = l[i] := by simp [rd_T29, h]
/-- The users of shelves that may be rise. -/
theorem right_rises {l : List S29} (h : rightB l = true) : ∀ (j i : Nat), i < j → j < l.length → (rd_T29 l (i : Int)).f0 < (rd_T29 l (j : Int)).f0 := by
  have hr : ∀ j : Nat, 0 < j → j < l.length → (rd_T29 l ((j - 1 : Nat) : Int)).f0 < (rd_T29 l (j : Int)).f0 := by
    intro j h0 h1
    unfold rightB at h
    have h2 := List.all_eq_true.1 (Bool.and_eq_true_iff.1 h).1 j (List.mem_range.2 h1)
    unfold okS at h2
    have h3 := (Bool.and_eq_true_iff.1 h2).2
    rw [decide_eq_false (by omega), Bool.false_or] at h3
    have h4 := of_decide_eq_true h3
    rwa [show ((j : Int) - 1) = ((j - 1 : Nat) : Int) by omega] at h4
  intro j
  induction j with
  | zero => intro i h; omega
  | succ j ih =>
    intro i h1 h2
    have h3 := hr (j + 1) (by omega) h2
    rw [Nat.add_sub_cancel] at h3
    by_cases e : i = j
    · subst e; exact h3
    · have := ih i (by omega) (by omega)
      omega
/-- In a list that rises the user's shelf is found just where it is. -/
theorem found_no {l : List S29} {u : Int} {i : Nat} (h : rightB l = true) (hf : foundR l u i false) : ∀ k : Nat, k < l.length → (rd_T29 l (k : Int)).f0 ≠ u := by
  obtain ⟨h1, h2, h3, h4⟩ := hf
  intro k hk
  rcases Nat.lt_trichotomy k i with hlt | rfl | hgt
  · have := h2 (by omega)
    by_cases e : k = i - 1
    · subst e; omega
    · have := right_rises h (i - 1) k (by omega) (by omega)
      omega
  · rw [decide_eq_true hk, Bool.true_and] at h4
    exact fun e => by rw [e] at h4; simp at h4
  · have a := h3 (by omega)
    have b := right_rises h k i hgt hk
    omega
theorem found_yes {l : List S29} {u : Int} {i : Nat} (hf : foundR l u i true) : i < l.length ∧ (rd_T29 l (i : Int)).f0 = u := by
  obtain ⟨h1, h2, h3, h4⟩ := hf
  have := h4.symm
  rw [Bool.and_eq_true_iff] at this
  exact ⟨of_decide_eq_true this.1, by simpa using this.2⟩
/-- What prekeys.Left answers. -/
def LeftE (l : List S29) (u : Int) (e : Ending) : Prop :=
  (rightB l = false ∧ e = .returned (.tuple #[.int .i64 0, .int .i64 1])) ∨
  (rightB l = true ∧ (∀ k : Nat, k < l.length → (rd_T29 l (k : Int)).f0 ≠ u) ∧ e = .returned (.tuple #[.int .i64 0, .int .i64 5])) ∨
  (rightB l = true ∧ ∃ i : Nat, i < l.length ∧ (rd_T29 l (i : Int)).f0 = u ∧ e = .returned (.tuple #[.int .i64 ((rd_T29 l (i : Int)).f3.length : Int), .int .i64 0]))
set_option maxHeartbeats 4000000 in
set_option maxRecDepth 100000 in
theorem left_calls (A0 : Option Addr) (c0 : Nat) (l0 : List S29) (u : Int) (w : World) (hr0 : Kd.C k29 w A0 l0.length l0) (hc0 : l0.length ≤ c0) (hlen : l0.length ≤ 1000000) (hwf : ∀ s ∈ l0, ∀ p ∈ s.f3, (Lit.int .u64 p.f0).wf = true) :
    Calls Try.prog 10 #[.slice A0 l0.length c0, .int .u64 u] w fun e w' => LeftE l0 u e ∧ Below w.heap.size w w' := by
  go_enter Try.func10, Try.ntmps10
  go_wp2_with fail
  refine (find_calls A0 c0 l0 u _ hr0 hc0 hlen).mono ?_; rintro e_ w2 ⟨⟨i, is, rfl, hf⟩, hb2⟩
  have hrc := Aside0.mk (right_calls A0 c0 l0 w2 (Kd.C_below hr0 hb2) hc0 hlen hwf)
  replace hf := Lib.hid hf
  go_wp2_with fail
  refine hrc.out.mono ?_; rintro e_ w3 ⟨rfl, hb3⟩
  have hB := below_step hb2 hb3
  cases hR : rightB l0 with
  | false =>
    have hfin : Hid (LeftE l0 u (.returned (.tuple #[.int .i64 0, .int .i64 1]))) := Lib.hid (.inl ⟨hR, rfl⟩)
    go_wp2
    go_ret2
    exact ⟨hfin.out, hB⟩
  | true =>
    cases is with
    | false =>
      have hfin : Hid (LeftE l0 u (.returned (.tuple #[.int .i64 0, .int .i64 5]))) := Lib.hid (.inr (.inl ⟨hR, found_no hR hf.out, rfl⟩))
      go_wp2
      go_ret2
      exact ⟨hfin.out, hB⟩
    | true =>
      obtain ⟨hi, hu⟩ := found_yes hf.out
      have hfin : Hid (LeftE l0 u (.returned (.tuple #[.int .i64 ((rd_T29 l0 (i : Int)).f3.length : Int), .int .i64 0]))) := Lib.hid (.inr (.inr ⟨hR, i, hi, hu, rfl⟩))
      obtain ⟨ad, A4, c4, eA, q0, q1, q2, q3, q4, _, _⟩ := at_T29 (Kd.C_below hr0 hB) (i : Int) (by omega) (by omega)
      subst eA
      rw [Int.toNat_natCast] at q4
      generalize rd_T29 l0 (i : Int) = x at q4 hfin
      have hi2 : (i : Int) < l0.length := by omega
      clear q0 q1 q2 q3 hu
      go_wp2
      go_ret2
      exact ⟨hfin.out, hB⟩
end Go.Proofs.Ytkomcddnfjbifaa.Q
