/- MailboxTells: the law's walk, out of the values that its calls have.
   Conditions: the lists are read as parcels. -/
import Derived.Test.YtganchnnfjdooaaHTells
import Derived.Test.YtganchnnfjdooaaHPure3
namespace Go.Proofs.Ytganchnnfjdooaa.Q
open Go.RowKit Go.Proofs.YtganchnnfjdooaaW.PrintWords Go.Proofs.YtganchnnfjdooaaW.PrintLast Go.Proofs.YtganchnnfjdooaaW.PrintMore

theorem tells_walk (A0 : Option Addr) (c0 : Nat) (l0 : List S27) (A1 : Option Addr) (c1 : Nat) (l1 : List S27) (x2 : S27) (a3 a4 : Int) (W : World)
    (hr0 : Kd.C k27 W A0 l0.length l0) (hc0 : l0.length ≤ c0) (hr1 : Kd.C k27 W A1 l1.length l1) (hc1 : l1.length ≤ c1) :
    Calls Try.prog 5 #[.slice A0 l0.length c0, .slice A1 l1.length c1, .agg #[.int .u64 x2.f0, .int .u64 x2.f1, .string x2.f2, .int .i64 x2.f3, .int .u64 x2.f4], .int .u64 a3, .int .u64 a4] W fun e w' => e = .returned (.bool true) ∧ Below W.heap.size W w' := by
  obtain ⟨x, hx⟩ : ∃ x, l0.take 40 = x := ⟨_, rfl⟩
  obtain ⟨y, hy⟩ : ∃ y, l1.take 40 = y := ⟨_, rfl⟩
  have hl : x.length ≤ 40 := by rw [← hx, List.length_take]; omega
  obtain ⟨b, hb⟩ := Pure.same_some x y hl
  obtain ⟨F, hF⟩ : ∃ F, (x.filter fun p => p.f1 == a3) = F := ⟨_, rfl⟩
  obtain ⟨G, hG⟩ : ∃ G, (x.filter fun p => p.f1 == x2.f1) = G := ⟨_, rfl⟩
  have hFl : F.length ≤ 40 := by rw [← hF]; have := List.length_filter_le (fun p : S27 => p.f1 == a3) x; omega
  have hkl := List.length_filter_le (fun p : S27 => !old a4 p) x
  have hof := Pure.of_eq' x a3 hl
  have hog := Pure.of_eq' x x2.f1 hl
  rw [hF] at hof
  rw [hG] at hog
  have hcn := Pure.count_eq x a3 (by omega)
  rw [List.countP_eq_length_filter, hF] at hcn
  have hcg : (x.countP fun p => p.f1 == x2.f1) = G.length := by rw [List.countP_eq_length_filter, hG]
  have hsend : ∃ s e, mailbox_Send.f x x2.f0 x2.f1 x2.f2 x2.f3 x2.f4 = some (s, e) ∧ ((x2.f0 = x2.f1 ∧ e = 1 ∧ s = []) ∨ (∃ G, x2.f0 ≠ x2.f1 ∧ demurralref18_Of.f 41 x x2.f1 = some G ∧ 16 ≤ G.length ∧ e = 6 ∧ s = []) ∨ (∃ G, x2.f0 ≠ x2.f1 ∧ demurralref18_Of.f 41 x x2.f1 = some G ∧ G.length < 16 ∧ e = 0 ∧ demurralref18_Send.f x x2.f0 x2.f1 x2.f2 x2.f3 x2.f4 = some s ∧ demurralref18_Same.f 42 s s = some true)) := by
    unfold mailbox_Send.f
    rw [if_pos (by omega), hcg]
    by_cases h1 : x2.f0 = x2.f1
    · rw [if_pos h1]
      exact ⟨[], 1, rfl, .inl ⟨h1, rfl, rfl⟩⟩
    · rw [if_neg h1]
      by_cases h2 : 16 ≤ G.length
      · rw [if_pos h2]
        exact ⟨[], 6, rfl, .inr (.inl ⟨G, h1, hog, h2, rfl, rfl⟩)⟩
      · rw [if_neg h2]
        exact ⟨_, 0, rfl, .inr (.inr ⟨G, h1, hog, by omega, rfl, Pure.rsend_eq x _ _ _ _ _ hl, Pure.same_self _ (by simp; omega)⟩)⟩
  obtain ⟨s, e, hsn, hsd⟩ := hsend
  have hlk : mailbox_Like.f 41 x y = some b := by rw [Pure.like_same]; exact hb
  have hlx : mailbox_Like.f 42 x x = some true := by rw [Pure.like_same]; exact Pure.same_self x (by omega)
  have hlt : mailbox_Later.f x a4 = some (x.filter fun p => !old a4 p) := by unfold mailbox_Later.f; rw [if_pos (by omega)]
  have hrl := Pure.rlater_eq x a4 hl
  have hkk := Pure.same_self (x.filter fun p => !old a4 p) (by omega)
  by_cases hfo : firstOf x a3 < x.length
  · obtain ⟨e1, e2, e3⟩ := Pure.erase_first a3 x hfo
    have htk : mailbox_Take.f x a3 = some ((rd_T27 x (firstOf x a3)).f0, (rd_T27 x (firstOf x a3)).f1, (rd_T27 x (firstOf x a3)).f2, (rd_T27 x (firstOf x a3)).f3, (rd_T27 x (firstOf x a3)).f4, x.eraseIdx (firstOf x a3), 0) := by
      unfold mailbox_Take.f
      rw [if_pos (by omega), if_pos hfo]
    have hel := List.length_eraseIdx_le x (firstOf x a3)
    rw [hF] at e2
    exact tells_some A0 c0 l0 A1 c1 l1 x2 a3 a4 W hr0 hc0 hr1 hc1 x y s _ F _ e _ _ _ _ _ _ b hx hy (Lib.hid hsn) (Lib.hid htk) (Lib.hid hof) (Lib.hid hlk) (Lib.hid hb) (Lib.hid hlx) (Lib.hid hcn) (Lib.hid hlt) (Lib.hid hrl) (Lib.hid hkk) (Lib.hid Pure.alive_eq)
      (Lib.hid ⟨by rw [e2]; simp, rfl, by rw [e2]; rfl, Pure.rest_eq x a3 hl hfo, Pure.same_self _ (by omega)⟩) (Lib.hid hsd)
  · have htk : mailbox_Take.f x a3 = some (0, 0, ⟨#[]⟩, 0, 0, [], 5) := by
      unfold mailbox_Take.f
      rw [if_pos (by omega), if_neg hfo]
    have hF0 : F = [] := by
      rw [← hF]
      apply Classical.byContradiction
      intro h
      exact hfo (Pure.first_some a3 x h)
    exact tells_none A0 c0 l0 A1 c1 l1 x2 a3 a4 W hr0 hc0 hr1 hc1 x y s _ F _ e _ _ _ _ _ _ b hx hy (Lib.hid hsn) (Lib.hid htk) (Lib.hid hof) (Lib.hid hlk) (Lib.hid hb) (Lib.hid hlx) (Lib.hid hcn) (Lib.hid hlt) (Lib.hid hrl) (Lib.hid hkk) (Lib.hid Pure.alive_eq)
      (Lib.hid ⟨hF0, rfl, rfl, rfl, rfl, rfl, rfl, rfl⟩) (Lib.hid hsd)
end Go.Proofs.Ytganchnnfjdooaa.Q
