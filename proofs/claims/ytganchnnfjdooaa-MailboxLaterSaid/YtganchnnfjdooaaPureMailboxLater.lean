import Derived.Test.YtganchnnfjdooaaQx104
import Derived.Test.YtganchnnfjdooaaHPure
namespace Go.Proofs.Ytganchnnfjdooaa.Pure
open Go.RowKit Go.Proofs.Ytganchnnfjdooaa.Q Go.Proofs.YtganchnnfjdooaaW.PrintWords Go.Proofs.YtganchnnfjdooaaW.PrintLast Go.Proofs.YtganchnnfjdooaaW.PrintMore

theorem u64_range {n : Int} (h : (Lit.int .u64 n).wf = true) : 0 ≤ n ∧ n ≤ 18446744073709551615 := by
  simp only [Lit.wf, Bool.and_eq_true, decide_eq_true_eq] at h
  exact ⟨h.1, h.2⟩
theorem wrap_u (n : Int) (h0 : 0 ≤ n) (h1 : n ≤ 18446744073709551615) : IntKind.u64.wrap n = n := by
  show n % 18446744073709551616 = n
  omega
theorem old_later {a b : Int} {p : S27} (hp : good27 p) (h0 : 0 ≤ a) (hab : a ≤ b) (hb : b ≤ 18446744073709551615) (h : old a p = true) : old b p = true := by
  obtain ⟨h4, h5⟩ := u64_range hp.2.2.2.2
  unfold old at *
  simp only [Bool.and_eq_true, decide_eq_true_eq] at *
  obtain ⟨h1, h2⟩ := h
  rw [wrap_u _ (by omega) (by omega)] at h2
  rw [wrap_u _ (by omega) (by omega)]
  omega
theorem later_later {l : List S27} (hl : ∀ p ∈ l, good27 p) {a b : Int} (h0 : 0 ≤ a) (hab : a ≤ b) (hb : b ≤ 18446744073709551615) :
    (l.filter fun p => !old a p).filter (fun p => !old b p) = l.filter fun p => !old b p := by
  rw [List.filter_filter]
  apply List.filter_congr
  intro p hp
  by_cases h : old a p = true
  · have := old_later (hl p hp) h0 hab hb h
    simp [h, this]
  · simp [h]
theorem later_eq (l : List S27) (a : Int) (hl : l.length ≤ 40) : mailbox_Later.f l a = some (l.filter fun p => !old a p) := by
  unfold mailbox_Later.f
  rw [if_pos (by omega)]
theorem later_loop (x : List S27) (hg : ∀ p ∈ x, good27 p) (b : Int) (hb : b ≤ 18446744073709551615) (hx : x.length ≤ 40) (first both once : List S27) (he : both = once) (ho : once = x.filter fun p => !old b p) (h1 : once.length ≤ first.length) (h2 : first.length ≤ x.length) :
    ∀ (d : Nat) (i k : Nat), i + d = x.length → demurrallaw18_MailboxLater.l0 (k + 41 + d + 1) x b first both once x x.length i = some true
  | 0, i, k, h => by
    have hon : once.length ≤ 40 := by omega
    have hs := same_refl once (by omega) (k + 40 - once.length)
    rw [show k + 40 - once.length + once.length + 1 = k + 41 + 0 by omega] at hs
    generalize k + 41 + 0 = K at hs
    simp only [demurrallaw18_MailboxLater.l0]
    rw [if_neg (by omega), alive_eq]
    simp only [Option.bind_some]
    rw [if_true, he, hs]
    simp only [Option.bind_some]
    rw [if_true, if_pos (by omega)]
    simp [h2]
  | d + 1, i, k, h => by
    have h0 : i < x.length := by omega
    have hi : (i : Int) < (x.length : Int) := by omega
    have ih := later_loop x hg b hb hx first both once he ho h1 h2 d (i + 1) k (by omega)
    rw [show k + 41 + (d + 1) + 1 = (k + 41 + d + 1) + 1 by omega]
    generalize k + 41 + d + 1 = K at ih
    simp only [demurrallaw18_MailboxLater.l0]
    rw [if_pos hi, if_pos (by omega), if_pos hi, wrap_in _ (by omega) (by omega), rd_nat x i h0]
    by_cases hf : x[i].f4 ≥ b
    · rw [if_pos hf, count_eq _ _ (by simp)]
      simp only [Option.bind_some]
      rw [if_pos (by simp), count_eq _ _ (by omega)]
      simp only [Option.bind_some]
      rw [if_neg ?_]
      · exact ih
      · have hm : x[i] ∈ once := by
          rw [ho, List.mem_filter]
          refine ⟨List.getElem_mem h0, ?_⟩
          have : old b x[i] = false := by
            unfold old
            have h3 : decide (x[i].f4 < b) = false := decide_eq_false (by omega)
            rw [h3]; rfl
          simp [this]
        have hp : 0 < once.countP fun p => p.f1 == x[i].f1 := by
          rw [List.countP_pos_iff]
          exact ⟨x[i], hm, by simp⟩
        omega
    · rw [if_neg hf]
      exact ih
theorem MailboxLater : ∀ (l0 : List (S27)) (a1 : Int) (a2 : Int), good22 l0 → (Lit.int .u64 a1).wf = true → (Lit.int .u64 a2).wf = true → ∃ k, demurrallaw18_MailboxLater.f k l0 a1 a2 = some true := by
  intro l0 a1 a2 hg h1 h2
  obtain ⟨r1, r2⟩ := u64_range h1
  obtain ⟨r3, r4⟩ := u64_range h2
  obtain ⟨x, hx⟩ : ∃ x, l0.take 40 = x := ⟨_, rfl⟩
  have hl : x.length ≤ 40 := by rw [← hx, List.length_take]; omega
  have hgx : ∀ p ∈ x, good27 p := fun p hp => hg.2 p (by rw [← hx] at hp; exact List.mem_of_mem_take hp)
  obtain ⟨a, ha⟩ : ∃ a, mn a1 a2 = a := ⟨_, rfl⟩
  obtain ⟨b, hb⟩ : ∃ b, mx a1 a2 = b := ⟨_, rfl⟩
  have hab : 0 ≤ a ∧ a ≤ b ∧ b ≤ 18446744073709551615 := by
    rw [← ha, ← hb]
    unfold mn mx
    split <;> split <;> omega
  have hlen := fun c => List.length_filter_le (fun p => !old c p) x
  have hlen2 := List.length_filter_le (fun p => !old b p) (x.filter fun p => !old a p)
  refine ⟨0 + 41 + x.length + 1, ?_⟩
  unfold demurrallaw18_MailboxLater.f
  rw [few_eq, hx, ha, hb]
  simp only [Option.bind_some]
  rw [later_eq x a hl]
  simp only [Option.bind_some]
  rw [later_eq _ b (by have := hlen a; omega)]
  simp only [Option.bind_some]
  rw [later_eq x b hl]
  simp only [Option.bind_some]
  rw [later_later hgx hab.1 hab.2.1 hab.2.2] at hlen2 ⊢
  exact later_loop x hgx b hab.2.2 hl _ _ _ rfl rfl hlen2 (hlen a) x.length 0 0 (by omega)

end Go.Proofs.Ytganchnnfjdooaa.Pure
