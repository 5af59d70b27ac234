import Derived.Test.YtganchnnfjdooaaQx103
import Derived.Test.YtganchnnfjdooaaHPure3
namespace Go.Proofs.Ytganchnnfjdooaa.Pure
open Go.RowKit Go.Proofs.Ytganchnnfjdooaa.Q Go.Proofs.YtganchnnfjdooaaW.PrintWords Go.Proofs.YtganchnnfjdooaaW.PrintLast Go.Proofs.YtganchnnfjdooaaW.PrintMore

/-- The second loop: what is left are the others, in order. -/
theorem once_others (x : List S27) (u : Int) (hx : x.length ≤ 40) (now got : List S27) (hn : now = x.filter fun p => !(p.f1 == u)) (hg : got = x.filter fun p => p.f1 == u) :
    ∀ (d : Nat) (i k o : Nat), i + d = x.length → o = ((x.take i).filter fun p => !(p.f1 == u)).length → demurrallaw18_MailboxOnce.l1 (k + 41 + d + 1) x u now got 5 o x x.length i = some true
  | 0, i, k, o, h, ho => by
    have hgl : got.length ≤ 40 := by
      rw [hg]
      have := List.length_filter_le (fun p : S27 => p.f1 == u) x
      omega
    have h1 := of_eq x u hx (k + 40 - x.length)
    have h2 := same_refl got (by omega) (k + 40 - got.length)
    rw [show k + 40 - x.length + x.length + 1 = k + 41 + 0 by omega] at h1
    rw [show k + 40 - got.length + got.length + 1 = k + 41 + 0 by omega] at h2
    generalize k + 41 + 0 = K at h1 h2
    simp only [demurrallaw18_MailboxOnce.l1]
    rw [if_neg (by omega), alive_eq]
    simp only [Option.bind_some, if_true]
    rw [h1]
    simp only [Option.bind_some]
    rw [← hg, h2]
    simp only [Option.bind_some, if_true]
    rw [show i = x.length by omega, List.take_length, ← hn] at ho
    rw [ho]
    simp
  | d + 1, i, k, o, h, ho => by
    have h0 : i < x.length := by omega
    have hi : (i : Int) < (x.length : Int) := by omega
    have hsplit : now = ((x.take i).filter fun p => !(p.f1 == u)) ++ ((x.drop i).filter fun p => !(p.f1 == u)) := by
      rw [hn, ← List.filter_append, List.take_append_drop]
    have hdrop : x.drop i = x[i] :: x.drop (i + 1) := List.drop_eq_getElem_cons h0
    have hon : ∀ o', o' = ((x.take (i + 1)).filter fun p => !(p.f1 == u)).length → demurrallaw18_MailboxOnce.l1 (k + 41 + d + 1) x u now got 5 o' x x.length (i + 1 : Nat) = some true :=
      fun o' ho' => once_others x u hx now got hn hg d (i + 1) k o' (by omega) ho'
    rw [show k + 41 + (d + 1) + 1 = (k + 41 + d + 1) + 1 by omega]
    generalize k + 41 + d + 1 = K at hon
    simp only [demurrallaw18_MailboxOnce.l1]
    rw [if_pos hi, if_pos (by omega), if_pos hi, wrap_in _ (by omega) (by omega), rd_nat x i h0]
    by_cases hu : x[i].f1 = u
    · rw [if_pos hu]
      refine hon o ?_
      rw [List.take_succ_eq_append_getElem h0, List.filter_append, ho]
      simp [hu]
    · rw [if_neg hu]
      have hnow : now = ((x.take i).filter fun p => !(p.f1 == u)) ++ x[i] :: ((x.drop (i + 1)).filter fun p => !(p.f1 == u)) := by
        rw [hsplit, hdrop, List.filter_cons_of_pos (by simpa using hu)]
      have hol : o < now.length := by
        rw [hnow, List.length_append, List.length_cons, ← ho]
        omega
      have hget : rd_T27 now (o : Int) = x[i] := by
        have e : now[o]? = some x[i] := by
          rw [hnow, List.getElem?_append_right (by omega), ho, Nat.sub_self]
          rfl
        simp [rd_T27, e]
      have hnl : now.length ≤ 40 := by
        rw [hn]
        have := List.length_filter_le (fun p : S27 => !(p.f1 == u)) x
        omega
      rw [if_neg (by omega), if_pos (by omega), if_pos (by omega), hget, if_neg (by simp), wrap_in _ (by omega) (by omega)]
      refine hon (o + 1) ?_
      rw [List.take_succ_eq_append_getElem h0, List.filter_append, ho, List.length_append, List.filter_cons_of_pos (by simpa using hu)]
      rfl
/-- The first loop takes a user's parcels, one by one. -/
theorem once_takes (x : List S27) (u : Int) (hx : x.length ≤ 40) :
    ∀ (d : Nat) (i k : Nat) (now got : List S27), i + d = (x.filter fun p => p.f1 == u).length → now.length ≤ 40 → (now.filter fun p => p.f1 == u) = (x.filter fun p => p.f1 == u).drop i → (now.filter fun p => !(p.f1 == u)) = (x.filter fun p => !(p.f1 == u)) → got = (x.filter fun p => p.f1 == u).take i →
      demurrallaw18_MailboxOnce.l0 (k + 41 + x.length + 1 + d + 1) x u now got ((x.filter fun p => p.f1 == u).length : Nat) i = some true
  | 0, i, k, now, got, h, hl, h1, h2, h3 => by
    have hF : (now.filter fun p => p.f1 == u) = [] := by rw [h1]; exact List.drop_eq_nil_of_le (by omega)
    have hnow : now = x.filter fun p => !(p.f1 == u) := by
      rw [← h2]
      symm
      rw [List.filter_eq_self]
      intro a ha
      rw [List.filter_eq_nil_iff] at hF
      have := hF a ha
      simpa using this
    have hgot : got = x.filter fun p => p.f1 == u := by rw [h3]; exact List.take_of_length_le (by omega)
    have ht : mailbox_Take.f now u = some (0, 0, ⟨#[]⟩, 0, 0, [], 5) := by
      unfold mailbox_Take.f
      rw [if_pos (by omega), if_neg (first_none u now hF)]
    have hK := once_others x u hx now got hnow hgot x.length 0 k 0 (by omega) (by simp)
    rw [show k + 41 + x.length + 1 + 0 + 1 = (k + 41 + x.length + 1) + 1 by omega]
    generalize k + 41 + x.length + 1 = K at hK
    simp only [demurrallaw18_MailboxOnce.l0]
    rw [if_neg (by omega), ht]
    exact hK
  | d + 1, i, k, now, got, h, hl, h1, h2, h3 => by
    have hi : i < (x.filter fun p => p.f1 == u).length := by omega
    have hne : (now.filter fun p => p.f1 == u) ≠ [] := by
      rw [h1, List.drop_eq_getElem_cons hi]
      exact List.cons_ne_nil _ _
    have hlt := first_some u now hne
    obtain ⟨e1, e2, e3⟩ := erase_first u now hlt
    have hF := List.length_filter_le (fun p : S27 => p.f1 == u) x
    obtain ⟨p, hp⟩ : ∃ p, rd_T27 now (firstOf now u) = p := ⟨_, rfl⟩
    obtain ⟨rest, hrest⟩ : ∃ r, now.eraseIdx (firstOf now u) = r := ⟨_, rfl⟩
    have hrl : rest.length = now.length - 1 := by rw [← hrest, List.length_eraseIdx, if_pos hlt]
    have ht : mailbox_Take.f now u = some (p.f0, p.f1, p.f2, p.f3, p.f4, rest, 0) := by
      unfold mailbox_Take.f
      rw [if_pos (by omega), if_pos hlt, hp, hrest]
    rw [hp, hrest] at e2
    rw [hp] at e1
    rw [hrest] at e3
    rw [e2, List.drop_eq_getElem_cons hi] at h1
    injection h1 with h1a h1b
    have ih := once_takes x u hx d (i + 1) k rest (got ++ [p]) (by omega) (by omega) h1b (e3.trans h2) (by rw [h3, List.take_succ_eq_append_getElem hi, h1a])
    have hgl : got.length < 2932031007402 := by rw [h3, List.length_take]; omega
    rw [show k + 41 + x.length + 1 + (d + 1) + 1 = (k + 41 + x.length + 1 + d + 1) + 1 by omega]
    generalize k + 41 + x.length + 1 + d + 1 = K at ih
    simp only [demurrallaw18_MailboxOnce.l0]
    rw [if_pos (by omega), ht]
    simp only [Option.bind_some, if_true]
    rw [if_pos e1, if_pos (by rw [wrap_in _ (by omega) (by omega)]; omega), if_pos hgl, wrap_in _ (by omega) (by omega)]
    exact ih
theorem MailboxOnce : ∀ (l0 : List (S27)) (a1 : Int), good22 l0 → (Lit.int .u64 a1).wf = true → ∃ k, demurrallaw18_MailboxOnce.f k l0 a1 = some true := by
  intro l0 u hg h1
  obtain ⟨x, hx⟩ : ∃ x, l0.take 40 = x := ⟨_, rfl⟩
  have hl : x.length ≤ 40 := by rw [← hx, List.length_take]; omega
  refine ⟨0 + 41 + x.length + 1 + (x.filter fun p => p.f1 == u).length + 1, ?_⟩
  have h := once_takes x u hl (x.filter fun p => p.f1 == u).length 0 0 x [] (by omega) hl rfl rfl rfl
  unfold demurrallaw18_MailboxOnce.f
  rw [few_eq, hx]
  simp only [Option.bind_some]
  rw [count_eq x u (by omega), List.countP_eq_length_filter]
  exact h

end Go.Proofs.Ytganchnnfjdooaa.Pure
