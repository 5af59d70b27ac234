/- The reference's Why, by values; what prekeys.Publish answers is what the reference says.
   Conditions: at most 10 shelves. -/
import Derived.Test.YtkomcddnfjbifaaHPure4
import Derived.Test.YtkomcddnfjbifaaQx124
namespace Go.Proofs.Ytkomcddnfjbifaa.Q
open Go.RowKit Go.Proofs.YtkomcddnfjbifaaW.PrintWords Go.Proofs.YtkomcddnfjbifaaW.PrintLast Go.Proofs.YtkomcddnfjbifaaW.PrintMore
set_option linter.unusedVariables false
set_option linter.unusedSimpArgs false

theorem why_start (l : List S29) (s : S29) (hl : l.length ≤ 900) (h0 : ∀ s ∈ l, ∀ p ∈ s.f3, 0 ≤ p.f0) (hs0 : ∀ p ∈ s.f3, 0 ≤ p.f0) : demurralref15_Why.f 2001 l s.f0 s.f1 s.f2.f0 s.f2.f1 s.f3 = demurralref15_Why.j0 2001 l (!(rightB l && shelfB s)) s.f0 s.f1 s.f2.f0 s.f2.f1 s.f3 := by
  unfold demurralref15_Why.f
  rw [demurralref15_Right.mono l 2000 _ (right_f l (by omega) h0), shelf_f s hs0 2001 (by omega)]
  cases rightB l <;> cases shelfB s <;> rfl
theorem why_no (l : List S29) (s : S29) (hl : l.length ≤ 900) (h0 : ∀ s ∈ l, ∀ p ∈ s.f3, 0 ≤ p.f0) (hs0 : ∀ p ∈ s.f3, 0 ≤ p.f0) (h : (rightB l && shelfB s) = false) : demurralref15_Why.f 2001 l s.f0 s.f1 s.f2.f0 s.f2.f1 s.f3 = some 1 := by
  rw [why_start l s hl h0 hs0, h, demurralref15_Why.j0]
  rfl
theorem why_here (l : List S29) (s : S29) (hl : l.length ≤ 900) (h0 : ∀ s ∈ l, ∀ p ∈ s.f3, 0 ≤ p.f0) (hs0 : ∀ p ∈ s.f3, 0 ≤ p.f0) (hR : rightB l = true) (hS : shelfB s = true) (i : Nat) (hi : i < l.length) (hu : (rd_T29 l (i : Int)).f0 = s.f0) :
    demurralref15_Why.f 2001 l s.f0 s.f1 s.f2.f0 s.f2.f1 s.f3 = some (if (rd_T29 l (i : Int)).f1.toList == s.f1.toList then 0 else 3) := by
  rw [why_start l s hl h0 hs0, hR, hS, demurralref15_Why.j0, if_neg (by decide), at_here l s.f0 (by omega) hR i hi hu]
  rw [Option.bind_some, if_pos (by omega), if_pos (by omega), if_pos (by omega), demurralref15_Why.j1]
  cases h : ((rd_T29 l (i : Int)).f1.toList == s.f1.toList) with
  | false => rw [show ((rd_T29 l (i : Int)).f1.toList != s.f1.toList) = true by rw [bne, h]; rfl, if_pos rfl, if_neg (by decide)]
  | true => rw [show ((rd_T29 l (i : Int)).f1.toList != s.f1.toList) = false by rw [bne, h]; rfl, if_neg (by decide), if_neg (by omega), if_pos rfl]
theorem why_new (l : List S29) (s : S29) (hl : l.length ≤ 900) (h0 : ∀ s ∈ l, ∀ p ∈ s.f3, 0 ≤ p.f0) (hs0 : ∀ p ∈ s.f3, 0 ≤ p.f0) (hR : rightB l = true) (hS : shelfB s = true) (hno : ∀ k : Nat, k < l.length → (rd_T29 l (k : Int)).f0 ≠ s.f0) :
    demurralref15_Why.f 2001 l s.f0 s.f1 s.f2.f0 s.f2.f1 s.f3 = some (if l.length = 8 then 6 else 0) := by
  rw [why_start l s hl h0 hs0, hR, hS, demurralref15_Why.j0, if_neg (by decide), at_f_none l s.f0 (by omega) hno]
  rw [Option.bind_some, if_neg (by decide), demurralref15_Why.j1, if_neg (by decide), if_pos (by decide)]
  by_cases h : l.length = 8
  · rw [if_pos (by omega), if_pos h]
  · rw [if_neg (by omega), if_neg h]
theorem pub_why {l : List S29} {s : S29} {e : Ending} {w' : World} (h : PubE l s e w') (hl : l.length ≤ 10) (h0 : ∀ s ∈ l, ∀ p ∈ s.f3, 0 ≤ p.f0) (hs0 : ∀ p ∈ s.f3, 0 ≤ p.f0) (h3 : ∀ s ∈ l, s.f3.length ≤ 22) (hs3 : s.f3.length ≤ 22) :
    (∃ q : Int, e = .returned (.tuple #[.slice none 0 0, .int .i64 q]) ∧ q ≠ 0 ∧ demurralref15_Why.f 2001 l s.f0 s.f1 s.f2.f0 s.f2.f1 s.f3 = some q) ∨
    (∃ (lp : List S29) (A : Option Addr) (c : Nat), e = .returned (.tuple #[.slice A lp.length c, .int .i64 0]) ∧ lp.length ≤ c ∧ k29.C w' A lp.length lp ∧ lp.length ≤ 11 ∧ (∀ x ∈ lp, x.f3.length ≤ 22) ∧
      demurralref15_With.f 2000 l s.f0 s.f1 s.f2.f0 s.f2.f1 s.f3 = some lp ∧ demurralref15_Why.f 2001 l s.f0 s.f1 s.f2.f0 s.f2.f1 s.f3 = some 0) := by
  rcases h with ⟨hn, rfl⟩ | ⟨hR, hS, i, ⟨hi, hu, he, rfl⟩ | ⟨hi, hu, he, A, c, rfl, hc, hC⟩ | ⟨hf, h8, rfl⟩ | ⟨hf, h8, A, c, rfl, hc, hC⟩⟩
  · exact .inl ⟨1, rfl, by decide, why_no l s (by omega) h0 hs0 hn⟩
  · refine .inl ⟨3, rfl, by decide, ?_⟩
    rw [why_here l s (by omega) h0 hs0 hR hS i hi hu, he]
    rfl
  · have hl' : (l.set i s).length = l.length := List.length_set
    refine .inr ⟨l.set i s, A, c, by rw [hl'], by rw [hl']; exact hc, by rw [hl']; exact hC, by rw [hl']; omega, fun x hx => ?_, with_set l s (by omega) hR i hi hu, ?_⟩
    · rcases List.mem_or_eq_of_mem_set hx with h1 | rfl
      · exact h3 x h1
      · exact hs3
    · rw [why_here l s (by omega) h0 hs0 hR hS i hi hu, he]
      rfl
  · refine .inl ⟨6, rfl, by decide, ?_⟩
    rw [why_new l s (by omega) h0 hs0 hR hS (found_no hR hf), if_pos h8]
  · have hl' := put_len l s i hf.1
    refine .inr ⟨_, A, c, by rw [hl'], by rw [hl']; exact hc, by rw [hl']; exact hC, by rw [hl']; omega, fun x hx => ?_, with_put l s (by omega) hR i hf, ?_⟩
    · rcases List.mem_append.1 hx with h1 | h1
      · exact h3 x (List.mem_of_mem_take h1)
      · rcases List.mem_cons.1 h1 with rfl | h2
        · exact hs3
        · exact h3 x (List.mem_of_mem_drop h2)
    · rw [why_new l s (by omega) h0 hs0 hR hS (found_no hR hf), if_neg h8]
end Go.Proofs.Ytkomcddnfjbifaa.Q
