/- The reference's has, Why, Push, by values.
   Conditions: at most ten boxes, of at most 18 mails each. -/
import Derived.Test.YtbmfcikjhnnnbaaHWith
import Derived.Test.YtbmfcikjhnnnbaaQx139
import Derived.Test.YtbmfcikjhnnnbaaQx115
import Derived.Test.YtbmfcikjhnnnbaaHRefPush
namespace Go.Proofs.Ytbmfcikjhnnnbaa.Q
open Go.RowKit Go.Proofs.YtbmfcikjhnnnbaaW.PrintWords Go.Proofs.YtbmfcikjhnnnbaaW.PrintLast Go.Proofs.YtbmfcikjhnnnbaaW.PrintMore
set_option linter.unusedVariables false
set_option linter.unusedSimpArgs false

theorem has_l0 (l : List S54) (hl : l.length ≤ 1000000) (s : ByteArray) : ∀ (m k i : Nat), i + m = l.length → m < k → demurralref16_has.l0 k s l (l.length : Int) (i : Int) = some ((List.range' i m).any fun j => (rd_T54 l (j : Int)).f1.toList == s.toList) := by
  intro m
  induction m with
  | zero =>
    intro k i hi hk
    obtain ⟨k, rfl⟩ : ∃ k', k = k' + 1 := ⟨k - 1, by omega⟩
    rw [demurralref16_has.l0, if_neg (by omega)]
    rfl
  | succ m ih =>
    intro k i hi hk
    obtain ⟨k, rfl⟩ : ∃ k', k = k' + 1 := ⟨k - 1, by omega⟩
    rw [demurralref16_has.l0, if_pos (by omega), if_pos (by omega), if_pos (by omega), nx i (by omega), ih k (i + 1) (by omega) (by omega), List.range'_succ, List.any_cons]
    by_cases e : (rd_T54 l (i : Int)).f1.toList = s.toList
    · rw [if_pos e, show ((rd_T54 l (i : Int)).f1.toList == s.toList) = true from beq_iff_eq.2 e, Bool.true_or]
    · rw [if_neg e, show ((rd_T54 l (i : Int)).f1.toList == s.toList) = false from beq_eq_false_iff_ne.2 e, Bool.false_or]
theorem has_f (l : List S54) (hl : l.length ≤ 1000000) (s : ByteArray) (k : Nat) (hk : l.length < k) : demurralref16_has.f k l s = some (hasB l s) := by
  unfold demurralref16_has.f hasB
  rw [show (0 : Int) = ((0 : Nat) : Int) from rfl, has_l0 l hl s l.length k 0 (by omega) hk, List.range_eq_range']
theorem why_f (l : List S57) (hs : smallR l) (now next u : Int) (hn : now ≤ 18446744073709551615) (s : ByteArray) (k : Nat) (hk : 500 ≤ k) : demurralref16_Why.f k l now next u s = some (whyL l now next u s) := by
  have h10 := hs.1
  have h18 := mails_small hs u
  obtain ⟨k, rfl⟩ : ∃ k', k = k' + 1 := ⟨k - 1, by omega⟩
  have hj : ∀ c : Bool, demurralref16_Why.j0 (k + 1) c l now next = if c = true then some 6 else if next = 4611686018427387903 then some 1 else some 0 := fun c => by rw [demurralref16_Why.j0]
  unfold demurralref16_Why.f whyL
  rw [right_f l hs now next hn _ hk, Option.bind_some]
  by_cases e : relB l now next = true
  · rw [if_pos e, if_pos e, mails_f l (by omega) now next u _ (by omega), Option.bind_some]
    by_cases e1 : 1400 < s.size
    · rw [if_pos (show (s.size : Int) > 1400 by omega), if_pos e1]
    · rw [if_neg (show ¬ (s.size : Int) > 1400 by omega), if_neg e1, has_f _ (by omega) s _ (by omega), Option.bind_some]
      by_cases e2 : hasB (mailsL l u) s = true
      · rw [if_pos e2, if_pos e2]
      · rw [if_neg e2, if_neg e2, hj, hj, hj]
        by_cases e3 : (mailsL l u).length = 16
        · rw [if_pos (show ((mailsL l u).length : Int) = 16 by omega), if_pos rfl, if_pos (.inl e3)]
        · rw [if_neg (show ¬ ((mailsL l u).length : Int) = 16 by omega)]
          by_cases e4 : (mailsL l u).length = 0
          · rw [if_pos (show ((mailsL l u).length : Int) = 0 by omega)]
            by_cases e5 : l.length = 8
            · rw [show ((l.length : Int) == 8) = true from beq_iff_eq.2 (by omega), if_pos rfl, if_pos (.inr ⟨e4, e5⟩)]
            · rw [show ((l.length : Int) == 8) = false from beq_eq_false_iff_ne.2 (by omega), if_neg (by decide), if_neg (show ¬ ((mailsL l u).length = 16 ∨ (mailsL l u).length = 0 ∧ l.length = 8) by omega)]
              by_cases e6 : next = 4611686018427387903
              · rw [if_pos e6, if_pos e6]
              · rw [if_neg e6, if_neg e6]
          · rw [if_neg (show ¬ ((mailsL l u).length : Int) = 0 by omega), if_neg (by decide), if_neg (show ¬ ((mailsL l u).length = 16 ∨ (mailsL l u).length = 0 ∧ l.length = 8) by omega)]
            by_cases e6 : next = 4611686018427387903
            · rw [if_pos e6, if_pos e6]
            · rw [if_neg e6, if_neg e6]
  · rw [if_neg e, if_neg e]
theorem push_f (l : List S57) (hs : smallR l) (now next u : Int) (hx : 0 ≤ next ∧ next < 18446744073709551615) (s : ByteArray) (k : Nat) (hk : 500 ≤ k) : demurralref16_Push.f k l now next u s = some (pushL l now next u s, now, next + 1) := by
  have h10 := hs.1
  have h18 := mails_small hs u
  unfold demurralref16_Push.f pushL
  rw [Option.bind_some, mails_f l (by omega) now next u k (by omega), Option.bind_some, if_pos (by simp; omega), Option.bind_some, if_pos (by simp; omega), List.nil_append, with_f l (by omega) now next u _ k (by omega), Option.bind_some]
  congr 3
  show (next + 1) % 18446744073709551616 = next + 1
  omega
end Go.Proofs.Ytbmfcikjhnnnbaa.Q
