/- What may be pushed leaves a relay that may be.
   Conditions: the relay may be, and the mail may be pushed. -/
import Derived.Test.YtbmfcikjhnnnbaaHPure3
namespace Go.Proofs.Ytbmfcikjhnnnbaa.Q
open Go.RowKit Go.Proofs.YtbmfcikjhnnnbaaW.PrintWords Go.Proofs.YtbmfcikjhnnnbaaW.PrintLast Go.Proofs.YtbmfcikjhnnnbaaW.PrintMore
set_option linter.unusedVariables false
set_option linter.unusedSimpArgs false

theorem row_iff {now next : Int} {l : List S57} : rowB now next l = true ↔ (∀ b ∈ l, boxB now next b = true) ∧ l.Pairwise (fun a b => a.f0 < b.f0) := by
  constructor
  · intro h
    refine ⟨fun b hb => ?_, ?_⟩
    · obtain ⟨i, hi, rfl⟩ := List.getElem_of_mem hb
      unfold rowB at h
      have h2 := List.all_eq_true.1 h i (List.mem_range.2 hi)
      unfold okS at h2
      rw [rd57_nat l i hi] at h2
      exact (Bool.and_eq_true_iff.1 h2).1
    · rw [List.pairwise_iff_getElem]
      intro i j hi hj hij
      have := right_rises h j i hij hj
      rwa [rd57_nat l i hi, rd57_nat l j hj] at this
  · rintro ⟨h1, h2⟩
    refine rowB_yes fun i hi => ?_
    unfold okS
    rw [rd57_nat l i hi, h1 _ (List.getElem_mem hi), Bool.true_and]
    rcases Nat.eq_zero_or_pos i with h0 | h0
    · rw [decide_eq_true h0, Bool.true_or]
    · have h3 := List.pairwise_iff_getElem.1 h2 (i - 1) i (by omega) hi (by omega)
      rw [show ((i : Int) - 1) = ((i - 1 : Nat) : Int) by omega, rd57_nat l (i - 1) (by omega), decide_eq_true h3, Bool.or_true]
theorem okM_next {now next : Int} {l : List S54} {i : Nat} (h : okM now next l i = true) : okM now (next + 1) l i = true := by
  unfold okM at h ⊢
  rw [Bool.and_eq_true, Bool.and_eq_true, Bool.and_eq_true] at h ⊢
  refine ⟨h.1, h.2.1, decide_eq_true ?_, h.2.2.2⟩
  have := of_decide_eq_true h.2.2.1
  omega
theorem boxB_next {now next : Int} {b : S57} (h : boxB now next b = true) : boxB now (next + 1) b = true := by
  unfold boxB at h ⊢
  rw [Bool.and_eq_true] at h ⊢
  refine ⟨List.all_eq_true.2 fun i hi => okM_next (List.all_eq_true.1 h.1 i hi), h.2⟩
theorem box_okM {now next : Int} {b : S57} (h : boxB now next b = true) (i : Nat) (hi : i < b.f1.length) : okM now next b.f1 i = true := by
  unfold boxB at h
  exact List.all_eq_true.1 (Bool.and_eq_true_iff.1 h).1 i (List.mem_range.2 hi)
theorem okM_id {now next : Int} {l : List S54} {i : Nat} (h : okM now next l i = true) : (rd_T54 l (i : Int)).f0 < next := by
  unfold okM at h
  rw [Bool.and_eq_true, Bool.and_eq_true, Bool.and_eq_true] at h
  exact of_decide_eq_true h.2.2.1
theorem rd54_append {l : List S54} {m : S54} (i : Nat) (h : i < l.length) : rd_T54 (l ++ [m]) (i : Int) = rd_T54 l (i : Int) := by
  rw [rd54_nat _ i (by rw [List.length_append]; omega), rd54_nat _ i h, List.getElem_append_left h]
theorem rd54_last {l : List S54} {m : S54} : rd_T54 (l ++ [m]) (l.length : Int) = m := by
  rw [rd54_nat _ _ (by rw [List.length_append, List.length_singleton]; omega)]
  simp
theorem okM_append {now next : Int} {l : List S54} {m : S54} (i : Nat) (hi : i < l.length) : okM now next (l ++ [m]) i = okM now next l i := by
  unfold okM
  rw [rd54_append i hi, List.take_append_of_le_length (by omega)]
  rcases Nat.eq_zero_or_pos i with h0 | h0
  · rw [decide_eq_true h0, Bool.true_or, Bool.true_or]
  · rw [show ((i : Int) - 1) = ((i - 1 : Nat) : Int) by omega, rd54_append (i - 1) (by omega)]
/-- The user's mails with one more may be a box. -/
theorem box_more {now next u : Int} {old : List S54} {s : ByteArray} (h : old = [] ∨ ∃ b : S57, boxB now next b = true ∧ b.f1 = old) (hlen : old.length ≤ 15) (hs : s.size ≤ 1400) (hn : hasB old s = false) :
    boxB now (next + 1) { f0 := u, f1 := old ++ [{ f0 := next, f1 := s, f2 := now }] } = true := by
  have hok : ∀ i, i < old.length → okM now next old i = true := by
    rcases h with h | ⟨b, hb, rfl⟩
    · intro i hi; rw [h] at hi; cases hi
    · exact fun i hi => box_okM hb i hi
  unfold boxB
  rw [Bool.and_eq_true]
  refine ⟨List.all_eq_true.2 fun i hi => ?_, ?_⟩
  · have hi := List.mem_range.1 hi
    have hl : (old ++ [({ f0 := next, f1 := s, f2 := now } : S54)]).length = old.length + 1 := by rw [List.length_append, List.length_singleton]
    show okM now (next + 1) (old ++ [{ f0 := next, f1 := s, f2 := now }]) i = true
    by_cases e : i < old.length
    · rw [okM_append i e]
      exact okM_next (hok i e)
    · have e2 : i = old.length := by
        have : i < (old ++ [({ f0 := next, f1 := s, f2 := now } : S54)]).length := hi
        omega
      subst e2
      unfold okM
      rw [rd54_last, List.take_append_of_le_length (Nat.le_refl _), List.take_length]
      have h1 : (old.map fun p => txt p.f1).contains (txt s) = false := by
        cases hc : (old.map fun p => txt p.f1).contains (txt s) with
        | false => rfl
        | true =>
          rw [List.contains_iff_mem, List.mem_map] at hc
          obtain ⟨p, hp, he⟩ := hc
          obtain ⟨j, hj, rfl⟩ := List.getElem_of_mem hp
          have : hasB old s = true := hasB_yes j hj (by rw [rd54_nat old j hj]; exact beq_iff_eq.2 (txt_eq.2 he))
          rw [hn] at this
          cases this
      rw [h1, decide_eq_true (show (({ f0 := next, f1 := s, f2 := now } : S54)).f1.size ≤ 1400 from hs), decide_eq_true (show (({ f0 := next, f1 := s, f2 := now } : S54)).f0 < next + 1 from by show next < next + 1; omega), decide_eq_true (show (({ f0 := next, f1 := s, f2 := now } : S54)).f2 ≤ now from Int.le_refl _), decide_eq_true (show now - (({ f0 := next, f1 := s, f2 := now } : S54)).f2 ≤ 50 from by show now - now ≤ 50; omega)]
      rcases Nat.eq_zero_or_pos old.length with h0 | h0
      · rw [decide_eq_true h0]; rfl
      · have h2 : (rd_T54 (old ++ [({ f0 := next, f1 := s, f2 := now } : S54)]) ((old.length : Int) - 1)).f0 < next := by
          rw [show ((old.length : Int) - 1) = ((old.length - 1 : Nat) : Int) by omega, rd54_append _ (by omega)]
          exact okM_id (hok _ (by omega))
        rw [decide_eq_true (show (rd_T54 (old ++ [({ f0 := next, f1 := s, f2 := now } : S54)]) ((old.length : Int) - 1)).f0 < (({ f0 := next, f1 := s, f2 := now } : S54)).f0 from h2), Bool.or_true]
        rfl
  · show (decide (1 ≤ (old ++ [({ f0 := next, f1 := s, f2 := now } : S54)]).length) && decide ((old ++ [({ f0 := next, f1 := s, f2 := now } : S54)]).length ≤ 16)) = true
    rw [List.length_append, List.length_singleton, decide_eq_true (by omega), decide_eq_true (by omega)]
    rfl
theorem with_len {l : List S57} {u : Int} {ms : List S54} (h : Ord l) (hm : 0 < ms.length) : (withL l u ms).length = if (mailsL l u).length = 0 then l.length + 1 else l.length := by
  induction l with
  | nil => unfold withL; rw [if_pos hm]; rfl
  | cons b l ih =>
    obtain ⟨h1, h2⟩ := h
    rw [List.pairwise_cons] at h1
    have hl : Ord l := ⟨h1.2, fun c hc => h2 c (by simp [hc])⟩
    have hb := h2 b (by simp)
    rw [mails_cons]
    rcases Int.lt_trichotomy b.f0 u with hlt | heq | hgt
    · rw [with_lo _ hlt, List.length_cons, ih hl, if_neg (show ¬ b.f0 = u by omega)]
      split <;> simp
    · rw [with_eq _ heq (fun c hc => by have := h1.1 c hc; omega), if_pos hm, if_pos heq, if_neg (by omega)]
      simp
    · have ho : ∀ c ∈ b :: l, u < c.f0 := fun c hc => by rcases List.mem_cons.1 hc with rfl | hc; exact hgt; have := h1.1 c hc; omega
      rw [with_hi _ ho, if_pos hm, if_neg (show ¬ b.f0 = u by omega), find_none (fun c hc => by have := ho c (by simp [hc]); omega), if_pos (show ([] : List S54).length = 0 from rfl)]
      simp
theorem mem_with {l : List S57} {u : Int} {ms : List S54} {b : S57} (h : b ∈ withL l u ms) : b ∈ l ∨ (b = { f0 := u, f1 := ms }) := by
  unfold withL at h
  rcases List.mem_append.1 h with h | h
  · exact .inl (List.mem_filter.1 h).1
  · rcases List.mem_append.1 h with h | h
    · split at h
      · exact .inr (List.mem_singleton.1 h)
      · cases h
    · exact .inl (List.mem_filter.1 h).1
theorem rel_of {l : List S57} {now next : Int} (h1 : l.length ≤ 8) (h2 : now < 4611686018427387904) (h3 : next < 4611686018427387904) (h4 : rowB now next l = true) : relB l now next = true := by
  unfold relB
  rw [decide_eq_true h1, decide_eq_true h2, decide_eq_true h3, h4]
  rfl
/-- What may be pushed leaves a relay that may be; so does the next number. -/
theorem push_rel {l : List S57} {now next u : Int} {s : ByteArray} (h : whyL l now next u s = 0) :
    relB l now next = true ∧ relB l now (next + 1) = true ∧ relB (pushL l now next u s) now (next + 1) = true ∧ s.size ≤ 1400 := by
  unfold whyL at h
  split at h
  · rename_i hR
    split at h
    · cases h
    · rename_i hsz
      split at h
      · cases h
      · rename_i hha
        split at h
        · cases h
        · rename_i hfull
          split at h
          · cases h
          · rename_i hnx
            have hord := ord_of hR
            have hrow := row_iff.1 (rel_row hR)
            have h8 := rel_len hR
            have hnow := rel_now hR
            have hnext := rel_next hR
            have hold : mailsL l u = [] ∨ ∃ b : S57, boxB now next b = true ∧ b.f1 = mailsL l u := by
              rcases find_mem57 (l := l) (u := u) with h | ⟨b, hb, _, h⟩
              · exact .inl h
              · exact .inr ⟨b, hrow.1 b hb, h.symm⟩
            have hl16 : (mailsL l u).length ≤ 16 := by
              rcases hold with h | ⟨b, hb, h⟩
              · rw [h]; simp
              · rw [← h]
                unfold boxB at hb
                rw [Bool.and_eq_true, Bool.and_eq_true] at hb
                exact of_decide_eq_true hb.2.2
            have hbm := box_more (now := now) (next := next) (u := u) (s := s) hold (by omega) (by omega) (by simpa using hha)
            refine ⟨hR, rel_of h8 hnow (by omega) (row_iff.2 ⟨fun b hb => boxB_next (hrow.1 b hb), hrow.2⟩), ?_, by omega⟩
            have hlen : (pushL l now next u s).length ≤ 8 := by
              unfold pushL
              rw [with_len hord (by simp)]
              split <;> omega
            refine rel_of hlen hnow (by omega) (row_iff.2 ⟨fun b hb => ?_, (ord_with _ hord).1⟩)
            rcases mem_with hb with hb | rfl
            · exact boxB_next (hrow.1 b hb)
            · exact hbm
  · cases h
/-- What is pushed is taken away by its number. -/
theorem push_ack {l : List S57} {now next u : Int} {s : ByteArray} (h : relB l now next = true) : withoutL (ackB u next) (pushL l now next u s) = l ∧ anyL (ackB u next) (pushL l now next u s) = true := by
  have hord := ord_of h
  have hrow := row_iff.1 (rel_row h)
  have hp : Ord (pushL l now next u s) := ord_with _ hord
  have hm : mailsL (pushL l now next u s) u = mailsL l u ++ [{ f0 := next, f1 := s, f2 := now }] := mails_with_same hord (by simp)
  have hold : ∀ m ∈ mailsL l u, m.f0 < next := by
    rcases find_mem57 (l := l) (u := u) with h | ⟨b, hb, _, h⟩
    · rw [h]; intro m hm; cases hm
    · rw [h]
      intro m hm
      obtain ⟨i, hi, rfl⟩ := List.getElem_of_mem hm
      have := okM_id (box_okM (hrow.1 b hb) i hi)
      rwa [rd54_nat _ i hi] at this
  rw [ack_with u next hp, any_ack u next hp, hm]
  constructor
  · rw [List.filter_append]
    have e1 : (mailsL l u).filter (fun m => !(m.f0 == next)) = mailsL l u := List.filter_eq_self.2 fun m hm => by
      have := hold m hm
      rw [show (m.f0 == next) = false from beq_eq_false_iff_ne.2 (by omega)]
      rfl
    have e2 : ([({ f0 := next, f1 := s, f2 := now } : S54)].filter fun m => !(m.f0 == next)) = [] := by simp
    rw [e1, e2, List.append_nil]
    unfold pushL
    rw [with_with hord (by simp), with_self u hord]
  · rw [List.any_append]
    simp
theorem push_wf {l : List S57} {now next u : Int} {s : ByteArray} (hs : smallR l) (hwf : wfB l) (hz : s.size ≤ maxLen) (h0 : 0 ≤ now) : wfB (pushL l now next u s) := fun b hb => by
  rcases mem_with hb with hb | rfl
  · exact hwf b hb
  · have h18 := mails_small hs u
    have hml : ∀ m ∈ mailsL l u, m.f1.size ≤ maxLen ∧ 0 ≤ m.f2 := by
      rcases find_mem57 (l := l) (u := u) with h | ⟨b, hb, _, h⟩
      · rw [h]; intro m hm; cases hm
      · rw [h]; exact fun m hm => ⟨(hwf b hb).2.1 m hm, (hwf b hb).2.2 m hm⟩
    refine ⟨by show (mailsL l u ++ [_]).length ≤ 1000000; rw [List.length_append, List.length_singleton]; omega, fun m hm => ?_, fun m hm => ?_⟩
    · rcases List.mem_append.1 hm with hm | hm
      · exact (hml m hm).1
      · obtain rfl := List.mem_singleton.1 hm; exact hz
    · rcases List.mem_append.1 hm with hm | hm
      · exact (hml m hm).2
      · obtain rfl := List.mem_singleton.1 hm; exact h0
end Go.Proofs.Ytbmfcikjhnnnbaa.Q
