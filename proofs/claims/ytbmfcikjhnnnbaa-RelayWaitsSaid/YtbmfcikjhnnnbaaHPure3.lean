/- What Ack leaves is what With answers; what is pushed and then acknowledged is as before.
   Conditions: the relay may be. -/
import Derived.Test.YtbmfcikjhnnnbaaHFewAt
import Derived.Test.YtbmfcikjhnnnbaaHTick
namespace Go.Proofs.Ytbmfcikjhnnnbaa.Q
open Go.RowKit Go.Proofs.YtbmfcikjhnnnbaaW.PrintWords Go.Proofs.YtbmfcikjhnnnbaaW.PrintLast Go.Proofs.YtbmfcikjhnnnbaaW.PrintMore
set_option linter.unusedVariables false
set_option linter.unusedSimpArgs false

theorem withoutL_cons (p : S57 → S54 → Bool) (b : S57) (l : List S57) : withoutL p (b :: l) = (if 0 < (keepB p b).f1.length then [keepB p b] else []) ++ withoutL p l := by
  unfold withoutL
  rw [List.map_cons, List.filter_cons]
  by_cases h : 0 < (keepB p b).f1.length
  · rw [if_pos (decide_eq_true h), if_pos h]; rfl
  · rw [if_neg (by simpa using h), if_neg h]; rfl
/-- Boxes in order, none of them empty. -/
def Ord (l : List S57) : Prop := l.Pairwise (fun a b => a.f0 < b.f0) ∧ ∀ b ∈ l, 0 < b.f1.length
theorem ord_of {now next : Int} {l : List S57} (h : relB l now next = true) : Ord l := by
  have hr := rel_row h
  refine ⟨?_, fun b hb => ?_⟩
  · rw [List.pairwise_iff_getElem]
    intro i j hi hj hij
    have := right_rises hr j i hij hj
    rwa [rd57_nat l i hi, rd57_nat l j hj] at this
  · obtain ⟨i, hi, rfl⟩ := List.getElem_of_mem hb
    have := row_mails hr i hi
    rw [rd57_nat l i hi] at this
    omega
theorem keep_other {u id : Int} {b : S57} (h : b.f0 ≠ u) : keepB (ackB u id) b = b := by
  have e : (b.f1.filter fun m => !ackB u id b m) = b.f1 := List.filter_eq_self.2 fun m _ => by
    unfold ackB
    rw [show (b.f0 == u) = false from beq_eq_false_iff_ne.2 h]
    rfl
  unfold keepB
  rw [e]
theorem without_others {u id : Int} : ∀ {l : List S57}, (∀ b ∈ l, b.f0 ≠ u ∧ 0 < b.f1.length) → withoutL (ackB u id) l = l := by
  intro l
  induction l with
  | nil => intro _; rfl
  | cons b l ih =>
    intro h
    have hb := h b (by simp)
    rw [withoutL_cons, keep_other hb.1, if_pos hb.2, ih (fun c hc => h c (by simp [hc]))]
    rfl
theorem find_none {u : Int} {l : List S57} (h : ∀ b ∈ l, b.f0 ≠ u) : mailsL l u = [] := by
  unfold mailsL
  rw [List.find?_eq_none.2 (fun b hb => by simpa using h b hb)]
  rfl
theorem mails_cons (b : S57) (l : List S57) (u : Int) : mailsL (b :: l) u = if b.f0 = u then b.f1 else mailsL l u := by
  unfold mailsL
  rw [List.find?_cons]
  by_cases e : b.f0 = u
  · rw [if_pos e, show (b.f0 == u) = true from beq_iff_eq.2 e]; rfl
  · rw [if_neg e, show (b.f0 == u) = false from beq_eq_false_iff_ne.2 e]
theorem with_lo {b : S57} {l : List S57} {u : Int} (ms : List S54) (h : b.f0 < u) : withL (b :: l) u ms = b :: withL l u ms := by
  have e1 : (b :: l).filter (fun b => decide (b.f0 < u)) = b :: l.filter (fun b => decide (b.f0 < u)) := List.filter_cons_of_pos (decide_eq_true h)
  have e2 : (b :: l).filter (fun b => decide (u < b.f0)) = l.filter (fun b => decide (u < b.f0)) := List.filter_cons_of_neg (by simp; omega)
  unfold withL
  rw [e1, e2]
  rfl
theorem with_hi {l : List S57} {u : Int} (ms : List S54) (h : ∀ b ∈ l, u < b.f0) : withL l u ms = (if 0 < ms.length then [{ f0 := u, f1 := ms }] else []) ++ l := by
  unfold withL
  rw [List.filter_eq_nil_iff.2 (fun b hb => by have := h b hb; simp; omega), List.filter_eq_self.2 (fun b hb => decide_eq_true (h b hb)), List.nil_append]
theorem with_eq {b : S57} {l : List S57} {u : Int} (ms : List S54) (h0 : b.f0 = u) (h : ∀ c ∈ l, u < c.f0) : withL (b :: l) u ms = (if 0 < ms.length then [{ f0 := u, f1 := ms }] else []) ++ l := by
  have e1 : (b :: l).filter (fun b => decide (b.f0 < u)) = [] := List.filter_eq_nil_iff.2 (fun c hc => by
    rcases List.mem_cons.1 hc with rfl | hc
    · simp; omega
    · have := h c hc; simp; omega)
  have e2 : (b :: l).filter (fun b => decide (u < b.f0)) = l := (List.filter_cons_of_neg (by simp; omega)).trans (List.filter_eq_self.2 (fun b hb => decide_eq_true (h b hb)))
  unfold withL
  rw [e1, e2, List.nil_append]
theorem ack_with (u id : Int) : ∀ {l : List S57}, Ord l → withoutL (ackB u id) l = withL l u ((mailsL l u).filter fun m => !(m.f0 == id)) := by
  intro l
  induction l with
  | nil => intro _; simp [withoutL, withL, mailsL]
  | cons b l ih =>
    intro h
    obtain ⟨h1, h2⟩ := h
    rw [List.pairwise_cons] at h1
    have hl : Ord l := ⟨h1.2, fun c hc => h2 c (by simp [hc])⟩
    have hb := h2 b (by simp)
    rw [withoutL_cons, mails_cons]
    rcases Int.lt_trichotomy b.f0 u with hlt | heq | hgt
    · rw [if_neg (show ¬ b.f0 = u by omega), keep_other (by omega), if_pos hb, ih hl, with_lo _ hlt]
      rfl
    · have ho : ∀ c ∈ l, u < c.f0 := fun c hc => by have := h1.1 c hc; omega
      rw [if_pos heq, with_eq _ heq ho, without_others (fun c hc => ⟨by have := ho c hc; omega, hl.2 c hc⟩)]
      have hk : keepB (ackB u id) b = { f0 := u, f1 := b.f1.filter fun m => !(m.f0 == id) } := by
        unfold keepB ackB
        rw [show (b.f0 == u) = true from beq_iff_eq.2 heq, heq]
        simp
      rw [hk]
    · have ho : ∀ c ∈ b :: l, u < c.f0 := fun c hc => by
        rcases List.mem_cons.1 hc with rfl | hc
        · exact hgt
        · have := h1.1 c hc; omega
      rw [if_neg (show ¬ b.f0 = u by omega), keep_other (by omega), if_pos hb, without_others (fun c hc => ⟨by have := ho c (by simp [hc]); omega, hl.2 c hc⟩), find_none (fun c hc => by have := ho c (by simp [hc]); omega), List.filter_nil, with_hi _ ho]
      rfl
theorem any_ack (u id : Int) : ∀ {l : List S57}, Ord l → anyL (ackB u id) l = (mailsL l u).any fun m => m.f0 == id := by
  intro l
  induction l with
  | nil => intro _; rfl
  | cons b l ih =>
    intro h
    obtain ⟨h1, h2⟩ := h
    rw [List.pairwise_cons] at h1
    have hl : Ord l := ⟨h1.2, fun c hc => h2 c (by simp [hc])⟩
    rw [mails_cons]
    have hc : anyL (ackB u id) (b :: l) = (b.f1.any (ackB u id b) || anyL (ackB u id) l) := by unfold anyL; rw [List.any_cons]
    rw [hc, ih hl]
    by_cases heq : b.f0 = u
    · have ho : ∀ c ∈ l, c.f0 ≠ u := fun c hc => by have := h1.1 c hc; omega
      rw [if_pos heq, find_none ho, List.any_nil, Bool.or_false]
      congr 1
      funext m
      unfold ackB
      rw [show (b.f0 == u) = true from beq_iff_eq.2 heq, Bool.true_and]
    · rw [if_neg heq]
      have : b.f1.any (ackB u id b) = false := by
        rw [List.any_eq_false]
        intro m _
        unfold ackB
        rw [show (b.f0 == u) = false from beq_eq_false_iff_ne.2 heq]
        simp
      rw [this, Bool.false_or]
theorem any_len (l : List S54) (id : Int) : (l.any fun m => m.f0 == id) = true ↔ (l.filter fun m => !(m.f0 == id)).length ≠ l.length := by
  constructor
  · intro h e
    have h2 := List.length_filter_eq_length_iff.1 e
    obtain ⟨m, hm, he⟩ := List.any_eq_true.1 h
    have := h2 m hm
    simp [he] at this
  · intro h
    cases hb : l.any fun m => m.f0 == id with
    | true => rfl
    | false =>
      refine absurd (List.length_filter_eq_length_iff.2 fun m hm => ?_) h
      have := List.any_eq_false.1 hb m hm
      simpa using this
/-- What relay.Pull answers, by the user's mails. -/
theorem pull_mails {l : List S57} {now next u : Int} {e : Ending} {w' : World} (h : PullE l now next u e w') :
    (relB l now next = false ∧ e = .returned (.tuple #[.slice none 0 0, .int .i64 1])) ∨
    (relB l now next = true ∧ mailsL l u = [] ∧ e = .returned (.tuple #[.slice none 0 0, .int .i64 5])) ∨
    (relB l now next = true ∧ 0 < (mailsL l u).length ∧ ∃ A c, e = .returned (.tuple #[.slice A ((mailsL l u).take 5).length c, .int .i64 0]) ∧ ((mailsL l u).take 5).length ≤ c ∧ k54.C w' A ((mailsL l u).take 5).length ((mailsL l u).take 5)) := by
  rcases h with ⟨h, rfl⟩ | ⟨h, hn, rfl⟩ | ⟨h, i, x, A, c, hi, hx, hu, rfl, h1, h2⟩
  · exact .inl ⟨h, rfl⟩
  · refine .inr (.inl ⟨h, find_none fun b hb => ?_, rfl⟩)
    obtain ⟨k, hk, rfl⟩ := List.getElem_of_mem hb
    rw [← rd57_nat l k hk]
    exact hn k hk
  · have hm : mailsL l u = x.f1 := by
      have hr := rel_row h
      have hf : foundR l u i true := ⟨by omega, fun h0 => by have := right_rises hr i (i - 1) (by omega) hi; rw [hx] at this; omega, fun _ => by rw [hx]; omega, by rw [decide_eq_true hi, hx, hu]; simp⟩
      have := mails_at hr hf
      rw [if_pos rfl, hx] at this
      exact this
    have hp := (ord_of h).2 x (by rw [← hx]; exact rd57_mem l i hi)
    rw [hm]
    exact .inr (.inr ⟨h, hp, A, c, rfl, h1, h2⟩)
/-- The user's mails of a relay with other mails. -/
theorem mails_with_same {l : List S57} {u : Int} {ms : List S54} (h : Ord l) (hm : 0 < ms.length) : mailsL (withL l u ms) u = ms := by
  induction l with
  | nil => unfold withL; rw [if_pos hm]; rw [List.filter_nil, List.nil_append]; rw [List.singleton_append, mails_cons, if_pos rfl]
  | cons b l ih =>
    obtain ⟨h1, h2⟩ := h
    rw [List.pairwise_cons] at h1
    have hl : Ord l := ⟨h1.2, fun c hc => h2 c (by simp [hc])⟩
    rcases Int.lt_trichotomy b.f0 u with hlt | heq | hgt
    · rw [with_lo _ hlt, mails_cons, if_neg (by omega), ih hl]
    · rw [with_eq _ heq (fun c hc => by have := h1.1 c hc; omega), if_pos hm, List.singleton_append, mails_cons, if_pos rfl]
    · rw [with_hi _ (fun c hc => by rcases List.mem_cons.1 hc with rfl | hc; exact hgt; have := h1.1 c hc; omega), if_pos hm, List.singleton_append, mails_cons, if_pos rfl]
theorem mails_with_other {l : List S57} {u v : Int} (ms : List S54) (h : Ord l) (hv : v ≠ u) : mailsL (withL l u ms) v = mailsL l v := by
  have h0 : ∀ t : List S57, mailsL ((if 0 < ms.length then [{ f0 := u, f1 := ms }] else []) ++ t) v = mailsL t v := fun t => by
    split
    · rw [List.singleton_append, mails_cons, if_neg (fun e => hv e.symm)]
    · rfl
  induction l with
  | nil => unfold withL; rw [List.filter_nil, List.nil_append, List.filter_nil, h0]
  | cons b l ih =>
    obtain ⟨h1, h2⟩ := h
    rw [List.pairwise_cons] at h1
    have hl : Ord l := ⟨h1.2, fun c hc => h2 c (by simp [hc])⟩
    rcases Int.lt_trichotomy b.f0 u with hlt | heq | hgt
    · rw [with_lo _ hlt, mails_cons, mails_cons, ih hl]
    · rw [with_eq _ heq (fun c hc => by have := h1.1 c hc; omega), h0, mails_cons, if_neg (by omega)]
    · rw [with_hi _ (fun c hc => by rcases List.mem_cons.1 hc with rfl | hc; exact hgt; have := h1.1 c hc; omega), h0]
theorem with_with {l : List S57} {u : Int} {ms ns : List S54} (h : Ord l) (hm : 0 < ms.length) : withL (withL l u ms) u ns = withL l u ns := by
  induction l with
  | nil =>
    have e : withL ([] : List S57) u ms = { f0 := u, f1 := ms } :: [] := by unfold withL; rw [if_pos hm]; rfl
    rw [e, with_eq _ rfl (fun c hc => by cases hc), with_hi _ (fun c hc => by cases hc)]
  | cons b l ih =>
    obtain ⟨h1, h2⟩ := h
    rw [List.pairwise_cons] at h1
    have hl : Ord l := ⟨h1.2, fun c hc => h2 c (by simp [hc])⟩
    rcases Int.lt_trichotomy b.f0 u with hlt | heq | hgt
    · rw [with_lo _ hlt, with_lo _ hlt, with_lo _ hlt, ih hl]
    · have ho : ∀ c ∈ l, u < c.f0 := fun c hc => by have := h1.1 c hc; omega
      rw [with_eq _ heq ho, with_eq _ heq ho, if_pos hm, List.singleton_append, with_eq _ rfl ho]
    · have ho : ∀ c ∈ b :: l, u < c.f0 := fun c hc => by rcases List.mem_cons.1 hc with rfl | hc; exact hgt; have := h1.1 c hc; omega
      rw [with_hi ms ho, with_hi ns ho, if_pos hm, List.singleton_append, with_eq _ rfl ho]
theorem with_self {l : List S57} (u : Int) (h : Ord l) : withL l u (mailsL l u) = l := by
  induction l with
  | nil => rfl
  | cons b l ih =>
    obtain ⟨h1, h2⟩ := h
    rw [List.pairwise_cons] at h1
    have hl : Ord l := ⟨h1.2, fun c hc => h2 c (by simp [hc])⟩
    rw [mails_cons]
    rcases Int.lt_trichotomy b.f0 u with hlt | heq | hgt
    · rw [if_neg (by omega), with_lo _ hlt, ih hl]
    · rw [if_pos heq, with_eq _ heq (fun c hc => by have := h1.1 c hc; omega), if_pos (h2 b (by simp))]
      rw [← heq]
      rfl
    · have ho : ∀ c ∈ b :: l, u < c.f0 := fun c hc => by rcases List.mem_cons.1 hc with rfl | hc; exact hgt; have := h1.1 c hc; omega
      rw [if_neg (by omega), find_none (fun c hc => by have := ho c (by simp [hc]); omega), with_hi _ ho]
      rfl
theorem ord_with {l : List S57} {u : Int} (ms : List S54) (h : Ord l) : Ord (withL l u ms) := by
  induction l with
  | nil =>
    unfold withL
    rw [List.filter_nil, List.nil_append, List.filter_nil, List.append_nil]
    split
    · exact ⟨List.pairwise_singleton _ _, fun b hb => by obtain rfl := List.mem_singleton.1 hb; assumption⟩
    · exact ⟨List.Pairwise.nil, fun b hb => by cases hb⟩
  | cons b l ih =>
    have h0 := h
    obtain ⟨h1, h2⟩ := h
    rw [List.pairwise_cons] at h1
    have hl : Ord l := ⟨h1.2, fun c hc => h2 c (by simp [hc])⟩
    have hput : ∀ t : List S57, Ord t → (∀ c ∈ t, u < c.f0) → Ord ((if 0 < ms.length then [{ f0 := u, f1 := ms }] else []) ++ t) := fun t ht ho => by
      split
      · refine ⟨List.pairwise_cons.2 ⟨fun c hc => ho c hc, ht.1⟩, fun c hc => ?_⟩
        rcases List.mem_cons.1 hc with rfl | hc
        · assumption
        · exact ht.2 c hc
      · exact ht
    rcases Int.lt_trichotomy b.f0 u with hlt | heq | hgt
    · rw [with_lo _ hlt]
      have hi := ih hl
      refine ⟨List.pairwise_cons.2 ⟨fun c hc => ?_, hi.1⟩, fun c hc => ?_⟩
      · unfold withL at hc
        rcases List.mem_append.1 hc with hc | hc
        · exact h1.1 c (List.mem_filter.1 hc).1
        · rcases List.mem_append.1 hc with hc | hc
          · split at hc
            · obtain rfl := List.mem_singleton.1 hc; exact hlt
            · cases hc
          · exact h1.1 c (List.mem_filter.1 hc).1
      · rcases List.mem_cons.1 hc with rfl | hc
        · exact h2 _ (by simp)
        · exact hi.2 c hc
    · have ho : ∀ c ∈ l, u < c.f0 := fun c hc => by have := h1.1 c hc; omega
      rw [with_eq _ heq ho]
      exact hput l hl ho
    · have ho : ∀ c ∈ b :: l, u < c.f0 := fun c hc => by rcases List.mem_cons.1 hc with rfl | hc; exact hgt; have := h1.1 c hc; omega
      rw [with_hi _ ho]
      exact hput _ h0 ho
theorem withoutL_small {l : List S57} (hs : smallR l) (p : S57 → S54 → Bool) : (withoutL p l).length ≤ 1000 ∧ ∀ x ∈ withoutL p l, x.f1.length ≤ 1000 := by
  have h10 := hs.1
  have hl := withoutL_le p l
  refine ⟨by omega, fun x hx => ?_⟩
  obtain ⟨y, hy, rfl⟩ := List.mem_map.1 (List.mem_filter.1 hx).1
  have := (hs.2 y hy).1
  have h2 := List.length_filter_le (fun m => !p y m) y.f1
  show (y.f1.filter fun m => !p y m).length ≤ 1000
  omega
end Go.Proofs.Ytbmfcikjhnnnbaa.Q
