/- The reference's Right, Same, MailsSame, by values; a user's mails, a relay with other mails, as lists.
   Conditions: at most ten boxes, of at most 18 mails each. -/
import Derived.Test.YtbmfcikjhnnnbaaHAll
import Derived.Test.YtbmfcikjhnnnbaaHLike
import Derived.Test.YtbmfcikjhnnnbaaQx111
import Derived.Test.YtbmfcikjhnnnbaaQx113
import Derived.Test.YtbmfcikjhnnnbaaHPush
namespace Go.Proofs.Ytbmfcikjhnnnbaa.Q
open Go.RowKit Go.Proofs.YtbmfcikjhnnnbaaW.PrintWords Go.Proofs.YtbmfcikjhnnnbaaW.PrintLast Go.Proofs.YtbmfcikjhnnnbaaW.PrintMore
set_option linter.unusedVariables false
set_option linter.unusedSimpArgs false

theorem nx (i : Nat) (h : i ≤ 1000000) : wrap64 ((i : Int) + 1) = ((i + 1 : Nat) : Int) := (wrap_in' _ (by omega) (by omega)).trans (by omega)
theorem u64_sub {a b : Int} (h0 : 0 ≤ b) (h1 : b ≤ a) (h2 : a ≤ 18446744073709551615) : IntKind.u64.wrap (a - b) = a - b := by
  show (a - b) % 18446744073709551616 = a - b
  omega
theorem rd54_mem (l : List S54) (i : Nat) (h : i < l.length) : rd_T54 l (i : Int) ∈ l := by rw [rd54_nat l i h]; exact List.getElem_mem h
theorem rd54_take (l : List S54) (i t : Nat) (h : t < i) (hi : i ≤ l.length) : rd_T54 (l.take i) (t : Int) = rd_T54 l (t : Int) := by
  rw [rd54_nat _ t (by rw [List.length_take]; omega), rd54_nat l t (by omega), List.getElem_take]
def mailB (now next : Int) (m : S54) : Bool := decide (m.f1.size ≤ 1400) && (decide (m.f0 < next) && (decide (m.f2 ≤ now) && decide (now - m.f2 ≤ 50)))
theorem mail_f (l : List S57) (now next : Int) (m : S54) (h0 : 0 ≤ m.f2) (hn : now ≤ 18446744073709551615) : demurralref16_mail.f l now next m.f0 m.f1 m.f2 = some (mailB now next m) := by
  unfold demurralref16_mail.f mailB
  by_cases e0 : (m.f1.size : Int) ≤ 1400
  · rw [if_pos e0, decide_eq_true (show m.f1.size ≤ 1400 by omega), Bool.true_and]
    by_cases e1 : m.f0 < next
    · rw [if_pos e1, decide_eq_true e1, Bool.true_and]
      by_cases e2 : m.f2 ≤ now
      · rw [if_pos e2, decide_eq_true e2, Bool.true_and, u64_sub h0 e2 hn]
      · rw [if_neg e2, decide_eq_false e2, Bool.false_and]
    · rw [if_neg e1, decide_eq_false e1, Bool.false_and]
  · rw [if_neg e0, decide_eq_false (show ¬ m.f1.size ≤ 1400 by omega), Bool.false_and]
/-- Stands a mail behind another one? -/
def behB (a b : S54) : Bool := decide (a.f0 < b.f0) && !(a.f1.toList == b.f1.toList)
theorem box_l1 (l : List S54) (y : List S54) (hl : y.length ≤ 1000000) (K : List S57) (now next i u : Int) (b : S54) : ∀ (m k j : Nat), j + m = y.length → m < k →
    demurralref16_box.l1 k l (l.length : Int) i y (y.length : Int) (j : Int) K now next u l b.f0 b.f1 b.f2 = if (List.range' j m).all (fun t => behB (rd_T54 y (t : Int)) b) then demurralref16_box.l0 (k - m - 1) l (l.length : Int) (wrap64 (i + 1)) K now next u l else some false := by
  intro m
  induction m with
  | zero =>
    intro k j hj hk
    obtain ⟨k, rfl⟩ : ∃ k', k = k' + 1 := ⟨k - 1, by omega⟩
    rw [demurralref16_box.l1, if_neg (by omega)]
    rfl
  | succ m ih =>
    intro k j hj hk
    obtain ⟨k, rfl⟩ : ∃ k', k = k' + 1 := ⟨k - 1, by omega⟩
    rw [demurralref16_box.l1, if_pos (by omega), if_pos (by omega), if_pos (by omega), List.range'_succ, List.all_cons]
    unfold behB
    by_cases e : (rd_T54 y (j : Int)).f0 ≥ b.f0
    · rw [if_pos e, decide_eq_false (show ¬ (rd_T54 y (j : Int)).f0 < b.f0 by omega), Bool.false_and, Bool.false_and, if_neg (by decide)]
    · rw [if_neg e, decide_eq_true (show (rd_T54 y (j : Int)).f0 < b.f0 by omega), Bool.true_and]
      by_cases e2 : (rd_T54 y (j : Int)).f1.toList = b.f1.toList
      · rw [if_pos e2, show ((rd_T54 y (j : Int)).f1.toList == b.f1.toList) = true from beq_iff_eq.2 e2, Bool.not_true, Bool.false_and, if_neg (by decide)]
      · rw [if_neg e2, show ((rd_T54 y (j : Int)).f1.toList == b.f1.toList) = false from beq_eq_false_iff_ne.2 e2, Bool.not_false, Bool.true_and, nx j (by omega), ih k (j + 1) (by omega) (by omega), show k + 1 - (m + 1) - 1 = k - m - 1 by omega]
        unfold behB
        rfl
def refOk (now next : Int) (l : List S54) (j : Nat) : Bool := mailB now next (rd_T54 l (j : Int)) && (List.range' 0 j).all fun t => behB (rd_T54 l (t : Int)) (rd_T54 l (j : Int))
theorem box_l0 (l : List S54) (hl : l.length ≤ 1000000) (h0 : ∀ m ∈ l, 0 ≤ m.f2) (K : List S57) (now next u : Int) (hn : now ≤ 18446744073709551615) : ∀ (m k i : Nat), i + m = l.length → m * (l.length + 2) < k →
    demurralref16_box.l0 k l (l.length : Int) (i : Int) K now next u l = some (((List.range' i m).all fun j => refOk now next l j) && (decide (1 ≤ l.length) && decide (l.length ≤ 16))) := by
  intro m
  induction m with
  | zero =>
    intro k i hi hk
    obtain ⟨k, rfl⟩ : ∃ k', k = k' + 1 := ⟨k - 1, by omega⟩
    rw [demurralref16_box.l0, if_neg (by omega)]
    show _ = some (true && _)
    rw [Bool.true_and]
    by_cases e : (l.length : Int) ≥ 1
    · rw [if_pos e, decide_eq_true (show 1 ≤ l.length by omega), Bool.true_and]
      congr 1
      by_cases e2 : l.length ≤ 16
      · rw [decide_eq_true e2, decide_eq_true (by omega)]
      · rw [decide_eq_false e2, decide_eq_false (by omega)]
    · rw [if_neg e, decide_eq_false (show ¬ 1 ≤ l.length by omega), Bool.false_and]
  | succ m ih =>
    intro k i hi hk
    rw [Nat.add_mul] at hk
    obtain ⟨k, rfl⟩ : ∃ k', k = k' + 1 := ⟨k - 1, by omega⟩
    have hli : (l.take i).length = i := by rw [List.length_take]; omega
    rw [demurralref16_box.l0, if_pos (by omega), if_pos (by omega), if_pos (by omega), mail_f K now next _ (h0 _ (rd54_mem l i (by omega))) hn, Option.bind_some, List.range'_succ, List.all_cons]
    cases hm : mailB now next (rd_T54 l (i : Int)) with
    | false =>
      rw [if_neg (by decide)]
      unfold refOk
      rw [hm, Bool.false_and, Bool.false_and, Bool.false_and]
    | true =>
      rw [if_pos rfl, if_pos (by omega), Option.bind_some, Int.toNat_natCast]
      show demurralref16_box.l1 k l (l.length : Int) (i : Int) (l.take i) ((l.take i).length : Int) ((0 : Nat) : Int) K now next u l _ _ _ = _
      rw [box_l1 l (l.take i) (by omega) K now next (i : Int) u (rd_T54 l (i : Int)) (l.take i).length k 0 (by omega) (by omega), hli, nx i (by omega)]
      have hq : (List.range' 0 i).all (fun t => behB (rd_T54 (l.take i) (t : Int)) (rd_T54 l (i : Int))) = (List.range' 0 i).all (fun t => behB (rd_T54 l (t : Int)) (rd_T54 l (i : Int))) := by
        rw [Bool.eq_iff_iff]
        simp only [List.all_eq_true, List.mem_range'_1]
        constructor
        · intro h t ht
          rw [← rd54_take l i t (by omega) (by omega)]
          exact h t ht
        · intro h t ht
          rw [rd54_take l i t (by omega) (by omega)]
          exact h t ht
      rw [hq]
      have hro : refOk now next l i = (List.range' 0 i).all (fun t => behB (rd_T54 l (t : Int)) (rd_T54 l (i : Int))) := by unfold refOk; rw [hm, Bool.true_and]
      rw [hro]
      cases h : (List.range' 0 i).all (fun t => behB (rd_T54 l (t : Int)) (rd_T54 l (i : Int))) with
      | false => rw [if_neg (by decide), Bool.false_and, Bool.false_and]
      | true => rw [if_pos rfl, Bool.true_and, ih _ (i + 1) (by omega) (by omega)]
theorem txt_eq {a b : ByteArray} : a.toList = b.toList ↔ txt a = txt b := by rw [ByteArray.toList_eq, ByteArray.toList_eq]
theorem box_same (now next : Int) (l : List S54) : ((List.range l.length).all fun i => okM now next l i) = (List.range' 0 l.length).all fun j => refOk now next l j := by
  rw [← List.range_eq_range', Bool.eq_iff_iff]
  simp only [List.all_eq_true, List.mem_range]
  have hun : ∀ i : Nat, i < l.length → ((!((l.take i).map (fun p => txt p.f1)).contains (txt (rd_T54 l (i : Int)).f1)) = true ↔ ∀ t, t < i → ¬ txt (rd_T54 l (t : Int)).f1 = txt (rd_T54 l (i : Int)).f1) := by
    intro i hi
    rw [Bool.not_eq_true', ← Bool.not_eq_true, List.contains_iff_mem, List.mem_map]
    constructor
    · intro h t ht e
      exact h ⟨rd_T54 l (t : Int), by rw [← rd54_take l i t ht (by omega)]; exact rd54_mem _ t (by rw [List.length_take]; omega), e⟩
    · rintro h ⟨p, hp, e⟩
      obtain ⟨t, ht, rfl⟩ := List.getElem_of_mem hp
      have ht' : t < i := by rw [List.length_take] at ht; omega
      rw [← rd54_nat _ t ht, rd54_take l i t ht' (by omega)] at e
      exact h t ht' e
  constructor
  · intro h
    have hok : ∀ i, i < l.length → (∀ t, t < i → ¬ txt (rd_T54 l (t : Int)).f1 = txt (rd_T54 l (i : Int)).f1) ∧ (i = 0 ∨ (rd_T54 l ((i : Int) - 1)).f0 < (rd_T54 l (i : Int)).f0) ∧ mailB now next (rd_T54 l (i : Int)) = true := by
      intro i hi
      have h1 := h i hi
      unfold okM at h1
      rw [Bool.and_eq_true, Bool.and_eq_true, Bool.and_eq_true, Bool.and_eq_true, Bool.or_eq_true] at h1
      obtain ⟨a, b, c, d, e⟩ := h1
      refine ⟨(hun i hi).1 a, ?_, ?_⟩
      · rcases d with d | d
        · exact .inl (of_decide_eq_true d)
        · exact .inr (of_decide_eq_true d)
      · unfold mailB
        rw [b, c, e]
        rfl
    have hasc : ∀ j i : Nat, i < j → j < l.length → (rd_T54 l (i : Int)).f0 < (rd_T54 l (j : Int)).f0 := by
      intro j
      induction j with
      | zero => intro i h; omega
      | succ j ih =>
        intro i h1 h2
        rcases (hok (j + 1) h2).2.1 with h3 | h3
        · omega
        · rw [show (((j + 1 : Nat) : Int) - 1) = (j : Int) by omega] at h3
          by_cases e : i = j
          · subst e; exact h3
          · have := ih i (by omega) (by omega)
            omega
    intro j hj
    unfold refOk
    rw [(hok j hj).2.2, Bool.true_and, List.all_eq_true]
    intro t ht
    rw [List.mem_range'_1] at ht
    unfold behB
    rw [decide_eq_true (hasc j t (by omega) hj), Bool.true_and, Bool.not_eq_true', beq_eq_false_iff_ne]
    exact fun e => (hok j hj).1 t (by omega) (txt_eq.1 e)
  · intro h i hi
    have h1 := h i hi
    unfold refOk at h1
    rw [Bool.and_eq_true, List.all_eq_true] at h1
    obtain ⟨hm, hb⟩ := h1
    have hb' : ∀ t, t < i → (rd_T54 l (t : Int)).f0 < (rd_T54 l (i : Int)).f0 ∧ ¬ txt (rd_T54 l (t : Int)).f1 = txt (rd_T54 l (i : Int)).f1 := by
      intro t ht
      have := hb t (by rw [List.mem_range'_1]; omega)
      unfold behB at this
      rw [Bool.and_eq_true, Bool.not_eq_true', beq_eq_false_iff_ne] at this
      exact ⟨of_decide_eq_true this.1, fun e => this.2 (txt_eq.2 e)⟩
    unfold mailB at hm
    rw [Bool.and_eq_true, Bool.and_eq_true] at hm
    obtain ⟨a, b, c⟩ := hm
    unfold okM
    rw [(hun i hi).2 (fun t ht => (hb' t ht).2), a, b, c]
    rw [Bool.true_and, Bool.true_and, Bool.true_and, Bool.and_true, Bool.or_eq_true]
    rcases Nat.eq_zero_or_pos i with h0 | h0
    · exact .inl (decide_eq_true h0)
    · right
      rw [show ((i : Int) - 1) = ((i - 1 : Nat) : Int) by omega]
      exact decide_eq_true (hb' (i - 1) (by omega)).1
theorem box_f (K : List S57) (now next : Int) (x : S57) (hl : x.f1.length ≤ 1000000) (h0 : ∀ m ∈ x.f1, 0 ≤ m.f2) (hn : now ≤ 18446744073709551615) (k : Nat) (hk : x.f1.length * (x.f1.length + 2) < k) : demurralref16_box.f k K now next x.f0 x.f1 = some (boxB now next x) := by
  unfold demurralref16_box.f boxB
  rw [show (0 : Int) = ((0 : Nat) : Int) from rfl, box_l0 x.f1 hl h0 K now next x.f0 hn x.f1.length k 0 (by omega) hk, box_same]
/-- What few gives: at most ten boxes, of at most 18 mails. -/
def smallR (l : List S57) : Prop := l.length ≤ 10 ∧ ∀ b ∈ l, b.f1.length ≤ 18 ∧ (∀ m ∈ b.f1, m.f1.size ≤ maxLen) ∧ ∀ m ∈ b.f1, 0 ≤ m.f2
theorem right_l0 (l : List S57) (hs : ∀ b ∈ l, b.f1.length ≤ 18 ∧ ∀ m ∈ b.f1, 0 ≤ m.f2) (hl : l.length ≤ 1000000) (now next : Int) (hn : now ≤ 18446744073709551615) : ∀ (m k i : Nat), i + m = l.length → m + 400 < k →
    demurralref16_Right.l0 k l (l.length : Int) (i : Int) l now next = some (((List.range' i m).all fun j => okS now next l j) && (decide (l.length ≤ 8) && (decide (now < 4611686018427387904) && decide (next < 4611686018427387904)))) := by
  intro m
  induction m with
  | zero =>
    intro k i hi hk
    obtain ⟨k, rfl⟩ : ∃ k', k = k' + 1 := ⟨k - 1, by omega⟩
    rw [demurralref16_Right.l0, if_neg (by omega)]
    show _ = some (true && _)
    rw [Bool.true_and]
    by_cases e : (l.length : Int) ≤ 8
    · rw [if_pos e, decide_eq_true (show l.length ≤ 8 by omega), Bool.true_and]
      by_cases e2 : now < 4611686018427387904
      · rw [if_pos e2, decide_eq_true e2, Bool.true_and]
      · rw [if_neg e2, decide_eq_false e2, Bool.false_and]
    · rw [if_neg e, decide_eq_false (show ¬ l.length ≤ 8 by omega), Bool.false_and]
  | succ m ih =>
    intro k i hi hk
    obtain ⟨k, rfl⟩ : ∃ k', k = k' + 1 := ⟨k - 1, by omega⟩
    have hx := hs _ (rd57_mem l i (by omega))
    have hsq : (rd_T57 l (i : Int)).f1.length * ((rd_T57 l (i : Int)).f1.length + 2) ≤ 18 * 20 := Nat.mul_le_mul hx.1 (by omega)
    rw [demurralref16_Right.l0, if_pos (by omega), if_pos (by omega), if_pos (by omega), box_f l now next _ (by omega) hx.2 hn k (by omega), Option.bind_some, List.range'_succ, List.all_cons]
    unfold okS
    cases hb : boxB now next (rd_T57 l (i : Int)) with
    | false => rw [if_neg (by decide), Bool.false_and, Bool.false_and, Bool.false_and]
    | true =>
      rw [if_pos rfl, Bool.true_and]
      by_cases e0 : i = 0
      · rw [if_neg (by omega), decide_eq_true e0, Bool.true_or, Bool.true_and, nx i (by omega), ih k (i + 1) (by omega) (by omega)]
        unfold okS
        rfl
      · rw [if_pos (by omega), wrap_in' ((i : Int) - 1) (by omega) (by omega), if_pos (by omega), if_pos (by omega), decide_eq_false e0, Bool.false_or]
        by_cases e1 : (rd_T57 l ((i : Int) - 1)).f0 ≥ (rd_T57 l (i : Int)).f0
        · rw [if_pos e1, decide_eq_false (show ¬ (rd_T57 l ((i : Int) - 1)).f0 < (rd_T57 l (i : Int)).f0 by omega), Bool.false_and, Bool.false_and]
        · rw [if_neg e1, decide_eq_true (show (rd_T57 l ((i : Int) - 1)).f0 < (rd_T57 l (i : Int)).f0 by omega), Bool.true_and, nx i (by omega), ih k (i + 1) (by omega) (by omega)]
          unfold okS
          rfl
theorem right_f (l : List S57) (hs : smallR l) (now next : Int) (hn : now ≤ 18446744073709551615) (k : Nat) (hk : 500 ≤ k) : demurralref16_Right.f k l now next = some (relB l now next) := by
  unfold demurralref16_Right.f relB
  have := hs.1
  rw [show (0 : Int) = ((0 : Nat) : Int) from rfl, right_l0 l (fun b hb => ⟨(hs.2 b hb).1, (hs.2 b hb).2.2⟩) (by omega) now next hn l.length k 0 (by omega) (by omega), ← List.range_eq_range', Bool.and_comm]
  rfl
theorem small_wf {l : List S57} (h : smallR l) : wfB l := fun s hs => by
  obtain ⟨a, b, c⟩ := h.2 s hs
  exact ⟨by omega, b, c⟩
theorem mailsame_l0 (a b : List S54) (hl : a.length = b.length) (hb : a.length ≤ 1000000) : ∀ (m k i : Nat), i + m = a.length → m < k →
    demurralref16_MailsSame.l0 k a b (a.length : Int) (i : Int) = some ((List.range' i m).all fun j => eqM (rd_T54 a (j : Int)) (rd_T54 b (j : Int))) := by
  intro m
  induction m with
  | zero =>
    intro k i hi hk
    obtain ⟨k, rfl⟩ : ∃ k', k = k' + 1 := ⟨k - 1, by omega⟩
    rw [demurralref16_MailsSame.l0, if_neg (by omega)]
    rfl
  | succ m ih =>
    intro k i hi hk
    obtain ⟨k, rfl⟩ : ∃ k', k = k' + 1 := ⟨k - 1, by omega⟩
    rw [demurralref16_MailsSame.l0, if_pos (by omega), if_pos (by omega), if_pos (by omega), if_pos (by omega), List.range'_succ, List.all_cons, nx i (by omega), ih k (i + 1) (by omega) (by omega)]
    unfold eqM
    cases ((rd_T54 a (i : Int)).f0 == (rd_T54 b (i : Int)).f0) <;> cases ((rd_T54 a (i : Int)).f1.toList == (rd_T54 b (i : Int)).f1.toList) <;> cases ((rd_T54 a (i : Int)).f2 == (rd_T54 b (i : Int)).f2) <;> rfl
theorem mailsame_f (a b : List S54) (hb : a.length ≤ 1000000) (k : Nat) (hk : a.length < k) : demurralref16_MailsSame.f k a b = some (mailsB a b) := by
  unfold demurralref16_MailsSame.f mailsB
  by_cases e : (a.length : Int) = (b.length : Int)
  · rw [if_pos e, decide_eq_true (show a.length = b.length by omega), Bool.true_and, show (0 : Int) = ((0 : Nat) : Int) from rfl, mailsame_l0 a b (by omega) hb a.length k 0 (by omega) hk, List.range_eq_range']
  · rw [if_neg e, decide_eq_false (show ¬ a.length = b.length by omega), Bool.false_and]
theorem same_l0 (a b : List S57) (n0 x0 n1 x1 : Int) (hl : a.length = b.length) (hb : a.length ≤ 1000000) (hm : ∀ x ∈ a, x.f1.length ≤ 1000) : ∀ (m k i : Nat), i + m = a.length → m + 1001 < k →
    demurralref16_Same.l0 k (a.length : Int) (i : Int) a n0 x0 b n1 x1 = some ((List.range' i m).all fun j => oneB (rd_T57 a (j : Int)) (rd_T57 b (j : Int))) := by
  intro m
  induction m with
  | zero =>
    intro k i hi hk
    obtain ⟨k, rfl⟩ : ∃ k', k = k' + 1 := ⟨k - 1, by omega⟩
    rw [demurralref16_Same.l0, if_neg (by omega)]
    rfl
  | succ m ih =>
    intro k i hi hk
    obtain ⟨k, rfl⟩ : ∃ k', k = k' + 1 := ⟨k - 1, by omega⟩
    have hx := hm _ (rd57_mem a i (by omega))
    rw [demurralref16_Same.l0, if_pos (by omega), if_pos (by omega), if_pos (by omega), if_pos (by omega), List.range'_succ, List.all_cons]
    unfold oneB
    by_cases e : (rd_T57 a (i : Int)).f0 = (rd_T57 b (i : Int)).f0
    · rw [if_pos e, mailsame_f _ _ (by omega) k (by omega), Option.bind_some, show ((rd_T57 a (i : Int)).f0 == (rd_T57 b (i : Int)).f0) = true from beq_iff_eq.2 e, Bool.true_and, nx i (by omega), ih k (i + 1) (by omega) (by omega)]
      cases mailsB (rd_T57 a (i : Int)).f1 (rd_T57 b (i : Int)).f1
      · rfl
      · rw [if_pos rfl, Bool.true_and]
        unfold oneB
        rfl
    · rw [if_neg e, show ((rd_T57 a (i : Int)).f0 == (rd_T57 b (i : Int)).f0) = false from beq_eq_false_iff_ne.2 e, Bool.false_and, Bool.false_and]
theorem same_f (a b : List S57) (n0 x0 n1 x1 : Int) (hb : a.length ≤ 1000) (hm : ∀ x ∈ a, x.f1.length ≤ 1000) (k : Nat) (hk : 3000 ≤ k) : demurralref16_Same.f k a n0 x0 b n1 x1 = some (likeB a b n0 x0 n1 x1) := by
  obtain ⟨k, rfl⟩ : ∃ k', k = k' + 1 := ⟨k - 1, by omega⟩
  have hj : ∀ c : Bool, demurralref16_Same.j0 (k + 1) c a n0 x0 b n1 x1 = if c = true then some false else demurralref16_Same.l0 k (a.length : Int) 0 a n0 x0 b n1 x1 := fun c => by rw [demurralref16_Same.j0]
  unfold demurralref16_Same.f likeB sameB
  rw [hj, hj]
  by_cases e : (a.length : Int) = (b.length : Int)
  · rw [if_pos e, decide_eq_true (show a.length = b.length by omega), Bool.true_and, show (0 : Int) = ((0 : Nat) : Int) from rfl, same_l0 a b n0 x0 n1 x1 (by omega) (by omega) hm a.length k 0 (by omega) (by omega), List.range_eq_range']
    by_cases e1 : n0 = n1
    · rw [if_pos e1, show (n0 == n1) = true from beq_iff_eq.2 e1, Bool.true_and]
      by_cases e2 : x0 = x1
      · subst e2
        simp
      · rw [show (x0 == x1) = false from beq_eq_false_iff_ne.2 e2, Bool.and_false, show (x0 != x1) = true from bne_iff_ne.2 e2, if_pos rfl]
    · rw [if_neg e1, show (n0 == n1) = false from beq_eq_false_iff_ne.2 e1, Bool.false_and, Bool.and_false, if_pos rfl]
  · rw [if_neg e, decide_eq_false (show ¬ a.length = b.length by omega), Bool.false_and, Bool.false_and, if_pos rfl]
/-- A user's mails. -/
def mailsL (l : List S57) (u : Int) : List S54 := ((l.find? fun b => b.f0 == u).map (·.f1)).getD []
theorem drop_rd57 (l : List S57) (i : Nat) (h : i < l.length) : l.drop i = rd_T57 l (i : Int) :: l.drop (i + 1) := by rw [rd57_nat l i h]; exact List.drop_eq_getElem_cons h
theorem drop_rd54 (l : List S54) (i : Nat) (h : i < l.length) : l.drop i = rd_T54 l (i : Int) :: l.drop (i + 1) := by rw [rd54_nat l i h]; exact List.drop_eq_getElem_cons h
/-- A relay whose user has these mails. -/
def withL (l : List S57) (u : Int) (ms : List S54) : List S57 := l.filter (fun b => decide (b.f0 < u)) ++ ((if 0 < ms.length then [{ f0 := u, f1 := ms }] else []) ++ l.filter (fun b => decide (u < b.f0)))
/-- Why it may not be pushed; 0: it may. -/
def whyL (l : List S57) (now next u : Int) (s : ByteArray) : Int :=
  if relB l now next = true then (if 1400 < s.size then 2 else if hasB (mailsL l u) s = true then 7 else if (mailsL l u).length = 16 ∨ ((mailsL l u).length = 0 ∧ l.length = 8) then 6 else if next = 4611686018427387903 then 1 else 0) else 1
theorem find_mem57 {l : List S57} {u : Int} : mailsL l u = [] ∨ ∃ b ∈ l, b.f0 = u ∧ mailsL l u = b.f1 := by
  unfold mailsL
  cases h : l.find? fun b => b.f0 == u with
  | none => exact .inl rfl
  | some b => exact .inr ⟨b, List.mem_of_find?_eq_some h, beq_iff_eq.1 (List.find?_some (p := fun b : S57 => b.f0 == u) h), rfl⟩
theorem mails_small {l : List S57} (hs : smallR l) (u : Int) : (mailsL l u).length ≤ 18 := by
  rcases find_mem57 (l := l) (u := u) with h | ⟨b, hb, _, h⟩
  · rw [h]; simp
  · rw [h]; exact (hs.2 b hb).1
def pushL (l : List S57) (now next u : Int) (s : ByteArray) : List S57 := withL l u (mailsL l u ++ [{ f0 := next, f1 := s, f2 := now }])
end Go.Proofs.Ytbmfcikjhnnnbaa.Q
