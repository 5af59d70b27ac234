/- The reference's Mails, With, Without, by values.
   Conditions: at most a million boxes, and mails. -/
import Derived.Test.YtbmfcikjhnnnbaaHPure2
import Derived.Test.YtbmfcikjhnnnbaaQx121
import Derived.Test.YtbmfcikjhnnnbaaQx123
import Derived.Test.YtbmfcikjhnnnbaaQx124
namespace Go.Proofs.Ytbmfcikjhnnnbaa.Q
open Go.RowKit Go.Proofs.YtbmfcikjhnnnbaaW.PrintWords Go.Proofs.YtbmfcikjhnnnbaaW.PrintLast Go.Proofs.YtbmfcikjhnnnbaaW.PrintMore
set_option linter.unusedVariables false
set_option linter.unusedSimpArgs false

theorem mails_l0 (l : List S57) (hl : l.length ≤ 1000000) (u : Int) : ∀ (m k i : Nat), i + m = l.length → m < k → demurralref16_Mails.l0 k u l (l.length : Int) (i : Int) = some (mailsL (l.drop i) u) := by
  intro m
  induction m with
  | zero =>
    intro k i hi hk
    obtain ⟨k, rfl⟩ : ∃ k', k = k' + 1 := ⟨k - 1, by omega⟩
    rw [demurralref16_Mails.l0, if_neg (by omega), List.drop_eq_nil_of_le (by omega)]
    rfl
  | succ m ih =>
    intro k i hi hk
    obtain ⟨k, rfl⟩ : ∃ k', k = k' + 1 := ⟨k - 1, by omega⟩
    rw [demurralref16_Mails.l0, if_pos (by omega), if_pos (by omega), if_pos (by omega), nx i (by omega), ih k (i + 1) (by omega) (by omega), drop_rd57 l i (by omega)]
    unfold mailsL
    rw [List.find?_cons]
    by_cases e : (rd_T57 l (i : Int)).f0 = u
    · rw [if_pos e, show ((rd_T57 l (i : Int)).f0 == u) = true from beq_iff_eq.2 e]
      rfl
    · rw [if_neg e, show ((rd_T57 l (i : Int)).f0 == u) = false from beq_eq_false_iff_ne.2 e]
theorem mails_f (l : List S57) (hl : l.length ≤ 1000000) (now next u : Int) (k : Nat) (hk : l.length < k) : demurralref16_Mails.f k l now next u = some (mailsL l u) := by
  unfold demurralref16_Mails.f
  rw [show (0 : Int) = ((0 : Nat) : Int) from rfl, mails_l0 l hl u l.length k 0 (by omega) hk]
  rfl
theorem with_l1 (l : List S57) (hl : l.length ≤ 1000000) (u now next : Int) : ∀ (m k i : Nat) (x : List S57), i + m = l.length → m < k → x.length + m ≤ 3000000 →
    demurralref16_With.l1 k u x l (l.length : Int) (i : Int) l now next = some (x ++ (l.drop i).filter (fun b => decide (u < b.f0)), now, next) := by
  intro m
  induction m with
  | zero =>
    intro k i x hi hk hx
    obtain ⟨k, rfl⟩ : ∃ k', k = k' + 1 := ⟨k - 1, by omega⟩
    rw [demurralref16_With.l1, if_neg (by omega), List.drop_eq_nil_of_le (by omega), List.filter_nil, List.append_nil]
  | succ m ih =>
    intro k i x hi hk hx
    obtain ⟨k, rfl⟩ : ∃ k', k = k' + 1 := ⟨k - 1, by omega⟩
    rw [demurralref16_With.l1, if_pos (by omega), if_pos (by omega), if_pos (by omega), nx i (by omega), drop_rd57 l i (by omega), List.filter_cons]
    by_cases e : (rd_T57 l (i : Int)).f0 > u
    · rw [if_pos e, if_pos (by omega), ih k (i + 1) _ (by omega) (by omega) (by rw [List.length_append, List.length_singleton]; omega), if_pos (decide_eq_true (show u < _ from e)), List.append_assoc]
      rfl
    · rw [if_neg e, ih k (i + 1) _ (by omega) (by omega) (by omega), if_neg (by simpa using e)]
theorem with_l0 (l : List S57) (hl : l.length ≤ 1000000) (u now next : Int) (ms : List S54) : ∀ (m k i : Nat) (x : List S57), i + m = l.length → m + l.length + 2 < k → x.length + m ≤ 1000000 →
    demurralref16_With.l0 k u ms x l (l.length : Int) (i : Int) l now next = some (x ++ (l.drop i).filter (fun b => decide (b.f0 < u)) ++ ((if 0 < ms.length then [{ f0 := u, f1 := ms }] else []) ++ l.filter (fun b => decide (u < b.f0))), now, next) := by
  intro m
  induction m with
  | zero =>
    intro k i x hi hk hx
    obtain ⟨k, rfl⟩ : ∃ k', k = k' + 2 := ⟨k - 2, by omega⟩
    rw [demurralref16_With.l0, if_neg (by omega), List.drop_eq_nil_of_le (by omega), List.filter_nil, List.append_nil]
    by_cases e : (ms.length : Int) > 0
    · rw [if_pos e, if_pos (by omega), if_pos (show 0 < ms.length by omega), demurralref16_With.j1, show (0 : Int) = ((0 : Nat) : Int) from rfl, with_l1 l hl u now next l.length k 0 _ (by omega) (by omega) (by rw [List.length_append, List.length_singleton]; omega), List.append_assoc]
      rfl
    · rw [if_neg e, if_neg (show ¬ 0 < ms.length by omega), demurralref16_With.j1, show (0 : Int) = ((0 : Nat) : Int) from rfl, with_l1 l hl u now next l.length k 0 _ (by omega) (by omega) (by omega)]
      rfl
  | succ m ih =>
    intro k i x hi hk hx
    obtain ⟨k, rfl⟩ : ∃ k', k = k' + 1 := ⟨k - 1, by omega⟩
    rw [demurralref16_With.l0, if_pos (by omega), if_pos (by omega), if_pos (by omega), nx i (by omega), drop_rd57 l i (by omega), List.filter_cons]
    by_cases e : (rd_T57 l (i : Int)).f0 < u
    · rw [if_pos e, if_pos (by omega), ih k (i + 1) _ (by omega) (by omega) (by rw [List.length_append, List.length_singleton]; omega), if_pos (decide_eq_true e)]
      simp only [List.append_assoc, List.singleton_append]
    · rw [if_neg e, ih k (i + 1) _ (by omega) (by omega) (by omega), if_neg (show ¬ decide ((rd_T57 l (i : Int)).f0 < u) = true by simpa using e)]
theorem with_f (l : List S57) (hl : l.length ≤ 1000000) (now next u : Int) (ms : List S54) (k : Nat) (hk : l.length + l.length + 2 < k) : demurralref16_With.f k l now next u ms = some (withL l u ms, now, next) := by
  unfold demurralref16_With.f withL
  rw [show (0 : Int) = ((0 : Nat) : Int) from rfl, with_l0 l hl u now next ms l.length k 0 [] (by omega) hk (by simpa using hl)]
  rfl
theorem refwithout_l0 (l : List S54) (hl : l.length ≤ 1000000) (id : Int) : ∀ (m k i : Nat) (x : List S54), i + m = l.length → m < k → x.length + m ≤ 1000000 →
    demurralref16_Without.l0 k id x l (l.length : Int) (i : Int) = some (x ++ (l.drop i).filter fun m => !(m.f0 == id)) := by
  intro m
  induction m with
  | zero =>
    intro k i x hi hk hx
    obtain ⟨k, rfl⟩ : ∃ k', k = k' + 1 := ⟨k - 1, by omega⟩
    rw [demurralref16_Without.l0, if_neg (by omega), List.drop_eq_nil_of_le (by omega), List.filter_nil, List.append_nil]
  | succ m ih =>
    intro k i x hi hk hx
    obtain ⟨k, rfl⟩ : ∃ k', k = k' + 1 := ⟨k - 1, by omega⟩
    rw [demurralref16_Without.l0, if_pos (by omega), if_pos (by omega), if_pos (by omega), nx i (by omega), drop_rd54 l i (by omega), List.filter_cons]
    by_cases e : (rd_T54 l (i : Int)).f0 = id
    · rw [if_pos e, ih k (i + 1) x (by omega) (by omega) (by omega), show ((rd_T54 l (i : Int)).f0 == id) = true from beq_iff_eq.2 e]
      rfl
    · rw [if_neg e, if_pos (by omega), ih k (i + 1) _ (by omega) (by omega) (by rw [List.length_append, List.length_singleton]; omega), show ((rd_T54 l (i : Int)).f0 == id) = false from beq_eq_false_iff_ne.2 e, if_pos (show (!false) = true from rfl), List.append_assoc, List.singleton_append]
theorem refwithout_f (l : List S54) (hl : l.length ≤ 1000000) (id : Int) (k : Nat) (hk : l.length < k) : demurralref16_Without.f k l id = some (l.filter fun m => !(m.f0 == id)) := by
  unfold demurralref16_Without.f
  rw [show (0 : Int) = ((0 : Nat) : Int) from rfl, refwithout_l0 l hl id l.length k 0 [] (by omega) hk (by simpa using hl)]
  rfl
end Go.Proofs.Ytbmfcikjhnnnbaa.Q
