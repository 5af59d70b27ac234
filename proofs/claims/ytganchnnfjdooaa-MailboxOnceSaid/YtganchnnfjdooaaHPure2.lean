/- More of what the printed functions of the mailbox's laws answer (for MailboxTells).
   Conditions: as each tells. -/
import Derived.Test.YtganchnnfjdooaaQx114
import Derived.Test.YtganchnnfjdooaaQx115
import Derived.Test.YtganchnnfjdooaaQx116
import Derived.Test.YtganchnnfjdooaaQx117
import Derived.Test.YtganchnnfjdooaaHPure
import Derived.Test.YtganchnnfjdooaaHLater
namespace Go.Proofs.Ytganchnnfjdooaa.Pure
open Go.RowKit Go.Proofs.Ytganchnnfjdooaa.Q Go.Proofs.YtganchnnfjdooaaW.PrintWords Go.Proofs.YtganchnnfjdooaaW.PrintLast Go.Proofs.YtganchnnfjdooaaW.PrintMore

theorem equal_same : ∀ (k : Nat) (x y : List S27) (a b : Int), api_Parcel.l0 k x y a b = demurralref18_Same.l0 k x y a b
  | 0, _, _, _, _ => rfl
  | k + 1, x, y, a, b => by
    simp only [api_Parcel.l0, demurralref18_Same.l0]
    rw [equal_same k x y a (wrap64 (b + 1))]
theorem like_same (k : Nat) (x y : List S27) : mailbox_Like.f k x y = demurralref18_Same.f k x y := by
  unfold mailbox_Like.f api_Parcel.f demurralref18_Same.f
  rw [equal_same]
  split
  · cases demurralref18_Same.l0 k x y (x.length : Int) 0 <;> rfl
  · rfl
theorem same_some_loop (x y : List S27) (hx : x.length ≤ 40) (hy : x.length = y.length) : ∀ (d : Nat) (i k : Nat), i + d = x.length → ∃ b, demurralref18_Same.l0 (k + d + 1) x y x.length i = some b
  | 0, i, k, h => by
    simp only [demurralref18_Same.l0]
    rw [if_neg (by omega)]
    exact ⟨_, rfl⟩
  | d + 1, i, k, h => by
    obtain ⟨b, ih⟩ := same_some_loop x y hx hy d (i + 1) k (by omega)
    rw [show k + (d + 1) + 1 = (k + d + 1) + 1 by omega]
    generalize k + d + 1 = K at ih
    simp only [demurralref18_Same.l0]
    have h1 : (i : Int) < (x.length : Int) := by omega
    rw [if_pos h1, if_pos (by omega), if_pos h1, if_pos (by omega), wrap_in _ (by omega) (by omega)]
    split
    · exact ⟨_, rfl⟩
    · exact ⟨b, ih⟩
theorem same_some (x y : List S27) (hx : x.length ≤ 40) : ∃ b, demurralref18_Same.f 41 x y = some b := by
  unfold demurralref18_Same.f
  split
  · have := same_some_loop x y hx (by omega) x.length 0 (40 - x.length) (by omega)
    rw [show 40 - x.length + x.length + 1 = 41 by omega] at this
    exact this
  · exact ⟨_, rfl⟩
theorem same_self (x : List S27) (hx : x.length ≤ 41) : demurralref18_Same.f 42 x x = some true := by
  have := same_refl x (by omega) (41 - x.length)
  rwa [show 41 - x.length + x.length + 1 = 42 by omega] at this
theorem of_eq' (x : List S27) (u : Int) (hx : x.length ≤ 40) : demurralref18_Of.f 41 x u = some (x.filter fun p => p.f1 == u) := by
  have := of_eq x u hx (40 - x.length)
  rwa [show 40 - x.length + x.length + 1 = 41 by omega] at this
theorem later_loop' (x : List S27) (u : Int) (hx : x.length ≤ 40) : ∀ (d : Nat) (i k : Nat), i + d = x.length → demurralref18_Later.l0 (k + d + 1) u ((x.take i).filter fun p => !old u p) x x.length i = some (x.filter fun p => !old u p)
  | 0, i, k, h => by
    simp only [demurralref18_Later.l0]
    rw [if_neg (by omega), show i = x.length by omega, List.take_length]
  | d + 1, i, k, h => by
    have ih := later_loop' x u hx d (i + 1) k (by omega)
    rw [show k + (d + 1) + 1 = (k + d + 1) + 1 by omega]
    generalize k + d + 1 = K at ih
    simp only [demurralref18_Later.l0]
    have h0 : i < x.length := by omega
    have h1 : (i : Int) < (x.length : Int) := by omega
    rw [if_pos h1, if_pos (by omega), if_pos h1, wrap_in _ (by omega) (by omega), rd_nat x i h0]
    have hl : ((x.take i).filter fun p => !old u p).length ≤ 40 := by
      have := List.length_filter_le (fun p : S27 => !old u p) (x.take i)
      rw [List.length_take] at this
      omega
    have hn : (x.take (i + 1)).filter (fun p => !old u p) = (x.take i).filter (fun p => !old u p) ++ if old u x[i] = true then [] else [x[i]] := by
      rw [List.take_succ_eq_append_getElem h0, List.filter_append]
      by_cases h : old u x[i] = true
      · simp [h]
      · simp [h]
    by_cases hu : x[i].f4 ≥ u
    · have ho : ¬ old u x[i] = true := by
        unfold old
        have : decide (x[i].f4 < u) = false := decide_eq_false (by omega)
        rw [this]
        simp
      rw [if_pos hu, if_pos (by omega)]
      rw [if_neg ho] at hn
      rw [hn] at ih
      exact ih
    · rw [if_neg hu]
      by_cases hw : IntKind.u64.wrap (u - x[i].f4) ≤ 50
      · have ho : ¬ old u x[i] = true := by
          unfold old
          have : decide (50 < IntKind.u64.wrap (u - x[i].f4)) = false := decide_eq_false (by omega)
          rw [this]
          simp
        rw [if_pos hw, if_pos (by omega)]
        rw [if_neg ho] at hn
        rw [hn] at ih
        exact ih
      · have ho : old u x[i] = true := by
          unfold old
          have h2 : decide (x[i].f4 < u) = true := decide_eq_true (by omega)
          have h3 : decide (50 < IntKind.u64.wrap (u - x[i].f4)) = true := decide_eq_true (by omega)
          rw [h2, h3]
          rfl
        rw [if_neg hw]
        rw [if_pos ho, List.append_nil] at hn
        rw [hn] at ih
        exact ih
theorem rlater_eq (x : List S27) (u : Int) (hx : x.length ≤ 40) : demurralref18_Later.f 41 x u = some (x.filter fun p => !old u p) := by
  have := later_loop' x u hx x.length 0 (40 - x.length) (by omega)
  rw [show 40 - x.length + x.length + 1 = 41 by omega] at this
  exact this
theorem rsend_eq (x : List S27) (a0 a1 : Int) (a2 : ByteArray) (a3 a4 : Int) (hx : x.length ≤ 40) : demurralref18_Send.f x a0 a1 a2 a3 a4 = some (x ++ [⟨a0, a1, a2, a3, a4⟩]) := by
  unfold demurralref18_Send.f
  simp only [Option.bind_some, List.nil_append]
  rw [if_pos (by simp; omega), if_pos (by omega)]
/-- What of the first i parcels is left, and whether one was left out. -/
theorem rest_loop (x : List S27) (u : Int) (hx : x.length ≤ 40) (fo : Nat) (hfo : firstOf x u = fo) (hlt : fo < x.length) : ∀ (d : Nat) (i k : Nat), i + d = x.length →
    demurralref18_Rest.l0 (k + d + 1) u (if i ≤ fo then x.take i else (x.take i).eraseIdx fo) (decide (fo < i)) x x.length i = some (x.eraseIdx fo)
  | 0, i, k, h => by
    simp only [demurralref18_Rest.l0]
    rw [if_neg (by omega), show i = x.length by omega, if_neg (by omega), List.take_length]
  | d + 1, i, k, h => by
    have ih := rest_loop x u hx fo hfo hlt d (i + 1) k (by omega)
    rw [show k + (d + 1) + 1 = (k + d + 1) + 1 by omega]
    generalize k + d + 1 = K at ih
    simp only [demurralref18_Rest.l0]
    have h0 : i < x.length := by omega
    have h1 : (i : Int) < (x.length : Int) := by omega
    rw [if_pos h1, if_pos (by omega), if_pos h1, wrap_in _ (by omega) (by omega), rd_nat x i h0]
    have htl : (x.take i).length = i := by rw [List.length_take]; omega
    have hts := List.take_succ_eq_append_getElem h0
    rcases Nat.lt_trichotomy i fo with hc | hc | hc
    · have hne : ¬ x[i].f1 = u := by
        have := List.not_of_lt_findIdx (p := fun p : S27 => p.f1 == u) (xs := x) (i := i) (by unfold firstOf at hfo; omega)
        simpa using this
      rw [if_neg hne, if_pos (by omega : i ≤ fo), if_pos (by omega)]
      rw [if_pos (by omega : i + 1 ≤ fo), hts, show decide (fo < i + 1) = decide (fo < i) by simp; omega] at ih
      exact ih
    · subst hc
      have he : x[i].f1 = u := by
        have := List.findIdx_getElem (p := fun p : S27 => p.f1 == u) (xs := x) (w := by unfold firstOf at hfo; omega)
        unfold firstOf at hfo
        simp only [hfo] at this
        simpa using this
      rw [if_pos he, show decide (i < i) = false by simp, if_neg (by simp), if_pos (Nat.le_refl i)]
      rw [if_neg (by omega), show decide (i < i + 1) = true by simp, hts, List.eraseIdx_append_of_length_le (by omega), htl, Nat.sub_self] at ih
      simpa using ih
    · rw [if_neg (by omega : ¬ i ≤ fo), show decide (fo < i) = true by simp; omega]
      rw [if_neg (by omega), show decide (fo < i + 1) = true by simp; omega, hts, List.eraseIdx_append_of_lt_length (by omega)] at ih
      have hel : ((x.take i).eraseIdx fo).length < 2932031007402 := by
        have := List.length_eraseIdx_le (x.take i) fo
        omega
      by_cases hu : x[i].f1 = u
      · rw [if_pos hu, if_pos rfl, if_pos hel]
        exact ih
      · rw [if_neg hu, if_pos hel]
        exact ih
theorem rest_eq (x : List S27) (u : Int) (hx : x.length ≤ 40) (hlt : firstOf x u < x.length) : demurralref18_Rest.f 41 x u = some (x.eraseIdx (firstOf x u)) := by
  have := rest_loop x u hx (firstOf x u) rfl hlt x.length 0 (40 - x.length) (by omega)
  rw [show 40 - x.length + x.length + 1 = 41 by omega, if_pos (Nat.zero_le _)] at this
  exact this
end Go.Proofs.Ytganchnnfjdooaa.Pure
