/- What the printed functions of the mailbox's laws answer, in plain Lean.
   Conditions: as each tells. -/
import Derived.Test.YtganchnnfjdooaaQx106
import Derived.Test.YtganchnnfjdooaaQx109
import Derived.Test.YtganchnnfjdooaaQx110
import Derived.Test.YtganchnnfjdooaaQx111
import Derived.Test.YtganchnnfjdooaaHOpen
namespace Go.Proofs.Ytganchnnfjdooaa.Pure
open Go.RowKit Go.Proofs.Ytganchnnfjdooaa.Q Go.Proofs.YtganchnnfjdooaaW.PrintWords Go.Proofs.YtganchnnfjdooaaW.PrintLast Go.Proofs.YtganchnnfjdooaaW.PrintMore

theorem wrap_in (n : Int) (h0 : 0 ≤ n) (h1 : n ≤ 9223372036854775807) : wrap64 n = n := by unfold wrap64; omega
theorem few_eq (l : List S27) : demurrallaw18_few.f l = some (l.take 40) := by
  have hm : 0 ≤ mn (l.length : Int) 40 ∧ mn (l.length : Int) 40 ≤ l.length ∧ (mn (l.length : Int) 40).toNat = min l.length 40 := by
    unfold mn
    split <;> omega
  obtain ⟨h0, h1, h2⟩ := hm
  unfold demurrallaw18_few.f
  rw [if_pos h0, if_pos h1, h2]
  congr 1
  rcases Nat.le_total l.length 40 with h | h
  · rw [Nat.min_eq_left h, List.take_length, List.take_of_length_le h]
  · rw [Nat.min_eq_right h]
theorem same_loop (x : List S27) (hx : x.length ≤ 9223372036854775807) : ∀ (d : Nat) (i k : Nat), i + d = x.length → demurralref18_Same.l0 (k + d + 1) x x x.length i = some true
  | 0, i, k, h => by
    simp only [demurralref18_Same.l0]
    rw [if_neg (by omega)]
  | d + 1, i, k, h => by
    rw [show k + (d + 1) + 1 = (k + d + 1) + 1 by omega]
    simp only [demurralref18_Same.l0]
    have h1 : (i : Int) < (x.length : Int) := by omega
    rw [if_pos h1, if_pos (by omega), if_pos h1, if_pos h1]
    rw [if_neg (by simp), wrap_in _ (by omega) (by omega)]
    exact same_loop x hx d (i + 1) k (by omega)
theorem same_refl (x : List S27) (hx : x.length ≤ 9223372036854775807) (k : Nat) : demurralref18_Same.f (k + x.length + 1) x x = some true := by
  unfold demurralref18_Same.f
  rw [if_pos rfl]
  exact same_loop x hx x.length 0 k (by omega)
theorem list_a : (⟨#[97]⟩ : ByteArray).toList = [97] := by
  unfold ByteArray.toList
  rw [ByteArray.toList.loop, ByteArray.toList.loop]
  rfl
theorem alive_eq : demurrallaw18_alive.f = some true := by
  unfold demurrallaw18_alive.f
  have h1 : mailbox_Send.f ([] : List S27) 1 2 (⟨#[97]⟩ : ByteArray) 0 0 = some ([⟨1, 2, ⟨#[97]⟩, 0, 0⟩], 0) := by
    simp [mailbox_Send.f]
  have h2 : mailbox_Take.f [(⟨1, 2, ⟨#[97]⟩, 0, 0⟩ : S27)] 2 = some (1, 2, ⟨#[97]⟩, 0, 0, [], 0) := by
    simp [mailbox_Take.f, firstOf, rd_T27, List.findIdx_cons]
  rw [h1]
  simp only [Option.bind_some]
  rw [h2]
  simp only [Option.bind_some, if_true]
  rw [if_pos list_a]
  rfl
theorem rd_nat (x : List S27) (i : Nat) (h : i < x.length) : rd_T27 x (i : Int) = x[i] := by simp [rd_T27, h]
theorem count_eq (x : List S27) (u : Int) (hx : x.length ≤ 9223372036854775807) : mailbox_Count.f x u = some ((x.countP fun p => p.f1 == u : Nat) : Int) := by
  unfold mailbox_Count.f
  rw [if_pos hx]
theorem of_loop (x : List S27) (u : Int) (hx : x.length ≤ 40) : ∀ (d : Nat) (i k : Nat), i + d = x.length → demurralref18_Of.l0 (k + d + 1) u ((x.take i).filter fun p => p.f1 == u) x x.length i = some (x.filter fun p => p.f1 == u)
  | 0, i, k, h => by
    simp only [demurralref18_Of.l0]
    rw [if_neg (by omega), show i = x.length by omega, List.take_length]
  | d + 1, i, k, h => by
    rw [show k + (d + 1) + 1 = (k + d + 1) + 1 by omega]
    simp only [demurralref18_Of.l0]
    have h0 : i < x.length := by omega
    have h1 : (i : Int) < (x.length : Int) := by omega
    rw [if_pos h1, if_pos (by omega), if_pos h1, wrap_in _ (by omega) (by omega), rd_nat x i h0]
    have hl : ((x.take i).filter fun p => p.f1 == u).length ≤ 40 := by
      have := List.length_filter_le (fun p : S27 => p.f1 == u) (x.take i)
      rw [List.length_take] at this
      omega
    have hn : (x.take (i + 1)).filter (fun p => p.f1 == u) = (x.take i).filter (fun p => p.f1 == u) ++ if x[i].f1 = u then [x[i]] else [] := by
      rw [List.take_succ_eq_append_getElem h0, List.filter_append]
      by_cases h : x[i].f1 = u
      · simp [h]
      · simp [h]
    have ih := of_loop x u hx d (i + 1) k (by omega)
    by_cases hu : x[i].f1 = u
    · rw [if_pos hu, if_pos (by omega)]
      rw [if_pos hu] at hn
      rw [hn] at ih
      exact ih
    · rw [if_neg hu]
      rw [if_neg hu, List.append_nil] at hn
      rw [hn] at ih
      exact ih
theorem of_eq (x : List S27) (u : Int) (hx : x.length ≤ 40) (k : Nat) : demurralref18_Of.f (k + x.length + 1) x u = some (x.filter fun p => p.f1 == u) := by
  unfold demurralref18_Of.f
  exact of_loop x u hx x.length 0 k (by omega)
end Go.Proofs.Ytganchnnfjdooaa.Pure
