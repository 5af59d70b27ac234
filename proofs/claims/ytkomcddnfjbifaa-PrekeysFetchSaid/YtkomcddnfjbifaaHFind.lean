/- prekeys.find: where a user's shelf is, or would be.
   Conditions: the list is read as shelves. -/
import Derived.Test.YtkomcddnfjbifaaHShelf
namespace Go.Proofs.Ytkomcddnfjbifaa.Q
open Go.RowKit Go.Proofs.YtkomcddnfjbifaaW.PrintWords Go.Proofs.YtkomcddnfjbifaaW.PrintLast Go.Proofs.YtkomcddnfjbifaaW.PrintMore
set_option linter.unusedVariables false
set_option linter.unusedSimpArgs false

def cmpI (a b : Int) : Int := if a < b then -1 else if b < a then 1 else 0
theorem compare_calls (a b : Int) (w : World) : Calls Try.prog 45 #[.int .u64 a, .int .u64 b] w fun e w' => e = .returned (.int .i64 (cmpI a b)) ∧ Below w.heap.size w w' := by
  unfold cmpI
  by_cases h1 : a < b
  · have e1 : decide (a < b) = true := decide_eq_true h1
    rw [if_pos h1]
    go_enter Try.func45, Try.ntmps45
    go_wp2
    go_ret
    exact ⟨rfl, Below.refl _ _⟩
  · have e1 : decide (a < b) = false := decide_eq_false h1
    rw [if_neg h1]
    by_cases h2 : b < a
    · have e2 : decide (b < a) = true := decide_eq_true h2
      rw [if_pos h2]
      go_enter Try.func45, Try.ntmps45
      go_wp2
      go_ret
      exact ⟨rfl, Below.refl _ _⟩
    · have e2 : decide (b < a) = false := decide_eq_false h2
      rw [if_neg h2]
      go_enter Try.func45, Try.ntmps45
      go_wp2
      go_ret
      exact ⟨rfl, Below.refl _ _⟩
theorem cmp_calls (x : S29) (A : Option Addr) (c : Nat) (u : Int) (w : World) : Calls Try.prog 44 #[sv x A c, .int .u64 u] w fun e w' => e = .returned (.int .i64 (cmpI x.f0 u)) ∧ Below w.heap.size w w' := by

  obtain ⟨w1, hw1⟩ : ∃ w1, w.alloc (.cells #[.int .u64 x.f0, .string x.f1, .int .u64 x.f2.f0, .string x.f2.f1, .slice A x.f3.length c] 29 (0, 0)) = w1 := ⟨_, rfl⟩
  have hb1 : Below w.heap.size w w1 := by rw [← hw1]; exact below_alloc (Below.refl _ _) _
  have hK : w1.heap[w.heap.size]? = some (.cells #[.int .u64 x.f0, .string x.f1, .int .u64 x.f2.f0, .string x.f2.f1, .slice A x.f3.length c] 29 (0, 0)) := by rw [← hw1]; exact heap_alloc_new _ _
  have z0 : w1.cell? ⟨w.heap.size, 0, none⟩ = some (.int .u64 x.f0) := (blk_cell hK 0).trans rfl
  clear hK
  go_enter Try.func44, Try.ntmps44
  go_wp2_with fail
  refine (compare_calls x.f0 u _).mono ?_; rintro e_ w2 ⟨rfl, hb⟩
  go_wp2
  go_ret
  exact ⟨rfl, below_step hb1 hb⟩
/-- Where a user's shelf is, or would be, in a list that rises. -/
def foundR (l : List S29) (u : Int) (i : Nat) (is : Bool) : Prop :=
  i ≤ l.length ∧ (0 < i → (rd_T29 l ((i - 1 : Nat) : Int)).f0 < u) ∧ (i < l.length → u ≤ (rd_T29 l (i : Int)).f0) ∧ is = (decide (i < l.length) && ((rd_T29 l (i : Int)).f0 == u))
def FoundE (l : List S29) (u : Int) (e : Ending) : Prop := ∃ (i : Nat) (is : Bool), e = .returned (.tuple #[.int .i64 (i : Int), .bool is]) ∧ foundR l u i is
set_option maxHeartbeats 4000000 in
set_option maxRecDepth 100000 in
theorem search_calls (A0 : Option Addr) (c0 : Nat) (l0 : List S29) (u : Int) (w : World) (hr0 : Kd.C k29 w A0 l0.length l0) (hc0 : l0.length ≤ c0) (hlen : l0.length ≤ 1000000) :
    Calls Try.prog 43 #[.slice A0 l0.length c0, .int .u64 u, .func (.func 44) #[] #[]] w fun e w' => FoundE l0 u e ∧ Below w.heap.size w w' := by
  go_enter Try.func43, Try.ntmps43
  go_wp2
  go_loopw [9, 10] (fun p q wr => ∃ lo hi : Nat, lo ≤ hi ∧ hi ≤ l0.length ∧ p = .int .i64 (lo : Int) ∧ q = .int .i64 (hi : Int) ∧ (0 < lo → (rd_T29 l0 ((lo - 1 : Nat) : Int)).f0 < u) ∧ (hi < l0.length → u ≤ (rd_T29 l0 (hi : Int)).f0) ∧ Below w.heap.size w wr) (fun p q _ => (intOf q).toNat - (intOf p).toNat)
  case atStart => exact ⟨0, l0.length, by omega, by omega, rfl, rfl, by omega, by omega, Below.refl _ _⟩
  case round =>
    obtain ⟨lo, hi, h1, h2, rfl, rfl, hlo, hhi, hB⟩ := hrel
    by_cases hlt : (lo : Int) < hi
    · obtain ⟨m, hm⟩ : ∃ m, (lo + hi) / 2 = m := ⟨_, rfl⟩
      have hm1 : lo ≤ m := by omega
      have hm2 : m < hi := by omega
      have hm3 : ((lo : Int) + hi) / 2 = (m : Int) := by omega
      obtain ⟨ad, A4, c4, eA, q0, q1, q2, q3, q4, _, _⟩ := at_T29 (Kd.C_below hr0 hB) (m : Int) (by omega) (by omega)
      subst eA
      obtain ⟨x, hx⟩ : ∃ x, rd_T29 l0 (m : Int) = x := ⟨_, rfl⟩
      rw [hx, Int.toNat_natCast] at q0 q1 q2 q3 q4
      replace hlo := Lib.hid hlo
      replace hhi := Lib.hid hhi
      replace hx := Lib.hid hx
      have hxx : ∀ q : Int, (q = cmpI x.f0 u) → (q < 0 ↔ x.f0 < u) := by
        rintro q rfl
        unfold cmpI
        split
        · constructor <;> intro _ <;> first | assumption | decide
        · split
          · constructor <;> intro h <;> omega
          · constructor <;> intro h <;> omega
      go_wp2_with fail
      refine (cmp_calls x A4 c4 u wr).mono ?_; rintro e_ w2 ⟨rfl, hb⟩
      obtain ⟨q, hq⟩ : ∃ q, cmpI x.f0 u = q := ⟨_, rfl⟩
      rw [hq]
      have hqq := hxx q hq.symm
      clear hxx hq q0 q1 q2 q3 q4
      by_cases hc : x.f0 < u
      · have hq1 : decide (q < 0) = true := decide_eq_true (hqq.2 hc)
        go_wp2
        go_roundw
        case rel => exact ⟨m + 1, hi, by omega, h2, by go_num, rfl, fun _ => by rw [Nat.add_sub_cancel, hx.out]; exact hc, hhi.out, below_step hB hb⟩
        case measure => simp [intOf]; omega
      · have hq1 : decide (q < 0) = false := decide_eq_false (fun h => hc (hqq.1 h))
        go_wp2
        go_roundw
        case rel => exact ⟨lo, m, hm1, by omega, rfl, rfl, hlo.out, fun _ => by rw [hx.out]; omega, below_step hB hb⟩
        case measure => simp [intOf]; omega
    · obtain rfl : lo = hi := by omega
      replace hlo := Lib.hid hlo
      replace hhi := Lib.hid hhi
      by_cases hn : (lo : Int) < l0.length
      · obtain ⟨ad, A4, c4, eA, q0, q1, q2, q3, q4, _, _⟩ := at_T29 (Kd.C_below hr0 hB) (lo : Int) (by omega) hn
        subst eA
        obtain ⟨x, hx⟩ : ∃ x, rd_T29 l0 (lo : Int) = x := ⟨_, rfl⟩
        rw [hx, Int.toNat_natCast] at q0 q1 q2 q3 q4
        replace hx := Lib.hid hx
        have hxx : ∀ q : Int, (q = cmpI x.f0 u) → (q == 0) = (x.f0 == u) := by
          rintro q rfl
          unfold cmpI
          split
          · rw [beq_eq_false_iff_ne.2 (by decide), beq_eq_false_iff_ne.2 (by omega)]
          · split
            · rw [beq_eq_false_iff_ne.2 (by decide), beq_eq_false_iff_ne.2 (by omega)]
            · rw [show x.f0 = u by omega]; simp
        go_wp2_with fail
        refine (cmp_calls x A4 c4 u wr).mono ?_; rintro e_ w2 ⟨rfl, hb⟩
        obtain ⟨q, hq⟩ : ∃ q, cmpI x.f0 u = q := ⟨_, rfl⟩
        rw [hq]
        have hqq := hxx q hq.symm
        clear hxx hq q0 q1 q2 q3 q4
        have hfin : FoundE l0 u (.returned (.tuple #[.int .i64 (lo : Int), .bool (x.f0 == u)])) := ⟨lo, _, rfl, h2, hlo.out, hhi.out, by rw [hx.out, decide_eq_true (by omega), Bool.true_and]⟩
        replace hfin := Lib.hid hfin
        go_wp2
        go_ret2
        exact ⟨hfin.out, below_step hB hb⟩
      · have hfin : FoundE l0 u (.returned (.tuple #[.int .i64 (lo : Int), .bool false])) := ⟨lo, _, rfl, h2, hlo.out, hhi.out, by rw [decide_eq_false (by omega), Bool.false_and]⟩
        replace hfin := Lib.hid hfin
        go_wp2
        go_ret2
        exact ⟨hfin.out, hB⟩
theorem find_calls (A0 : Option Addr) (c0 : Nat) (l0 : List S29) (u : Int) (w : World) (hr0 : Kd.C k29 w A0 l0.length l0) (hc0 : l0.length ≤ c0) (hlen : l0.length ≤ 1000000) :
    Calls Try.prog 29 #[.slice A0 l0.length c0, .int .u64 u] w fun e w' => FoundE l0 u e ∧ Below w.heap.size w w' := by
  go_enter Try.func29, Try.ntmps29
  go_wp2_with fail
  refine (search_calls A0 c0 l0 u _ hr0 hc0 hlen).mono ?_; rintro e_ w2 ⟨⟨i, is, rfl, hf⟩, hb⟩
  go_wp2
  go_ret2
  exact ⟨⟨i, is, rfl, hf⟩, hb⟩
end Go.Proofs.Ytkomcddnfjbifaa.Q
