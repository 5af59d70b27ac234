/- bits.Len64 answers how many bits a number below 65536 has.
   Conditions: the number is below 65536. -/
import Derived.Test.YtdbbhijicmeckaaQx0
import Derived.Handy
import Derived.Lib.Hide
namespace Go.Proofs.Ytdbbhijicmeckaa.Q
open Go.RowKit Go.Proofs.YtdbbhijicmeckaaW.PrintWords Go.Proofs.YtdbbhijicmeckaaW.PrintLast Go.Proofs.YtdbbhijicmeckaaW.PrintMore
set_option linter.unusedVariables false
set_option linter.unusedSimpArgs false

/-- How many bits each of the numbers 0 to 255 has. -/
def bitsOf : ByteArray := ⟨((List.range 256).map fun n => if n = 0 then 0 else UInt8.ofNat (Nat.log2 n + 1)).toArray⟩
theorem bitsOf_size : bitsOf.size = 256 := by simp [bitsOf, ByteArray.size]
def lenI (n : Int) : Int := if n < 256 then bt bitsOf n else 8 + bt bitsOf (n / 256)
set_option maxHeartbeats 1000000 in
set_option maxRecDepth 100000 in
theorem len_small (n : Int) (w : World) (h0 : 0 ≤ n) (h1 : n < 256) :
    Calls Try.prog 38 #[.int .u64 n] w fun e w' => e = .returned (.int .i64 (bt bitsOf n)) ∧ w = w' := by
  have hm : n % 256 = n := by omega
  have hs := bitsOf_size
  have hb := bt_at bitsOf n
  have hr := bt_range bitsOf n
  have c1 : decide (4294967296 ≤ n) = false := decide_eq_false (by omega)
  have c2 : decide (65536 ≤ n) = false := decide_eq_false (by omega)
  have c3 : decide (256 ≤ n) = false := decide_eq_false (by omega)
  go_enter Try.func38, Try.ntmps38
  conv in (ByteArray.mk _) => tactic => exact (by kernel_rfl : _ = bitsOf)
  generalize bitsOf = tab at hs hb hr ⊢
  go_wp2
  go_ret
  exact ⟨rfl, rfl⟩
set_option maxHeartbeats 1000000 in
set_option maxRecDepth 100000 in
theorem len_mid (n : Int) (w : World) (h0 : 256 ≤ n) (h1 : n < 65536) :
    Calls Try.prog 38 #[.int .u64 n] w fun e w' => e = .returned (.int .i64 (8 + bt bitsOf (n / 256))) ∧ w = w' := by
  obtain ⟨m, hmn⟩ : ∃ m, n / 256 = m := ⟨_, rfl⟩
  have m0 : 0 ≤ m := by omega
  have m1 : m < 256 := by omega
  have hm : m % 256 = m := by omega
  have hs := bitsOf_size
  have hb := bt_at bitsOf m
  have hr := bt_range bitsOf m
  have c1 : decide (4294967296 ≤ n) = false := decide_eq_false (by omega)
  have c2 : decide (65536 ≤ n) = false := decide_eq_false (by omega)
  have c3 : decide (256 ≤ n) = true := decide_eq_true (by omega)
  have hw : wrap64 (8 + bt bitsOf m) = 8 + bt bitsOf m := by unfold wrap64; omega
  go_enter Try.func38, Try.ntmps38
  conv in (ByteArray.mk _) => tactic => exact (by kernel_rfl : _ = bitsOf)
  rw [hmn]
  generalize bitsOf = tab at hs hb hr hw ⊢
  go_wp2
  simp only [hmn] at *
  go_wp2
  go_ret
  exact ⟨rfl, rfl⟩
def bits_Len64.f (n : Int) : Option Int := if 0 ≤ n ∧ n < 65536 then some (lenI n) else none
theorem bits_Len64.calls (a0 : Int) (r : Int) (w : World) (h : bits_Len64.f a0 = some r) :
    Calls Try.prog 38 #[.int .u64 a0] w fun e w' => e = .returned (.int .i64 r) ∧ Drawn0 w w' := by
  unfold bits_Len64.f at h
  split at h
  case isFalse => cases h
  case isTrue hn =>
    obtain rfl := Option.some.inj h
    unfold lenI
    split
    · refine (len_small a0 w hn.1 (by assumption)).mono ?_
      rintro e w' ⟨rfl, rfl⟩
      exact ⟨rfl, Drawn0.refl _⟩
    · refine (len_mid a0 w (by omega) hn.2).mono ?_
      rintro e w' ⟨rfl, rfl⟩
      exact ⟨rfl, Drawn0.refl _⟩
end Go.Proofs.Ytdbbhijicmeckaa.Q
