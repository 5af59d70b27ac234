/- log.Crc answers a text's sum, reckoned bit by bit.
   Conditions: the text is not longer than an int can tell. -/
import Derived.Test.YtdbbhijicmeckaaQx0
import Derived.Handy
import Derived.Lib.Hide
import Derived.Lib.ConvBytes
namespace Go.Proofs.Ytdbbhijicmeckaa.Q
open Go.RowKit Go.Proofs.YtdbbhijicmeckaaW.PrintWords Go.Proofs.YtdbbhijicmeckaaW.PrintLast Go.Proofs.YtdbbhijicmeckaaW.PrintMore
set_option linter.unusedVariables false
set_option linter.unusedSimpArgs false

def crcBit (c : Int) : Int := bits .xor .u32 (c / 2) (3988292384 * bits .and .u32 c 1 % 4294967296)
def crcBits (c : Int) : Nat → Int
  | 0 => c
  | n + 1 => crcBit (crcBits c n)
def crcI (s : ByteArray) : Nat → Int
  | 0 => 4294967295
  | n + 1 => crcBits (bits .xor .u32 (crcI s n) (bt s n % 4294967296)) 8
def crcV (s : ByteArray) : Int := bits .xor .u32 4294967295 (crcI s s.size)
set_option maxHeartbeats 1000000 in
set_option maxRecDepth 100000 in
theorem crc_calls (s : ByteArray) (w : World) (hs : s.size ≤ 9223372036854775807) :
    Calls Try.prog 11 #[.string s] w fun e w' => e = .returned (.int .u32 (crcV s)) ∧ Below w.heap.size w w' := by
  have kb := fun W => print_bytes (P := Try.prog) 9 53 5 Try.underlying9 Try.underlying53 Try.underlying5 s W
  go_enter Try.func11, Try.ntmps11
  go_wp2
  clear kb
  have hB0 : Below w.heap.size w (Lib.bytesWorld w 5 s) := bytes_below (Below.refl _ _) (Nat.le_refl _) 5 s
  have hX : ∀ j, j < s.size → (Lib.bytesWorld w 5 s).cell? ⟨w.heap.size, j, none⟩ = some (.int .u8 (bt s j)) := fun j hj => by
    rw [Lib.bytesWorld_cell w 5 s j hj]
    have h' : j < s.data.toList.length := by rw [data_length]; exact hj
    unfold bt
    rw [dif_pos (by rw [Int.toNat_natCast]; exact hj)]
    simp [List.getD_eq_getElem?_getD, List.getElem?_eq_getElem h']
    rfl
  obtain ⟨g, hg⟩ : ∃ g, w.heap.size = g := ⟨_, rfl⟩
  obtain ⟨c, hc⟩ : ∃ c, grownCap w s.size 0 5 = c := ⟨_, rfl⟩
  obtain ⟨w1, hw1⟩ : ∃ w1, Lib.bytesWorld w 5 s = w1 := ⟨_, rfl⟩
  simp only [hg, hc, hw1] at hX hB0 ⊢
  clear hc hw1
  go_loopw [3, 9] (fun u v wr => ∃ i : Int, 0 ≤ i ∧ i ≤ s.size ∧ v = .int .i64 i ∧ u = .int .u32 (crcI s i.toNat) ∧ wr = w1) (fun _ v _ => s.size - (intOf v).toNat)
  case atStart => exact ⟨0, by omega, by omega, rfl, rfl, rfl⟩
  case round =>
    obtain ⟨i, hi0, hi1, rfl, rfl, rfl⟩ := hrel
    by_cases hlt : i < s.size
    · have hq := hX i.toNat (by omega)
      rw [show ((i.toNat : Nat) : Int) = i by omega] at hq
      have HS : crcI s (i + 1).toNat = crcBits (bits .xor .u32 (crcI s i.toNat) (bt s i % 4294967296)) 8 := by
        obtain ⟨n, rfl⟩ := Int.eq_ofNat_of_zero_le hi0
        rw [show ((n : Int) + 1).toNat = n + 1 by omega, show ((n : Int)).toNat = n by omega]
        rfl
      replace HS := Lib.hid HS
      generalize bt s i = b at hq HS
      generalize crcI s i.toNat = c0 at HS ⊢
      clear hX
      go_wp2
      go_loopw [3, 17] (fun u v wx => ∃ k : Nat, k ≤ 8 ∧ v = .int .i64 (k : Int) ∧ u = .int .u32 (crcBits (bits .xor .u32 c0 (b % 4294967296)) k) ∧ wx = wr) (fun _ v _ => 8 - (intOf v).toNat)
      case atStart => exact ⟨0, by omega, rfl, rfl, rfl⟩
      case round =>
        obtain ⟨k, hk, rfl, rfl, rfl⟩ := hrel
        by_cases hk8 : (k : Int) < 8
        · generalize hx : crcBits (bits .xor .u32 c0 (b % 4294967296)) k = x
          have hx2 : crcBits (bits .xor .u32 c0 (b % 4294967296)) (k + 1) = crcBit x := by rw [crcBits, hx]
          replace hx2 := Lib.hid hx2
          clear hx
          go_wp2
          go_roundw
          case rel => exact ⟨k + 1, by omega, by go_num, by rw [hx2.out]; rfl, trivial⟩
          case measure => simp [intOf]; omega
        · obtain rfl : k = 8 := by omega
          go_wp2
          go_roundw
          case rel => exact ⟨i + 1, by omega, by omega, by go_num, by rw [HS.out], trivial⟩
          case measure => simp [intOf]; omega
    · obtain rfl : i = s.size := by omega
      go_wp2
      go_ret
      exact ⟨rfl, hB0⟩
def log_Crc.f (s : ByteArray) : Option Int := if s.size ≤ 9223372036854775807 then some (crcV s) else none
theorem log_Crc.calls (a0 : ByteArray) (r : Int) (w : World) (h : log_Crc.f a0 = some r) :
    Calls Try.prog 11 #[.string a0] w fun e w' => e = .returned (.int .u32 r) ∧ Below w.heap.size w w' := by
  unfold log_Crc.f at h
  split at h
  case isFalse => cases h
  case isTrue hs =>
    obtain rfl := Option.some.inj h
    exact crc_calls a0 w hs
end Go.Proofs.Ytdbbhijicmeckaa.Q
namespace Go.Proofs.Ytdbbhijicmeckaa.Q
open Go.RowKit Go.Proofs.YtdbbhijicmeckaaW.PrintWords Go.Proofs.YtdbbhijicmeckaaW.PrintLast Go.Proofs.YtdbbhijicmeckaaW.PrintMore
set_option linter.unusedVariables false
set_option linter.unusedSimpArgs false

/-- How many bits each of the numbers 0 to 255 has. -/
def bitsOf : ByteArray := ⟨((List.range 256).map fun n => if n = 0 then 0 else UInt8.ofNat (Nat.log2 n + 1)).toArray⟩
theorem bitsOf_size : bitsOf.size = 256 := by simp [bitsOf, ByteArray.size]
def lenI (n : Int) : Int := if n < 256 then bt bitsOf n else 8 + bt bitsOf (n / 256)
set_option maxHeartbeats 1000000 in
set_option maxRecDepth 100000 in
theorem len_small (n : Int) (w : World) (h0 : 0 ≤ n) (h1 : n < 256) :
    Calls Try.prog 38 #[.int .u64 n] w fun e w' => e = .returned (.int .i64 (bt bitsOf n)) ∧ w = w' := by
  have hm : n % 256 = n := by omega
  have hs := bitsOf_size
  have hb := bt_at bitsOf n
  have hr := bt_range bitsOf n
  have c1 : decide (4294967296 ≤ n) = false := decide_eq_false (by omega)
  have c2 : decide (65536 ≤ n) = false := decide_eq_false (by omega)
  have c3 : decide (256 ≤ n) = false := decide_eq_false (by omega)
  go_enter Try.func38, Try.ntmps38
  conv in (ByteArray.mk _) => tactic => exact (by kernel_rfl : _ = bitsOf)
  generalize bitsOf = tab at hs hb hr ⊢
  go_wp2
  go_ret
  exact ⟨rfl, rfl⟩
set_option maxHeartbeats 1000000 in
set_option maxRecDepth 100000 in
theorem len_mid (n : Int) (w : World) (h0 : 256 ≤ n) (h1 : n < 65536) :
    Calls Try.prog 38 #[.int .u64 n] w fun e w' => e = .returned (.int .i64 (8 + bt bitsOf (n / 256))) ∧ w = w' := by
  obtain ⟨m, hmn⟩ : ∃ m, n / 256 = m := ⟨_, rfl⟩
  have m0 : 0 ≤ m := by omega
  have m1 : m < 256 := by omega
  have hm : m % 256 = m := by omega
  have hs := bitsOf_size
  have hb := bt_at bitsOf m
  have hr := bt_range bitsOf m
  have c1 : decide (4294967296 ≤ n) = false := decide_eq_false (by omega)
  have c2 : decide (65536 ≤ n) = false := decide_eq_false (by omega)
  have c3 : decide (256 ≤ n) = true := decide_eq_true (by omega)
  have hw : wrap64 (8 + bt bitsOf m) = 8 + bt bitsOf m := by unfold wrap64; omega
  go_enter Try.func38, Try.ntmps38
  conv in (ByteArray.mk _) => tactic => exact (by kernel_rfl : _ = bitsOf)
  rw [hmn]
  generalize bitsOf = tab at hs hb hr hw ⊢
  go_wp2
  simp only [hmn] at *
  go_wp2
  go_ret
  exact ⟨rfl, rfl⟩
def bits_Len64.f (n : Int) : Option Int := if 0 ≤ n ∧ n < 65536 then some (lenI n) else none
theorem bits_Len64.calls (a0 : Int) (r : Int) (w : World) (h : bits_Len64.f a0 = some r) :
    Calls Try.prog 38 #[.int .u64 a0] w fun e w' => e = .returned (.int .i64 r) ∧ Drawn0 w w' := by
  unfold bits_Len64.f at h
  split at h
  case isFalse => cases h
  case isTrue hn =>
    obtain rfl := Option.some.inj h
    unfold lenI
    split
    · refine (len_small a0 w hn.1 (by assumption)).mono ?_
      rintro e w' ⟨rfl, rfl⟩
      exact ⟨rfl, Drawn0.refl _⟩
    · refine (len_mid a0 w (by omega) hn.2).mono ?_
      rintro e w' ⟨rfl, rfl⟩
      exact ⟨rfl, Drawn0.refl _⟩
end Go.Proofs.Ytdbbhijicmeckaa.Q
