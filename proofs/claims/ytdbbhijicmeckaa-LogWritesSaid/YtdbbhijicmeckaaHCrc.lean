/- log.Crc answers a text's sum, reckoned bit by bit.
   Conditions: the text is not longer than an int can tell. -/
import Derived.Test.YtdbbhijicmeckaaQx0
import Derived.Handy
import Derived.Lib.Hide
import Derived.Lib.ConvBytes
namespace Go.Proofs.Ytdbbhijicmeckaa.Q
open Go.RowKit Go.Proofs.YtdbbhijicmeckaaW.PrintWords Go.Proofs.YtdbbhijicmeckaaW.PrintLast Go.Proofs.YtdbbhijicmeckaaW.PrintMore
set_option linter.unusedVariables false
set_option linter.unusedSimpArgs false

def crcBit (c : Int) : Int := bits .xor .u32 (c / 2) (3988292384 * bits .and .u32 c 1 % 4294967296)
def crcBits (c : Int) : Nat → Int
  | 0 => c
  | n + 1 => crcBit (crcBits c n)
def crcI (s : ByteArray) : Nat → Int
  | 0 => 4294967295
  | n + 1 => crcBits (bits .xor .u32 (crcI s n) (bt s n % 4294967296)) 8
def crcV (s : ByteArray) : Int := bits .xor .u32 4294967295 (crcI s s.size)
set_option maxHeartbeats 1000000 in
set_option maxRecDepth 100000 in
theorem crc_calls (s : ByteArray) (w : World) (hs : s.size ≤ 9223372036854775807) :
    Calls Try.prog 11 #[.string s] w fun e w' => e = .returned (.int .u32 (crcV s)) ∧ Below w.heap.size w w' := by
  have kb := fun W => print_bytes (P := Try.prog) 9 53 5 Try.underlying9 Try.underlying53 Try.underlying5 s W
  go_enter Try.func11, Try.ntmps11
  go_wp2
  clear kb
  have hB0 : Below w.heap.size w (Lib.bytesWorld w 5 s) := bytes_below (Below.refl _ _) (Nat.le_refl _) 5 s
  have hX : ∀ j, j < s.size → (Lib.bytesWorld w 5 s).cell? ⟨w.heap.size, j, none⟩ = some (.int .u8 (bt s j)) := fun j hj => by
    rw [Lib.bytesWorld_cell w 5 s j hj]
    have h' : j < s.data.toList.length := by rw [data_length]; exact hj
    unfold bt
    rw [dif_pos (by rw [Int.toNat_natCast]; exact hj)]
    simp [List.getD_eq_getElem?_getD, List.getElem?_eq_getElem h']
    rfl
  obtain ⟨g, hg⟩ : ∃ g, w.heap.size = g := ⟨_, rfl⟩
  obtain ⟨c, hc⟩ : ∃ c, grownCap w s.size 0 5 = c := ⟨_, rfl⟩
  obtain ⟨w1, hw1⟩ : ∃ w1, Lib.bytesWorld w 5 s = w1 := ⟨_, rfl⟩
  simp only [hg, hc, hw1] at hX hB0 ⊢
  clear hc hw1
  go_loopw [3, 9] (fun u v wr => ∃ i : Int, 0 ≤ i ∧ i ≤ s.size ∧ v = .int .i64 i ∧ u = .int .u32 (crcI s i.toNat) ∧ wr = w1) (fun _ v _ => s.size - (intOf v).toNat)
  case atStart => exact ⟨0, by omega, by omega, rfl, rfl, rfl⟩
  case round =>
    obtain ⟨i, hi0, hi1, rfl, rfl, rfl⟩ := hrel
    by_cases hlt : i < s.size
    · have hq := hX i.toNat (by omega)
      rw [show ((i.toNat : Nat) : Int) = i by omega] at hq
      have HS : crcI s (i + 1).toNat = crcBits (bits .xor .u32 (crcI s i.toNat) (bt s i % 4294967296)) 8 := by
        obtain ⟨n, rfl⟩ := Int.eq_ofNat_of_zero_le hi0
        rw [show ((n : Int) + 1).toNat = n + 1 by omega, show ((n : Int)).toNat = n by omega]
        rfl
      replace HS := Lib.hid HS
      generalize bt s i = b at hq HS
      generalize crcI s i.toNat = c0 at HS ⊢
      clear hX
      go_wp2
      go_loopw [3, 17] (fun u v wx => ∃ k : Nat, k ≤ 8 ∧ v = .int .i64 (k : Int) ∧ u = .int .u32 (crcBits (bits .xor .u32 c0 (b % 4294967296)) k) ∧ wx = wr) (fun _ v _ => 8 - (intOf v).toNat)
      case atStart => exact ⟨0, by omega, rfl, rfl, rfl⟩
      case round =>
        obtain ⟨k, hk, rfl, rfl, rfl⟩ := hrel
        by_cases hk8 : (k : Int) < 8
        · generalize hx : crcBits (bits .xor .u32 c0 (b % 4294967296)) k = x
          have hx2 : crcBits (bits .xor .u32 c0 (b % 4294967296)) (k + 1) = crcBit x := by rw [crcBits, hx]
          replace hx2 := Lib.hid hx2
          clear hx
          go_wp2
          go_roundw
          case rel => exact ⟨k + 1, by omega, by go_num, by rw [hx2.out]; rfl, trivial⟩
          case measure => simp [intOf]; omega
        · obtain rfl : k = 8 := by omega
          go_wp2
          go_roundw
          case rel => exact ⟨i + 1, by omega, by omega, by go_num, by rw [HS.out], trivial⟩
          case measure => simp [intOf]; omega
    · obtain rfl : i = s.size := by omega
      go_wp2
      go_ret
      exact ⟨rfl, hB0⟩
def log_Crc.f (s : ByteArray) : Option Int := if s.size ≤ 9223372036854775807 then some (crcV s) else none
theorem log_Crc.calls (a0 : ByteArray) (r : Int) (w : World) (h : log_Crc.f a0 = some r) :
    Calls Try.prog 11 #[.string a0] w fun e w' => e = .returned (.int .u32 r) ∧ Below w.heap.size w w' := by
  unfold log_Crc.f at h
  split at h
  case isFalse => cases h
  case isTrue hs =>
    obtain rfl := Option.some.inj h
    exact crc_calls a0 w hs
end Go.Proofs.Ytdbbhijicmeckaa.Q
