/- What the program's sums, numbers and records are is what the reference's are.
   Conditions: the text is at most 1024 bytes long, where a record is spoken of. -/
import Derived.Test.YtdbbhijicmeckaaHWrite
import Derived.Test.YtdbbhijicmeckaaQx114
import Derived.Test.YtdbbhijicmeckaaQx115
import Derived.Test.YtdbbhijicmeckaaQx116
import Derived.Test.YtdbbhijicmeckaaQx113
import Derived.Test.YtdbbhijicmeckaaQx108
namespace Go.Proofs.Ytdbbhijicmeckaa.Q
open Go.RowKit Go.Proofs.YtdbbhijicmeckaaW.PrintWords Go.Proofs.YtdbbhijicmeckaaW.PrintLast Go.Proofs.YtdbbhijicmeckaaW.PrintMore
set_option linter.unusedVariables false
set_option linter.unusedSimpArgs false

theorem wrap_in (n : Int) (h0 : 0 ≤ n) (h1 : n ≤ 9223372036854775807) : wrap64 n = n := by unfold wrap64; omega
theorem xor_nat (a b : Nat) (ha : a < 4294967296) (hb : b < 4294967296) : bits .xor .u32 a b = ((a ^^^ b : Nat) : Int) := by
  have e : a ^^^ b < 2 ^ 32 := Nat.xor_lt_two_pow (by simpa using ha) (by simpa using hb)
  have ha' : a % 2 ^ IntKind.u32.bits = a := Nat.mod_eq_of_lt (by simpa [IntKind.bits] using ha)
  have hb' : b % 2 ^ IntKind.u32.bits = b := Nat.mod_eq_of_lt (by simpa [IntKind.bits] using hb)
  simp only [bits, BitVec.ofInt_natCast, BitVec.toNat_xor, BitVec.toNat_ofNat, ha', hb']
  rw [IntKind.wrap_u32]
  omega
theorem and_one (a : Nat) (ha : a < 4294967296) : bits .and .u32 a 1 = (a % 2 : Nat) := by
  have := (bits_nat .u32 32 (by decide) (fun n p q => by rw [IntKind.wrap_u32]; omega) a 1 (by omega) (by omega)).1
  rw [Nat.and_one_is_mod] at this
  exact this
theorem not_nat (a : Nat) (ha : a < 4294967296) : (4294967295 ^^^ a) = 4294967295 - a := by
  have h := BitVec.allOnes_xor (x := BitVec.ofNat 32 a)
  have h2 := congrArg BitVec.toNat h
  rw [BitVec.toNat_xor, BitVec.toNat_not, BitVec.toNat_ofNat, BitVec.toNat_allOnes, Nat.mod_eq_of_lt (by simpa using ha)] at h2
  simpa using h2
/-- A whole number of 32 bits. -/
def W32 (x : Int) : Prop := 0 ≤ x ∧ x < 4294967296
theorem W32.nat {x : Int} (h : W32 x) : ∃ a : Nat, x = a ∧ a < 4294967296 := by
  obtain ⟨a, rfl⟩ := Int.eq_ofNat_of_zero_le h.1
  exact ⟨a, rfl, by have := h.2; omega⟩
theorem W32.xor {x y : Int} (hx : W32 x) (hy : W32 y) : W32 (bits .xor .u32 x y) := by
  obtain ⟨a, rfl, ha⟩ := hx.nat
  obtain ⟨b, rfl, hb⟩ := hy.nat
  rw [xor_nat a b ha hb]
  have e : a ^^^ b < 2 ^ 32 := Nat.xor_lt_two_pow (by simpa using ha) (by simpa using hb)
  exact ⟨by omega, by omega⟩
theorem crcBit_eq {x : Int} (hx : W32 x) : crcBit x = if Int.tmod x 2 = 1 then bits .xor .u32 ((Int.tdiv x 2) % 4294967296) 3988292384 else (Int.tdiv x 2) % 4294967296 := by
  obtain ⟨a, rfl, ha⟩ := hx.nat
  have e1 : Int.tmod (a : Int) 2 = ((a % 2 : Nat) : Int) := by rw [Int.tmod_eq_emod_of_nonneg (by omega)]; omega
  have e2 : Int.tdiv (a : Int) 2 = ((a / 2 : Nat) : Int) := by rw [Int.tdiv_eq_ediv_of_nonneg (by omega)]; omega
  unfold crcBit
  rw [and_one a ha, e1, e2]
  rcases Nat.mod_two_eq_zero_or_one a with h | h
  · rw [h, if_neg (by decide)]
    rw [show (3988292384 * ((0 : Nat) : Int) % 4294967296) = ((0 : Nat) : Int) by decide, show ((a : Int) / 2) = ((a / 2 : Nat) : Int) by omega, xor_nat _ _ (by omega) (by decide), Nat.xor_zero]
    omega
  · rw [h, if_pos (by decide)]
    rw [show (3988292384 * ((1 : Nat) : Int) % 4294967296) = 3988292384 by decide, show ((a : Int) / 2) = ((a / 2 : Nat) : Int) by omega, show ((a / 2 : Nat) : Int) % 4294967296 = ((a / 2 : Nat) : Int) by omega]
theorem crcBit_w {x : Int} (hx : W32 x) : W32 (crcBit x) := by
  rw [crcBit_eq hx]
  have h0 := hx.1
  have h1 := hx.2
  have e2 : Int.tdiv x 2 = x / 2 := Int.tdiv_eq_ediv_of_nonneg h0
  rw [e2]
  have w : W32 (x / 2 % 4294967296) := ⟨by omega, by omega⟩
  split
  · exact w.xor ⟨by decide, by decide⟩
  · exact w
theorem crcBits_comm (x : Int) : ∀ n, crcBits (crcBit x) n = crcBits x (n + 1)
  | 0 => rfl
  | n + 1 => by rw [crcBits, crcBits_comm x n]; rfl
theorem crcBits_w {x : Int} (hx : W32 x) : ∀ n, W32 (crcBits x n)
  | 0 => hx
  | n + 1 => crcBit_w (crcBits_w hx n)
theorem crcI_w (s : ByteArray) : ∀ n, W32 (crcI s n)
  | 0 => ⟨show (0 : Int) ≤ 4294967295 by decide, show (4294967295 : Int) < 4294967296 by decide⟩
  | n + 1 => crcBits_w ((crcI_w s n).xor ⟨by omega, by omega⟩) 8
theorem crcV_eq (s : ByteArray) : crcV s = (4294967295 - crcI s s.size) % 4294967296 := by
  obtain ⟨a, h, ha⟩ := (crcI_w s s.size).nat
  unfold crcV
  rw [h, show (4294967295 : Int) = ((4294967295 : Nat) : Int) by rfl, xor_nat _ a (by decide) ha, not_nat a ha]
  omega
theorem crcV_w (s : ByteArray) : W32 (crcV s) := by
  rw [crcV_eq]
  exact ⟨by omega, by omega⟩
theorem ref_l1 (s : ByteArray) (i : Int) : ∀ (d j K : Nat) (x : Int), W32 x → j + d = 8 → demurralref09_Crc.l1 (K + d + 1) s x i j = demurralref09_Crc.l0 K s (crcBits x d) (wrap64 (i + 1))
  | 0, j, K, x, hx, h => by
    simp only [demurralref09_Crc.l1]
    rw [if_neg (by omega)]
    rfl
  | d + 1, j, K, x, hx, h => by
    have ih := ref_l1 s i d (j + 1) K (crcBit x) (crcBit_w hx) (by omega)
    rw [crcBits_comm] at ih
    rw [← ih]
    rw [crcBit_eq hx]
    simp only [demurralref09_Crc.l1]
    rw [if_pos (by omega), wrap_in _ (by omega) (by omega)]
    by_cases ho : Int.tmod x 2 = 1
    · rw [if_pos ho, if_pos ho]; rfl
    · rw [if_neg ho, if_neg ho]; rfl
theorem ref_l0 (s : ByteArray) (hs : s.size ≤ 9223372036854775806) : ∀ (d i K : Nat), i + d = s.size → demurralref09_Crc.l0 (K + 10 * d + 1) s (crcI s i) i = some (crcV s)
  | 0, i, K, h => by
    simp only [demurralref09_Crc.l0]
    obtain rfl : i = s.size := by omega
    rw [if_neg (by omega), crcV_eq]
  | d + 1, i, K, h => by
    have ih := ref_l0 s hs d (i + 1) K (by omega)
    rw [← ih, show K + 10 * (d + 1) + 1 = (K + 10 * d + 1 + 8 + 1) + 1 by omega]
    have h1 := ref_l1 s i 8 0 (K + 10 * d + 1) (bits .xor .u32 (crcI s i) (bt s i % 4294967296)) ((crcI_w s i).xor ⟨by omega, by omega⟩) (by omega)
    generalize K + 10 * d + 1 + 8 + 1 = M at h1
    simp only [demurralref09_Crc.l0]
    rw [if_pos (by omega), if_pos (by omega)]
    rw [wrap_in _ (by omega) (by omega)] at h1
    exact h1
theorem ref_crc (s : ByteArray) (hs : s.size ≤ 9223372036854775806) (K : Nat) (hK : 10 * s.size + 1 ≤ K) : demurralref09_Crc.f K s = some (crcV s) := by
  obtain ⟨k, rfl⟩ : ∃ k, K = k + 10 * s.size + 1 := ⟨K - 10 * s.size - 1, by omega⟩
  exact ref_l0 s hs s.size 0 k (by omega)
theorem crc_eq (s : ByteArray) (hs : s.size ≤ 9223372036854775807) : log_Crc.f s = some (crcV s) := if_pos hs
theorem alive_eq : demurrallaw09_alive.f = some true := by
  unfold demurrallaw09_alive.f
  rw [crc_eq _ (by decide), Option.bind_some]
  have : crcV ⟨#[49, 50, 51, 52, 53, 54, 55, 56, 57]⟩ = 3421780262 := by decide +kernel
  rw [this]
  rfl
end Go.Proofs.Ytdbbhijicmeckaa.Q
