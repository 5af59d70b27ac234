/- What the program's sums, numbers and records are is what the reference's are.
   Conditions: the text is at most 1024 bytes long, where a record is spoken of. -/
import Derived.Test.YtdbbhijicmeckaaHWrite
import Derived.Test.YtdbbhijicmeckaaQx114
import Derived.Test.YtdbbhijicmeckaaQx115
import Derived.Test.YtdbbhijicmeckaaQx116
import Derived.Test.YtdbbhijicmeckaaQx113
import Derived.Test.YtdbbhijicmeckaaQx108
namespace Go.Proofs.Ytdbbhijicmeckaa.Q
open Go.RowKit Go.Proofs.YtdbbhijicmeckaaW.PrintWords Go.Proofs.YtdbbhijicmeckaaW.PrintLast Go.Proofs.YtdbbhijicmeckaaW.PrintMore
set_option linter.unusedVariables false
set_option linter.unusedSimpArgs false

theorem wrap_in (n : Int) (h0 : 0 ≤ n) (h1 : n ≤ 9223372036854775807) : wrap64 n = n := by unfold wrap64; omega
theorem xor_nat (a b : Nat) (ha : a < 4294967296) (hb : b < 4294967296) : bits .xor .u32 a b = ((a ^^^ b : Nat) : Int) := by
  have e : a ^^^ b < 2 ^ 32 := Nat.xor_lt_two_pow (by simpa using ha) (by simpa using hb)
  have ha' : a % 2 ^ IntKind.u32.bits = a := Nat.mod_eq_of_lt (by simpa [IntKind.bits] using ha)
  have hb' : b % 2 ^ IntKind.u32.bits = b := Nat.mod_eq_of_lt (by simpa [IntKind.bits] using hb)
  simp only [bits, BitVec.ofInt_natCast, BitVec.toNat_xor, BitVec.toNat_ofNat, ha', hb']
  rw [IntKind.wrap_u32]
  omega
theorem and_one (a : Nat) (ha : a < 4294967296) : bits .and .u32 a 1 = (a % 2 : Nat) := by
  have := (bits_nat .u32 32 (by decide) (fun n p q => by rw [IntKind.wrap_u32]; omega) a 1 (by omega) (by omega)).1
  rw [Nat.and_one_is_mod] at this
  exact this
theorem not_nat (a : Nat) (ha : a < 4294967296) : (4294967295 ^^^ a) = 4294967295 - a := by
  have h := BitVec.allOnes_xor (x := BitVec.ofNat 32 a)
  have h2 := congrArg BitVec.toNat h
  rw [BitVec.toNat_xor, BitVec.toNat_not, BitVec.toNat_ofNat, BitVec.toNat_allOnes, Nat.mod_eq_of_lt (by simpa using ha)] at h2
  simpa using h2
/-- A whole number of 32 bits. -/
def W32 (x : Int) : Prop := 0 ≤ x ∧ x < 4294967296
theorem W32.nat {x : Int} (h : W32 x) : ∃ a : Nat, x = a ∧ a < 4294967296 := by
  obtain ⟨a, rfl⟩ := Int.eq_ofNat_of_zero_le h.1
  exact ⟨a, rfl, by have := h.2; omega⟩
theorem W32.xor {x y : Int} (hx : W32 x) (hy : W32 y) : W32 (bits .xor .u32 x y) := by
  obtain ⟨a, rfl, ha⟩ := hx.nat
  obtain ⟨b, rfl, hb⟩ := hy.nat
  rw [xor_nat a b ha hb]
  have e : a ^^^ b < 2 ^ 32 := Nat.xor_lt_two_pow (by simpa using ha) (by simpa using hb)
  exact ⟨by omega, by omega⟩
theorem crcBit_eq {x : Int} (hx : W32 x) : crcBit x = if Int.tmod x 2 = 1 then bits .xor .u32 ((Int.tdiv x 2) % 4294967296) 3988292384 else (Int.tdiv x 2) % 4294967296 := by
  obtain ⟨a, rfl, ha⟩ := hx.nat
  have e1 : Int.tmod (a : Int) 2 = ((a % 2 : Nat) : Int) := by rw [Int.tmod_eq_emod_of_nonneg (by omega)]; omega
  have e2 : Int.tdiv (a : Int) 2 = ((a / 2 : Nat) : Int) := by rw [Int.tdiv_eq_ediv_of_nonneg (by omega)]; omega
  unfold crcBit
  rw [and_one a ha, e1, e2]
  rcases Nat.mod_two_eq_zero_or_one a with h | h
  · rw [h, if_neg (by decide)]
    rw [show (3988292384 * ((0 : Nat) : Int) % 4294967296) = ((0 : Nat) : Int) by decide, show ((a : Int) / 2) = ((a / 2 : Nat) : Int) by omega, xor_nat _ _ (by omega) (by decide), Nat.xor_zero]
    omega
  · rw [h, if_pos (by decide)]
    rw [show (3988292384 * ((1 : Nat) : Int) % 4294967296) = 3988292384 by decide, show ((a : Int) / 2) = ((a / 2 : Nat) : Int) by omega, show ((a / 2 : Nat) : Int) % 4294967296 = ((a / 2 : Nat) : Int) by omega]
theorem crcBit_w {x : Int} (hx : W32 x) : W32 (crcBit x) := by
  rw [crcBit_eq hx]
  have h0 := hx.1
  have h1 := hx.2
  have e2 : Int.tdiv x 2 = x / 2 := Int.tdiv_eq_ediv_of_nonneg h0
  rw [e2]
  have w : W32 (x / 2 % 4294967296) := ⟨by omega, by omega⟩
  split
  · exact w.xor ⟨by decide, by decide⟩
  · exact w
theorem crcBits_comm (x : Int) : ∀ n, crcBits (crcBit x) n = crcBits x (n + 1)
  | 0 => rfl
  | n + 1 => by rw [crcBits, crcBits_comm x n]; rfl
theorem crcBits_w {x : Int} (hx : W32 x) : ∀ n, W32 (crcBits x n)
  | 0 => hx
  | n + 1 => crcBit_w (crcBits_w hx n)
theorem crcI_w (s : ByteArray) : ∀ n, W32 (crcI s n)
  | 0 => ⟨show (0 : Int) ≤ 4294967295 by decide, show (4294967295 : Int) < 4294967296 by decide⟩
  | n + 1 => crcBits_w ((crcI_w s n).xor ⟨by omega, by omega⟩) 8
theorem crcV_eq (s : ByteArray) : crcV s = (4294967295 - crcI s s.size) % 4294967296 := by
  obtain ⟨a, h, ha⟩ := (crcI_w s s.size).nat
  unfold crcV
  rw [h, show (4294967295 : Int) = ((4294967295 : Nat) : Int) by rfl, xor_nat _ a (by decide) ha, not_nat a ha]
  omega
theorem crcV_w (s : ByteArray) : W32 (crcV s) := by
  rw [crcV_eq]
  exact ⟨by omega, by omega⟩
theorem ref_l1 (s : ByteArray) (i : Int) : ∀ (d j K : Nat) (x : Int), W32 x → j + d = 8 → demurralref09_Crc.l1 (K + d + 1) s x i j = demurralref09_Crc.l0 K s (crcBits x d) (wrap64 (i + 1))
  | 0, j, K, x, hx, h => by
    simp only [demurralref09_Crc.l1]
    rw [if_neg (by omega)]
    rfl
  | d + 1, j, K, x, hx, h => by
    have ih := ref_l1 s i d (j + 1) K (crcBit x) (crcBit_w hx) (by omega)
    rw [crcBits_comm] at ih
    rw [← ih]
    rw [crcBit_eq hx]
    simp only [demurralref09_Crc.l1]
    rw [if_pos (by omega), wrap_in _ (by omega) (by omega)]
    by_cases ho : Int.tmod x 2 = 1
    · rw [if_pos ho, if_pos ho]; rfl
    · rw [if_neg ho, if_neg ho]; rfl
theorem ref_l0 (s : ByteArray) (hs : s.size ≤ 9223372036854775806) : ∀ (d i K : Nat), i + d = s.size → demurralref09_Crc.l0 (K + 10 * d + 1) s (crcI s i) i = some (crcV s)
  | 0, i, K, h => by
    simp only [demurralref09_Crc.l0]
    obtain rfl : i = s.size := by omega
    rw [if_neg (by omega), crcV_eq]
  | d + 1, i, K, h => by
    have ih := ref_l0 s hs d (i + 1) K (by omega)
    rw [← ih, show K + 10 * (d + 1) + 1 = (K + 10 * d + 1 + 8 + 1) + 1 by omega]
    have h1 := ref_l1 s i 8 0 (K + 10 * d + 1) (bits .xor .u32 (crcI s i) (bt s i % 4294967296)) ((crcI_w s i).xor ⟨by omega, by omega⟩) (by omega)
    generalize K + 10 * d + 1 + 8 + 1 = M at h1
    simp only [demurralref09_Crc.l0]
    rw [if_pos (by omega), if_pos (by omega)]
    rw [wrap_in _ (by omega) (by omega)] at h1
    exact h1
theorem ref_crc (s : ByteArray) (hs : s.size ≤ 9223372036854775806) (K : Nat) (hK : 10 * s.size + 1 ≤ K) : demurralref09_Crc.f K s = some (crcV s) := by
  obtain ⟨k, rfl⟩ : ∃ k, K = k + 10 * s.size + 1 := ⟨K - 10 * s.size - 1, by omega⟩
  exact ref_l0 s hs s.size 0 k (by omega)
theorem crc_eq (s : ByteArray) (hs : s.size ≤ 9223372036854775807) : log_Crc.f s = some (crcV s) := if_pos hs
theorem alive_eq : demurrallaw09_alive.f = some true := by
  unfold demurrallaw09_alive.f
  rw [crc_eq _ (by decide), Option.bind_some]
  have : crcV ⟨#[49, 50, 51, 52, 53, 54, 55, 56, 57]⟩ = 3421780262 := by decide +kernel
  rw [this]
  rfl
end Go.Proofs.Ytdbbhijicmeckaa.Q
namespace Go.Proofs.Ytdbbhijicmeckaa.Q
open Go.RowKit Go.Proofs.YtdbbhijicmeckaaW.PrintWords Go.Proofs.YtdbbhijicmeckaaW.PrintLast Go.Proofs.YtdbbhijicmeckaaW.PrintMore
set_option linter.unusedVariables false
set_option linter.unusedSimpArgs false

theorem bitsOf_bound : ∀ i : Nat, i < 256 → 0 < i → 1 ≤ bt bitsOf i ∧ bt bitsOf i ≤ 8 := by decide +kernel
theorem bitsOf_zero : bt bitsOf 0 = 0 := by decide +kernel
theorem strOfNums_append (a b : List Int) : strOfNums (a ++ b) = strOfNums a ++ strOfNums b := by
  apply ByteArray.ext
  simp [strOfNums]
/-- A number's bytes. -/
def numL (n : Int) : List Int := if n = 0 then [0] else if n < 256 then [1, n] else [2, n / 256, n % 256]
theorem numL_len (n : Int) : (numL n).length ≤ 3 ∧ 1 ≤ (numL n).length := by
  unfold numL
  split
  · simp
  · split <;> simp
theorem shr_zero (n : Int) : shr .u64 n 0 = n := by simp [shr]
theorem shr_eight (n : Int) : shr .u64 n 8 = n / 256 := by
  unfold shr
  rw [show min (8 : Int).toNat IntKind.u64.bits = 8 by decide]
  rfl
theorem number_eq (n : Int) (h0 : 0 ≤ n) (h1 : n ≤ 1024) (k : Nat) : wire_Number.f (k + 3) n = some (strOfNums (numL n)) := by
  unfold wire_Number.f
  rw [show bits_Len64.f n = some (lenI n) from if_pos ⟨h0, by omega⟩, Option.bind_some]
  unfold lenI numL
  by_cases hz : n = 0
  · subst hz
    rw [if_pos (by decide), bitsOf_zero, if_pos rfl]
    simp [wire_Number.l0, wrap64]
  · rw [if_neg hz]
    by_cases hl : n < 256
    · obtain ⟨m, rfl⟩ := Int.eq_ofNat_of_zero_le h0
      have hb := bitsOf_bound m (by omega) (by omega)
      rw [if_pos hl, if_pos hl]
      generalize bt bitsOf m = b at hb
      have e : Int.tdiv (wrap64 (b + 7)) 8 = 1 := by
        rw [wrap_in _ (by omega) (by omega), Int.tdiv_eq_ediv_of_nonneg (by omega)]; omega
      rw [e]
      have em : (m : Int) % 256 = m := by omega
      simp [wire_Number.l0, wrap64, shr_zero, em]
    · have hb := bitsOf_bound (n / 256).toNat (by omega) (by omega)
      rw [show (((n / 256).toNat : Nat) : Int) = n / 256 by omega] at hb
      rw [if_neg hl, if_neg hl]
      generalize bt bitsOf (n / 256) = b at hb
      have e : Int.tdiv (wrap64 (8 + b + 7)) 8 = 2 := by
        rw [wrap_in _ (by omega) (by omega), Int.tdiv_eq_ediv_of_nonneg (by omega)]; omega
      rw [e]
      have em : n / 256 % 256 = n / 256 := by omega
      simp [wire_Number.l0, wrap64, shr_zero, shr_eight, em]
theorem ref_number (n : Int) (h0 : 0 ≤ n) (h1 : n ≤ 65535) (k : Nat) : demurralref07_Number.f (k + 3) n = some (strOfNums (numL n)) := by
  have wu : ∀ m : Int, 0 ≤ m → m ≤ 65535 → IntKind.u64.wrap m = m := fun m h h' => by rw [IntKind.wrap_u64]; omega
  have em : (⟨#[]⟩ : ByteArray) = strOfNums [] := rfl
  unfold demurralref07_Number.f numL
  rw [em]
  by_cases hz : n = 0
  · subst hz
    simp [demurralref07_Number.l0, ← strOfNums_append, strOfNums_size]
  · rw [if_neg hz]
    have ep : 0 < n := by omega
    have ed : Int.tdiv n 256 = n / 256 := Int.tdiv_eq_ediv_of_nonneg h0
    have et : Int.tmod n 256 = n % 256 := Int.tmod_eq_emod_of_nonneg h0
    by_cases hl : n < 256
    · rw [if_pos hl]
      have e0 : n / 256 = 0 := by omega
      have e1 : n % 256 = n := by omega
      simp [demurralref07_Number.l0, ← strOfNums_append, strOfNums_size, ep, ed, et, e0, e1, wu 0 (by decide) (by decide)]
    · rw [if_neg hl]
      have hp2 : 0 < n / 256 := by omega
      have ed2 : Int.tdiv (n / 256) 256 = 0 := by rw [Int.tdiv_eq_ediv_of_nonneg (by omega)]; omega
      have et2 : Int.tmod (n / 256) 256 = n / 256 := by rw [Int.tmod_eq_emod_of_nonneg (by omega)]; omega
      have e2 : n / 256 % 256 = n / 256 := by omega
      simp [demurralref07_Number.l0, ← strOfNums_append, strOfNums_size, ep, ed, et, wu (n / 256) (by omega) (by omega), hp2, ed2, et2, e2, wu 0 (by decide) (by decide)]
/-- A text's bytes. -/
def textI (s : ByteArray) : ByteArray := strOfNums (numL s.size) ++ s
theorem textI_size (s : ByteArray) : (textI s).size = (numL s.size).length + s.size := by rw [textI, ByteArray.size_append, strOfNums_size]
def sumL (c : Int) : List Int := [(c / 16777216) % 256, (c / 65536) % 256, (c / 256) % 256, c % 256]
/-- A text's record. -/
def recI (s : ByteArray) : ByteArray := textI s ++ strOfNums (sumL (crcV (textI s)))
theorem recI_size (s : ByteArray) : (recI s).size = (numL s.size).length + s.size + 4 := by rw [recI, ByteArray.size_append, strOfNums_size, textI_size]; rfl
theorem text_eq (s : ByteArray) (hs : s.size ≤ 1024) (k : Nat) : wire_Text.f (k + 3) s = some (textI s, 0) := by
  unfold wire_Text.f
  rw [if_neg (by omega), show IntKind.u64.wrap (s.size : Int) = s.size by rw [IntKind.wrap_u64]; omega, number_eq _ (by omega) (by omega), Option.bind_some]
  have := numL_len s.size
  rw [if_pos (by rw [strOfNums_size]; omega)]
  rfl
theorem record_eq (s : ByteArray) (hs : s.size ≤ 1024) (k : Nat) : log_Record.f (k + 3) s = some (recI s, 0) := by
  unfold log_Record.f
  rw [text_eq s hs, Option.bind_some, if_pos rfl]
  unfold log_sealed.f
  have := numL_len s.size
  have ht := textI_size s
  rw [crc_eq _ (by show (textI s).size ≤ _; omega), Option.bind_some, Option.bind_some, if_pos (by rw [strOfNums_size]; simp; omega)]
  rfl
theorem record_long (s : ByteArray) (hs : 1024 < s.size) (k : Nat) : log_Record.f k s = some (⟨#[]⟩, 2) := by
  unfold log_Record.f wire_Text.f
  rw [if_pos (by omega), Option.bind_some, if_neg (by decide)]
theorem ref_record (s : ByteArray) (hs : s.size ≤ 1024) (k : Nat) (hk : 10300 ≤ k) : demurralref09_Record.f k s = some (recI s) := by
  unfold demurralref09_Record.f demurralref07_One.f
  have := numL_len s.size
  have ht := textI_size s
  obtain ⟨j, rfl⟩ : ∃ j, k = j + 3 := ⟨k - 3, by omega⟩
  rw [if_pos rfl, show IntKind.u64.wrap (s.size : Int) = s.size by rw [IntKind.wrap_u64]; omega, ref_number _ (by omega) (by omega), Option.bind_some, if_pos (by rw [strOfNums_size]; omega), Option.bind_some]
  rw [show strOfNums (numL s.size) ++ s = textI s from rfl, ref_crc (textI s) (by omega) (j + 3) (by omega), Option.bind_some, Option.bind_some, if_pos (by rw [strOfNums_size]; simp; omega)]
  have hw := crcV_w (textI s)
  unfold recI sumL
  generalize crcV (textI s) = c at hw
  have h0 := hw.1
  have h1 := hw.2
  rw [Int.tdiv_eq_ediv_of_nonneg h0, Int.tdiv_eq_ediv_of_nonneg h0, Int.tdiv_eq_ediv_of_nonneg h0, Int.tmod_eq_emod_of_nonneg h0]
  rw [show c / 16777216 % 4294967296 % 256 = c / 16777216 % 256 by omega, show c / 65536 % 4294967296 % 256 = c / 65536 % 256 by omega, show c / 256 % 4294967296 % 256 = c / 256 % 256 by omega, show c % 256 % 256 = c % 256 by omega]
/-- Several texts' records, one behind the other. -/
def catL (l : List ByteArray) : List UInt8 := l.flatMap fun s => (recI s).data.toList
theorem catL_len (l : List ByteArray) (h : ∀ s ∈ l, s.size ≤ 1024) : (catL l).length ≤ l.length * 1040 := by
  induction l with
  | nil => simp [catL]
  | cons s l ih =>
    have h1 := ih fun t ht => h t (List.mem_cons_of_mem _ ht)
    have h2 := recI_size s
    have h3 := numL_len s.size
    have h4 := h s List.mem_cons_self
    have h5 : (catL (s :: l)).length = (recI s).size + (catL l).length := by rw [catL, List.flatMap_cons, List.length_append, Array.length_toList]; rfl
    rw [h5, List.length_cons]
    omega
theorem wrI_eq (k : Nat) : ∀ (l : List ByteArray) (out : List UInt8), (∀ s ∈ l, s.size ≤ 1024) → out.length + l.length * 1040 ≤ 140737488355328 → wrI (k + 3) l out = some (⟨(out ++ catL l).toArray⟩, 0)
  | [], out, _, _ => by simp [wrI, catL]
  | s :: l, out, h, hl => by
    have h2 := recI_size s
    have h3 := numL_len s.size
    have h4 := h s List.mem_cons_self
    rw [List.length_cons] at hl
    rw [wrI, record_eq s h4, Option.bind_some, if_pos rfl, if_pos (by show out.length + (recI s).size ≤ _; omega),
      wrI_eq k l _ (fun t ht => h t (List.mem_cons_of_mem _ ht)) (by rw [List.length_append]; show out.length + (recI s).size + _ ≤ _; omega)]
    simp [catL]
theorem wrI_long (k : Nat) : ∀ (l : List ByteArray) (out : List UInt8), (∃ s ∈ l, 1024 < s.size) → out.length + l.length * 1040 ≤ 140737488355328 → wrI (k + 3) l out = some (⟨#[]⟩, 2)
  | [], out, h, _ => by obtain ⟨s, hs, _⟩ := h; cases hs
  | s :: l, out, h, hl => by
    rw [List.length_cons] at hl
    rw [wrI]
    by_cases h4 : s.size ≤ 1024
    · have h2 := recI_size s
      have h3 := numL_len s.size
      rw [record_eq s h4, Option.bind_some, if_pos rfl, if_pos (by show out.length + (recI s).size ≤ _; omega)]
      refine wrI_long k l _ ?_ (by rw [List.length_append]; show out.length + (recI s).size + _ ≤ _; omega)
      obtain ⟨t, ht, htl⟩ := h
      rcases List.mem_cons.1 ht with rfl | ht
      · omega
      · exact ⟨t, ht, htl⟩
    · rw [record_long s (by omega), Option.bind_some, if_neg (by decide)]
def longB (l : List ByteArray) (m : Nat) : Bool := l.any fun s => decide (m < s.size)
theorem write_eq (l : List ByteArray) (hl : l.length ≤ 100) (h : longB l 1024 = false) (k : Nat) : log_Write.f (k + 3) l = some (⟨(catL l).toArray⟩, 0) := by
  have h' : ∀ s ∈ l, s.size ≤ 1024 := by simpa [longB] using h
  unfold log_Write.f
  rw [if_pos (by omega), wrI_eq k l [] h' (by simp; omega), List.nil_append]
theorem write_long (l : List ByteArray) (hl : l.length ≤ 100) (h : longB l 1024 = true) (k : Nat) : log_Write.f (k + 3) l = some (⟨#[]⟩, 2) := by
  have h' : ∃ s ∈ l, 1024 < s.size := by simpa [longB] using h
  unfold log_Write.f
  rw [if_pos (by omega), wrI_long k l [] h' (by simp; omega)]
theorem rd_nat (l : List ByteArray) (i : Nat) (h : i < l.length) : rdOf ByteArray.empty l (i : Int) = l[i] := by simp [rdOf, h]
theorem long_l0 (l : List ByteArray) (hl : l.length ≤ 1000) (m : Nat) : ∀ (d i K : Nat), i + d = l.length → demurralref09_Long.l0 (K + d + 1) (m : Int) l l.length i = some (longB (l.drop i) m)
  | 0, i, K, h => by
    simp only [demurralref09_Long.l0]
    rw [if_neg (by omega), List.drop_of_length_le (by omega)]
    rfl
  | d + 1, i, K, h => by
    have h0 : i < l.length := by omega
    have ih := long_l0 l hl m d (i + 1) K (by omega)
    rw [show K + (d + 1) + 1 = (K + d + 1) + 1 by omega]
    generalize K + d + 1 = M at ih
    simp only [demurralref09_Long.l0]
    rw [if_pos (by omega), if_pos (by omega), if_pos (by omega), rd_nat l i h0, wrap_in _ (by omega) (by omega), List.drop_eq_getElem_cons h0]
    by_cases hb : m < l[i].size
    · rw [if_pos (by omega)]
      rw [longB, List.any_cons, decide_eq_true hb, Bool.true_or]
    · rw [if_neg (by omega)]
      rw [show ((i : Int) + 1) = ((i + 1 : Nat) : Int) by omega, ih]
      rw [longB, longB, List.any_cons, decide_eq_false hb, Bool.false_or]
theorem long_eq (l : List ByteArray) (hl : l.length ≤ 1000) (m : Nat) (k : Nat) (hk : l.length + 1 ≤ k) : demurralref09_Long.f k l (m : Int) = some (longB l m) := by
  obtain ⟨j, rfl⟩ : ∃ j, k = j + l.length + 1 := ⟨k - l.length - 1, by omega⟩
  exact long_l0 l hl m l.length 0 j (by omega)
theorem refw_l0 (l : List ByteArray) (hl : l.length ≤ 100) (hs : ∀ s ∈ l, s.size ≤ 1024) : ∀ (d i K : Nat) (out : List UInt8), i + d = l.length → out.length + d * 1040 ≤ 1000000 → 10300 ≤ K →
    demurralref09_Write.l0 (K + d + 1) ⟨out.toArray⟩ l l.length i = some ⟨(out ++ catL (l.drop i)).toArray⟩
  | 0, i, K, out, h, _, _ => by
    simp only [demurralref09_Write.l0]
    rw [if_neg (by omega), List.drop_of_length_le (by omega)]
    simp [catL]
  | d + 1, i, K, out, h, ho, hK => by
    have h0 : i < l.length := by omega
    have h1 := hs l[i] (List.getElem_mem h0)
    have h2 := recI_size l[i]
    have h3 := numL_len l[i].size
    have ih := refw_l0 l hl hs d (i + 1) K (out ++ (recI l[i]).data.toList) (by omega) (by rw [List.length_append]; show out.length + (recI l[i]).size + _ ≤ _; omega) hK
    have hr := ref_record l[i] h1 (K + d + 1) (by omega)
    rw [show K + (d + 1) + 1 = (K + d + 1) + 1 by omega]
    generalize K + d + 1 = M at ih hr
    simp only [demurralref09_Write.l0]
    rw [if_pos (by omega), if_pos (by omega), if_pos (by omega), rd_nat l i h0, hr, Option.bind_some, wrap_in _ (by omega) (by omega), if_pos (by show out.toArray.size + _ ≤ _; simp; omega), List.drop_eq_getElem_cons h0]
    rw [show ((i : Int) + 1) = ((i + 1 : Nat) : Int) by omega]
    have e : (⟨out.toArray⟩ : ByteArray) ++ recI l[i] = ⟨(out ++ (recI l[i]).data.toList).toArray⟩ := by
      apply ByteArray.ext; simp
    rw [e, ih, catL, catL, List.flatMap_cons, List.append_assoc]
theorem ref_write (l : List ByteArray) (hl : l.length ≤ 100) (h : longB l 1024 = false) (k : Nat) (hk : 10500 ≤ k) : demurralref09_Write.f k l = some ⟨(catL l).toArray⟩ := by
  have h' : ∀ s ∈ l, s.size ≤ 1024 := by simpa [longB] using h
  obtain ⟨j, rfl⟩ : ∃ j, k = j + l.length + 1 := ⟨k - l.length - 1, by omega⟩
  have := refw_l0 l hl h' l.length 0 j [] (by omega) (by simp; omega) (by omega)
  exact this
/-- What log.Record answers. -/
def recR (s r : ByteArray) (e : Int) : Prop := (∀ k, 3 ≤ k → log_Record.f k s = some (r, e)) ∧ ((1024 < s.size ∧ r = ⟨#[]⟩ ∧ e = 2) ∨ (s.size ≤ 1024 ∧ e = 0 ∧ demurralref09_Record.f 10300 s = some r))
theorem recR_ok (s : ByteArray) : ∃ r e, recR s r e := by
  by_cases h : s.size ≤ 1024
  · exact ⟨recI s, 0, fun k hk => by obtain ⟨j, rfl⟩ : ∃ j, k = j + 3 := ⟨k - 3, by omega⟩; exact record_eq s h j, .inr ⟨h, rfl, ref_record s h 10300 (by omega)⟩⟩
  · exact ⟨⟨#[]⟩, 2, fun k hk => record_long s (by omega) k, .inl ⟨by omega, rfl, rfl⟩⟩
/-- What log.Write answers. -/
def writeR (l : List ByteArray) (r : ByteArray) (e : Int) : Prop := log_Write.f 3 l = some (r, e) ∧ ((longB l 1024 = true ∧ r = ⟨#[]⟩ ∧ e = 2) ∨ (longB l 1024 = false ∧ e = 0 ∧ demurralref09_Write.f 10500 l = some r))
theorem writeR_ok (l : List ByteArray) (hl : l.length ≤ 100) : ∃ r e, writeR l r e := by
  cases h : longB l 1024 with
  | true => exact ⟨⟨#[]⟩, 2, write_long l hl h 0, .inl ⟨h, rfl, rfl⟩⟩
  | false => exact ⟨⟨(catL l).toArray⟩, 0, write_eq l hl h 0, .inr ⟨h, rfl, ref_write l hl h 10500 (by omega)⟩⟩
theorem few_calls (A : Option Addr) (c : Nat) (l : List ByteArray) (w : World) (hc : l.length ≤ c) :
    Calls Try.prog 8 #[.slice A l.length c] w fun e w' => e = .returned (.slice A (l.take 8).length c) ∧ w' = w := by
  by_cases h : l.length ≤ 8
  · have e : (l.take 8).length = l.length := by rw [List.length_take]; omega
    have hlt : ¬ (8 : Int) < (l.length : Int) := by omega
    have hlt2 : (l.length : Int) ≤ 8 := by omega
    have em : (min (l.length : Int) 8).toNat = l.length := by omega
    rw [e]
    go_enter Try.func8, Try.ntmps8
    go_wp2
    go_ret
    exact ⟨rfl, rfl⟩
  · have e : (l.take 8).length = 8 := by rw [List.length_take]; omega
    have hlt : (8 : Int) < (l.length : Int) := by omega
    have hc40 : 8 ≤ c := by omega
    have em : (min (l.length : Int) 8).toNat = 8 := by omega
    rw [e]
    go_enter Try.func8, Try.ntmps8
    go_wp2
    go_ret
    exact ⟨rfl, rfl⟩
end Go.Proofs.Ytdbbhijicmeckaa.Q
