/- What stream.Stream and stream.Xor compute is what the reference's compute.
   Conditions: the key has 32 bytes, the nonce 12, at most 4096 bytes. -/
import Derived.Test.YtioafoilinhmjaaHPure
import Derived.Test.YtioafoilinhmjaaHXor
import Derived.Test.YtioafoilinhmjaaQx115
import Derived.Test.YtioafoilinhmjaaQx116
namespace Go.Proofs.Ytioafoilinhmjaa.Q
open Go.RowKit Go.Proofs.YtioafoilinhmjaaW.PrintWords Go.Proofs.YtioafoilinhmjaaW.PrintLast Go.Proofs.YtioafoilinhmjaaW.PrintMore
set_option linter.unusedVariables false
set_option linter.unusedSimpArgs false

def catB (key nonce : ByteArray) (m : Nat) : ByteArray := ⟨(catI key nonce m).toArray⟩
theorem catB_size (key nonce : ByteArray) (m : Nat) : (catB key nonce m).size = 64 * m := by simp [catB, ByteArray.size, catI_length]
theorem catB_succ (key nonce : ByteArray) (m : Nat) : catB key nonce m ++ blockI key ((m : Int) + 1) nonce = catB key nonce (m + 1) := by
  apply ByteArray.ext
  simp [catB, catI]
theorem catB_extract (key nonce : ByteArray) (m n : Nat) (h : n ≤ 64 * m) (hm : m ≤ 64) : (catB key nonce m).extract 0 n = streamI key nonce n := by
  have := catI_take key nonce n m (64 - m) h
  rw [show m + (64 - m) = 64 by omega] at this
  unfold streamI catB
  rw [this]
  apply ByteArray.ext
  simp
theorem ref_stream_l0 (key nonce : ByteArray) (hk : key.size = 32) (hn : nonce.size = 12) (n : Nat) (hn4 : n ≤ 4096) : ∀ (d m : Nat), m + d = 64 → ∀ (K k : Nat) (x : ByteArray) (c : Int), K = k + d + 1 → 40 ≤ k → x = catB key nonce m → c = (m : Int) + 1 →
    demurralref05_Stream.l0 K key nonce n x c = some (streamI key nonce n) := by
  intro d
  induction d with
  | zero =>
    rintro m hm K k x c rfl hk40 rfl rfl
    obtain rfl : m = 64 := by omega
    simp only [demurralref05_Stream.l0]
    rw [catB_size, if_neg (by omega), if_pos (by omega), if_pos (by omega), Int.toNat_natCast, catB_extract key nonce 64 n (by omega) (by omega)]
  | succ d ih =>
    rintro m hm K k x c hK hk40 rfl rfl
    obtain ⟨K, rfl⟩ : ∃ j, K = j + 1 := ⟨K - 1, by omega⟩
    simp only [demurralref05_Stream.l0]
    rw [catB_size]
    by_cases hlt : 64 * m < n
    · rw [if_pos (by omega), show K = (K - 40) + 40 by omega, block_eq key nonce _ hk hn, Option.bind_some, if_pos (by rw [blockI_size]; omega), catB_succ]
      rw [show K - 40 + 40 = K by omega]
      exact ih (m + 1) (by omega) K k _ _ (by omega) hk40 rfl (by omega)
    · rw [if_neg (by omega), if_pos (by omega), if_pos (by omega), Int.toNat_natCast, catB_extract key nonce m n (by omega) (by omega)]
theorem ref_stream (key nonce : ByteArray) (hk : key.size = 32) (hn : nonce.size = 12) (n : Int) (h0 : 0 ≤ n) (h1 : n ≤ 4096) (k : Nat) : demurralref05_Stream.f (k + 120) key nonce n = some (streamI key nonce n.toNat) := by
  obtain ⟨m, rfl⟩ := Int.eq_ofNat_of_zero_le h0
  unfold demurralref05_Stream.f
  rw [Int.toNat_natCast]
  exact ref_stream_l0 key nonce hk hn m (by omega) 64 0 (by omega) (k + 120) (k + 55) _ _ (by omega) (by omega) (by simp [catB, catI]) (by omega)

theorem xorL_length (s b : ByteArray) (k : Nat) : (xorL s b k).length = s.size := by
  induction k with
  | zero => exact bytesOf_length s
  | succ k ih => rw [xorL, List.length_set, ih]
/-- The bytes of two texts, xor each other. -/
def xorF (s b : ByteArray) (k : Nat) : List Int := (List.range k).map fun i : Nat => bits .xor .u8 (bt s (i : Int)) (bt b (i : Int))
theorem xorL_eq (s b : ByteArray) : ∀ k, k ≤ s.size → xorL s b k = xorF s b k ++ (bytesOf s).drop k := by
  intro k
  induction k with
  | zero => intro _; simp [xorL, xorF]
  | succ k ih =>
    intro hk
    have hl : (xorF s b k).length = k := by simp [xorF]
    have hlt : k < (bytesOf s).length := by rw [bytesOf_length]; omega
    have hd : (bytesOf s).drop k = bt s k :: (bytesOf s).drop (k + 1) := by
      rw [List.drop_eq_getElem_cons hlt]
      congr 1
      have := rd_bytesOf s k
      simp only [rd, Int.toNat_natCast, List.getD_eq_getElem?_getD, List.getElem?_eq_getElem hlt, Option.getD_some] at this
      exact this
    have hr : rd (xorL s b k) k = bt s k := by
      rw [ih (by omega), hd]
      simp [rd, List.getD_eq_getElem?_getD, List.getElem?_append_right, hl]
    rw [xorL, hr, ih (by omega), hd, List.set_append_right _ _ (by omega), hl, Nat.sub_self]
    simp [xorF, List.range_succ]
theorem xorL_all (s b : ByteArray) : xorL s b s.size = xorF s b s.size := by
  rw [xorL_eq s b s.size (Nat.le_refl _), List.drop_of_length_le (by rw [bytesOf_length]; exact Nat.le_refl _), List.append_nil]
theorem ref_xor_l0 (s b : ByteArray) (hs : s.size ≤ 4096) (hb : b.size = s.size) : ∀ (d m : Nat), m + d = s.size → ∀ (K k : Nat) (x : List Int) (c : Int), K = k + d + 1 → x = xorF s b m → c = m →
    demurralref05_Xor.l0 K s b x c = some (strOfNums (xorF s b s.size)) := by
  intro d
  induction d with
  | zero =>
    rintro m hm K k x c rfl rfl rfl
    obtain rfl : m = s.size := by omega
    simp only [demurralref05_Xor.l0]
    rw [if_neg (by omega)]
  | succ d ih =>
    rintro m hm K k x c hK rfl rfl
    obtain ⟨K, rfl⟩ : ∃ j, K = j + 1 := ⟨K - 1, by omega⟩
    simp only [demurralref05_Xor.l0]
    rw [if_pos (by omega), if_pos (by omega), if_pos (by omega), if_pos (by simp [xorF]; omega), w64 (x := (m : Int) + 1) (by omega) (by omega)]
    exact ih (m + 1) (by omega) K k _ _ (by omega) (by simp [xorF, List.range_succ]) (by omega)
theorem ref_xor (key nonce s : ByteArray) (hk : key.size = 32) (hn : nonce.size = 12) (hs : s.size ≤ 4096) (k : Nat) : demurralref05_Xor.f (k + 5000) key nonce s = some (xorI key nonce s) := by
  unfold demurralref05_Xor.f
  rw [show k + 5000 = (k + 4880) + 120 by omega, ref_stream key nonce hk hn s.size (by omega) (by omega), Option.bind_some, Int.toNat_natCast]
  unfold xorI
  rw [xorL_all]
  exact ref_xor_l0 s _ hs (streamI_size key nonce s.size hs) s.size 0 (by omega) _ (k + 4880 + 120 - s.size - 1) _ _ (by omega) (by simp [xorF]) (by omega)
end Go.Proofs.Ytioafoilinhmjaa.Q
