/- What the program's stream functions compute is what the reference's compute: four words mixed, sixteen words mixed, a block.
   Conditions: the key has 32 bytes, the nonce 12, where a block is spoken of. -/
import Derived.Test.YtioafoilinhmjaaHBlock
import Derived.Test.YtioafoilinhmjaaQx106
import Derived.Test.YtioafoilinhmjaaQx108
import Derived.Test.YtioafoilinhmjaaHRefQuarter
import Derived.Test.YtioafoilinhmjaaQx110
import Derived.Test.YtioafoilinhmjaaQx111
import Derived.Test.YtioafoilinhmjaaQx112
namespace Go.Proofs.Ytioafoilinhmjaa.Q
open Go.RowKit Go.Proofs.YtioafoilinhmjaaW.PrintWords Go.Proofs.YtioafoilinhmjaaW.PrintLast Go.Proofs.YtioafoilinhmjaaW.PrintMore
set_option linter.unusedVariables false
set_option linter.unusedSimpArgs false

theorem w64 {x : Int} (h0 : 0 ≤ x) (h1 : x < 9223372036854775807) : wrap64 x = x := by unfold wrap64; omega
theorem quarter_eq (a b c d : Int) : demurralref05_Quarter.f a b c d = some (quarterI a b c d) := rfl

theorem mixI_length (l : List Int) (a b c d : Int) : (mixI l a b c d).length = l.length := by simp [mixI]
theorem mix_eq (l : List Int) (hl : l.length = 16) (a b c d : Int) (ha0 : 0 ≤ a) (ha1 : a < 16) (hb0 : 0 ≤ b) (hb1 : b < 16) (hc0 : 0 ≤ c) (hc1 : c < 16) (hd0 : 0 ≤ d) (hd1 : d < 16) :
    demurralref05_mix.f l a b c d = some (mixI l a b c d) := by
  unfold demurralref05_mix.f
  have e : ((16 : Nat) : Int) = 16 := rfl
  rw [quarter_eq]
  simp only [hl, e, if_pos ha0, if_pos ha1, if_pos hb0, if_pos hb1, if_pos hc0, if_pos hc1, if_pos hd0, if_pos hd1, Option.bind_some, List.nil_append, List.length_nil]
  rw [if_pos (by omega)]
  rfl

theorem roundI_length (l : List Int) : (roundI l).length = l.length := by simp [roundI, mixI_length]
theorem roundsI_length (k : Nat) (l : List Int) : (roundsI k l).length = l.length := by
  induction k with
  | zero => rfl
  | succ k ih => rw [roundsI, roundI_length, ih]
theorem roundsI_comm (k : Nat) (l : List Int) : roundsI k (roundI l) = roundI (roundsI k l) := by
  induction k with
  | zero => rfl
  | succ k ih => rw [roundsI, ih, roundsI]

/-- Word number j of a text, the lowest byte first. -/
def wordI (s : ByteArray) (j : Int) : Int := bt s (4 * j) + 256 * bt s (4 * j + 1) + 65536 * bt s (4 * j + 2) + 16777216 * bt s (4 * j + 3)

theorem bt_extract (s : ByteArray) (a b : Nat) (i : Int) (h0 : 0 ≤ i) (h1 : a + i < b) (h2 : b ≤ s.size) : bt (s.extract a b) i = bt s (a + i) := by
  obtain ⟨n, rfl⟩ := Int.eq_ofNat_of_zero_le h0
  have hs : (s.extract a b).size = b - a := by simp; omega
  unfold bt
  rw [dif_pos (by rw [hs]; omega), dif_pos (by omega)]
  congr 1
  simp only [ByteArray.getElem_extract]
  congr 2

theorem word_eq (s : ByteArray) (j : Nat) (h : 4 * j + 4 ≤ s.size) : demurralref05_word.f (s.extract (4 * j) (4 * j + 4)) = some (wordI s j) := by
  have hs : ((s.extract (4 * j) (4 * j + 4)).size : Int) = 4 := by simp; omega
  have b (i : Int) (h0 : 0 ≤ i) (h1 : i < 4) : bt (s.extract (4 * j) (4 * j + 4)) i = bt s (4 * j + i) := by
    rw [bt_extract s _ _ i h0 (by omega) h]; rfl
  have r0 := bt_range s (4 * (j : Int))
  have r1 := bt_range s (4 * (j : Int) + 1)
  have r2 := bt_range s (4 * (j : Int) + 2)
  have r3 := bt_range s (4 * (j : Int) + 3)
  unfold demurralref05_word.f
  rw [hs, if_pos (by omega), if_pos (by omega), if_pos (by omega), if_pos (by omega), b 0 (by omega) (by omega), b 1 (by omega) (by omega), b 2 (by omega) (by omega), b 3 (by omega) (by omega)]
  unfold wordI
  simp only [Int.add_zero]
  congr 1
  omega

theorem first_l1 (nonce : ByteArray) (hn : nonce.size = 12) : ∀ (d i : Nat), i + d = 3 → ∀ (K k : Nat) (x : Int) acc, K = k + d + 1 → x = i → acc.length ≤ 100 + i →
    demurralref05_first.l1 K nonce acc x = some (acc ++ (List.range' i d).map fun j : Nat => wordI nonce (j : Int)) := by
  intro d
  induction d with
  | zero =>
    rintro i hi K k x acc rfl rfl hl
    simp only [demurralref05_first.l1]
    rw [if_neg (by omega)]
    simp
  | succ d ih =>
    rintro i hi K k x acc hK rfl hl
    obtain ⟨K, rfl⟩ : ∃ m, K = m + 1 := ⟨K - 1, by omega⟩
    simp only [demurralref05_first.l1]
    rw [if_pos (by omega), w64 (x := 4 * (i : Int)) (by omega) (by omega), w64 (x := 4 * (i : Int) + 4) (by omega) (by omega), if_pos (by omega), if_pos (by omega), if_pos (by omega)]
    rw [show (4 * (i : Int)).toNat = 4 * i by omega, show (4 * (i : Int) + 4).toNat = 4 * i + 4 by omega, word_eq nonce i (by omega)]
    simp only [Option.bind_some]
    rw [if_pos (by omega), w64 (x := (i : Int) + 1) (by omega) (by omega)]
    rw [ih (i + 1) (by omega) K k ((i : Int) + 1) (acc ++ [wordI nonce i]) (by omega) (by omega) (by simp; omega), List.range'_succ]
    simp

theorem first_l0 (key nonce : ByteArray) (n : Int) (hk : key.size = 32) : ∀ (d i : Nat), i + d = 8 → ∀ (K k : Nat) (x : Int) acc, K = k + d + 1 → x = i → acc.length ≤ 50 + i →
    demurralref05_first.l0 K key n nonce acc x = demurralref05_first.l1 k nonce (acc ++ ((List.range' i d).map fun j : Nat => wordI key (j : Int)) ++ [n]) 0 := by
  intro d
  induction d with
  | zero =>
    rintro i hi K k x acc rfl rfl hl
    simp only [demurralref05_first.l0]
    rw [if_neg (by omega), if_pos (by omega)]
    simp
  | succ d ih =>
    rintro i hi K k x acc hK rfl hl
    obtain ⟨K, rfl⟩ : ∃ m, K = m + 1 := ⟨K - 1, by omega⟩
    simp only [demurralref05_first.l0]
    rw [if_pos (by omega), w64 (x := 4 * (i : Int)) (by omega) (by omega), w64 (x := 4 * (i : Int) + 4) (by omega) (by omega), if_pos (by omega), if_pos (by omega), if_pos (by omega)]
    rw [show (4 * (i : Int)).toNat = 4 * i by omega, show (4 * (i : Int) + 4).toNat = 4 * i + 4 by omega, word_eq key i (by omega)]
    simp only [Option.bind_some]
    rw [if_pos (by omega), w64 (x := (i : Int) + 1) (by omega) (by omega)]
    rw [ih (i + 1) (by omega) K k ((i : Int) + 1) (acc ++ [wordI key i]) (by omega) (by omega) (by simp; omega), List.range'_succ]
    simp

/-- A block's words, as the document lists them. -/
def firstW (key : ByteArray) (n : Int) (nonce : ByteArray) : List Int :=
  [1634760805, 857760878, 2036477234, 1797285236, wordI key 0, wordI key 1, wordI key 2, wordI key 3, wordI key 4, wordI key 5, wordI key 6, wordI key 7, n, wordI nonce 0, wordI nonce 1, wordI nonce 2]
theorem range8 (f : Nat → Int) : (List.range' 0 8).map f = [f 0, f 1, f 2, f 3, f 4, f 5, f 6, f 7] := rfl
theorem range3 (f : Nat → Int) : (List.range' 0 3).map f = [f 0, f 1, f 2] := rfl
theorem first_eq (key nonce : ByteArray) (n : Int) (hk : key.size = 32) (hn : nonce.size = 12) (k : Nat) : demurralref05_first.f (k + 13) key n nonce = some (firstW key n nonce) := by
  unfold demurralref05_first.f
  rw [first_l0 key nonce n hk 8 0 (by omega) (k + 13) (k + 4) 0 [1634760805, 857760878, 2036477234, 1797285236] (by omega) (by omega) (by simp), first_l1 nonce hn 3 0 (by omega) (k + 4) k 0 _ (by omega) (by omega) (by simp), range8, range3]
  simp [firstW]

theorem u32_id {x : Int} (h0 : 0 ≤ x) (h1 : x < 4294967296) : IntKind.u32.wrap x = x := by rw [IntKind.wrap_u32]; omega
theorem or32 (x z : Int) (k : Nat) (hk : k ≤ 24) (h0 : 0 ≤ x) (h1 : x < 2 ^ k) (z0 : 0 ≤ z) (z1 : z ≤ 255) : bits .or .u32 x (z * 2 ^ k) = x + z * 2 ^ k := by
  obtain ⟨a, rfl⟩ := Int.eq_ofNat_of_zero_le h0
  obtain ⟨c, rfl⟩ := Int.eq_ofNat_of_zero_le z0
  have ha : a < 2 ^ k := by exact_mod_cast h1
  have hp : 2 ^ k ≤ 2 ^ 24 := Nat.pow_le_pow_right (by omega) hk
  have hc : c ≤ 255 := by omega
  have hm : c * 2 ^ k ≤ 255 * 2 ^ 24 := Nat.mul_le_mul hc hp
  have e : (c : Int) * 2 ^ k = ((c * 2 ^ k : Nat) : Int) := by simp
  have := (bits_nat .u32 32 (by decide) (fun n p q => u32_id p (by simpa using q)) a (c * 2 ^ k) (by omega) (by omega)).2
  rw [e, this, Nat.or_comm, Nat.mul_comm, ← Nat.two_pow_add_eq_or_of_lt ha c]
  simp
  omega

theorem rd_set_same (l : List Int) (a : Int) (v : Int) (h : a.toNat < l.length) : rd (l.set a.toNat v) a = v := by
  simp [rd, h]
theorem loadV_val (s : ByteArray) (m r : Nat) (hr : r < 4) : loadV s ((4 * m + r : Nat) : Int) = bt s ((4 * m + r : Nat) : Int) * 2 ^ (8 * r) := by
  have hb := bt_range s ((4 * m + r : Nat) : Int)
  have e : (8 * (((4 * m + r : Nat) : Int) % 4)).toNat = 8 * r := by omega
  have hp : (2 : Nat) ^ (8 * r) ≤ 2 ^ 24 := Nat.pow_le_pow_right (by omega) (by omega)
  have hp0 : 0 < (2 : Nat) ^ (8 * r) := Nat.two_pow_pos _
  obtain ⟨c, hc⟩ := Int.eq_ofNat_of_zero_le hb.1
  unfold loadV
  rw [e, u32_id (x := bt s _) (by omega) (by omega), hc]
  have hc' : c ≤ 255 := by omega
  have hm : c * 2 ^ (8 * r) ≤ 255 * 2 ^ 24 := Nat.mul_le_mul hc' hp
  have e2 : (c : Int) * 2 ^ (8 * r) = ((c * 2 ^ (8 * r) : Nat) : Int) := by simp
  rw [e2, u32_id (by omega) (by omega)]
theorem load_word0 (p : Int) (s : ByteArray) (xs Y : List Int) (m : Nat) (hp : 0 ≤ p) (hY : loadI p s (4 * m) xs = Y) (hlen : (p + m).toNat < Y.length) (h0 : rd Y (p + m) = 0) :
    loadI p s (4 * m + 4) xs = Y.set (p + m).toNat (wordI s m) := by
  have q (r : Nat) (hr : r < 4) : p + ((4 * m + r : Nat) : Int) / 4 = p + m := by omega
  have b0 := bt_range s (4 * (m : Int))
  have b1 := bt_range s (4 * (m : Int) + 1)
  have b2 := bt_range s (4 * (m : Int) + 2)
  have b3 := bt_range s (4 * (m : Int) + 3)
  have s1 : loadI p s (4 * m + 1) xs = Y.set (p + m).toNat (bt s (4 * m)) := by
    rw [loadI, hY]
    have := q 0 (by omega)
    rw [show 4 * m + 0 = 4 * m by omega] at this
    have hv := loadV_val s m 0 (by omega)
    rw [show 4 * m + 0 = 4 * m by omega] at hv
    rw [this, hv, h0, or32 0 _ _ (by omega) (by omega) (by simp) (by have := bt_range s ((4 * m : Nat) : Int); omega) (by have := bt_range s ((4 * m : Nat) : Int); omega)]
    simp
  have s2 : loadI p s (4 * m + 1 + 1) xs = Y.set (p + m).toNat (bt s (4 * m) + 256 * bt s (4 * m + 1)) := by
    rw [loadI, s1, q 1 (by omega), loadV_val s m 1 (by omega), rd_set_same _ _ _ hlen, List.set_set]
    rw [show ((4 * m + 1 : Nat) : Int) = 4 * (m : Int) + 1 by omega, or32 _ _ _ (by omega) (by omega) (by omega) (by omega) (by omega)]
    congr 1
    omega
  have s3 : loadI p s (4 * m + 2 + 1) xs = Y.set (p + m).toNat (bt s (4 * m) + 256 * bt s (4 * m + 1) + 65536 * bt s (4 * m + 2)) := by
    rw [loadI, show 4 * m + 2 = 4 * m + 1 + 1 by omega, s2, show 4 * m + 1 + 1 = 4 * m + 2 by omega, q 2 (by omega), loadV_val s m 2 (by omega), rd_set_same _ _ _ hlen, List.set_set]
    rw [show ((4 * m + 2 : Nat) : Int) = 4 * (m : Int) + 2 by omega, or32 _ _ _ (by omega) (by omega) (by omega) (by omega) (by omega)]
    congr 1
    omega
  rw [show 4 * m + 4 = 4 * m + 3 + 1 by omega, loadI, show 4 * m + 3 = 4 * m + 2 + 1 by omega, s3, show 4 * m + 2 + 1 = 4 * m + 3 by omega, q 3 (by omega), loadV_val s m 3 (by omega), rd_set_same _ _ _ hlen, List.set_set]
  rw [show ((4 * m + 3 : Nat) : Int) = 4 * (m : Int) + 3 by omega, or32 _ _ _ (by omega) (by omega) (by omega) (by omega) (by omega)]
  congr 1
  unfold wordI
  omega
theorem load_word (p : Int) (s : ByteArray) (xs Y : List Int) (m M M' a : Nat) (j : Int) (hM : M = 4 * m) (hM' : M' = 4 * m + 4) (hj : j = m) (ha : (p + m).toNat = a) (hp : 0 ≤ p) (hY : loadI p s M xs = Y) (hlen : a < Y.length) (h0 : Y[a]? = some 0) :
    loadI p s M' xs = Y.set a (wordI s j) := by
  subst hM hM' hj ha
  exact load_word0 p s xs Y m hp hY hlen (by simp [rd, h0])
theorem firstI_eq (key nonce : ByteArray) (n : Int) (hk : key.size = 32) (hn : nonce.size = 12) : firstI key n nonce = firstW key n nonce := by
  unfold firstI firstW
  rw [hk, hn]
  have e0 : loadI 4 key 0 first0 = first0 := by rw [loadI]
  have e1 := load_word 4 key first0 _ 0 0 4 4 0 (by omega) (by omega) (by omega) (by omega) (by omega) e0 (by simp [first0]) (by simp [first0])
  have e2 := load_word 4 key first0 _ 1 4 8 5 1 (by omega) (by omega) (by omega) (by omega) (by omega) e1 (by simp [first0]) (by simp [first0])
  have e3 := load_word 4 key first0 _ 2 8 12 6 2 (by omega) (by omega) (by omega) (by omega) (by omega) e2 (by simp [first0]) (by simp [first0])
  have e4 := load_word 4 key first0 _ 3 12 16 7 3 (by omega) (by omega) (by omega) (by omega) (by omega) e3 (by simp [first0]) (by simp [first0])
  have e5 := load_word 4 key first0 _ 4 16 20 8 4 (by omega) (by omega) (by omega) (by omega) (by omega) e4 (by simp [first0]) (by simp [first0])
  have e6 := load_word 4 key first0 _ 5 20 24 9 5 (by omega) (by omega) (by omega) (by omega) (by omega) e5 (by simp [first0]) (by simp [first0])
  have e7 := load_word 4 key first0 _ 6 24 28 10 6 (by omega) (by omega) (by omega) (by omega) (by omega) e6 (by simp [first0]) (by simp [first0])
  have e8 := load_word 4 key first0 _ 7 28 32 11 7 (by omega) (by omega) (by omega) (by omega) (by omega) e7 (by simp [first0]) (by simp [first0])
  rw [e8]
  clear e0 e1 e2 e3 e4 e5 e6 e7 e8
  generalize wordI key 0 = k0
  generalize wordI key 1 = k1
  generalize wordI key 2 = k2
  generalize wordI key 3 = k3
  generalize wordI key 4 = k4
  generalize wordI key 5 = k5
  generalize wordI key 6 = k6
  generalize wordI key 7 = k7
  simp only [first0, List.set_cons_succ, List.set_cons_zero]
  have f0 : ∀ xs, loadI 13 nonce 0 xs = xs := fun xs => by rw [loadI]
  have f1 := load_word 13 nonce _ _ 0 0 4 13 0 (by omega) (by omega) (by omega) (by omega) (by omega) (f0 [1634760805, 857760878, 2036477234, 1797285236, k0, k1, k2, k3, k4, k5, k6, k7, n, 0, 0, 0]) (by simp) (by simp)
  have f2 := load_word 13 nonce _ _ 1 4 8 14 1 (by omega) (by omega) (by omega) (by omega) (by omega) f1 (by simp) (by simp)
  have f3 := load_word 13 nonce _ _ 2 8 12 15 2 (by omega) (by omega) (by omega) (by omega) (by omega) f2 (by simp) (by simp)
  rw [f3]
  simp only [List.set_cons_succ, List.set_cons_zero]

theorem block_l0 (key nonce : ByteArray) (n : Int) : ∀ (d i : Nat), i + d = 10 → ∀ (K k : Nat) (x : Int) X, K = k + d + 1 → x = i → X.length = 16 →
    demurralref05_Block.l0 K key n nonce X x = (demurralref05_first.f k key n nonce).bind fun t => demurralref05_Block.l1 k (roundsI d X) [] t (t.length : Int) 0 := by
  intro d
  induction d with
  | zero =>
    rintro i hi K k x X rfl rfl hX
    simp only [demurralref05_Block.l0]
    rw [if_neg (by omega), roundsI]
  | succ d ih =>
    rintro i hi K k x X hK rfl hX
    obtain ⟨K, rfl⟩ : ∃ m, K = m + 1 := ⟨K - 1, by omega⟩
    simp only [demurralref05_Block.l0]
    rw [if_pos (by omega), mix_eq X hX 0 4 8 12 (by omega) (by omega) (by omega) (by omega) (by omega) (by omega) (by omega) (by omega)]
    simp only [Option.bind_some]
    rw [mix_eq _ (by simp [mixI_length, hX]) 1 5 9 13 (by omega) (by omega) (by omega) (by omega) (by omega) (by omega) (by omega) (by omega)]
    simp only [Option.bind_some]
    rw [mix_eq _ (by simp [mixI_length, hX]) 2 6 10 14 (by omega) (by omega) (by omega) (by omega) (by omega) (by omega) (by omega) (by omega)]
    simp only [Option.bind_some]
    rw [mix_eq _ (by simp [mixI_length, hX]) 3 7 11 15 (by omega) (by omega) (by omega) (by omega) (by omega) (by omega) (by omega) (by omega)]
    simp only [Option.bind_some]
    rw [mix_eq _ (by simp [mixI_length, hX]) 0 5 10 15 (by omega) (by omega) (by omega) (by omega) (by omega) (by omega) (by omega) (by omega)]
    simp only [Option.bind_some]
    rw [mix_eq _ (by simp [mixI_length, hX]) 1 6 11 12 (by omega) (by omega) (by omega) (by omega) (by omega) (by omega) (by omega) (by omega)]
    simp only [Option.bind_some]
    rw [mix_eq _ (by simp [mixI_length, hX]) 2 7 8 13 (by omega) (by omega) (by omega) (by omega) (by omega) (by omega) (by omega) (by omega)]
    simp only [Option.bind_some]
    rw [mix_eq _ (by simp [mixI_length, hX]) 3 4 9 14 (by omega) (by omega) (by omega) (by omega) (by omega) (by omega) (by omega) (by omega)]
    simp only [Option.bind_some]
    rw [w64 (x := (i : Int) + 1) (by omega) (by omega), roundsI, ← roundsI_comm]
    exact ih (i + 1) (by omega) K k ((i : Int) + 1) (roundI X) (by omega) (by omega) (by rw [roundI_length, hX])

/-- The first bytes of a block. -/
def outL (F X : List Int) (k : Nat) : List Int := (List.range k).map fun i : Nat => byteV F X (i : Int)
theorem outI_eq (F X : List Int) : ∀ k, k ≤ 64 → outI F X k = outL F X k ++ List.replicate (64 - k) 0 := by
  intro k
  induction k with
  | zero => intro _; rfl
  | succ k ih =>
    intro hk
    rw [outI, ih (by omega), show 64 - k = (64 - (k + 1)) + 1 by omega, List.replicate_succ]
    have hl : (outL F X k).length = k := by simp [outL]
    rw [List.set_append_right _ _ (by omega), hl]
    simp [outL, List.range_succ]
theorem outL_four (F X : List Int) (i : Nat) : outL F X (4 * (i + 1)) = outL F X (4 * i) ++ [byteV F X (4 * i : Nat), byteV F X (4 * i + 1 : Nat), byteV F X (4 * i + 2 : Nat), byteV F X (4 * i + 3 : Nat)] := by
  unfold outL
  rw [show 4 * (i + 1) = 4 * i + 1 + 1 + 1 + 1 by omega, List.range_succ, List.range_succ, List.range_succ, List.range_succ]
  simp
theorem byteV_val (F X : List Int) (i r : Nat) (hr : r < 4) : byteV F X ((4 * i + r : Nat) : Int) = (rd F i + rd X i) % 4294967296 / 2 ^ (8 * r) % 256 := by
  unfold byteV
  rw [show ((4 * i + r : Nat) : Int) / 4 = i by omega, show (8 * (((4 * i + r : Nat) : Int) % 4)).toNat = 8 * r by omega, IntKind.wrap_u8, IntKind.wrap_u32, Int.add_comm]
theorem block_l1 (F X : List Int) (hF : F.length = 16) (hX : X.length = 16) : ∀ (d i : Nat), i + d = 16 → ∀ (K k : Nat) (x m : Int) acc, K = k + d + 1 → x = i → m = 16 → acc = outL F X (4 * i) →
    demurralref05_Block.l1 K X acc F m x = some (strOfNums (outL F X 64)) := by
  intro d
  induction d with
  | zero =>
    rintro i hi K k x m acc rfl rfl rfl rfl
    obtain rfl : i = 16 := by omega
    simp only [demurralref05_Block.l1]
    rw [if_neg (by omega)]
  | succ d ih =>
    rintro i hi K k x m acc hK rfl rfl rfl
    obtain ⟨K, rfl⟩ : ∃ m, K = m + 1 := ⟨K - 1, by omega⟩
    simp only [demurralref05_Block.l1]
    rw [if_pos (by omega), if_pos (by omega), if_pos (by omega), if_pos (by omega)]
    simp only [Option.bind_some]
    rw [if_pos (by simp [outL]; omega), w64 (x := (i : Int) + 1) (by omega) (by omega)]
    refine ih (i + 1) (by omega) K k ((i : Int) + 1) 16 _ (by omega) (by omega) rfl ?_
    rw [outL_four]
    have v0 := byteV_val F X i 0 (by omega)
    rw [show 4 * i + 0 = 4 * i by omega] at v0
    rw [v0, byteV_val F X i 1 (by omega), byteV_val F X i 2 (by omega), byteV_val F X i 3 (by omega)]
    have hy : 0 ≤ (rd F i + rd X i) % 4294967296 ∧ (rd F i + rd X i) % 4294967296 < 4294967296 := by omega
    obtain ⟨y, hyd⟩ : ∃ y, (rd F i + rd X i) % 4294967296 = y := ⟨_, rfl⟩
    rw [hyd] at hy ⊢
    have t1 : y / 2 ^ (8 * 0) % 256 = y % 256 := by omega
    have t2 : y / 2 ^ (8 * 1) % 256 = y / 256 % 256 := by omega
    have t3 : y / 2 ^ (8 * 2) % 256 = y / 65536 % 256 := by omega
    have t4 : y / 2 ^ (8 * 3) % 256 = y / 16777216 := by omega
    rw [t1, t2, t3, t4]
theorem block_eq (key nonce : ByteArray) (n : Int) (hk : key.size = 32) (hn : nonce.size = 12) (k : Nat) : demurralref05_Block.f (k + 40) key n nonce = some (blockI key n nonce) := by
  obtain ⟨W, hWd⟩ : ∃ W, firstW key n nonce = W := ⟨_, rfl⟩
  have hW : W.length = 16 := by rw [← hWd]; rfl
  have hI : firstI key n nonce = W := (firstI_eq key nonce n hk hn).trans hWd
  have hE : ∀ k, demurralref05_first.f (k + 13) key n nonce = some W := fun k => by rw [first_eq key nonce n hk hn k, hWd]
  clear hWd
  have hfin : blockI key n nonce = strOfNums (outL W (roundsI 10 W) 64) := by
    unfold blockI
    rw [hI, outI_eq _ _ 64 (Nat.le_refl _), Nat.sub_self, List.replicate_zero, List.append_nil]
  obtain ⟨X, hX⟩ : ∃ X, roundsI 10 W = X := ⟨_, rfl⟩
  have hXl : X.length = 16 := by rw [← hX, roundsI_length, hW]
  have h2 : demurralref05_Block.l1 (k + 29) X [] W (W.length : Int) 0 = some (strOfNums (outL W X 64)) :=
    block_l1 W X hW hXl 16 0 (by omega) (k + 29) (k + 12) 0 _ [] (by omega) (by omega) (by rw [hW]; rfl) (by unfold outL; rfl)
  have h1 : demurralref05_Block.l0 (k + 40) key n nonce W 0 = some (strOfNums (outL W X 64)) := by
    rw [block_l0 key nonce n 10 0 (by omega) (k + 40) (k + 29) 0 W (by omega) (by omega) hW, hX, show k + 29 = (k + 16) + 13 by omega, hE, Option.bind_some, show (k + 16) + 13 = k + 29 by omega]
    exact h2
  rw [hfin, hX]
  unfold demurralref05_Block.f
  rw [show k + 40 = (k + 27) + 13 by omega, hE, Option.bind_some, show (k + 27) + 13 = k + 40 by omega]
  exact h1
theorem blockI_size (key nonce : ByteArray) (n : Int) : (blockI key n nonce).size = 64 := by
  unfold blockI
  rw [strOfNums_size, outI_eq _ _ 64 (by omega)]
  simp [outL]

theorem may_ok (key nonce : ByteArray) (m : Int) (hk : key.size = 32) (hn : nonce.size = 12) (h0 : 0 ≤ m) (h1 : m ≤ 4096) : stream_may.f key nonce m = some 0 := by
  unfold stream_may.f
  rw [if_pos (by omega), if_pos (by omega), if_neg (by omega), if_neg (by omega)]
theorem may_no (key nonce : ByteArray) (m : Int) (h : ¬ (key.size = 32 ∧ nonce.size = 12 ∧ 0 ≤ m ∧ m ≤ 4096)) : stream_may.f key nonce m = some 2 := by
  unfold stream_may.f
  split
  · split
    · split
      · rfl
      · split
        · rfl
        · omega
    · rfl
  · rfl
theorem sblock_ok (key nonce : ByteArray) (n : Int) (hk : key.size = 32) (hn : nonce.size = 12) : stream_Block.f key n nonce = some (blockI key n nonce, 0) := by
  unfold stream_Block.f
  rw [may_ok key nonce 0 hk hn (by omega) (by omega)]
  simp only [Option.bind_some]
  rw [if_true, stream_block.f, if_pos ⟨hk, hn⟩]
  rfl
theorem sblock_no (key nonce : ByteArray) (n : Int) (h : ¬ (key.size = 32 ∧ nonce.size = 12)) : stream_Block.f key n nonce = some (⟨#[]⟩, 2) := by
  unfold stream_Block.f
  rw [may_no key nonce 0 (fun q => h ⟨q.1, q.2.1⟩)]
  rfl
theorem alive_ok : demurrallaw05_alive.f = some true := by
  unfold demurrallaw05_alive.f
  rw [sblock_ok _ _ _ (by rfl) (by rfl)]
  simp only [Option.bind_some, blockI_size, stream_Quarter.f]
  rw [show quarterI 286331153 16909060 2609737539 19088743 = (3928658676, 3407673550, 1166100270, 1484899515) by decide +kernel]
  rfl
theorem may_iff (key nonce : ByteArray) : demurralref05_May.f key nonce = some (decide (key.size = 32 ∧ nonce.size = 12)) := by
  unfold demurralref05_May.f
  by_cases hk : key.size = 32
  · rw [if_pos (by omega)]
    by_cases hn : nonce.size = 12
    · simp [hk, hn]
    · simp [hk, hn]; omega
  · rw [if_neg (by omega)]
    simp [hk]
theorem cut_ok (a : ByteArray) : ∃ t, demurrallaw05_cut.f a = some t := by
  unfold demurrallaw05_cut.f
  rw [if_pos (by unfold mn; split <;> omega), if_pos (by unfold mn; split <;> omega)]
  exact ⟨_, rfl⟩
end Go.Proofs.Ytioafoilinhmjaa.Q
