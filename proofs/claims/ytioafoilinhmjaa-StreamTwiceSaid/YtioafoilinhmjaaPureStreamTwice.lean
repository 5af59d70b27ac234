/- StreamTwice: twice xor a text is as it was; a longer stream begins as a shorter one, and is blocks; different four words are mixed to different ones: the plain statement that is left behind the walk. -/
import Derived.Test.YtioafoilinhmjaaQx105
import Derived.Test.YtioafoilinhmjaaHPure2
import Derived.OpenShut
namespace Go.Proofs.Ytioafoilinhmjaa.Pure
open Go.RowKit Go.Proofs.Ytioafoilinhmjaa.Q Go.Proofs.YtioafoilinhmjaaW.PrintWords Go.Proofs.YtioafoilinhmjaaW.PrintLast

/-! ### xor, and turns, can be undone -/
def U32 (x : Int) : Prop := 0 ≤ x ∧ x < 4294967296
theorem xor_val (x y : Int) : bits .xor .u32 x y = ((BitVec.ofInt 32 x ^^^ BitVec.ofInt 32 y).toNat : Int) := by
  have h := (BitVec.ofInt 32 x ^^^ BitVec.ofInt 32 y).isLt
  show IntKind.u32.wrap ((BitVec.ofInt 32 x ^^^ BitVec.ofInt 32 y).toNat : Int) = _
  exact u32_id (by omega) (by omega)
theorem xor_u32 (x y : Int) : U32 (bits .xor .u32 x y) := by
  rw [xor_val]
  have h := (BitVec.ofInt 32 x ^^^ BitVec.ofInt 32 y).isLt
  exact ⟨by omega, by omega⟩
theorem ofInt_inj {x y : Int} (hx : U32 x) (hy : U32 y) (h : BitVec.ofInt 32 x = BitVec.ofInt 32 y) : x = y := by
  have := congrArg BitVec.toNat h
  simp only [BitVec.toNat_ofInt] at this
  obtain ⟨h0, h1⟩ := hx
  obtain ⟨h2, h3⟩ := hy
  omega
theorem xor_cancel {x y z : Int} (hx : U32 x) (hy : U32 y) (h : bits .xor .u32 x z = bits .xor .u32 y z) : x = y := by
  rw [xor_val, xor_val] at h
  have h1 : BitVec.ofInt 32 x ^^^ BitVec.ofInt 32 z = BitVec.ofInt 32 y ^^^ BitVec.ofInt 32 z := BitVec.eq_of_toNat_eq (by exact_mod_cast h)
  have h2 := congrArg (· ^^^ BitVec.ofInt 32 z) h1
  simp only [BitVec.xor_assoc, BitVec.xor_self, BitVec.xor_zero] at h2
  exact ofInt_inj hx hy h2
theorem xor_same {x m : Int} (hx : U32 x) (hm : U32 m) : bits .xor .u32 x m = x ↔ m = 0 := by
  constructor
  · intro h
    rw [xor_val] at h
    have h1 : BitVec.ofInt 32 x ^^^ BitVec.ofInt 32 m = BitVec.ofInt 32 x := by
      apply BitVec.eq_of_toNat_eq
      rw [BitVec.toNat_ofInt]
      obtain ⟨h0, h1⟩ := hx
      omega
    have h2 := congrArg (BitVec.ofInt 32 x ^^^ ·) h1
    simp only [← BitVec.xor_assoc, BitVec.xor_self, BitVec.zero_xor] at h2
    exact ofInt_inj hm ⟨by omega, by omega⟩ h2
  · rintro rfl
    rw [xor_val]
    simp
    obtain ⟨h0, h1⟩ := hx
    omega
theorem rolB_nat (x n : Int) (h : n = 16 ∨ n = 12 ∨ n = 8 ∨ n = 7) (hx : U32 x) : rolB x n = x * 2 ^ n.toNat % 4294967296 + x / 2 ^ (32 - n).toNat := by
  obtain ⟨h0, h1⟩ := hx
  rw [rolB_val x n h, IntKind.wrap_u32]
  rcases h with rfl | rfl | rfl | rfl
  · exact bits_join .u32 32 (by decide) (fun n p q => u32_id p (by simpa using q)) 16 _ _ (by simp <;> omega) (by simp <;> omega) (by simp <;> omega) (by simp <;> omega) (by simp <;> omega) (by simp <;> omega)
  · exact bits_join .u32 32 (by decide) (fun n p q => u32_id p (by simpa using q)) 12 _ _ (by simp <;> omega) (by simp <;> omega) (by simp <;> omega) (by simp <;> omega) (by simp <;> omega) (by simp <;> omega)
  · exact bits_join .u32 32 (by decide) (fun n p q => u32_id p (by simpa using q)) 8 _ _ (by simp <;> omega) (by simp <;> omega) (by simp <;> omega) (by simp <;> omega) (by simp <;> omega) (by simp <;> omega)
  · exact bits_join .u32 32 (by decide) (fun n p q => u32_id p (by simpa using q)) 7 _ _ (by simp <;> omega) (by simp <;> omega) (by simp <;> omega) (by simp <;> omega) (by simp <;> omega) (by simp <;> omega)
theorem rolB_u32 (x n : Int) (h : n = 16 ∨ n = 12 ∨ n = 8 ∨ n = 7) (hx : U32 x) : U32 (rolB x n) := by
  rw [rolB_nat x n h hx]
  obtain ⟨h0, h1⟩ := hx
  unfold U32
  rcases h with rfl | rfl | rfl | rfl <;> simp <;> omega
theorem rolB_inj {x y n : Int} (h : n = 16 ∨ n = 12 ∨ n = 8 ∨ n = 7) (hx : U32 x) (hy : U32 y) (he : rolB x n = rolB y n) : x = y := by
  rw [rolB_nat x n h hx, rolB_nat y n h hy] at he
  obtain ⟨h0, h1⟩ := hx
  obtain ⟨h2, h3⟩ := hy
  rcases h with rfl | rfl | rfl | rfl <;> simp at he
  · have e1 : x * 65536 % 4294967296 = (x % 65536) * 65536 := by omega
    have e2 : y * 65536 % 4294967296 = (y % 65536) * 65536 := by omega
    omega
  · have e1 : x * 4096 % 4294967296 = (x % 1048576) * 4096 := by omega
    have e2 : y * 4096 % 4294967296 = (y % 1048576) * 4096 := by omega
    omega
  · have e1 : x * 256 % 4294967296 = (x % 16777216) * 256 := by omega
    have e2 : y * 256 % 4294967296 = (y % 16777216) * 256 := by omega
    omega
  · have e1 : x * 128 % 4294967296 = (x % 33554432) * 128 := by omega
    have e2 : y * 128 % 4294967296 = (y % 33554432) * 128 := by omega
    omega
theorem qA_u32 (a b : Int) : U32 (qA a b) := by unfold qA U32; omega
theorem qA_inj {a a' b : Int} (ha : U32 a) (ha' : U32 a') (h : qA a b = qA a' b) : a = a' := by
  unfold qA at h
  obtain ⟨h0, h1⟩ := ha
  obtain ⟨h2, h3⟩ := ha'
  omega
/-- Half of the mixing can be undone: its first and second word, by the first and second and third of what it answers. -/
theorem half_inj {a b c d a' b' c' d' n m : Int} (hm : m = 16 ∨ m = 12 ∨ m = 8 ∨ m = 7) (ha : U32 a) (ha' : U32 a') (hb : U32 b) (hb' : U32 b')
    (h1 : qA a b = qA a' b') (h2 : qB a b c d n m = qB a' b' c' d' n m) (h3 : qC a b c d n = qC a' b' c' d' n) : a = a' ∧ b = b' := by
  unfold qB at h2
  have e := rolB_inj hm (xor_u32 _ _) (xor_u32 _ _) h2
  rw [h3] at e
  obtain rfl := xor_cancel hb hb' e
  exact ⟨qA_inj ha ha' h1, rfl⟩
theorem quarter_inj {a a' b c d : Int} (ha : U32 a) (ha' : U32 a') (h : quarterI a b c d = quarterI a' b c d) : a = a' := by
  simp only [quarterI, Prod.mk.injEq] at h
  obtain ⟨h1, h2, h3, _⟩ := h
  have hB : ∀ x, U32 (qB x b c d 16 12) := fun x => rolB_u32 _ 12 (by simp) (xor_u32 _ _)
  obtain ⟨e1, _⟩ := half_inj (m := 7) (by simp) (qA_u32 _ _) (qA_u32 _ _) (hB _) (hB _) h1 h2 h3
  exact qA_inj ha ha' e1

/-! ### twice xor -/
theorem xor8_back (x y : Int) (h0 : 0 ≤ x) (h1 : x ≤ 255) : bits .xor .u8 (bits .xor .u8 x y) y = x := by
  have hv : ∀ p q : Int, bits .xor .u8 p q = ((BitVec.ofInt 8 p ^^^ BitVec.ofInt 8 q).toNat : Int) := fun p q => by
    have h := (BitVec.ofInt 8 p ^^^ BitVec.ofInt 8 q).isLt
    show IntKind.u8.wrap ((BitVec.ofInt 8 p ^^^ BitVec.ofInt 8 q).toNat : Int) = _
    rw [IntKind.wrap_u8]
    omega
  rw [hv, hv]
  have : BitVec.ofInt 8 (((BitVec.ofInt 8 x ^^^ BitVec.ofInt 8 y).toNat : Int)) = BitVec.ofInt 8 x ^^^ BitVec.ofInt 8 y := by rw [BitVec.ofInt_natCast, BitVec.ofNat_toNat, BitVec.setWidth_eq]
  rw [this, BitVec.xor_assoc, BitVec.xor_self, BitVec.xor_zero, BitVec.toNat_ofInt]
  omega
theorem xor8_byte (x y : Int) : 0 ≤ bits .xor .u8 x y ∧ bits .xor .u8 x y ≤ 255 := by
  show 0 ≤ IntKind.u8.wrap _ ∧ IntKind.u8.wrap _ ≤ 255
  rw [IntKind.wrap_u8]
  omega
theorem bt_strOfNums (l : List Int) (i : Nat) (hi : i < l.length) (h0 : 0 ≤ l[i]) (h1 : l[i] ≤ 255) : bt (strOfNums l) i = l[i] := by
  have hs : i < (strOfNums l).size := by rw [strOfNums_size]; exact hi
  unfold bt
  rw [dif_pos (by simpa using hs)]
  have : (strOfNums l)[((i : Int)).toNat]'(by simpa using hs) = UInt8.ofNat (l[i]).toNat := by
    simp only [Int.toNat_natCast]
    show (strOfNums l).data[i]'(by exact hs) = _
    simp [strOfNums]
  rw [this]
  simp
  omega
theorem xorI_size (x y s : ByteArray) : (xorI x y s).size = s.size := by
  unfold xorI
  rw [strOfNums_size, xorL_all]
  simp [xorF]
theorem bytes_back (s : ByteArray) : strOfNums (bytesOf s) = s := by
  apply ByteArray.ext
  apply Array.toList_inj.1
  rw [strOfNums_data, bytesOf, List.map_map]
  exact (List.map_congr_left (fun b _ => by simp)).trans (List.map_id _)
theorem xor_twice (x y s : ByteArray) : xorI x y (xorI x y s) = s := by
  have hsz := xorI_size x y s
  have hb : ∀ i : Nat, i < s.size → bt (xorI x y s) (i : Int) = bits .xor .u8 (bt s (i : Int)) (bt (streamI x y s.size) (i : Int)) := by
    intro i hi
    have hl : (xorF s (streamI x y s.size) s.size).length = s.size := by simp [xorF]
    have hv : (xorF s (streamI x y s.size) s.size)[i]'(by rw [hl]; exact hi) = bits .xor .u8 (bt s (i : Int)) (bt (streamI x y s.size) (i : Int)) := by simp [xorF]
    have hr := xor8_byte (bt s (i : Int)) (bt (streamI x y s.size) (i : Int))
    unfold xorI
    rw [xorL_all, bt_strOfNums _ i (by rw [hl]; exact hi) (by rw [hv]; exact hr.1) (by rw [hv]; exact hr.2), hv]
  have hL : xorF (xorI x y s) (streamI x y s.size) s.size = bytesOf s := by
    apply List.ext_getElem
    · rw [bytesOf_length]; simp [xorF]
    · intro i h1 h2
      have hi : i < s.size := by simpa [xorF] using h1
      have hr := bt_range s (i : Int)
      have e : (bytesOf s)[i] = bt s i := by
        have := rd_bytesOf s i
        simpa [rd, List.getD_eq_getElem?_getD, List.getElem?_eq_getElem h2] using this
      rw [e]
      simp only [xorF, List.getElem_map, List.getElem_range]
      rw [hb i hi, xor8_back _ _ hr.1 hr.2]
  show strOfNums (xorL (xorI x y s) (streamI x y (xorI x y s).size) (xorI x y s).size) = s
  rw [xorL_all, hsz, hL, bytes_back]

/-! ### streams -/
theorem streamI_take (x y : ByteArray) (n m : Nat) (h : n ≤ m) : (streamI x y m).extract 0 n = streamI x y n := by
  unfold streamI
  apply ByteArray.ext
  simp [List.take_take, Nat.min_eq_left h]
theorem streamI_block (x y : ByteArray) : streamI x y 64 = blockI x 1 y := by
  have := catI_take x y 64 1 63 (by omega)
  have hs := blockI_size x y 1
  rw [ByteArray.size] at hs
  unfold streamI
  rw [show 1 + 63 = 64 from rfl] at this
  rw [this]
  apply ByteArray.ext
  have hl : (blockI x 1 y).data.toList.length = 64 := by rw [Array.length_toList, hs]
  simp [catI, List.take_of_length_le (Nat.le_of_eq hl)]
theorem empty_list3 : (⟨#[]⟩ : ByteArray).toList = [] := by
  unfold ByteArray.toList
  rw [ByteArray.toList.loop]
  rfl

theorem twice_j1 (K : Nat) (x y s : ByteArray) (hs : s.size ≤ 200) (r1 r3 : ByteArray) (e1 e3 : Int) (p1 p2 p3 : ByteArray) (q1 q2 q3 : Int)
    (h1 : stream_Xor.f x y s = some (r1, e1)) (h2 : stream_Xor.f x y r1 = some (r3, e3)) (h3 : stream_Stream.f x y 200 = some (p1, q1)) (h4 : stream_Stream.f x y (s.size : Int) = some (p2, q2)) (h5 : stream_Block.f x 1 y = some (p3, q3)) :
    demurrallaw05_StreamTwice.j1 (K + 1) s r1 e1 r3 e3 p1 q1 p2 q2 p3 q3 false = some true := by
  simp only [demurrallaw05_StreamTwice.j1]
  rw [if_neg (by simp)]
  by_cases hm : x.size = 32 ∧ y.size = 12
  · have m1 : stream_Xor.f x y s = some (xorI x y s, 0) := by unfold stream_Xor.f; rw [if_pos (by simp [mayB, hm]; omega)]
    have m2 : stream_Xor.f x y (xorI x y s) = some (xorI x y (xorI x y s), 0) := by unfold stream_Xor.f; rw [if_pos (by simp [mayB, hm, xorI_size]; omega)]
    rw [m1] at h1
    injection h1 with h1
    injection h1 with h1 h1'
    subst h1 h1'
    rw [m2, xor_twice] at h2
    injection h2 with h2
    injection h2 with h2 h2'
    subst h2 h2'
    rw [stream_f_yes x y 200 (by simp [mayB, hm])] at h3
    injection h3 with h3
    injection h3 with h3 h3'
    subst h3 h3'
    rw [stream_f_yes x y s.size (by simp [mayB, hm]; omega)] at h4
    injection h4 with h4
    injection h4 with h4 h4'
    subst h4 h4'
    rw [sblock_ok x y 1 hm.1 hm.2] at h5
    injection h5 with h5
    injection h5 with h5 h5'
    subst h5 h5'
    have z := streamI_size x y 200 (by omega)
    have z1 := xorI_size x y s
    rw [if_pos rfl, if_pos rfl, if_pos rfl, if_pos rfl, if_pos rfl, if_pos rfl, if_pos (by omega), show (200 : Int).toNat = 200 from rfl, z, if_pos (by rfl), if_pos (by omega), if_pos (by omega), if_pos (by rw [Int.toNat_natCast, streamI_take x y _ 200 hs]), if_pos (by omega), if_pos (by omega), streamI_take x y 64 200 (by omega), streamI_block, beq_self_eq_true]
  · have m1 : stream_Xor.f x y s = some (⟨#[]⟩, 2) := by unfold stream_Xor.f; rw [if_neg (by simp [mayB]; omega), if_pos (by omega)]
    have m2 : stream_Xor.f x y ⟨#[]⟩ = some (⟨#[]⟩, 2) := by unfold stream_Xor.f; rw [if_neg (by simp [mayB]; omega), if_pos (by decide)]
    rw [m1] at h1
    injection h1 with h1
    injection h1 with h1 h1'
    subst h1 h1'
    rw [m2] at h2
    injection h2 with h2
    injection h2 with h2 h2'
    subst h2 h2'
    rw [stream_f_no x y 200 (by simp [mayB]; omega)] at h3
    injection h3 with h3
    injection h3 with h3 h3'
    subst h3 h3'
    rw [if_neg (by omega), if_neg (by omega), if_neg (by omega), empty_list3]
    rfl
theorem StreamTwice : demurrallaw05_StreamTwice.Pure := by
  intro key nonce s a b c d m _ _ _ ha hb hc hd hm
  obtain ⟨x, hx⟩ := cut_ok key
  obtain ⟨y, hy⟩ := cut_ok nonce
  have hA : U32 a := by have := bounds_u32 ha; unfold U32; omega
  have hM : U32 m := by have := bounds_u32 hm; unfold U32; omega
  refine ⟨3, ?_⟩
  unfold demurrallaw05_StreamTwice.f
  rw [hx, hy]
  simp only [Option.bind_some]
  have e0 : 0 ≤ mn (s.size : Int) 200 := by unfold mn; split <;> omega
  have e1 : mn (s.size : Int) 200 ≤ s.size := by unfold mn; split <;> omega
  have e2 : mn (s.size : Int) 200 ≤ 200 := by unfold mn; split <;> omega
  obtain ⟨t, ht⟩ : ∃ t, s.extract 0 (mn (s.size : Int) 200).toNat = t := ⟨_, rfl⟩
  have hts : t.size ≤ 200 := by rw [← ht]; simp; omega
  rw [if_pos e0, if_pos e1, ht]
  have hxo : ∀ s : ByteArray, s.size ≤ 200 → ∃ r, stream_Xor.f x y s = some r ∧ r.1.size ≤ 200 := by
    intro s hs
    unfold stream_Xor.f
    split
    · exact ⟨_, rfl, by rw [xorI_size]; exact hs⟩
    · rw [if_pos (by omega)]; exact ⟨_, rfl, by decide⟩
  obtain ⟨⟨r1, v1⟩, h1, hr1⟩ := hxo t hts
  obtain ⟨⟨r3, v3⟩, h2, _⟩ := hxo r1 hr1
  have hst : ∀ n, ∃ r, stream_Stream.f x y n = some r := by
    intro n
    unfold stream_Stream.f
    split <;> exact ⟨_, rfl⟩
  obtain ⟨⟨p1, q1⟩, h3⟩ := hst 200
  obtain ⟨⟨p2, q2⟩, h4⟩ := hst (t.size : Int)
  obtain ⟨⟨p3, q3⟩, h5⟩ : ∃ r, stream_Block.f x 1 y = some r := by
    by_cases hh : x.size = 32 ∧ y.size = 12
    · exact ⟨_, sblock_ok x y 1 hh.1 hh.2⟩
    · exact ⟨_, sblock_no x y 1 hh⟩
  have hfin := twice_j1 0 x y t hts r1 r3 v1 v3 p1 p2 p3 q1 q2 q3 h1 h2 h3 h4 h5
  have hj0 : ∀ b : Bool, b = (m == 0) → demurrallaw05_StreamTwice.j0 2 t m r1 v1 r3 v3 p1 q1 p2 q2 p3 q3 b = some true := by
    intro b hb
    simp only [demurrallaw05_StreamTwice.j0]
    rw [hb, if_neg (by simp), alive_ok, Option.bind_some]
    exact hfin
  rw [h1]
  simp only [Option.bind_some]
  rw [h2]
  simp only [Option.bind_some]
  rw [h3]
  simp only [Option.bind_some]
  rw [h4]
  simp only [Option.bind_some]
  rw [h5]
  simp only [Option.bind_some, stream_Quarter.f]
  have hq : quarterI a b c d = quarterI (bits .xor .u32 a m) b c d → m = 0 := fun h => (xor_same hA hM).1 (quarter_inj (xor_u32 a m) hA h.symm)
  by_cases h0 : m = 0
  · have he : bits .xor .u32 a m = a := (xor_same hA hM).2 h0
    rw [he, if_pos rfl, if_pos rfl, if_pos rfl]
    exact hj0 _ (by simp [h0])
  · have hne : (m == 0) = false := by simpa using h0
    split
    · split
      · split
        · refine hj0 _ ?_
          rw [hne, beq_eq_false_iff_ne]
          intro h4'
          refine h0 (hq ?_)
          rename_i z1 z2 z3
          exact Prod.ext z1 (Prod.ext z2 (Prod.ext z3 h4'))
        · exact hj0 _ hne.symm
      · exact hj0 _ hne.symm
    · exact hj0 _ hne.symm
end Go.Proofs.Ytioafoilinhmjaa.Pure
