/- What the program's numbers, texts, records and logs are is what the reference's are.
   Conditions: a text is at most 1024 bytes long, where a record is spoken of. -/
import Derived.Test.YtdbbhijicmeckaaHPure
namespace Go.Proofs.Ytdbbhijicmeckaa.Q
open Go.RowKit Go.Proofs.YtdbbhijicmeckaaW.PrintWords Go.Proofs.YtdbbhijicmeckaaW.PrintLast Go.Proofs.YtdbbhijicmeckaaW.PrintMore
set_option linter.unusedVariables false
set_option linter.unusedSimpArgs false

theorem bitsOf_bound : ∀ i : Nat, i < 256 → 0 < i → 1 ≤ bt bitsOf i ∧ bt bitsOf i ≤ 8 := by decide +kernel
theorem bitsOf_zero : bt bitsOf 0 = 0 := by decide +kernel
theorem strOfNums_append (a b : List Int) : strOfNums (a ++ b) = strOfNums a ++ strOfNums b := by
  apply ByteArray.ext
  simp [strOfNums]
/-- A number's bytes. -/
def numL (n : Int) : List Int := if n = 0 then [0] else if n < 256 then [1, n] else [2, n / 256, n % 256]
theorem numL_len (n : Int) : (numL n).length ≤ 3 ∧ 1 ≤ (numL n).length := by
  unfold numL
  split
  · simp
  · split <;> simp
theorem shr_zero (n : Int) : shr .u64 n 0 = n := by simp [shr]
theorem shr_eight (n : Int) : shr .u64 n 8 = n / 256 := by
  unfold shr
  rw [show min (8 : Int).toNat IntKind.u64.bits = 8 by decide]
  rfl
theorem number_eq (n : Int) (h0 : 0 ≤ n) (h1 : n ≤ 1024) (k : Nat) : wire_Number.f (k + 3) n = some (strOfNums (numL n)) := by
  unfold wire_Number.f
  rw [show bits_Len64.f n = some (lenI n) from if_pos ⟨h0, by omega⟩, Option.bind_some]
  unfold lenI numL
  by_cases hz : n = 0
  · subst hz
    rw [if_pos (by decide), bitsOf_zero, if_pos rfl]
    simp [wire_Number.l0, wrap64]
  · rw [if_neg hz]
    by_cases hl : n < 256
    · obtain ⟨m, rfl⟩ := Int.eq_ofNat_of_zero_le h0
      have hb := bitsOf_bound m (by omega) (by omega)
      rw [if_pos hl, if_pos hl]
      generalize bt bitsOf m = b at hb
      have e : Int.tdiv (wrap64 (b + 7)) 8 = 1 := by
        rw [wrap_in _ (by omega) (by omega), Int.tdiv_eq_ediv_of_nonneg (by omega)]; omega
      rw [e]
      have em : (m : Int) % 256 = m := by omega
      simp [wire_Number.l0, wrap64, shr_zero, em]
    · have hb := bitsOf_bound (n / 256).toNat (by omega) (by omega)
      rw [show (((n / 256).toNat : Nat) : Int) = n / 256 by omega] at hb
      rw [if_neg hl, if_neg hl]
      generalize bt bitsOf (n / 256) = b at hb
      have e : Int.tdiv (wrap64 (8 + b + 7)) 8 = 2 := by
        rw [wrap_in _ (by omega) (by omega), Int.tdiv_eq_ediv_of_nonneg (by omega)]; omega
      rw [e]
      have em : n / 256 % 256 = n / 256 := by omega
      simp [wire_Number.l0, wrap64, shr_zero, shr_eight, em]
theorem ref_number (n : Int) (h0 : 0 ≤ n) (h1 : n ≤ 1024) (k : Nat) : demurralref07_Number.f (k + 3) n = some (strOfNums (numL n)) := by
  have wu : ∀ m : Int, 0 ≤ m → m ≤ 1024 → IntKind.u64.wrap m = m := fun m h h' => by rw [IntKind.wrap_u64]; omega
  have em : (⟨#[]⟩ : ByteArray) = strOfNums [] := rfl
  unfold demurralref07_Number.f numL
  rw [em]
  by_cases hz : n = 0
  · subst hz
    simp [demurralref07_Number.l0, ← strOfNums_append, strOfNums_size]
  · rw [if_neg hz]
    have ep : 0 < n := by omega
    have ed : Int.tdiv n 256 = n / 256 := Int.tdiv_eq_ediv_of_nonneg h0
    have et : Int.tmod n 256 = n % 256 := Int.tmod_eq_emod_of_nonneg h0
    by_cases hl : n < 256
    · rw [if_pos hl]
      have e0 : n / 256 = 0 := by omega
      have e1 : n % 256 = n := by omega
      simp [demurralref07_Number.l0, ← strOfNums_append, strOfNums_size, ep, ed, et, e0, e1, wu 0 (by decide) (by decide)]
    · rw [if_neg hl]
      have hp2 : 0 < n / 256 := by omega
      have ed2 : Int.tdiv (n / 256) 256 = 0 := by rw [Int.tdiv_eq_ediv_of_nonneg (by omega)]; omega
      have et2 : Int.tmod (n / 256) 256 = n / 256 := by rw [Int.tmod_eq_emod_of_nonneg (by omega)]; omega
      have e2 : n / 256 % 256 = n / 256 := by omega
      simp [demurralref07_Number.l0, ← strOfNums_append, strOfNums_size, ep, ed, et, wu (n / 256) (by omega) (by omega), hp2, ed2, et2, e2, wu 0 (by decide) (by decide)]
/-- A text's bytes. -/
def textI (s : ByteArray) : ByteArray := strOfNums (numL s.size) ++ s
theorem textI_size (s : ByteArray) : (textI s).size = (numL s.size).length + s.size := by rw [textI, ByteArray.size_append, strOfNums_size]
def sumL (c : Int) : List Int := [(c / 16777216) % 256, (c / 65536) % 256, (c / 256) % 256, c % 256]
/-- A text's record. -/
def recI (s : ByteArray) : ByteArray := textI s ++ strOfNums (sumL (crcV (textI s)))
theorem recI_size (s : ByteArray) : (recI s).size = (numL s.size).length + s.size + 4 := by rw [recI, ByteArray.size_append, strOfNums_size, textI_size]; rfl
theorem text_eq (s : ByteArray) (hs : s.size ≤ 1024) (k : Nat) : wire_Text.f (k + 3) s = some (textI s, 0) := by
  unfold wire_Text.f
  rw [if_neg (by omega), show IntKind.u64.wrap (s.size : Int) = s.size by rw [IntKind.wrap_u64]; omega, number_eq _ (by omega) (by omega), Option.bind_some]
  have := numL_len s.size
  rw [if_pos (by rw [strOfNums_size]; omega)]
  rfl
theorem record_eq (s : ByteArray) (hs : s.size ≤ 1024) (k : Nat) : log_Record.f (k + 3) s = some (recI s, 0) := by
  unfold log_Record.f
  rw [text_eq s hs, Option.bind_some, if_pos rfl]
  unfold log_sealed.f
  have := numL_len s.size
  have ht := textI_size s
  rw [crc_eq _ (by show (textI s).size ≤ _; omega), Option.bind_some, Option.bind_some, if_pos (by rw [strOfNums_size]; simp; omega)]
  rfl
theorem record_long (s : ByteArray) (hs : 1024 < s.size) (k : Nat) : log_Record.f k s = some (⟨#[]⟩, 2) := by
  unfold log_Record.f wire_Text.f
  rw [if_pos (by omega), Option.bind_some, if_neg (by decide)]
theorem ref_record (s : ByteArray) (hs : s.size ≤ 1024) (k : Nat) (hk : 10300 ≤ k) : demurralref09_Record.f k s = some (recI s) := by
  unfold demurralref09_Record.f demurralref07_One.f
  have := numL_len s.size
  have ht := textI_size s
  obtain ⟨j, rfl⟩ : ∃ j, k = j + 3 := ⟨k - 3, by omega⟩
  rw [if_pos rfl, show IntKind.u64.wrap (s.size : Int) = s.size by rw [IntKind.wrap_u64]; omega, ref_number _ (by omega) (by omega), Option.bind_some, if_pos (by rw [strOfNums_size]; omega), Option.bind_some]
  rw [show strOfNums (numL s.size) ++ s = textI s from rfl, ref_crc (textI s) (by omega) (j + 3) (by omega), Option.bind_some, Option.bind_some, if_pos (by rw [strOfNums_size]; simp; omega)]
  have hw := crcV_w (textI s)
  unfold recI sumL
  generalize crcV (textI s) = c at hw
  have h0 := hw.1
  have h1 := hw.2
  rw [Int.tdiv_eq_ediv_of_nonneg h0, Int.tdiv_eq_ediv_of_nonneg h0, Int.tdiv_eq_ediv_of_nonneg h0, Int.tmod_eq_emod_of_nonneg h0]
  rw [show c / 16777216 % 4294967296 % 256 = c / 16777216 % 256 by omega, show c / 65536 % 4294967296 % 256 = c / 65536 % 256 by omega, show c / 256 % 4294967296 % 256 = c / 256 % 256 by omega, show c % 256 % 256 = c % 256 by omega]
/-- Several texts' records, one behind the other. -/
def catL (l : List ByteArray) : List UInt8 := l.flatMap fun s => (recI s).data.toList
theorem catL_len (l : List ByteArray) (h : ∀ s ∈ l, s.size ≤ 1024) : (catL l).length ≤ l.length * 1040 := by
  induction l with
  | nil => simp [catL]
  | cons s l ih =>
    have h1 := ih fun t ht => h t (List.mem_cons_of_mem _ ht)
    have h2 := recI_size s
    have h3 := numL_len s.size
    have h4 := h s List.mem_cons_self
    have h5 : (catL (s :: l)).length = (recI s).size + (catL l).length := by rw [catL, List.flatMap_cons, List.length_append, Array.length_toList]; rfl
    rw [h5, List.length_cons]
    omega
theorem wrI_eq (k : Nat) : ∀ (l : List ByteArray) (out : List UInt8), (∀ s ∈ l, s.size ≤ 1024) → out.length + l.length * 1040 ≤ 140737488355328 → wrI (k + 3) l out = some (⟨(out ++ catL l).toArray⟩, 0)
  | [], out, _, _ => by simp [wrI, catL]
  | s :: l, out, h, hl => by
    have h2 := recI_size s
    have h3 := numL_len s.size
    have h4 := h s List.mem_cons_self
    rw [List.length_cons] at hl
    rw [wrI, record_eq s h4, Option.bind_some, if_pos rfl, if_pos (by show out.length + (recI s).size ≤ _; omega),
      wrI_eq k l _ (fun t ht => h t (List.mem_cons_of_mem _ ht)) (by rw [List.length_append]; show out.length + (recI s).size + _ ≤ _; omega)]
    simp [catL]
theorem wrI_long (k : Nat) : ∀ (l : List ByteArray) (out : List UInt8), (∃ s ∈ l, 1024 < s.size) → out.length + l.length * 1040 ≤ 140737488355328 → wrI (k + 3) l out = some (⟨#[]⟩, 2)
  | [], out, h, _ => by obtain ⟨s, hs, _⟩ := h; cases hs
  | s :: l, out, h, hl => by
    rw [List.length_cons] at hl
    rw [wrI]
    by_cases h4 : s.size ≤ 1024
    · have h2 := recI_size s
      have h3 := numL_len s.size
      rw [record_eq s h4, Option.bind_some, if_pos rfl, if_pos (by show out.length + (recI s).size ≤ _; omega)]
      refine wrI_long k l _ ?_ (by rw [List.length_append]; show out.length + (recI s).size + _ ≤ _; omega)
      obtain ⟨t, ht, htl⟩ := h
      rcases List.mem_cons.1 ht with rfl | ht
      · omega
      · exact ⟨t, ht, htl⟩
    · rw [record_long s (by omega), Option.bind_some, if_neg (by decide)]
def longB (l : List ByteArray) (m : Nat) : Bool := l.any fun s => decide (m < s.size)
theorem write_eq (l : List ByteArray) (hl : l.length ≤ 100) (h : longB l 1024 = false) (k : Nat) : log_Write.f (k + 3) l = some (⟨(catL l).toArray⟩, 0) := by
  have h' : ∀ s ∈ l, s.size ≤ 1024 := by simpa [longB] using h
  unfold log_Write.f
  rw [if_pos (by omega), wrI_eq k l [] h' (by simp; omega), List.nil_append]
theorem write_long (l : List ByteArray) (hl : l.length ≤ 100) (h : longB l 1024 = true) (k : Nat) : log_Write.f (k + 3) l = some (⟨#[]⟩, 2) := by
  have h' : ∃ s ∈ l, 1024 < s.size := by simpa [longB] using h
  unfold log_Write.f
  rw [if_pos (by omega), wrI_long k l [] h' (by simp; omega)]
theorem rd_nat (l : List ByteArray) (i : Nat) (h : i < l.length) : rdOf ByteArray.empty l (i : Int) = l[i] := by simp [rdOf, h]
theorem long_l0 (l : List ByteArray) (hl : l.length ≤ 1000) (m : Nat) : ∀ (d i K : Nat), i + d = l.length → demurralref09_Long.l0 (K + d + 1) (m : Int) l l.length i = some (longB (l.drop i) m)
  | 0, i, K, h => by
    simp only [demurralref09_Long.l0]
    rw [if_neg (by omega), List.drop_of_length_le (by omega)]
    rfl
  | d + 1, i, K, h => by
    have h0 : i < l.length := by omega
    have ih := long_l0 l hl m d (i + 1) K (by omega)
    rw [show K + (d + 1) + 1 = (K + d + 1) + 1 by omega]
    generalize K + d + 1 = M at ih
    simp only [demurralref09_Long.l0]
    rw [if_pos (by omega), if_pos (by omega), if_pos (by omega), rd_nat l i h0, wrap_in _ (by omega) (by omega), List.drop_eq_getElem_cons h0]
    by_cases hb : m < l[i].size
    · rw [if_pos (by omega)]
      rw [longB, List.any_cons, decide_eq_true hb, Bool.true_or]
    · rw [if_neg (by omega)]
      rw [show ((i : Int) + 1) = ((i + 1 : Nat) : Int) by omega, ih]
      rw [longB, longB, List.any_cons, decide_eq_false hb, Bool.false_or]
theorem long_eq (l : List ByteArray) (hl : l.length ≤ 1000) (m : Nat) (k : Nat) (hk : l.length + 1 ≤ k) : demurralref09_Long.f k l (m : Int) = some (longB l m) := by
  obtain ⟨j, rfl⟩ : ∃ j, k = j + l.length + 1 := ⟨k - l.length - 1, by omega⟩
  exact long_l0 l hl m l.length 0 j (by omega)
theorem refw_l0 (l : List ByteArray) (hl : l.length ≤ 100) (hs : ∀ s ∈ l, s.size ≤ 1024) : ∀ (d i K : Nat) (out : List UInt8), i + d = l.length → out.length + d * 1040 ≤ 1000000 → 10300 ≤ K →
    demurralref09_Write.l0 (K + d + 1) ⟨out.toArray⟩ l l.length i = some ⟨(out ++ catL (l.drop i)).toArray⟩
  | 0, i, K, out, h, _, _ => by
    simp only [demurralref09_Write.l0]
    rw [if_neg (by omega), List.drop_of_length_le (by omega)]
    simp [catL]
  | d + 1, i, K, out, h, ho, hK => by
    have h0 : i < l.length := by omega
    have h1 := hs l[i] (List.getElem_mem h0)
    have h2 := recI_size l[i]
    have h3 := numL_len l[i].size
    have ih := refw_l0 l hl hs d (i + 1) K (out ++ (recI l[i]).data.toList) (by omega) (by rw [List.length_append]; show out.length + (recI l[i]).size + _ ≤ _; omega) hK
    have hr := ref_record l[i] h1 (K + d + 1) (by omega)
    rw [show K + (d + 1) + 1 = (K + d + 1) + 1 by omega]
    generalize K + d + 1 = M at ih hr
    simp only [demurralref09_Write.l0]
    rw [if_pos (by omega), if_pos (by omega), if_pos (by omega), rd_nat l i h0, hr, Option.bind_some, wrap_in _ (by omega) (by omega), if_pos (by show out.toArray.size + _ ≤ _; simp; omega), List.drop_eq_getElem_cons h0]
    rw [show ((i : Int) + 1) = ((i + 1 : Nat) : Int) by omega]
    have e : (⟨out.toArray⟩ : ByteArray) ++ recI l[i] = ⟨(out ++ (recI l[i]).data.toList).toArray⟩ := by
      apply ByteArray.ext; simp
    rw [e, ih, catL, catL, List.flatMap_cons, List.append_assoc]
theorem ref_write (l : List ByteArray) (hl : l.length ≤ 100) (h : longB l 1024 = false) (k : Nat) (hk : 10500 ≤ k) : demurralref09_Write.f k l = some ⟨(catL l).toArray⟩ := by
  have h' : ∀ s ∈ l, s.size ≤ 1024 := by simpa [longB] using h
  obtain ⟨j, rfl⟩ : ∃ j, k = j + l.length + 1 := ⟨k - l.length - 1, by omega⟩
  have := refw_l0 l hl h' l.length 0 j [] (by omega) (by simp; omega) (by omega)
  exact this
end Go.Proofs.Ytdbbhijicmeckaa.Q
