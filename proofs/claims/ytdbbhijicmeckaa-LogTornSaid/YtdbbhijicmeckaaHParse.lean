/- The record at a place of some bytes, by lists of bytes.
   Conditions: none. -/
import Derived.Test.YtdbbhijicmeckaaHRec
import Derived.Test.YtdbbhijicmeckaaQx121
namespace Go.Proofs.Ytdbbhijicmeckaa.Q
open Go.RowKit Go.Proofs.YtdbbhijicmeckaaW.PrintWords Go.Proofs.YtdbbhijicmeckaaW.PrintLast Go.Proofs.YtdbbhijicmeckaaW.PrintMore
set_option linter.unusedVariables false
set_option linter.unusedSimpArgs false

def B (u : List UInt8) : ByteArray := ⟨u.toArray⟩
def L (s : ByteArray) : List UInt8 := s.data.toList
theorem L_B (u : List UInt8) : L (B u) = u := rfl
theorem B_L (s : ByteArray) : B (L s) = s := by apply ByteArray.ext; simp [B, L]
theorem L_inj {s t : ByteArray} (h : L s = L t) : s = t := by rw [← B_L s, h, B_L]
theorem B_inj {u v : List UInt8} (h : B u = B v) : u = v := by rw [← L_B u, h, L_B]
theorem L_len (s : ByteArray) : (L s).length = s.size := by rw [L, Array.length_toList]; rfl
theorem B_size (u : List UInt8) : (B u).size = u.length := by rw [← L_len, L_B]
theorem L_append (s t : ByteArray) : L (s ++ t) = L s ++ L t := by simp [L]
theorem B_append (u v : List UInt8) : B (u ++ v) = B u ++ B v := by apply L_inj; rw [L_append]; rfl
theorem L_nums (l : List Int) : L (strOfNums l) = l.map fun n => UInt8.ofNat n.toNat := rfl
theorem L_extract (s : ByteArray) (a b : Nat) : L (s.extract a b) = ((L s).drop a).take (b - a) := by
  unfold L
  rw [ByteArray.data_extract, Array.toList_extract, List.extract_eq_take_drop]
theorem bt_L (s : ByteArray) (i : Nat) : bt s i = ((L s).getD i 0).toNat := by
  unfold bt L
  by_cases h : i < s.size
  · rw [dif_pos (by rw [Int.toNat_natCast]; exact h)]
    have h' : i < s.data.toList.length := by rw [data_length]; exact h
    simp [List.getD_eq_getElem?_getD, List.getElem?_eq_getElem h']
    rfl
  · rw [dif_neg (by rw [Int.toNat_natCast]; exact h)]
    have h' : s.data.toList[i]? = none := List.getElem?_eq_none (by rw [data_length]; omega)
    rw [List.getD_eq_getElem?_getD, h']
    rfl
def recL (t : List UInt8) : List UInt8 := L (recI (B t))
/-- The number that stands at the beginning of bytes. -/
def hdN (u : List UInt8) : Nat := if (u.getD 0 0).toNat = 0 then 0 else if (u.getD 0 0).toNat = 1 then (u.getD 1 0).toNat else (u.getD 1 0).toNat * 256 + (u.getD 2 0).toNat
def okN (u : List UInt8) : Prop := 0 < u.length ∧ (u.getD 0 0).toNat ≤ 2 ∧ 1 + (u.getD 0 0).toNat ≤ u.length ∧ hdN u ≤ 1024 ∧ 1 + (u.getD 0 0).toNat + hdN u + 4 ≤ u.length
instance (u : List UInt8) : Decidable (okN u) := by unfold okN; exact inferInstance
def txt (u : List UInt8) : List UInt8 := (u.drop (1 + (u.getD 0 0).toNat)).take (hdN u)
def parse (u : List UInt8) : Option (Nat × List UInt8) :=
  if okN u ∧ recL (txt u) = u.take (1 + (u.getD 0 0).toNat + hdN u + 4) then some (1 + (u.getD 0 0).toNat + hdN u + 4, txt u) else none
theorem parse_yes {u : List UInt8} (h : okN u) (h4 : recL (txt u) = u.take (1 + (u.getD 0 0).toNat + hdN u + 4)) : parse u = some (1 + (u.getD 0 0).toNat + hdN u + 4, txt u) := if_pos ⟨h, h4⟩
theorem parse_no {u : List UInt8} (h : ¬ (okN u ∧ recL (txt u) = u.take (1 + (u.getD 0 0).toNat + hdN u + 4))) : parse u = none := if_neg h
theorem getD_drop (l : List UInt8) (i j : Nat) : (l.drop i).getD j 0 = l.getD (i + j) 0 := by simp [List.getD_eq_getElem?_getD]
theorem fold_hd (s : ByteArray) (i : Nat) (h2 : ((L s).getD i 0).toNat ≤ 2) (h3 : i + 1 + ((L s).getD i 0).toNat ≤ s.size) :
    foldI (s.extract (i + 1) (i + 1 + ((L s).getD i 0).toNat)) ((L s).getD i 0).toNat = hdN ((L s).drop i) := by
  have e0 : (((L s).drop i).getD 0 0) = (L s).getD i 0 := by rw [getD_drop]; rfl
  unfold hdN
  rw [e0, foldI_eq _ _ h2]
  have hg (j : Nat) (hj : j < ((L s).getD i 0).toNat) : bt (s.extract (i + 1) (i + 1 + ((L s).getD i 0).toNat)) j = (((L s).drop i).getD (1 + j) 0).toNat := by
    rw [bt_L, L_extract, getD_drop]
    have hl := L_len s
    congr 1
    rw [show i + 1 + ((L s).getD i 0).toNat - (i + 1) = ((L s).getD i 0).toNat by omega]
    rw [List.getD_eq_getElem?_getD, List.getElem?_take_of_lt hj, List.getElem?_drop, List.getD_eq_getElem?_getD, show i + 1 + j = i + (1 + j) by omega]
  have hz : ((L s).getD i 0).toNat = 0 ∨ ((L s).getD i 0).toNat = 1 ∨ ((L s).getD i 0).toNat = 2 := by omega
  rcases hz with hz | hz | hz
  · rw [if_pos hz, if_pos hz]; rfl
  · have := hg 0 (by omega)
    rw [if_neg (by omega), if_pos hz, if_neg (by omega), if_pos hz]
    exact this
  · have g0 : bt _ 0 = ((((L s).drop i).getD 1 0).toNat : Int) := hg 0 (by omega)
    have g1 : bt _ 1 = ((((L s).drop i).getD 2 0).toNat : Int) := hg 1 (by omega)
    rw [if_neg (by omega), if_neg (by omega), if_neg (by omega), if_neg (by omega)]
    rw [g0, g1]
    omega
theorem oneI_parse (s : ByteArray) (i : Nat) (hi : i ≤ s.size) : oneI s i = (parse ((L s).drop i)).map fun p => (i + p.1, B p.2) := by
  have hl := L_len s
  have hul : ((L s).drop i).length = s.size - i := by rw [List.length_drop, hl]
  have e0 : (((L s).drop i).getD 0 0) = (L s).getD i 0 := by rw [getD_drop]; rfl
  have hok : okN ((L s).drop i) ↔ i < s.size ∧ ((L s).getD i 0).toNat ≤ 2 ∧ i + 1 + ((L s).getD i 0).toNat ≤ s.size ∧ hdN ((L s).drop i) ≤ 1024 ∧ i + 1 + ((L s).getD i 0).toNat + hdN ((L s).drop i) + 4 ≤ s.size := by
    unfold okN
    rw [e0, hul]
    omega
  have hy := @parse_yes ((L s).drop i)
  have hn := @parse_no ((L s).drop i)
  rw [e0] at hy hn
  rw [hok] at hy hn
  unfold oneI
  rw [bt_L]
  have hf := fold_hd s i
  obtain ⟨z, hz⟩ : ∃ z, ((L s).getD i 0).toNat = z := ⟨_, rfl⟩
  obtain ⟨n, hnn⟩ : ∃ n, hdN ((L s).drop i) = n := ⟨_, rfl⟩
  rw [hz] at hf hy hn ⊢
  rw [hnn] at hf hy hn
  by_cases h1 : i < s.size
  · rw [if_pos h1]
    rw [Int.toNat_natCast, show ((i : Int) + (1 + (z : Int))).toNat = i + 1 + z by omega]
    by_cases h2 : z ≤ 2 ∧ i + 1 + z ≤ s.size
    · rw [if_pos (by omega), hf h2.1 h2.2]
      by_cases h3 : n ≤ 1024 ∧ i + 1 + z + n + 4 ≤ s.size
      · rw [if_pos (by omega)]
        rw [show ((i : Int) + (1 + (z : Int)) + (n : Int)).toNat = i + 1 + z + n by omega, show ((i : Int) + (1 + (z : Int)) + (n : Int) + 4).toNat = i + (1 + z + n + 4) by omega]
        have et : s.extract (i + 1 + z) (i + 1 + z + n) = B (txt ((L s).drop i)) := by
          apply L_inj
          rw [L_extract, L_B, txt, e0, hz, hnn, List.drop_drop, show i + 1 + z + n - (i + 1 + z) = n by omega, show i + (1 + z) = i + 1 + z by omega]
        have ee : s.extract i (i + (1 + z + n + 4)) = B (((L s).drop i).take (1 + z + n + 4)) := by
          apply L_inj
          rw [L_extract, L_B, show i + (1 + z + n + 4) - i = 1 + z + n + 4 by omega]
        rw [et, ee]
        by_cases h4 : recL (txt ((L s).drop i)) = ((L s).drop i).take (1 + z + n + 4)
        · rw [if_pos (by rw [← h4, recL, B_L]), hy (by omega) h4]
          rfl
        · rw [if_neg (fun h => h4 (by rw [recL, h, L_B])), hn (fun h => h4 h.2)]
          rfl
      · rw [if_neg (by omega), hn (fun h => h3 (by omega))]
        rfl
    · rw [if_neg (by omega), hn (fun h => h2 (by omega))]
      rfl
  · rw [if_neg h1, hn (fun h => h1 (by omega))]
    rfl
theorem recL_len (t : List UInt8) : (recL t).length = (numL t.length).length + t.length + 4 := by
  rw [recL, L_len, recI_size, B_size]
theorem texts_l0 (l : List ByteArray) (hl : l.length ≤ 1099511627776) : ∀ (d i K : Nat), i + d = l.length → d + 1 ≤ K → demurralref04_Texts.l0 K l l l.length i = some true
  | 0, i, K, h, hK => by
    obtain ⟨k, rfl⟩ : ∃ k, K = k + 1 := ⟨K - 1, by omega⟩
    rw [demurralref04_Texts.l0, if_neg (by omega)]
  | d + 1, i, K, h, hK => by
    obtain ⟨k, rfl⟩ : ∃ k, K = k + 1 := ⟨K - 1, by omega⟩
    have hw : Hid (wrap64 ((i : Int) + 1) = ((i + 1 : Nat) : Int)) := Lib.hid ((wrap_in ((i : Int) + 1) (by omega) (by omega)).trans (by omega))
    have ih := texts_l0 l hl d (i + 1) k (by omega) (by omega)
    rw [demurralref04_Texts.l0, if_pos (by omega), if_pos (by omega), if_pos (by omega), if_pos (by omega), if_pos rfl, hw.out, ih]
theorem texts_same (l : List ByteArray) (hl : l.length ≤ 1099511627776) (K : Nat) (hK : l.length + 1 ≤ K) : demurralref04_Texts.f K l l = some true := by
  unfold demurralref04_Texts.f
  rw [if_pos rfl]
  exact texts_l0 l hl l.length 0 K (by omega) (by omega)
end Go.Proofs.Ytdbbhijicmeckaa.Q
