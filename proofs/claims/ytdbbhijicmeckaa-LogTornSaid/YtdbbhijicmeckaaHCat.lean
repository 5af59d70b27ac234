/- The texts of bytes that were written.
   Conditions: each text is at most 1024 bytes long. -/
import Derived.Test.YtdbbhijicmeckaaHParse
namespace Go.Proofs.Ytdbbhijicmeckaa.Q
open Go.RowKit Go.Proofs.YtdbbhijicmeckaaW.PrintWords Go.Proofs.YtdbbhijicmeckaaW.PrintLast Go.Proofs.YtdbbhijicmeckaaW.PrintMore
set_option linter.unusedVariables false
set_option linter.unusedSimpArgs false

theorem L_tail' (s : ByteArray) (i : Nat) : L (s.extract i s.size) = (L s).drop i := by
  have := L_len s
  rw [L_extract, List.take_of_length_le (by rw [List.length_drop]; omega)]
def hdL (n : Nat) : List UInt8 := L (strOfNums (numL n))
theorem recL_parts (t : List UInt8) : recL t = hdL t.length ++ (t ++ L (strOfNums (sumL (crcV (textI (B t)))))) := by
  unfold recL recI textI hdL
  rw [L_append, L_append, L_B, List.append_assoc, B_size]
theorem hdL_len (n : Nat) : (hdL n).length = (numL n).length := by rw [hdL, L_len, strOfNums_size]
/-- What stands at the beginning of a record tells its number. -/
theorem hd_facts (n : Nat) (hn : n ≤ 1024) (w : List UInt8) : ((hdL n ++ w).getD 0 0).toNat + 1 = (numL n).length ∧ ((hdL n ++ w).getD 0 0).toNat ≤ 2 ∧ hdN (hdL n ++ w) = n := by
  unfold hdL hdN numL
  rw [L_nums]
  by_cases h0 : n = 0
  · subst h0
    simp
  · by_cases h1 : n < 256
    · have e1 : UInt8.toNat (UInt8.ofNat n) = n := by simp; omega
      rw [if_neg (by omega), if_pos (by omega)]
      simp
      omega
    · rw [if_neg (by omega), if_neg (by omega)]
      have e2 : ((n : Int) / 256).toNat = n / 256 := by omega
      have e3 : ((n : Int) % 256).toNat = n % 256 := by omega
      simp [e2, e3]
      omega
theorem take_eq (u t v : List UInt8) (n : Nat) (h : u = t ++ v) (hn : t.length = n) : u.take n = t := by subst h; subst hn; simp
theorem parse_rec (t v : List UInt8) (ht : t.length ≤ 1024) : parse (recL t ++ v) = some ((recL t).length, t) := by
  have hl := recL_len t
  have hp := recL_parts t
  obtain ⟨S, hS⟩ : ∃ S, L (strOfNums (sumL (crcV (textI (B t))))) = S := ⟨_, rfl⟩
  have hS4 : S.length = 4 := by rw [← hS, L_len, strOfNums_size]; rfl
  rw [hS] at hp
  have hu : recL t ++ v = hdL t.length ++ (t ++ (S ++ v)) := by rw [hp]; simp
  obtain ⟨f1, f2, f3⟩ := hd_facts t.length ht (t ++ (S ++ v))
  rw [← hu] at f1 f2 f3
  have hH := hdL_len t.length
  have htx : txt (recL t ++ v) = t := by
    unfold txt
    rw [f3, hu, show 1 + ((hdL t.length ++ (t ++ (S ++ v))).getD 0 0).toNat = (hdL t.length).length by rw [← hu]; omega, List.drop_left]
    exact take_eq _ t (S ++ v) _ rfl rfl
  have hlen : 1 + ((recL t ++ v).getD 0 0).toNat + hdN (recL t ++ v) + 4 = (recL t).length := by rw [f3, hl]; omega
  have hok : okN (recL t ++ v) := by
    refine ⟨?_, f2, ?_, by omega, ?_⟩
    · rw [List.length_append]; omega
    · rw [List.length_append]; omega
    · rw [hlen, List.length_append]; omega
  rw [parse_yes hok (by rw [htx, hlen]; simp), hlen, htx]
theorem parse_torn (t v : List UInt8) (ht : t.length ≤ 1024) (k : Nat) (hk : k < (recL t).length) : parse ((recL t ++ v).take k) = none := by
  have hl := recL_len t
  have hp := recL_parts t
  obtain ⟨S, hS⟩ : ∃ S, L (strOfNums (sumL (crcV (textI (B t))))) = S := ⟨_, rfl⟩
  rw [hS] at hp
  have hu : recL t ++ v = hdL t.length ++ (t ++ (S ++ v)) := by rw [hp]; simp
  obtain ⟨f1, f2, f3⟩ := hd_facts t.length ht (t ++ (S ++ v))
  rw [← hu] at f1 f2 f3
  refine parse_no fun h => ?_
  obtain ⟨o1, o2, o3, o4, o5⟩ := h.1
  have hkl : ((recL t ++ v).take k).length = k := by rw [List.length_take, List.length_append]; omega
  rw [hkl] at o1 o3 o5
  have g0 : ((recL t ++ v).take k).getD 0 0 = (recL t ++ v).getD 0 0 := by rw [List.getD_eq_getElem?_getD, List.getElem?_take_of_lt o1, List.getD_eq_getElem?_getD]
  have g : ∀ i, i < k → ((recL t ++ v).take k).getD i 0 = (recL t ++ v).getD i 0 := fun i hi => by rw [List.getD_eq_getElem?_getD, List.getElem?_take_of_lt hi, List.getD_eq_getElem?_getD]
  rw [g0] at o3 o5
  have hh : hdN ((recL t ++ v).take k) = hdN (recL t ++ v) := by
    unfold hdN
    rw [g0]
    by_cases z0 : ((recL t ++ v).getD 0 0).toNat = 0
    · rw [if_pos z0, if_pos z0]
    · by_cases z1 : ((recL t ++ v).getD 0 0).toNat = 1
      · rw [if_neg z0, if_pos z1, if_neg z0, if_pos z1, g 1 (by omega)]
      · rw [if_neg z0, if_neg z1, if_neg z0, if_neg z1, g 1 (by omega), g 2 (by omega)]
  rw [hh, f3] at o5
  omega
theorem parse_nil : parse [] = none := parse_no fun h => by have := h.1.1; simp at this
/-- The records of texts, from a place on. -/
def entries : Nat → List ByteArray → List (Int × ByteArray)
  | _, [] => []
  | i, t :: l => (((i + (recI t).size : Nat) : Int), t) :: entries (i + (recI t).size) l
theorem entries_texts : ∀ (l : List ByteArray) (i : Nat), texts (entries i l) = l
  | [], i => rfl
  | t :: l, i => by
    have := entries_texts l (i + (recI t).size)
    unfold texts at this ⊢
    rw [entries, List.map_cons, this]
theorem entries_last : ∀ (l : List ByteArray) (i : Nat) (c : Int), (c = i) → (entries i l).foldl (fun _ x => x.1) c = ((i + (catL l).length : Nat) : Int)
  | [], i, c, h => by rw [h]; simp [entries, catL]
  | t :: l, i, c, h => by
    have h5 : (catL (t :: l)).length = (recI t).size + (catL l).length := by rw [catL, List.flatMap_cons, List.length_append, Array.length_toList]; rfl
    rw [entries, List.foldl_cons, entries_last l _ _ rfl, h5, Nat.add_assoc]
theorem recL_L (t : ByteArray) : recL (L t) = L (recI t) := by rw [recL, B_L]
/-- Texts that were written are read, and then whatever stands behind them. -/
theorem recs_cat (s : ByteArray) (v : List UInt8) : ∀ (l : List ByteArray) (i f : Nat), (∀ t ∈ l, t.size ≤ 1024) → i ≤ s.size → (L s).drop i = catL l ++ v → l.length ≤ f →
    recs s f i = entries i l ++ recs s (f - l.length) (i + (catL l).length)
  | [], i, f, _, _, _, _ => by simp [entries, catL]
  | t :: l, i, f, ht, hi, hd, hf => by
    obtain ⟨f, rfl⟩ : ∃ f', f = f' + 1 := ⟨f - 1, by rw [List.length_cons] at hf; omega⟩
    rw [List.length_cons] at hf
    have h5 : (catL (t :: l)).length = (recI t).size + (catL l).length := by rw [catL, List.flatMap_cons, List.length_append, Array.length_toList]; rfl
    have e : (L s).drop i = recL (L t) ++ (catL l ++ v) := by rw [hd, catL, List.flatMap_cons, List.append_assoc, recL_L]; rfl
    have ht1 := ht t List.mem_cons_self
    have ho : oneI s i = some (i + (recI t).size, t) := by
      rw [oneI_parse s i hi, e, parse_rec (L t) _ (by rw [L_len]; exact ht1)]
      show some (i + (recL (L t)).length, B (L t)) = _
      rw [B_L, recL_L, L_len]
    have hle : i + (recI t).size ≤ s.size := by
      have h1 := congrArg List.length e
      rw [List.length_drop, List.length_append, L_len, recL_L, L_len] at h1
      have := recI_size t
      omega
    have hd2 : (L s).drop (i + (recI t).size) = catL l ++ v := by
      rw [← List.drop_drop, e, recL_L]
      exact List.drop_left' (L_len _)
    rw [recs_some s f i _ t ho, recs_cat s v l _ f (fun x hx => ht x (List.mem_cons_of_mem _ hx)) hle hd2 (by omega), entries, List.length_cons, h5, List.cons_append, show f + 1 - (l.length + 1) = f - l.length by omega, Nat.add_assoc]
theorem recs_stop (s : ByteArray) (f i : Nat) (hi : i ≤ s.size) (h : parse ((L s).drop i) = none) : recs s f i = [] := by
  refine recs_none s f i ?_
  rw [oneI_parse s i hi, h]
  rfl
theorem scan_cat (s : ByteArray) (l : List ByteArray) (v : List UInt8) (hl : ∀ t ∈ l, t.size ≤ 1024) (hs : L s = catL l ++ v) (hv : parse v = none) : scanL s = l ∧ scanE s = ((catL l).length : Int) := by
  have hlen : (catL l).length ≤ s.size := by
    have h1 := congrArg List.length hs
    rw [L_len, List.length_append] at h1
    omega
  have hll : l.length ≤ s.size + 1 := by
    have h2 : ∀ l : List ByteArray, l.length ≤ (catL l).length := by
      intro l
      induction l with
      | nil => simp
      | cons t l ih =>
        have h5 : (catL (t :: l)).length = (recI t).size + (catL l).length := by rw [catL, List.flatMap_cons, List.length_append, Array.length_toList]; rfl
        have := recI_size t
        rw [h5, List.length_cons]; omega
    have := h2 l
    omega
  have h := recs_cat s v l 0 (s.size + 1) hl (by omega) (by rw [List.drop_zero]; exact hs) hll
  have hst := recs_stop s (s.size + 1 - l.length) (0 + (catL l).length) (by omega) (by rw [hs, Nat.zero_add, List.drop_left]; exact hv)
  rw [hst, List.append_nil] at h
  unfold scanL scanE
  rw [h]
  exact ⟨entries_texts l 0, by unfold lastEnd; rw [entries_last l 0 0 rfl, Nat.zero_add]⟩
end Go.Proofs.Ytdbbhijicmeckaa.Q
