/- StreamTexts: any stream, and any text xor one, are as the document says, or refused: the plain statement that is left behind the walk. -/
import Derived.Test.YtioafoilinhmjaaQx104
import Derived.Test.YtioafoilinhmjaaHPure2
namespace Go.Proofs.Ytioafoilinhmjaa.Pure
open Go.RowKit Go.Proofs.Ytioafoilinhmjaa.Q Go.Proofs.YtioafoilinhmjaaW.PrintWords Go.Proofs.YtioafoilinhmjaaW.PrintLast

theorem empty_list2 : (⟨#[]⟩ : ByteArray).toList = [] := by
  unfold ByteArray.toList
  rw [ByteArray.toList.loop]
  rfl
theorem texts_j4 (x y s t : ByteArray) (e : Int) (K : Nat) (hK : 6000 ≤ K) (hs : s.size ≤ 140737488351232) (h : stream_Xor.f x y s = some (t, e)) : demurrallaw05_StreamTexts.j4 K x y s t e false = some true := by
  obtain ⟨k, rfl⟩ : ∃ k, K = k + 5000 + 1 := ⟨K - 5001, by omega⟩
  simp only [demurrallaw05_StreamTexts.j4]
  rw [if_neg (by simp), may_iff, Option.bind_some]
  unfold stream_Xor.f at h
  by_cases hm : x.size = 32 ∧ y.size = 12
  · rw [if_pos (by simpa using hm)]
    by_cases hl : s.size ≤ 4096
    · rw [if_pos (by simp [mayB]; omega)] at h
      injection h with h
      injection h with h1 h2
      subst h1 h2
      rw [if_neg (by omega), if_pos rfl, ref_xor x y s hm.1 hm.2 hl, Option.bind_some, beq_self_eq_true]
    · rw [if_neg (by simp [mayB]; omega), if_pos (by omega)] at h
      injection h with h
      injection h with h1 h2
      subst h1 h2
      rw [if_pos (by omega), if_pos rfl, empty_list2]
      rfl
  · rw [if_neg (by simpa using hm)]
    rw [if_neg (by simp [mayB]; omega), if_pos (by omega)] at h
    injection h with h
    injection h with h1 h2
    subst h1 h2
    rw [if_pos rfl, empty_list2]
    rfl
theorem texts_j2 (x y s : ByteArray) (n : Int) (K : Nat) (hK : 7000 ≤ K) (hs : s.size ≤ 140737488351232) : demurrallaw05_StreamTexts.j2 K x y n s = some true := by
  obtain ⟨k, rfl⟩ : ∃ k, K = k + 1 := ⟨K - 1, by omega⟩
  simp only [demurrallaw05_StreamTexts.j2]
  obtain ⟨⟨t, e⟩, hx⟩ : ∃ r, stream_Xor.f x y s = some r := by
    unfold stream_Xor.f
    split
    · exact ⟨_, rfl⟩
    · rw [if_pos (by omega)]; exact ⟨_, rfl⟩
  rw [hx]
  have hj4 : ∀ k, 6000 ≤ k → demurrallaw05_StreamTexts.j4 k x y s t e false = some true := fun k hk => texts_j4 x y s t e k hk hs hx
  by_cases hm : x.size = 32 ∧ y.size = 12
  · by_cases h0 : 0 ≤ n
    · by_cases h1 : n ≤ 4096
      · rw [stream_f_yes x y n (by simp [mayB]; omega)]
        simp only [Option.bind_some]
        rw [may_iff, Option.bind_some, if_pos (by simpa using hm), if_pos h0]
        obtain ⟨j, rfl⟩ : ∃ j, k = j + 120 + 1 := ⟨k - 121, by omega⟩
        simp only [demurrallaw05_StreamTexts.j3]
        rw [if_pos (by simpa using h1), if_true, ref_stream x y hm.1 hm.2 n h0 h1, Option.bind_some, if_pos rfl, alive_ok, Option.bind_some]
        exact hj4 _ (by omega)
      · rw [stream_f_no x y n (by simp [mayB]; omega)]
        simp only [Option.bind_some]
        rw [may_iff, Option.bind_some, if_pos (by simpa using hm), if_pos h0]
        obtain ⟨j, rfl⟩ : ∃ j, k = j + 120 + 1 := ⟨k - 121, by omega⟩
        simp only [demurrallaw05_StreamTexts.j3]
        rw [if_neg (by simpa using h1), if_true, if_pos empty_list2, alive_ok, Option.bind_some]
        exact hj4 _ (by omega)
    · rw [stream_f_no x y n (by simp [mayB]; omega)]
      simp only [Option.bind_some]
      rw [may_iff, Option.bind_some, if_pos (by simpa using hm), if_neg h0]
      obtain ⟨j, rfl⟩ : ∃ j, k = j + 120 + 1 := ⟨k - 121, by omega⟩
      simp only [demurrallaw05_StreamTexts.j3]
      rw [if_neg (by simp), if_true, if_pos empty_list2, alive_ok, Option.bind_some]
      exact hj4 _ (by omega)
  · rw [stream_f_no x y n (by simp [mayB]; omega)]
    simp only [Option.bind_some]
    rw [may_iff, Option.bind_some, if_neg (by simpa using hm)]
    obtain ⟨j, rfl⟩ : ∃ j, k = j + 120 + 1 := ⟨k - 121, by omega⟩
    simp only [demurrallaw05_StreamTexts.j3]
    rw [if_neg (by simp), if_true, if_pos empty_list2, alive_ok, Option.bind_some]
    exact hj4 _ (by omega)
theorem texts_j1 (x y s : ByteArray) (n : Int) (K : Nat) (hK : 7001 ≤ K) (hs : s.size ≤ 140737488351232) : demurrallaw05_StreamTexts.j1 K x y n s = some true := by
  obtain ⟨k, rfl⟩ : ∃ k, K = k + 1 := ⟨K - 1, by omega⟩
  simp only [demurrallaw05_StreamTexts.j1]
  split
  · rw [if_pos (by unfold mn; split <;> omega), if_pos (by unfold mn; split <;> omega)]
    refine texts_j2 _ _ _ _ _ (by omega) ?_
    simp
    omega
  · exact texts_j2 _ _ _ _ _ (by omega) hs
theorem texts_j0 (x y s : ByteArray) (n : Int) (b : Bool) (K : Nat) (hK : 7002 ≤ K) (hs : s.size ≤ 140737488351232) : demurrallaw05_StreamTexts.j0 K x y n s b = some true := by
  obtain ⟨k, rfl⟩ : ∃ k, K = k + 1 := ⟨K - 1, by omega⟩
  simp only [demurrallaw05_StreamTexts.j0]
  split
  · exact texts_j1 _ _ _ _ _ (by omega) hs
  · exact texts_j1 _ _ _ _ _ (by omega) hs
theorem StreamTexts : demurrallaw05_StreamTexts.Pure := by
  intro key nonce n s _ _ _ hs
  obtain ⟨x, hx⟩ := cut_ok key
  obtain ⟨y, hy⟩ := cut_ok nonce
  refine ⟨7002, ?_⟩
  unfold demurrallaw05_StreamTexts.f
  rw [hx, hy]
  simp only [Option.bind_some]
  split
  · exact texts_j0 _ _ _ _ _ _ (by omega) hs
  · exact texts_j0 _ _ _ _ _ _ (by omega) hs
end Go.Proofs.Ytioafoilinhmjaa.Pure
