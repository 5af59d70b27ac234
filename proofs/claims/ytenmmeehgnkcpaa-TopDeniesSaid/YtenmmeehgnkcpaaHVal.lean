/- What layers 20 and 21 have in common; few, alive.
   Conditions: the list may be, the places lie in it. -/
import Derived.Test.YtenmmeehgnkcpaaHCan
import Derived.Test.YtenmmeehgnkcpaaQx121
import Derived.Test.YtenmmeehgnkcpaaQx117
import Derived.Test.YtenmmeehgnkcpaaQx119
import Derived.Test.YtenmmeehgnkcpaaHOpen
namespace Go.Proofs.Ytenmmeehgnkcpaa.Q
open Go.RowKit Go.Proofs.YtenmmeehgnkcpaaW.PrintWords Go.Proofs.YtenmmeehgnkcpaaW.PrintLast Go.Proofs.YtenmmeehgnkcpaaW.PrintMore
set_option linter.unusedVariables false
set_option linter.unusedSimpArgs false

theorem numbers_l0 (a b : List Int) (hl : a.length ≤ 1000000) (hab : a.length = b.length) : ∀ (m k i : Nat), i + m = a.length → m < k →
    demurralref20_Numbers.l0 k a b (a.length : Int) (i : Int) = some (decide (a.drop i = b.drop i)) := by
  intro m
  induction m with
  | zero =>
    intro k i hi hk
    obtain ⟨k, rfl⟩ : ∃ k', k = k' + 1 := ⟨k - 1, by omega⟩
    rw [demurralref20_Numbers.l0, if_neg (by omega), List.drop_eq_nil_of_le (by omega), List.drop_eq_nil_of_le (by omega)]
    rfl
  | succ m ih =>
    intro k i hi hk
    obtain ⟨k, rfl⟩ : ∃ k', k = k' + 1 := ⟨k - 1, by omega⟩
    have hd : (a.drop i = b.drop i) ↔ (a[i] = b[i] ∧ a.drop (i + 1) = b.drop (i + 1)) := by
      have da : a.drop i = a[i] :: a.drop (i + 1) := List.drop_eq_getElem_cons (show i < a.length by omega)
      have db : b.drop i = b[i] :: b.drop (i + 1) := List.drop_eq_getElem_cons (show i < b.length by omega)
      rw [da, db, List.cons.injEq]
    rw [demurralref20_Numbers.l0, if_pos (by omega), if_pos (by omega), if_pos (by omega), if_pos (by omega), nx i (by omega), ih k (i + 1) (by omega) (by omega), rd_natI a i (by omega), rd_natI b i (by omega)]
    by_cases h : a[i] = b[i]
    · rw [if_pos h]
      simp only [hd, h, true_and]
    · rw [if_neg h]
      simp only [hd, h, false_and, decide_false]
theorem numbers_f (a b : List Int) (hl : a.length ≤ 1000000) (k : Nat) (hk : a.length < k) : demurralref20_Numbers.f k a b = some (decide (a = b)) := by
  unfold demurralref20_Numbers.f
  by_cases h : a.length = b.length
  · rw [if_pos (by omega), show (0 : Int) = ((0 : Nat) : Int) from rfl, numbers_l0 a b hl h a.length k 0 (by omega) hk]
    simp
  · rw [if_neg (by omega), decide_eq_false (fun e => h (by rw [e]))]


theorem right_at {l : List S28} (h : rightB l = true) (j : Nat) (hj : j < l.length) : madeB (j : Int) (rd_T28 l (j : Int)) = true ∧ hasT (l.take j) (rd_T28 l (j : Int)) = false := by
  unfold rightB rowT at h
  have h1 := List.all_eq_true.1 (Bool.and_eq_true_iff.1 h).1 j (List.mem_range.2 hj)
  unfold okT at h1
  obtain ⟨a, b⟩ := Bool.and_eq_true_iff.1 h1
  exact ⟨a, by simpa using b⟩
theorem right_kind {l : List S28} (h : rightB l = true) (j : Nat) (hj : j < l.length) : 0 ≤ (rd_T28 l (j : Int)).f0 ∧ (rd_T28 l (j : Int)).f0 ≤ 6 := by
  have := (made_lt (right_at h j hj).1).2.2
  unfold unaryB binaryB at this
  simp only [Bool.or_eq_true, Bool.and_eq_true, beq_iff_eq, decide_eq_true_eq] at this
  omega
theorem right_pub {l : List S28} (h : rightB l = true) (j : Nat) (hj : j < l.length) (h1 : (rd_T28 l (j : Int)).f0 = 1) : (rd_T28 l (j : Int)).f1 = 0 ∧ (rd_T28 l (j : Int)).f3 = 0 := by
  have := (right_at h j hj).1
  unfold madeB at this
  rw [h1] at this
  by_cases hz : ((rd_T28 l (j : Int)).f1 != 0) = true
  · rw [hz] at this
    simp at this
  · simp only [unaryB] at this
    simp at hz
    simp [hz] at this
    exact ⟨hz, this.2⟩
theorem right_inj {l : List S28} (h : rightB l = true) (i j : Nat) (hi : i < l.length) (hj : j < l.length) (he : rd_T28 l (i : Int) = rd_T28 l (j : Int)) : i = j := by
  have key : ∀ i j : Nat, i < j → j < l.length → rd_T28 l (i : Int) ≠ rd_T28 l (j : Int) := fun i j hij hj he => by
    have h2 := (right_at h j hj).2
    rw [Bool.eq_false_iff] at h2
    apply h2
    rw [hasT_iff, ← he, rd28_nat l i (by omega)]
    exact List.mem_take_iff_getElem.2 ⟨i, by omega, rfl⟩
  rcases Nat.lt_trichotomy i j with hlt | heq | hgt
  · exact absurd he (key i j hlt hj)
  · exact heq
  · exact absurd he.symm (key j i hgt hi)
theorem isAt_of (n : Nat) (ks : List Int) (j : Int) (h0 : 0 ≤ j) (h1 : j < n) : isAt (ofL n ks) j = hasN ks j := by
  obtain ⟨i, rfl⟩ : ∃ i : Nat, (i : Int) = j := ⟨j.toNat, Int.toNat_of_nonneg h0⟩
  rw [isAt_nat]
  unfold ofL
  rw [List.getElem?_map, List.getElem?_range (by omega)]
  rfl
def inR (l : List S28) (ks : List Int) : Prop := ∀ k ∈ ks, 0 ≤ k ∧ k < l.length
theorem inR_of {l : List S28} {ks : List Int} (h : ks.all (inL l.length) = true) : inR l ks := fun k hk => by
  have := List.all_eq_true.1 h k hk
  unfold inL at this
  obtain ⟨a, b⟩ := Bool.and_eq_true_iff.1 this
  exact ⟨of_decide_eq_true a, of_decide_eq_true b⟩
theorem hasN_iff {ks : List Int} {i : Int} : hasN ks i = true ↔ i ∈ ks := by
  unfold hasN
  rw [List.any_eq_true]
  constructor
  · rintro ⟨x, hx, h⟩
    rw [beq_iff_eq] at h
    exact h ▸ hx
  · exact fun h => ⟨i, h, beq_self_eq_true i⟩
theorem any_ks {l : List S28} {ks : List Int} (hk : inR l ks) (p : S28 → Bool) : (ks.any fun k => p (rd_T28 l k)) = anyF l (ofL l.length ks) p := by
  unfold anyF
  rw [Bool.eq_iff_iff, List.any_eq_true, List.any_eq_true]
  constructor
  · rintro ⟨k, hm, hp⟩
    obtain ⟨h0, h1⟩ := hk k hm
    refine ⟨k.toNat, List.mem_range.2 (by omega), ?_⟩
    rw [Int.toNat_of_nonneg h0, isAt_of _ _ _ h0 h1, hasN_iff.2 hm, hp]
    rfl
  · rintro ⟨j, hj, h⟩
    rw [List.mem_range] at hj
    obtain ⟨h1, h2⟩ := Bool.and_eq_true_iff.1 h
    rw [isAt_of _ _ _ (by omega) (by omega)] at h1
    exact ⟨j, hasN_iff.1 h1, h2⟩
theorem rd_next (l : List S28) (is : List Bool) (i : Nat) (h : i < l.length) : rdOf false (nextB l is) (i : Int) = toldB l is (i : Int) := by
  have := isAt_nat (nextB l is) i
  unfold isAt at this
  rw [this]
  unfold nextB
  rw [List.getElem?_map, List.getElem?_range h]
  rfl
theorem mem_placesFrom (is : List Bool) : ∀ (m i : Nat) (x : Int), x ∈ placesFrom is m i ↔ ∃ j : Nat, x = (j : Int) ∧ i ≤ j ∧ j < i + m ∧ rdOf false is (j : Int) = true
  | 0, i, x => by
    simp only [placesFrom, List.not_mem_nil, false_iff]
    rintro ⟨j, _, h1, h2, _⟩
    omega
  | m + 1, i, x => by
    have ih := mem_placesFrom is m (i + 1) x
    unfold placesFrom
    by_cases h : rdOf false is (i : Int) = true
    · rw [if_pos h, List.mem_cons, ih]
      constructor
      · rintro (rfl | ⟨j, e, h1, h2, h3⟩)
        · exact ⟨i, rfl, by omega, by omega, h⟩
        · exact ⟨j, e, by omega, by omega, h3⟩
      · rintro ⟨j, e, h1, h2, h3⟩
        by_cases hj : j = i
        · exact .inl (by rw [e, hj])
        · exact .inr ⟨j, e, by omega, by omega, h3⟩
    · rw [if_neg h, ih]
      constructor
      · rintro ⟨j, e, h1, h2, h3⟩
        exact ⟨j, e, by omega, by omega, h3⟩
      · rintro ⟨j, e, h1, h2, h3⟩
        have hj : j ≠ i := fun e => h (e ▸ h3)
        exact ⟨j, e, by omega, by omega, h3⟩
theorem mem_placesL (is : List Bool) (x : Int) : x ∈ placesL is ↔ ∃ j : Nat, x = (j : Int) ∧ is[j]? = some true := by
  unfold placesL
  rw [mem_placesFrom]
  constructor
  · rintro ⟨j, e, _, h2, h3⟩
    refine ⟨j, e, ?_⟩
    have := isAt_nat is j
    unfold isAt at this
    rw [this, List.getElem?_eq_getElem (by omega)] at h3
    rw [List.getElem?_eq_getElem (by omega)]
    simpa using h3
  · rintro ⟨j, e, h⟩
    have hj := (List.getElem?_eq_some_iff.1 h).1
    refine ⟨j, e, by omega, by omega, ?_⟩
    have := isAt_nat is j
    unfold isAt at this
    rw [this, h]
    rfl
theorem of_places (n : Nat) (is : List Bool) (h : is.length = n) : ofL n (placesL is) = is := by
  refine List.ext_getElem (by simp [ofL, h]) fun j h1 h2 => ?_
  simp only [ofL, List.getElem_map, List.getElem_range]
  rw [Bool.eq_iff_iff, hasN_iff, mem_placesL]
  constructor
  · rintro ⟨q, e, hq⟩
    obtain rfl : j = q := by omega
    obtain ⟨_, h3⟩ := List.getElem?_eq_some_iff.1 hq
    exact h3
  · intro h3
    exact ⟨j, rfl, by rw [List.getElem?_eq_getElem h2, h3]⟩
theorem places_inR (l : List S28) (is : List Bool) (h : is.length = l.length) : inR l (placesL is) := fun k hk => by
  obtain ⟨j, rfl, hj⟩ := (mem_placesL is k).1 hk
  have := (List.getElem?_eq_some_iff.1 hj).1
  omega
theorem places_len (is : List Bool) : (placesL is).length ≤ is.length := placesFrom_len is _ _
theorem take_min {α : Type} (l : List α) (n : Nat) : l.take (mn (l.length : Int) (n : Int)).toNat = l.take n := by
  unfold mn
  split
  · rw [Int.toNat_natCast]
  · rw [Int.toNat_natCast, List.take_length, List.take_of_length_le (by omega)]
theorem few_f (l0 : List S28) (l1 : List Int) : demurrallaw21_few.f l0 l1 = some (l0.take 30, l1.take 12) := by
  unfold demurrallaw21_few.f
  have h1 : 0 ≤ mn (l0.length : Int) 30 ∧ mn (l0.length : Int) 30 ≤ l0.length := by unfold mn; split <;> omega
  have h2 : 0 ≤ mn (l1.length : Int) 12 ∧ mn (l1.length : Int) 12 ≤ l1.length := by unfold mn; split <;> omega
  rw [if_pos h1.1, if_pos h1.2, if_pos h2.1, if_pos h2.2, show (30 : Int) = ((30 : Nat) : Int) from rfl, show (12 : Int) = ((12 : Nat) : Int) from rfl, take_min, take_min]
theorem wf_of_good {l : List S28} (h : good23 l) : ∀ t ∈ l, wfT t := fun t ht => h.2 t ht
theorem ok_few {l0 : List S28} {l1 : List Int} (h : good23 l0) : okD (l0.take 30) (l1.take 12) = true :=
  okD_iff.2 ⟨by rw [List.length_take]; omega, by rw [List.length_take]; omega, fun t ht => wf_of_good h t (List.mem_of_mem_take ht)⟩
theorem alive_f (k : Nat) (hk : 3 < k) : demurrallaw21_alive.f k = some true := by
  unfold demurrallaw21_alive.f deduce_All.f
  rw [if_pos (by kernel_rfl), show allR [(⟨0, 1, 0, 0⟩ : S28), (⟨0, 2, 0, 0⟩ : S28), (⟨5, 0, 0, 1⟩ : S28)] [2, 0] = ([0, 1, 2], 0) from by kernel_rfl, Option.bind_some, if_pos rfl, show demurralref20_Numbers.f k ([0, 1, 2], (0 : Int)).fst [0, 1, 2] = _ from numbers_f [0, 1, 2] [0, 1, 2] (by decide) k hk]
  rfl
theorem why_bad {l : List S28} {ks : List Int} (h : rightB l = false) : whyD l ks = 1 := by
  unfold whyD
  rw [h]
  rfl
theorem why_out {l : List S28} {ks : List Int} (h : rightB l = true) (hk : ks.all (inL l.length) = false) : whyD l ks = 5 := by
  unfold whyD
  rw [h, hk]
  rfl
theorem why_in {l : List S28} {ks : List Int} (h : rightB l = true) (hk : ks.all (inL l.length) = true) : whyD l ks = 0 := by
  unfold whyD
  rw [h, hk]
  rfl
theorem all_snoc (n : Nat) (ks : List Int) (i : Int) : (ks ++ [i]).all (inL n) = (ks.all (inL n) && inL n i) := by simp
theorem isAt_next (l : List S28) (is : List Bool) (i : Int) (h0 : 0 ≤ i) (h1 : i < l.length) : isAt (nextB l is) i = toldB l is i := by
  obtain ⟨j, rfl⟩ : ∃ j : Nat, (j : Int) = i := ⟨i.toNat, Int.toNat_of_nonneg h0⟩
  exact rd_next l is j (by omega)
theorem hasN_places (is : List Bool) (i : Int) (h0 : 0 ≤ i) : hasN (placesL is) i = isAt is i := by
  obtain ⟨j, rfl⟩ : ∃ j : Nat, (j : Int) = i := ⟨i.toNat, Int.toNat_of_nonneg h0⟩
  rw [Bool.eq_iff_iff, hasN_iff, mem_placesL, isAt_nat]
  constructor
  · rintro ⟨q, e, hq⟩
    obtain rfl : j = q := by omega
    rw [hq]
    rfl
  · intro h
    refine ⟨j, rfl, ?_⟩
    cases hq : is[j]? with
    | none => rw [hq] at h; cases h
    | some b => rw [hq] at h; exact congrArg some h
theorem mod_in (i : Int) (n : Nat) (hn : 0 < n) (h : n ≤ 400) : 0 ≤ Int.tmod (wrap64 (Int.tmod i (n : Int) + (n : Int))) (n : Int) ∧ Int.tmod (wrap64 (Int.tmod i (n : Int) + (n : Int))) (n : Int) < n := by
  have h1 := Int.tmod_lt_of_pos i (show (0 : Int) < n by omega)
  have h2 : -(n : Int) < Int.tmod i n := by
    have := Int.lt_tmod_of_pos i (show (0 : Int) < n by omega)
    omega
  have hw : wrap64 (Int.tmod i (n : Int) + (n : Int)) = Int.tmod i (n : Int) + (n : Int) := wrap_in' _ (by omega) (by omega)
  rw [hw]
  exact ⟨Int.tmod_nonneg _ (by omega), Int.tmod_lt_of_pos _ (by omega)⟩
end Go.Proofs.Ytenmmeehgnkcpaa.Q
