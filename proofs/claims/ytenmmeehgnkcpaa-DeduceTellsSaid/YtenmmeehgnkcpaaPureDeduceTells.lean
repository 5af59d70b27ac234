/- DeduceTells: what the document's answers of layers 20 and 21 compute; they are the program's.
   Conditions: the list may be, the places lie in it. -/
import Derived.Test.YtenmmeehgnkcpaaHCan
import Derived.Test.YtenmmeehgnkcpaaQx107
import Derived.Test.YtenmmeehgnkcpaaQx121
import Derived.Test.YtenmmeehgnkcpaaQx127
import Derived.Test.YtenmmeehgnkcpaaQx128
import Derived.Test.YtenmmeehgnkcpaaQx129
import Derived.Test.YtenmmeehgnkcpaaQx117
import Derived.Test.YtenmmeehgnkcpaaQx119
import Derived.Test.YtenmmeehgnkcpaaHOpen
namespace Go.Proofs.Ytenmmeehgnkcpaa.Q
open Go.RowKit Go.Proofs.YtenmmeehgnkcpaaW.PrintWords Go.Proofs.YtenmmeehgnkcpaaW.PrintLast Go.Proofs.YtenmmeehgnkcpaaW.PrintMore
set_option linter.unusedVariables false
set_option linter.unusedSimpArgs false

theorem one_f (k : Int) : demurralref20_One.f k = some (unaryB k) := by
  unfold demurralref20_One.f unaryB
  by_cases h : k = 1
  · rw [if_pos h, beq_iff_eq.2 h]; rfl
  · rw [if_neg h, beq_eq_false_iff_ne.2 h]; rfl
theorem made_j0 (k : Nat) (n : Int) (t : S28) : demurralref20_Made.j0 (k + 2) n (decide (t.f0 < 0) || (decide (t.f0 > 6) || ((t.f1 != 0) && ((t.f0 != 0) && (t.f0 != 3))))) t.f0 t.f1 t.f2 t.f3 = some (madeB n t) := by
  obtain ⟨a, b, c, d⟩ := t
  simp only
  unfold demurralref20_Made.j0 demurralref20_Made.j1
  simp only [one_f, Option.bind_some]
  unfold madeB inB
  simp only
  have hu : unaryB a = decide (a = 1 ∨ a = 3) := by
    unfold unaryB
    rw [Bool.eq_iff_iff]
    simp
  have hb : binaryB a = decide (a = 2 ∨ (4 ≤ a ∧ a ≤ 6)) := by
    unfold binaryB
    rw [Bool.eq_iff_iff]
    simp
  rw [hu, hb]
  by_cases h1 : a < 0
  · rw [decide_eq_true h1, Bool.true_or, if_pos rfl]
    rw [if_neg (show ¬ (a == 0) = true by simp; omega), decide_eq_false (show ¬ (a = 1 ∨ a = 3) by omega), decide_eq_false (show ¬ (a = 2 ∨ (4 ≤ a ∧ a ≤ 6)) by omega)]
    simp
  · by_cases h2 : a > 6
    · rw [decide_eq_false h1, decide_eq_true h2, Bool.false_or, Bool.true_or, if_pos rfl]
      rw [if_neg (show ¬ (a == 0) = true by simp; omega), decide_eq_false (show ¬ (a = 1 ∨ a = 3) by omega), decide_eq_false (show ¬ (a = 2 ∨ (4 ≤ a ∧ a ≤ 6)) by omega)]
      simp
    · rw [decide_eq_false h1, decide_eq_false h2, Bool.false_or, Bool.false_or]
      by_cases h3 : ((b != 0) && ((a != 0) && (a != 3))) = true
      · rw [if_pos h3, if_pos h3]
      · rw [if_neg h3, if_neg h3]
        by_cases h0 : a = 0
        · subst h0
          simp
          by_cases hc : c = 0 <;> simp [hc]
        · rw [if_neg h0, if_neg (show ¬ (a == 0) = true by simpa using h0)]
          by_cases hc : c < 0
          · rw [if_pos hc, if_pos trivial, decide_eq_false (show ¬ 0 ≤ c by omega)]
            simp
          · rw [if_neg hc, decide_eq_true (show 0 ≤ c by omega)]
            by_cases hcn : c ≥ n
            · rw [if_pos (decide_eq_true hcn), decide_eq_false (show ¬ c < n by omega)]
              simp
            · rw [if_neg (by simpa using hcn), decide_eq_true (show c < n by omega)]
              by_cases hu1 : (a = 1 ∨ a = 3)
              · simp [hu1]
              · rw [decide_eq_false hu1, decide_eq_true (show (a = 2 ∨ (4 ≤ a ∧ a ≤ 6)) by omega)]
                simp only [Bool.true_and, if_neg (show ¬ false = true by decide)]
                by_cases hd0 : d ≥ 0
                · rw [if_pos hd0, decide_eq_true (show 0 ≤ d from hd0)]
                  by_cases hdn : d < n
                  · rw [if_pos hdn, decide_eq_true hdn]
                    by_cases ha2 : a = 2
                    · simp [ha2]
                    · simp [ha2]
                  · rw [if_neg hdn, decide_eq_false hdn]
                    simp
                · rw [if_neg hd0, decide_eq_false (show ¬ 0 ≤ d from hd0)]
                  simp
theorem made_f (k : Nat) (n : Int) (t : S28) : demurralref20_Made.f (k + 2) n t.f0 t.f1 t.f2 t.f3 = some (madeB n t) := by
  rw [← made_j0 k n t]
  unfold demurralref20_Made.f
  by_cases h1 : t.f0 < 0
  · rw [if_pos h1, decide_eq_true h1, Bool.true_or]
  · rw [if_neg h1, decide_eq_false h1, Bool.false_or]
    by_cases h2 : t.f0 > 6
    · rw [if_pos h2, decide_eq_true h2, Bool.true_or]
    · rw [if_neg h2, decide_eq_false h2, Bool.false_or]
      by_cases h3 : t.f1 = 0
      · rw [if_pos h3]
        rw [show ((t.f1 != 0) && ((t.f0 != 0) && (t.f0 != 3))) = false from by rw [h3]; rfl]
      · rw [if_neg h3]
        by_cases h4 : t.f0 = 0
        · rw [if_pos h4]
          rw [show ((t.f1 != 0) && ((t.f0 != 0) && (t.f0 != 3))) = false from by rw [h4]; cases (t.f1 != 0) <;> rfl]
        · rw [if_neg h4]
          rw [show ((t.f1 != 0) && ((t.f0 != 0) && (t.f0 != 3))) = (t.f0 != 3) from by rw [bne_iff_ne.2 h3, bne_iff_ne.2 h4]; rfl]
theorem at_l0 (l : List S28) (hl : l.length ≤ 1000000) (t : S28) : ∀ (m k i : Nat), i + m = l.length → m < k →
    demurralref20_At.l0 k l (l.length : Int) (i : Int) t.f0 t.f1 t.f2 t.f3 = some (if (l.drop i).findIdx (fun x => eqT x t) < (l.drop i).length then ((i + (l.drop i).findIdx (fun x => eqT x t) : Nat) : Int) else -1) := by
  intro m
  induction m with
  | zero =>
    intro k i hi hk
    obtain ⟨k, rfl⟩ : ∃ k', k = k' + 1 := ⟨k - 1, by omega⟩
    rw [demurralref20_At.l0, if_neg (by omega), List.drop_eq_nil_of_le (by omega)]
    rfl
  | succ m ih =>
    intro k i hi hk
    obtain ⟨k, rfl⟩ : ∃ k', k = k' + 1 := ⟨k - 1, by omega⟩
    rw [demurralref20_At.l0, if_pos (by omega), if_pos (by omega), if_pos (by omega), nx i (by omega), drop_rd28 l i (by omega), List.findIdx_cons, ih k (i + 1) (by omega) (by omega)]
    have hd : (((rd_T28 l (i : Int)).f0 == t.f0) && (((rd_T28 l (i : Int)).f1 == t.f1) && (((rd_T28 l (i : Int)).f2 == t.f2) && ((rd_T28 l (i : Int)).f3 == t.f3)))) = eqT (rd_T28 l (i : Int)) t := rfl
    rw [hd]
    cases e : eqT (rd_T28 l (i : Int)) t with
    | true => simp
    | false =>
      rw [if_neg (by decide), List.length_cons]
      simp only [cond_false]
      by_cases h : (l.drop (i + 1)).findIdx (fun x => eqT x t) < (l.drop (i + 1)).length
      · rw [if_pos h, if_pos (by omega)]
        congr 1
        omega
      · rw [if_neg h, if_neg (by omega)]
def atN (l : List S28) (t : S28) : Nat := l.findIdx fun x => eqT x t
def atI (l : List S28) (t : S28) : Int := if atN l t < l.length then (atN l t : Int) else -1
theorem at_f (l : List S28) (hl : l.length ≤ 1000000) (t : S28) (k : Nat) (hk : l.length < k) : demurralref20_At.f k l t.f0 t.f1 t.f2 t.f3 = some (atI l t) := by
  unfold demurralref20_At.f atI atN
  rw [show (0 : Int) = ((0 : Nat) : Int) from rfl, at_l0 l hl t l.length k 0 (by omega) hk]
  simp
theorem atI_has (l : List S28) (t : S28) : decide (atI l t ≥ 0) = hasT l t := by
  unfold atI atN hasT
  rw [Bool.eq_iff_iff, decide_eq_true_iff, List.any_eq_true]
  constructor
  · intro h
    split at h
    · rename_i hlt
      exact ⟨_, List.getElem_mem hlt, List.findIdx_getElem (w := hlt)⟩
    · omega
  · rintro ⟨x, hx, he⟩
    rw [if_pos (List.findIdx_lt_length_of_exists ⟨x, hx, he⟩)]
    omega
theorem right_l0 (l : List S28) (hl : l.length ≤ 1000000) : ∀ (m k i : Nat), i + m = l.length → l.length + 2 + m < k →
    demurralref20_Right.l0 k l l (l.length : Int) (i : Int) = some (((List.range' i m).all fun j => okT l j) && decide (l.length ≤ 400)) := by
  intro m
  induction m with
  | zero =>
    intro k i hi hk
    obtain ⟨k, rfl⟩ : ∃ k', k = k' + 1 := ⟨k - 1, by omega⟩
    rw [demurralref20_Right.l0, if_neg (by omega)]
    simp only [List.range'_zero, List.all_nil, Bool.true_and]
    congr 1
    rw [Bool.eq_iff_iff, decide_eq_true_iff, decide_eq_true_iff]
    omega
  | succ m ih =>
    intro k i hi hk
    obtain ⟨k, rfl⟩ : ∃ k', k = k' + 3 := ⟨k - 3, by omega⟩
    rw [demurralref20_Right.l0, if_pos (by omega), if_pos (by omega), if_pos (by omega), made_f k (i : Int) (rd_T28 l (i : Int)), Option.bind_some, List.range'_succ, List.all_cons, nx i (by omega), if_pos (show (i : Int) ≤ (l.length : Int) by omega), Int.toNat_natCast,
      at_f (l.take i) (by rw [List.length_take]; omega) (rd_T28 l (i : Int)) (k + 2) (by rw [List.length_take]; omega), Option.bind_some, ih (k + 2) (i + 1) (by omega) (by omega)]
    have ho : okT l i = (madeB (i : Int) (rd_T28 l (i : Int)) && !hasT (l.take i) (rd_T28 l (i : Int))) := rfl
    rw [ho, ← atI_has]
    cases madeB (i : Int) (rd_T28 l (i : Int)) with
    | false => simp
    | true =>
      rw [if_pos rfl]
      by_cases h : atI (l.take i) (rd_T28 l (i : Int)) ≥ 0
      · rw [if_pos h, decide_eq_true h]
        simp
      · rw [if_neg h, decide_eq_false h]
        simp
theorem right_f (l : List S28) (hl : l.length ≤ 1000000) (k : Nat) (hk : 2 * l.length + 2 < k) : demurralref20_Right.f k l = some (rightB l) := by
  unfold demurralref20_Right.f rightB rowT
  rw [show (0 : Int) = ((0 : Nat) : Int) from rfl, right_l0 l hl l.length k 0 (by omega) (by omega), List.range_eq_range']
theorem in_l0 (ks : List Int) (a : Int) (hl : ks.length ≤ 1000000) : ∀ (m k i : Nat), i + m = ks.length → m < k →
    demurralref20_In.l0 k a ks (ks.length : Int) (i : Int) = some (hasN (ks.drop i) a) := by
  intro m
  induction m with
  | zero =>
    intro k i hi hk
    obtain ⟨k, rfl⟩ : ∃ k', k = k' + 1 := ⟨k - 1, by omega⟩
    rw [demurralref20_In.l0, if_neg (by omega), List.drop_eq_nil_of_le (by omega)]
    rfl
  | succ m ih =>
    intro k i hi hk
    obtain ⟨k, rfl⟩ : ∃ k', k = k' + 1 := ⟨k - 1, by omega⟩
    have hd : ks.drop i = ks[i] :: ks.drop (i + 1) := List.drop_eq_getElem_cons (show i < ks.length by omega)
    rw [demurralref20_In.l0, if_pos (by omega), if_pos (by omega), if_pos (by omega), rd_natI ks i (by omega), hd, nx i (by omega), ih k (i + 1) (by omega) (by omega)]
    unfold hasN
    rw [List.any_cons]
    by_cases h : ks[i] = a
    · rw [if_pos h, beq_iff_eq.2 h, Bool.true_or]
    · rw [if_neg h, beq_eq_false_iff_ne.2 h, Bool.false_or]
theorem in_f (ks : List Int) (a : Int) (hl : ks.length ≤ 1000000) (k : Nat) (hk : ks.length < k) : demurralref20_In.f k ks a = some (hasN ks a) := by
  unfold demurralref20_In.f
  rw [show (0 : Int) = ((0 : Nat) : Int) from rfl, in_l0 ks a hl ks.length k 0 (by omega) hk]
  rfl
theorem placesR_l0 (l : List S28) (ks : List Int) (hl : ks.length ≤ 1000000) : ∀ (m k i : Nat), i + m = ks.length → m < k →
    demurralref21_Places.l0 k l ks (ks.length : Int) (i : Int) = some ((ks.drop i).all (inL l.length)) := by
  intro m
  induction m with
  | zero =>
    intro k i hi hk
    obtain ⟨k, rfl⟩ : ∃ k', k = k' + 1 := ⟨k - 1, by omega⟩
    rw [demurralref21_Places.l0, if_neg (by omega), List.drop_eq_nil_of_le (by omega)]
    rfl
  | succ m ih =>
    intro k i hi hk
    obtain ⟨k, rfl⟩ : ∃ k', k = k' + 1 := ⟨k - 1, by omega⟩
    have hd : ks.drop i = ks[i] :: ks.drop (i + 1) := List.drop_eq_getElem_cons (show i < ks.length by omega)
    rw [demurralref21_Places.l0, if_pos (by omega), if_pos (by omega), if_pos (by omega), rd_natI ks i (by omega), hd, nx i (by omega), ih k (i + 1) (by omega) (by omega), List.all_cons]
    unfold inL
    by_cases h : ks[i] < 0
    · rw [if_pos h, decide_eq_false (by omega)]
      simp
    · rw [if_neg h, decide_eq_true (show 0 ≤ ks[i] by omega)]
      by_cases h2 : ks[i] ≥ (l.length : Int)
      · rw [if_pos h2, decide_eq_false (by omega)]
        simp
      · rw [if_neg h2, decide_eq_true (by omega)]
        simp
theorem placesR_f (l : List S28) (ks : List Int) (hl : ks.length ≤ 1000000) (k : Nat) (hk : ks.length < k) : demurralref21_Places.f k l ks = some (ks.all (inL l.length)) := by
  unfold demurralref21_Places.f
  rw [show (0 : Int) = ((0 : Nat) : Int) from rfl, placesR_l0 l ks hl ks.length k 0 (by omega) hk]
  rfl
theorem numbers_l0 (a b : List Int) (hl : a.length ≤ 1000000) (hab : a.length = b.length) : ∀ (m k i : Nat), i + m = a.length → m < k →
    demurralref20_Numbers.l0 k a b (a.length : Int) (i : Int) = some (decide (a.drop i = b.drop i)) := by
  intro m
  induction m with
  | zero =>
    intro k i hi hk
    obtain ⟨k, rfl⟩ : ∃ k', k = k' + 1 := ⟨k - 1, by omega⟩
    rw [demurralref20_Numbers.l0, if_neg (by omega), List.drop_eq_nil_of_le (by omega), List.drop_eq_nil_of_le (by omega)]
    rfl
  | succ m ih =>
    intro k i hi hk
    obtain ⟨k, rfl⟩ : ∃ k', k = k' + 1 := ⟨k - 1, by omega⟩
    have hd : (a.drop i = b.drop i) ↔ (a[i] = b[i] ∧ a.drop (i + 1) = b.drop (i + 1)) := by
      have da : a.drop i = a[i] :: a.drop (i + 1) := List.drop_eq_getElem_cons (show i < a.length by omega)
      have db : b.drop i = b[i] :: b.drop (i + 1) := List.drop_eq_getElem_cons (show i < b.length by omega)
      rw [da, db, List.cons.injEq]
    rw [demurralref20_Numbers.l0, if_pos (by omega), if_pos (by omega), if_pos (by omega), if_pos (by omega), nx i (by omega), ih k (i + 1) (by omega) (by omega), rd_natI a i (by omega), rd_natI b i (by omega)]
    by_cases h : a[i] = b[i]
    · rw [if_pos h]
      simp only [hd, h, true_and]
    · rw [if_neg h]
      simp only [hd, h, false_and, decide_false]
theorem numbers_f (a b : List Int) (hl : a.length ≤ 1000000) (k : Nat) (hk : a.length < k) : demurralref20_Numbers.f k a b = some (decide (a = b)) := by
  unfold demurralref20_Numbers.f
  by_cases h : a.length = b.length
  · rw [if_pos (by omega), show (0 : Int) = ((0 : Nat) : Int) from rfl, numbers_l0 a b hl h a.length k 0 (by omega) hk]
    simp
  · rw [if_neg (by omega), decide_eq_false (fun e => h (by rw [e]))]
theorem right_at {l : List S28} (h : rightB l = true) (j : Nat) (hj : j < l.length) : madeB (j : Int) (rd_T28 l (j : Int)) = true ∧ hasT (l.take j) (rd_T28 l (j : Int)) = false := by
  unfold rightB rowT at h
  have h1 := List.all_eq_true.1 (Bool.and_eq_true_iff.1 h).1 j (List.mem_range.2 hj)
  unfold okT at h1
  obtain ⟨a, b⟩ := Bool.and_eq_true_iff.1 h1
  exact ⟨a, by simpa using b⟩
theorem right_kind {l : List S28} (h : rightB l = true) (j : Nat) (hj : j < l.length) : 0 ≤ (rd_T28 l (j : Int)).f0 ∧ (rd_T28 l (j : Int)).f0 ≤ 6 := by
  have := (made_lt (right_at h j hj).1).2.2
  unfold unaryB binaryB at this
  simp only [Bool.or_eq_true, Bool.and_eq_true, beq_iff_eq, decide_eq_true_eq] at this
  omega
theorem right_pub {l : List S28} (h : rightB l = true) (j : Nat) (hj : j < l.length) (h1 : (rd_T28 l (j : Int)).f0 = 1) : (rd_T28 l (j : Int)).f1 = 0 ∧ (rd_T28 l (j : Int)).f3 = 0 := by
  have := (right_at h j hj).1
  unfold madeB at this
  rw [h1] at this
  by_cases hz : ((rd_T28 l (j : Int)).f1 != 0) = true
  · rw [hz] at this
    simp at this
  · simp only [unaryB] at this
    simp at hz
    simp [hz] at this
    exact ⟨hz, this.2⟩
theorem right_inj {l : List S28} (h : rightB l = true) (i j : Nat) (hi : i < l.length) (hj : j < l.length) (he : rd_T28 l (i : Int) = rd_T28 l (j : Int)) : i = j := by
  have key : ∀ i j : Nat, i < j → j < l.length → rd_T28 l (i : Int) ≠ rd_T28 l (j : Int) := fun i j hij hj he => by
    have h2 := (right_at h j hj).2
    rw [Bool.eq_false_iff] at h2
    apply h2
    rw [hasT_iff, ← he, rd28_nat l i (by omega)]
    exact List.mem_take_iff_getElem.2 ⟨i, by omega, rfl⟩
  rcases Nat.lt_trichotomy i j with hlt | heq | hgt
  · exact absurd he (key i j hlt hj)
  · exact heq
  · exact absurd he.symm (key j i hgt hi)
theorem isAt_of (n : Nat) (ks : List Int) (j : Int) (h0 : 0 ≤ j) (h1 : j < n) : isAt (ofL n ks) j = hasN ks j := by
  obtain ⟨i, rfl⟩ : ∃ i : Nat, (i : Int) = j := ⟨j.toNat, Int.toNat_of_nonneg h0⟩
  rw [isAt_nat]
  unfold ofL
  rw [List.getElem?_map, List.getElem?_range (by omega)]
  rfl
def inR (l : List S28) (ks : List Int) : Prop := ∀ k ∈ ks, 0 ≤ k ∧ k < l.length
theorem inR_of {l : List S28} {ks : List Int} (h : ks.all (inL l.length) = true) : inR l ks := fun k hk => by
  have := List.all_eq_true.1 h k hk
  unfold inL at this
  obtain ⟨a, b⟩ := Bool.and_eq_true_iff.1 this
  exact ⟨of_decide_eq_true a, of_decide_eq_true b⟩
theorem hasN_iff {ks : List Int} {i : Int} : hasN ks i = true ↔ i ∈ ks := by
  unfold hasN
  rw [List.any_eq_true]
  constructor
  · rintro ⟨x, hx, h⟩
    rw [beq_iff_eq] at h
    exact h ▸ hx
  · exact fun h => ⟨i, h, beq_self_eq_true i⟩
theorem any_ks {l : List S28} {ks : List Int} (hk : inR l ks) (p : S28 → Bool) : (ks.any fun k => p (rd_T28 l k)) = anyF l (ofL l.length ks) p := by
  unfold anyF
  rw [Bool.eq_iff_iff, List.any_eq_true, List.any_eq_true]
  constructor
  · rintro ⟨k, hm, hp⟩
    obtain ⟨h0, h1⟩ := hk k hm
    refine ⟨k.toNat, List.mem_range.2 (by omega), ?_⟩
    rw [Int.toNat_of_nonneg h0, isAt_of _ _ _ h0 h1, hasN_iff.2 hm, hp]
    rfl
  · rintro ⟨j, hj, h⟩
    rw [List.mem_range] at hj
    obtain ⟨h1, h2⟩ := Bool.and_eq_true_iff.1 h
    rw [isAt_of _ _ _ (by omega) (by omega)] at h1
    exact ⟨j, hasN_iff.1 h1, h2⟩
def pubT (i : Int) : S28 := { f0 := 1, f1 := 0, f2 := i, f3 := 0 }
theorem atI_get {l : List S28} {t : S28} (h : atI l t ≥ 0) : atN l t < l.length ∧ atI l t = (atN l t : Int) ∧ rd_T28 l (atI l t) = t := by
  unfold atI at h ⊢
  split at h
  · rename_i hlt
    rw [if_pos hlt]
    refine ⟨hlt, rfl, ?_⟩
    rw [rd28_nat l _ hlt]
    exact eqT_iff.1 (List.findIdx_getElem (p := fun x => eqT x t) (w := hlt))
  · omega
theorem anyF_pub {l : List S28} {ks : List Int} (hr : rightB l = true) (hk : inR l ks) (i : Int) : anyF l (ofL l.length ks) (soP i) = (decide (atI l (pubT i) ≥ 0) && hasN ks (atI l (pubT i))) := by
  rw [← any_ks hk, Bool.eq_iff_iff, List.any_eq_true, Bool.and_eq_true]
  constructor
  · rintro ⟨k, hm, hp⟩
    obtain ⟨h0, h1⟩ := hk k hm
    obtain ⟨j, rfl⟩ : ∃ j : Nat, (j : Int) = k := ⟨k.toNat, Int.toNat_of_nonneg h0⟩
    unfold soP at hp
    obtain ⟨p1, p2⟩ := Bool.and_eq_true_iff.1 hp
    rw [beq_iff_eq] at p1 p2
    obtain ⟨q1, q2⟩ := right_pub hr j (by omega) p1
    have he : rd_T28 l (j : Int) = pubT i := by
      revert p1 p2 q1 q2
      generalize rd_T28 l (j : Int) = t
      obtain ⟨a, b, c, d⟩ := t
      rintro rfl rfl rfl rfl
      rfl
    have hh : hasT l (pubT i) = true := by
      rw [hasT_iff, ← he, rd28_nat l j (by omega)]
      exact List.getElem_mem _
    have ha : atI l (pubT i) ≥ 0 := of_decide_eq_true ((atI_has l _).trans hh)
    obtain ⟨g1, g2, g3⟩ := atI_get ha
    have hj : atN l (pubT i) = j := right_inj hr _ _ g1 (by omega) (by rw [he, ← g2, g3])
    exact ⟨decide_eq_true ha, by rw [g2, hj]; exact hasN_iff.2 hm⟩
  · rintro ⟨ha, hm⟩
    have ha := of_decide_eq_true ha
    obtain ⟨g1, g2, g3⟩ := atI_get ha
    refine ⟨_, hasN_iff.1 hm, ?_⟩
    rw [g3]
    simp [soP, pubT]
theorem open_f {l : List S28} {ks : List Int} (hr : rightB l = true) (hk : inR l ks) (i : Int) (h0 : 0 ≤ i) (h1 : i < l.length) (hl : l.length ≤ 1000000) (hkl : ks.length ≤ 1000000) (k : Nat) (hk1 : l.length < k) (hk2 : ks.length < k) :
    demurralref21_open.f k l ks i = some (pointB l (ofL l.length ks) i) := by
  unfold demurralref21_open.f pointB
  rw [in_f ks i hkl k hk2, isAt_of _ _ _ h0 h1, Option.bind_some, anyF_pub hr hk]
  cases hasN ks i with
  | true => rfl
  | false =>
    rw [if_neg (by decide), show demurralref20_At.f k l 1 0 i 0 = _ from at_f l hl (pubT i) k hk1, Option.bind_some, Bool.false_or]
    by_cases h : atI l (pubT i) ≥ 0
    · rw [if_pos h, in_f ks _ hkl k hk2, decide_eq_true h]
      rfl
    · rw [if_neg h, decide_eq_false h]
      rfl
theorem madeR_f {l : List S28} {ks : List Int} (hr : rightB l = true) (hk : inR l ks) (i : Nat) (h1 : i < l.length) (hl : l.length ≤ 1000000) (hkl : ks.length ≤ 1000000) (k : Nat) (hk1 : l.length < k) (hk2 : ks.length < k) :
    demurralref21_made.f k l ks (i : Int) = some (q2B (ofL l.length ks) (rd_T28 l (i : Int)) || (q3B (ofL l.length ks) (rd_T28 l (i : Int)) || q4B l (ofL l.length ks) (rd_T28 l (i : Int)))) := by
  unfold demurralref21_made.f
  rw [if_pos (by omega), if_pos (by omega)]
  obtain ⟨r1, r2, r3⟩ := range_of hr i h1
  obtain ⟨k1, k2⟩ := right_kind hr i h1
  obtain ⟨t, ht⟩ : ∃ t, rd_T28 l (i : Int) = t := ⟨_, rfl⟩
  rw [ht] at r1 r2 r3 k1 k2 ⊢
  rw [in_f ks _ hkl k hk2, in_f ks _ hkl k hk2, one_f, Option.bind_some, Option.bind_some, Option.bind_some]
  unfold q2B q3B q4B
  by_cases hu : unaryB t.f0 = true
  · obtain ⟨a0, a1⟩ := r1 hu
    have hn : t.f0 = 1 ∨ t.f0 = 3 := by
      unfold unaryB at hu
      simpa using hu
    rw [if_pos hu, hu, isAt_of _ _ _ a0 a1, Bool.true_and, decide_eq_false (show ¬ 4 ≤ t.f0 by omega), show (t.f0 == 2) = false from beq_eq_false_iff_ne.2 (by omega)]
    simp
  · have hu' : unaryB t.f0 = false := by simpa using hu
    rw [if_neg hu, hu', Bool.false_and, Bool.false_or]
    by_cases h2 : t.f0 = 2
    · obtain ⟨⟨a0, a1⟩, b0, b1⟩ := r3 h2
      rw [if_pos h2, h2, show decide ((4 : Int) ≤ 2) = false from rfl, Bool.false_and, Bool.false_or, show ((2 : Int) == 2) = true from rfl, Bool.true_and, isAt_of _ _ _ a0 a1, isAt_of _ _ _ b0 b1,
        open_f hr hk _ b0 b1 hl hkl k hk1 hk2, open_f hr hk _ a0 a1 hl hkl k hk1 hk2]
      cases hasN ks t.f2 <;> cases hasN ks t.f3 <;> cases pointB l (ofL l.length ks) t.f3 <;> cases pointB l (ofL l.length ks) t.f2 <;> rfl
    · rw [if_neg h2, show (t.f0 == 2) = false from beq_eq_false_iff_ne.2 h2, Bool.false_and, Bool.or_false]
      by_cases hz : t.f0 = 0
      · rw [if_pos hz, hz]
        rfl
      · have h4 : 4 ≤ t.f0 := by
          unfold unaryB at hu'
          simp at hu'
          omega
        obtain ⟨⟨a0, a1⟩, b0, b1⟩ := r2 h4
        rw [if_neg hz, decide_eq_true h4, Bool.true_and, isAt_of _ _ _ a0 a1, isAt_of _ _ _ b0 b1]
        cases hasN ks t.f2 <;> cases hasN ks t.f3 <;> rfl
theorem heldR_l0 {l : List S28} {ks : List Int} (hr : rightB l = true) (hk : inR l ks) (i : Int) (hkl : ks.length ≤ 1000000) : ∀ (m k j : Nat), j + m = ks.length → ks.length + 2 * m < k →
    demurralref21_held.l0 k l ks i ks (ks.length : Int) (j : Int) = some ((ks.drop j).any fun q => so5 i (rd_T28 l q) || so6 (ofL l.length ks) i (rd_T28 l q)) := by
  intro m
  induction m with
  | zero =>
    intro k j hj hm
    obtain ⟨k, rfl⟩ : ∃ k', k = k' + 1 := ⟨k - 1, by omega⟩
    rw [demurralref21_held.l0, if_neg (by omega), List.drop_eq_nil_of_le (by omega)]
    rfl
  | succ m ih =>
    intro k j hj hm
    obtain ⟨k, rfl⟩ : ∃ k', k = k' + 2 := ⟨k - 2, by omega⟩
    have hd : ks.drop j = ks[j] :: ks.drop (j + 1) := List.drop_eq_getElem_cons (show j < ks.length by omega)
    obtain ⟨c0, c1⟩ := hk ks[j] (List.getElem_mem _)
    obtain ⟨q, hq⟩ : ∃ q : Nat, (q : Int) = ks[j] := ⟨ks[j].toNat, Int.toNat_of_nonneg c0⟩
    have hrng := (range_of hr q (by omega)).2.1
    rw [hq] at hrng
    rw [demurralref21_held.l0, if_pos (by omega), if_pos (by omega), if_pos (by omega), rd_natI ks j (by omega), if_pos c0, if_pos c1, hd, List.any_cons]
    obtain ⟨t, ht⟩ : ∃ t, rd_T28 l ks[j] = t := ⟨_, rfl⟩
    rw [ht] at hrng ⊢
    have hih := ih k (j + 1) (by omega) (by omega)
    have hj1 : ∀ b : Bool, b = so5 i t → demurralref21_held.j1 (k + 1) l ks i ks (ks.length : Int) (j : Int) b t.f0 t.f1 t.f2 t.f3 = some (so5 i t || so6 (ofL l.length ks) i t || (ks.drop (j + 1)).any fun q => so5 i (rd_T28 l q) || so6 (ofL l.length ks) i (rd_T28 l q)) := by
      rintro b rfl
      unfold demurralref21_held.j1
      cases so5 i t with
      | true => rfl
      | false =>
        rw [if_neg (by decide), Bool.false_or]
        unfold so6
        by_cases h5 : t.f0 = 5
        · obtain ⟨⟨a0, a1⟩, _⟩ := hrng (by omega)
          rw [if_pos h5, beq_iff_eq.2 h5, Bool.true_and]
          by_cases hb : t.f3 = i
          · rw [if_pos hb, beq_iff_eq.2 hb, in_f ks _ hkl k (by omega), Option.bind_some, isAt_of _ _ _ a0 a1, nx j (by omega), hih]
            cases hasN ks t.f2 <;> rfl
          · rw [if_neg hb, beq_eq_false_iff_ne.2 hb, nx j (by omega), hih]
            rfl
        · rw [if_neg h5, beq_eq_false_iff_ne.2 h5, nx j (by omega), hih]
          rfl
    unfold so5 at hj1 ⊢
    by_cases h4 : t.f0 = 4
    · rw [if_pos h4]
      by_cases ha : t.f2 = i
      · rw [if_pos ha]
        exact hj1 true (by rw [beq_iff_eq.2 h4, beq_iff_eq.2 ha]; rfl)
      · rw [if_neg ha]
        exact hj1 _ (by rw [beq_iff_eq.2 h4, beq_eq_false_iff_ne.2 ha]; rfl)
    · rw [if_neg h4]
      exact hj1 false (by rw [beq_eq_false_iff_ne.2 h4]; rfl)
theorem anyF_or (l : List S28) (is : List Bool) (p q : S28 → Bool) : anyF l is (fun t => p t || q t) = (anyF l is p || anyF l is q) := by
  unfold anyF
  rw [Bool.eq_iff_iff, Bool.or_eq_true, List.any_eq_true, List.any_eq_true, List.any_eq_true]
  constructor
  · rintro ⟨j, hj, h⟩
    obtain ⟨h1, h2⟩ := Bool.and_eq_true_iff.1 h
    rcases Bool.or_eq_true_iff.1 h2 with h3 | h3
    · exact .inl ⟨j, hj, by rw [h1, h3]; rfl⟩
    · exact .inr ⟨j, hj, by rw [h1, h3]; rfl⟩
  · rintro (⟨j, hj, h⟩ | ⟨j, hj, h⟩)
    · obtain ⟨h1, h2⟩ := Bool.and_eq_true_iff.1 h
      exact ⟨j, hj, by show (isAt is (j : Int) && (p _ || q _)) = true; rw [h1, h2]; rfl⟩
    · obtain ⟨h1, h2⟩ := Bool.and_eq_true_iff.1 h
      exact ⟨j, hj, by show (isAt is (j : Int) && (p _ || q _)) = true; rw [h1, h2, Bool.or_true]; rfl⟩
theorem heldR_f {l : List S28} {ks : List Int} (hr : rightB l = true) (hk : inR l ks) (i : Int) (hkl : ks.length ≤ 1000000) (k : Nat) (hm : 3 * ks.length < k) :
    demurralref21_held.f k l ks i = some (anyF l (ofL l.length ks) (so5 i) || anyF l (ofL l.length ks) (so6 (ofL l.length ks) i)) := by
  unfold demurralref21_held.f
  rw [show (0 : Int) = ((0 : Nat) : Int) from rfl, heldR_l0 hr hk i hkl ks.length k 0 (by omega) (by omega), List.drop_zero, any_ks hk (fun t => so5 i t || so6 (ofL l.length ks) i t), anyF_or]
theorem rd_next (l : List S28) (is : List Bool) (i : Nat) (h : i < l.length) : rdOf false (nextB l is) (i : Int) = toldB l is (i : Int) := by
  have := isAt_nat (nextB l is) i
  unfold isAt at this
  rw [this]
  unfold nextB
  rw [List.getElem?_map, List.getElem?_range h]
  rfl
theorem stepR_l0 {l : List S28} {ks : List Int} (hr : rightB l = true) (hk : inR l ks) (hl : l.length ≤ 1000000) (hkl : ks.length ≤ 1000000) : ∀ (m k i : Nat) (out : List Int), i + m = l.length → l.length + 3 * ks.length + m + 1 < k → out.length ≤ i →
    demurralref21_Step.l0 k l ks out (l.length : Int) (i : Int) = some (out ++ placesFrom (nextB l (ofL l.length ks)) m i) := by
  intro m
  induction m with
  | zero =>
    intro k i out hi hm ho
    obtain ⟨k, rfl⟩ : ∃ k', k = k' + 1 := ⟨k - 1, by omega⟩
    rw [demurralref21_Step.l0, if_neg (by omega)]
    simp [placesFrom]
  | succ m ih =>
    intro k i out hi hm ho
    obtain ⟨k, rfl⟩ : ∃ k', k = k' + 1 := ⟨k - 1, by omega⟩
    rw [demurralref21_Step.l0, if_pos (by omega), in_f ks _ hkl k (by omega), Option.bind_some, madeR_f hr hk i (by omega) hl hkl k (by omega) (by omega), Option.bind_some, heldR_f hr hk (i : Int) hkl k (by omega), Option.bind_some, nx i (by omega), placesFrom, rd_next l _ i (by omega)]
    have hyes : (if out.length < 17592186044416 then demurralref21_Step.l0 k l ks (out ++ [(i : Int)]) (l.length : Int) ((i + 1 : Nat) : Int) else none) = some (out ++ ((i : Int) :: placesFrom (nextB l (ofL l.length ks)) m (i + 1))) := by
      rw [if_pos (by omega), ih k (i + 1) _ (by omega) (by omega) (by rw [List.length_append, List.length_singleton]; omega), List.append_assoc]
      rfl
    have hno := ih k (i + 1) out (by omega) (by omega) (by omega)
    unfold toldB
    rw [isAt_of _ _ _ (by omega) (by omega : (i : Int) < l.length)]
    cases hasN ks (i : Int) with
    | true => rw [if_pos rfl, Bool.true_or, if_pos rfl]; exact hyes
    | false =>
      rw [if_neg (by decide), Bool.false_or]
      cases q2B (ofL l.length ks) (rd_T28 l (i : Int)) with
      | true => exact hyes
      | false =>
        cases q3B (ofL l.length ks) (rd_T28 l (i : Int)) with
        | true => exact hyes
        | false =>
          cases q4B l (ofL l.length ks) (rd_T28 l (i : Int)) with
          | true => exact hyes
          | false =>
            cases anyF l (ofL l.length ks) (so5 (i : Int)) with
            | true => exact hyes
            | false =>
              cases anyF l (ofL l.length ks) (so6 (ofL l.length ks) (i : Int)) with
              | true => exact hyes
              | false => exact hno
theorem stepV_f {l : List S28} {ks : List Int} (hr : rightB l = true) (hk : inR l ks) (hl : l.length ≤ 1000000) (hkl : ks.length ≤ 1000000) (k : Nat) (hm : 2 * l.length + 3 * ks.length + 1 < k) :
    demurralref21_Step.f k l ks = some (placesL (nextB l (ofL l.length ks))) := by
  unfold demurralref21_Step.f placesL
  rw [show (0 : Int) = ((0 : Nat) : Int) from rfl, stepR_l0 hr hk hl hkl l.length k 0 [] (by omega) (by omega) (by simp), nextB_len]
  rfl
theorem mem_placesFrom (is : List Bool) : ∀ (m i : Nat) (x : Int), x ∈ placesFrom is m i ↔ ∃ j : Nat, x = (j : Int) ∧ i ≤ j ∧ j < i + m ∧ rdOf false is (j : Int) = true
  | 0, i, x => by
    simp only [placesFrom, List.not_mem_nil, false_iff]
    rintro ⟨j, _, h1, h2, _⟩
    omega
  | m + 1, i, x => by
    have ih := mem_placesFrom is m (i + 1) x
    unfold placesFrom
    by_cases h : rdOf false is (i : Int) = true
    · rw [if_pos h, List.mem_cons, ih]
      constructor
      · rintro (rfl | ⟨j, e, h1, h2, h3⟩)
        · exact ⟨i, rfl, by omega, by omega, h⟩
        · exact ⟨j, e, by omega, by omega, h3⟩
      · rintro ⟨j, e, h1, h2, h3⟩
        by_cases hj : j = i
        · exact .inl (by rw [e, hj])
        · exact .inr ⟨j, e, by omega, by omega, h3⟩
    · rw [if_neg h, ih]
      constructor
      · rintro ⟨j, e, h1, h2, h3⟩
        exact ⟨j, e, by omega, by omega, h3⟩
      · rintro ⟨j, e, h1, h2, h3⟩
        have hj : j ≠ i := fun e => h (e ▸ h3)
        exact ⟨j, e, by omega, by omega, h3⟩
theorem mem_placesL (is : List Bool) (x : Int) : x ∈ placesL is ↔ ∃ j : Nat, x = (j : Int) ∧ is[j]? = some true := by
  unfold placesL
  rw [mem_placesFrom]
  constructor
  · rintro ⟨j, e, _, h2, h3⟩
    refine ⟨j, e, ?_⟩
    have := isAt_nat is j
    unfold isAt at this
    rw [this, List.getElem?_eq_getElem (by omega)] at h3
    rw [List.getElem?_eq_getElem (by omega)]
    simpa using h3
  · rintro ⟨j, e, h⟩
    have hj := (List.getElem?_eq_some_iff.1 h).1
    refine ⟨j, e, by omega, by omega, ?_⟩
    have := isAt_nat is j
    unfold isAt at this
    rw [this, h]
    rfl
theorem of_places (n : Nat) (is : List Bool) (h : is.length = n) : ofL n (placesL is) = is := by
  refine List.ext_getElem (by simp [ofL, h]) fun j h1 h2 => ?_
  simp only [ofL, List.getElem_map, List.getElem_range]
  rw [Bool.eq_iff_iff, hasN_iff, mem_placesL]
  constructor
  · rintro ⟨q, e, hq⟩
    obtain rfl : j = q := by omega
    obtain ⟨_, h3⟩ := List.getElem?_eq_some_iff.1 hq
    exact h3
  · intro h3
    exact ⟨j, rfl, by rw [List.getElem?_eq_getElem h2, h3]⟩
theorem places_inR (l : List S28) (is : List Bool) (h : is.length = l.length) : inR l (placesL is) := fun k hk => by
  obtain ⟨j, rfl, hj⟩ := (mem_placesL is k).1 hk
  have := (List.getElem?_eq_some_iff.1 hj).1
  omega
theorem places_len (is : List Bool) : (placesL is).length ≤ is.length := placesFrom_len is _ _
theorem allR_l0 {l : List S28} (is0 : List Bool) (hr : rightB l = true) (h0 : is0.length = l.length) (hl : l.length ≤ 100000) : ∀ (m k i t : Nat), i + m = l.length → 5 * l.length + 1 + m < k →
    demurralref21_All.l0 k l (placesL (itB l is0 t)) (l.length : Int) (i : Int) = some (placesL (itB l is0 (t + m))) := by
  intro m
  induction m with
  | zero =>
    intro k i t hi hm
    obtain ⟨k, rfl⟩ : ∃ k', k = k' + 1 := ⟨k - 1, by omega⟩
    rw [demurralref21_All.l0, if_neg (by omega)]
    rfl
  | succ m ih =>
    intro k i t hi hm
    obtain ⟨k, rfl⟩ : ∃ k', k = k' + 1 := ⟨k - 1, by omega⟩
    have hlen := it_len l is0 h0 t
    have hpl := places_len (itB l is0 t)
    rw [demurralref21_All.l0, if_pos (by omega), stepV_f hr (places_inR l _ hlen) (by omega) (by omega) k (by omega), Option.bind_some, of_places _ _ hlen, nx i (by omega)]
    have := ih k (i + 1) (t + 1) (by omega) (by omega)
    rw [show t + 1 + m = t + (m + 1) by omega] at this
    exact this
theorem allV_f {l : List S28} {ks : List Int} (hr : rightB l = true) (hk : inR l ks) (hl : l.length ≤ 100000) (hkl : ks.length ≤ 100000) (k : Nat) (hm : 6 * l.length + 3 * ks.length + 2 < k) :
    demurralref21_All.f k l ks = some (placesL (allB l (ofL l.length ks))) := by
  unfold demurralref21_All.f
  have h1 := allR_l0 (ofL l.length ks) hr (ofL_len _ _) hl l.length k 0 1 (by omega) (by omega)
  rw [stepV_f hr hk (by omega) (by omega) k (by omega), Option.bind_some, show (0 : Int) = ((0 : Nat) : Int) from rfl]
  have h2 : itB l (ofL l.length ks) (1 + l.length) = allB l (ofL l.length ks) := by
    rw [Nat.add_comm]
    exact all_fixed l _ (ofL_len _ _)
  rw [h2] at h1
  exact h1
theorem take_min {α : Type} (l : List α) (n : Nat) : l.take (mn (l.length : Int) (n : Int)).toNat = l.take n := by
  unfold mn
  split
  · rw [Int.toNat_natCast]
  · rw [Int.toNat_natCast, List.take_length, List.take_of_length_le (by omega)]
theorem few_f (l0 : List S28) (l1 : List Int) : demurrallaw21_few.f l0 l1 = some (l0.take 30, l1.take 12) := by
  unfold demurrallaw21_few.f
  have h1 : 0 ≤ mn (l0.length : Int) 30 ∧ mn (l0.length : Int) 30 ≤ l0.length := by unfold mn; split <;> omega
  have h2 : 0 ≤ mn (l1.length : Int) 12 ∧ mn (l1.length : Int) 12 ≤ l1.length := by unfold mn; split <;> omega
  rw [if_pos h1.1, if_pos h1.2, if_pos h2.1, if_pos h2.2, show (30 : Int) = ((30 : Nat) : Int) from rfl, show (12 : Int) = ((12 : Nat) : Int) from rfl, take_min, take_min]
theorem wf_of_good {l : List S28} (h : good23 l) : ∀ t ∈ l, wfT t := fun t ht => h.2 t ht
theorem ok_few {l0 : List S28} {l1 : List Int} (h : good23 l0) : okD (l0.take 30) (l1.take 12) = true :=
  okD_iff.2 ⟨by rw [List.length_take]; omega, by rw [List.length_take]; omega, fun t ht => wf_of_good h t (List.mem_of_mem_take ht)⟩
theorem alive_f (k : Nat) (hk : 3 < k) : demurrallaw21_alive.f k = some true := by
  unfold demurrallaw21_alive.f deduce_All.f
  rw [if_pos (by kernel_rfl), show allR [(⟨0, 1, 0, 0⟩ : S28), (⟨0, 2, 0, 0⟩ : S28), (⟨5, 0, 0, 1⟩ : S28)] [2, 0] = ([0, 1, 2], 0) from by kernel_rfl, Option.bind_some, if_pos rfl, show demurralref20_Numbers.f k ([0, 1, 2], (0 : Int)).fst [0, 1, 2] = _ from numbers_f [0, 1, 2] [0, 1, 2] (by decide) k hk]
  rfl
theorem why_bad {l : List S28} {ks : List Int} (h : rightB l = false) : whyD l ks = 1 := by
  unfold whyD
  rw [h]
  rfl
theorem why_out {l : List S28} {ks : List Int} (h : rightB l = true) (hk : ks.all (inL l.length) = false) : whyD l ks = 5 := by
  unfold whyD
  rw [h, hk]
  rfl
theorem why_in {l : List S28} {ks : List Int} (h : rightB l = true) (hk : ks.all (inL l.length) = true) : whyD l ks = 0 := by
  unfold whyD
  rw [h, hk]
  rfl
theorem all_snoc (n : Nat) (ks : List Int) (i : Int) : (ks ++ [i]).all (inL n) = (ks.all (inL n) && inL n i) := by simp
end Go.Proofs.Ytenmmeehgnkcpaa.Q
namespace Go.Proofs.Ytenmmeehgnkcpaa.Pure
open Go.RowKit Go.Proofs.Ytenmmeehgnkcpaa.Q Go.Proofs.YtenmmeehgnkcpaaW.PrintWords Go.Proofs.YtenmmeehgnkcpaaW.PrintLast

theorem tells_bad (k : Nat) (l : List S28) (ks : List Int) (i q : Int) (hk : 3 < k) (h : q ≠ 0) (h1 : whyD l ks = q) (h2 : whyD l (ks ++ [i]) = q) :
    demurrallaw21_DeduceTells.j0 (k + 1) l ks i (stepR l ks).1 (stepR l ks).2 (allR l ks).1 (allR l ks).2 (canR l ks i).1 (canR l ks i).2 q = some true := by
  have hs : stepR l ks = ([], q) := by unfold stepR; rw [h1, if_neg h]
  have ha : allR l ks = ([], q) := by unfold allR; rw [h1, if_neg h]
  have hc : canR l ks i = (false, q) := by unfold canR; rw [h2, if_neg h]
  have hw0 : wrap64 ((([] : List Int).length : Int) + (([] : List Int).length : Int)) = 0 := (wrap_in' _ (by simp) (by simp)).trans (by simp)
  rw [hs, ha, hc]
  rw [demurrallaw21_DeduceTells.j0, if_neg h, alive_f k hk, Option.bind_some, if_pos rfl, if_pos rfl, if_pos rfl, if_pos rfl, if_pos hw0]
  rfl
theorem DeduceTells : ∀ (l0 : List (S28)) (l1 : List (Int)) (a2 : Int), good23 l0 → good33 l1 → (Lit.int .i64 a2).wf = true → ∃ k, demurrallaw21_DeduceTells.f k l0 l1 a2 = some true := by
  intro l0 l1 i g0 _ _
  refine ⟨1000, ?_⟩
  unfold demurrallaw21_DeduceTells.f
  rw [few_f, Option.bind_some]
  have hok := ok_few (l1 := l1) g0
  obtain ⟨l, hl⟩ : ∃ l, l0.take 30 = l := ⟨_, rfl⟩
  obtain ⟨ks, hks⟩ : ∃ ks, l1.take 12 = ks := ⟨_, rfl⟩
  have hn : l.length ≤ 30 := by rw [← hl, List.length_take]; omega
  have hm : ks.length ≤ 12 := by rw [← hks, List.length_take]; omega
  rw [hl, hks] at hok
  simp only [hl, hks]
  unfold deduce_Step.f deduce_All.f deduce_Can.f
  simp only [hok, if_true, Option.bind_some]
  rw [right_f l (by omega) 1000 (by omega), Option.bind_some]
  cases hr : rightB l with
  | false => exact tells_bad 999 l ks i 1 (by decide) (by decide) (why_bad hr) (why_bad hr)
  | true =>
    rw [if_pos rfl, placesR_f l ks (by omega) 1000 (by omega), Option.bind_some]
    cases hp : ks.all (inL l.length) with
    | false => exact tells_bad 999 l ks i 5 (by decide) (by decide) (why_out hr hp) (why_out hr (by rw [all_snoc, hp]; rfl))
    | true =>
      rw [if_pos rfl]
      have hin := inR_of hp
      have hs : stepR l ks = (placesL (nextB l (ofL l.length ks)), 0) := if_pos (why_in hr hp)
      have ha : allR l ks = (placesL (allB l (ofL l.length ks)), 0) := if_pos (why_in hr hp)
      have hpl : (placesL (allB l (ofL l.length ks))).length ≤ 30 := by
        have := allR_len l ks
        rw [ha] at this
        exact Nat.le_trans this hn
      have hpl2 : (placesL (nextB l (ofL l.length ks))).length ≤ 30 := by
        have := places_len (nextB l (ofL l.length ks))
        rw [nextB_len] at this
        omega
      rw [show (1000 : Nat) = 999 + 1 from rfl, demurrallaw21_DeduceTells.j0, if_pos rfl, allV_f hr hin (by omega) (by omega) 999 (by omega), Option.bind_some, hs, ha]
      simp only
      rw [if_pos trivial, if_pos trivial, stepV_f hr hin (by omega) (by omega) 999 (by omega), Option.bind_some, numbers_f _ _ (by omega) 999 (by omega), Option.bind_some, if_pos (decide_eq_true rfl), numbers_f _ _ (by omega) 999 (by omega), Option.bind_some, if_pos (decide_eq_true rfl), alive_f 999 (by decide), Option.bind_some]
      rw [show (999 : Nat) = 998 + 1 from rfl, demurrallaw21_DeduceTells.j1, if_neg (by decide)]
      have hout : inL l.length i = false → canR l ks i = (false, 5) := fun h => by
        unfold canR
        rw [why_out hr (by rw [all_snoc, hp, h]; rfl), if_neg (by decide)]
      by_cases h0 : i < 0
      · rw [if_pos h0, hout (by unfold inL; rw [decide_eq_false (by omega)]; rfl)]
        rfl
      · rw [if_neg h0]
        by_cases h1 : i ≥ (l.length : Int)
        · rw [if_pos h1, hout (by unfold inL; rw [decide_eq_false (show ¬ i < (l.length : Int) by omega), Bool.and_false])]
          rfl
        · rw [if_neg h1]
          have hc : canR l ks i = (hasN (placesL (allB l (ofL l.length ks))) i, 0) := by
            unfold canR
            rw [why_in hr (by rw [all_snoc, hp]; unfold inL; rw [decide_eq_true (by omega), decide_eq_true (by omega)]; rfl), if_pos rfl, ha]
          rw [hc]
          simp only
          rw [if_pos trivial, in_f _ _ (by omega) 998 (by omega), Option.bind_some]
          simp
end Go.Proofs.Ytenmmeehgnkcpaa.Pure
