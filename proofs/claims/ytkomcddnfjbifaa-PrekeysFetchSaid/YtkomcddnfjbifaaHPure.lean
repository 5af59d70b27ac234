/- The reference's answers for shelves, by values: Points, Twice, Shelf, Right, At, With, One, Same, and the law's few.
   Conditions: at most 1000 shelves, of at most 1000 points each. -/
import Derived.Test.YtkomcddnfjbifaaHLeft
import Derived.Test.YtkomcddnfjbifaaHFew
import Derived.Test.YtkomcddnfjbifaaQx111
import Derived.Test.YtkomcddnfjbifaaQx112
import Derived.Test.YtkomcddnfjbifaaQx117
import Derived.Test.YtkomcddnfjbifaaQx118
import Derived.Test.YtkomcddnfjbifaaQx115
import Derived.Test.YtkomcddnfjbifaaQx116
namespace Go.Proofs.Ytkomcddnfjbifaa.Q
open Go.RowKit Go.Proofs.YtkomcddnfjbifaaW.PrintWords Go.Proofs.YtkomcddnfjbifaaW.PrintLast Go.Proofs.YtkomcddnfjbifaaW.PrintMore
set_option linter.unusedVariables false
set_option linter.unusedSimpArgs false

theorem nx (i : Nat) (h : i ≤ 1000000) : wrap64 ((i : Int) + 1) = ((i + 1 : Nat) : Int) := (wrap_in' _ (by omega) (by omega)).trans (by omega)
theorem rd26_nat (l : List S26) (i : Nat) (h : i < l.length) : rd_T26 l (i : Int) = l[i] := by simp [rd_T26, h]
theorem rd26_mem (l : List S26) (i : Nat) (h : i < l.length) : rd_T26 l (i : Int) ∈ l := by rw [rd26_nat l i h]; exact List.getElem_mem h
theorem rd29_mem (l : List S29) (i : Nat) (h : i < l.length) : rd_T29 l (i : Int) ∈ l := by rw [rd_nat l i h]; exact List.getElem_mem h
theorem range_rd (l : List S29) : (List.range' 0 l.length).map (fun j : Nat => rd_T29 l (j : Int)) = l := by
  apply List.ext_getElem
  · simp
  · intro i h1 h2
    rw [List.getElem_map, List.getElem_range', Nat.one_mul, Nat.zero_add, rd_nat l i h2]
theorem points_l0 (l : List S26) (hl : l.length ≤ 1000000) (h0 : ∀ p ∈ l, 0 ≤ p.f0) : ∀ (m k i : Nat), i + m = l.length → m < k → demurralref15_Points.l0 k l (l.length : Int) (i : Int) = some ((List.range' i m).all fun j => pointB (rd_T26 l (j : Int))) := by
  intro m
  induction m with
  | zero =>
    intro k i hi hk
    obtain ⟨k, rfl⟩ : ∃ k', k = k' + 1 := ⟨k - 1, by omega⟩
    rw [demurralref15_Points.l0, if_neg (by omega)]
    rfl
  | succ m ih =>
    intro k i hi hk
    obtain ⟨k, rfl⟩ : ∃ k', k = k' + 1 := ⟨k - 1, by omega⟩
    have hp := h0 _ (rd26_mem l i (by omega))
    rw [demurralref15_Points.l0, if_pos (by omega), if_pos (by omega), if_pos (by omega), List.range'_succ, List.all_cons]
    unfold pointB
    by_cases e0 : (rd_T26 l (i : Int)).f0 = 0
    · rw [if_pos e0, decide_eq_false (by omega)]
      rfl
    · rw [if_neg e0, decide_eq_true (show 0 < (rd_T26 l (i : Int)).f0 by omega), Bool.true_and]
      by_cases e1 : (((rd_T26 l (i : Int)).f1).size : Int) = 32
      · rw [if_pos e1, nx i (by omega), ih k (i + 1) (by omega) (by omega), show ((rd_T26 l (i : Int)).f1.size == 32) = true from beq_iff_eq.2 (by omega), Bool.true_and]
        rfl
      · rw [if_neg e1, show ((rd_T26 l (i : Int)).f1.size == 32) = false from beq_eq_false_iff_ne.2 (by omega), Bool.false_and]
theorem points_f (l : List S26) (hl : l.length ≤ 1000000) (h0 : ∀ p ∈ l, 0 ≤ p.f0) (k : Nat) (hk : l.length < k) : demurralref15_Points.f k l = some ((List.range l.length).all fun j => pointB (rd_T26 l (j : Int))) := by
  unfold demurralref15_Points.f
  rw [show (0 : Int) = ((0 : Nat) : Int) from rfl, points_l0 l hl h0 l.length k 0 (by omega) hk, List.range_eq_range']
theorem twice_l1 (l y : List S26) (hl : y.length ≤ 1000000) (i : Int) (f0 : Int) (f1 : ByteArray) : ∀ (m k j : Nat), j + m = y.length → m < k →
    demurralref15_Twice.l1 k l l (l.length : Int) i y (y.length : Int) (j : Int) f0 f1 = if (List.range' j m).any (fun t => (rd_T26 y (t : Int)).f0 == f0) then some true else demurralref15_Twice.l0 (k - m - 1) l l (l.length : Int) (wrap64 (i + 1)) := by
  intro m
  induction m with
  | zero =>
    intro k j hj hk
    obtain ⟨k, rfl⟩ : ∃ k', k = k' + 1 := ⟨k - 1, by omega⟩
    rw [demurralref15_Twice.l1, if_neg (by omega)]
    rfl
  | succ m ih =>
    intro k j hj hk
    obtain ⟨k, rfl⟩ : ∃ k', k = k' + 1 := ⟨k - 1, by omega⟩
    rw [demurralref15_Twice.l1, if_pos (by omega), if_pos (by omega), if_pos (by omega), List.range'_succ, List.any_cons]
    by_cases e : f0 = (rd_T26 y (j : Int)).f0
    · rw [if_pos e, show ((rd_T26 y (j : Int)).f0 == f0) = true from beq_iff_eq.2 e.symm, Bool.true_or, if_pos rfl]
    · rw [if_neg e, nx j (by omega), ih k (j + 1) (by omega) (by omega), show ((rd_T26 y (j : Int)).f0 == f0) = false from beq_eq_false_iff_ne.2 (fun h => e h.symm), Bool.false_or, show k + 1 - (m + 1) - 1 = k - m - 1 by omega]
theorem any_range_take (l : List S26) (i : Nat) (hi : i ≤ l.length) (f0 : Int) : ((List.range' 0 (l.take i).length).any fun t => (rd_T26 (l.take i) (t : Int)).f0 == f0) = ((l.take i).map (·.f0)).contains f0 := by
  rw [Bool.eq_iff_iff]
  simp only [List.any_eq_true, List.mem_range'_1, List.contains_iff_mem, List.mem_map]
  constructor
  · rintro ⟨t, ⟨_, ht⟩, h⟩
    exact ⟨_, rd26_mem _ t (by omega), beq_iff_eq.1 h⟩
  · rintro ⟨p, hp, rfl⟩
    obtain ⟨t, ht, rfl⟩ := List.getElem_of_mem hp
    exact ⟨t, ⟨by omega, by omega⟩, by rw [rd26_nat _ t ht]; exact beq_self_eq_true _⟩
theorem twice_l0 (l : List S26) (hl : l.length ≤ 1000000) : ∀ (m k i : Nat), i + m = l.length → m * (l.length + 2) < k →
    demurralref15_Twice.l0 k l l (l.length : Int) (i : Int) = some ((List.range' i m).any fun j => ((l.take j).map (·.f0)).contains (rd_T26 l (j : Int)).f0) := by
  intro m
  induction m with
  | zero =>
    intro k i hi hk
    obtain ⟨k, rfl⟩ : ∃ k', k = k' + 1 := ⟨k - 1, by omega⟩
    rw [demurralref15_Twice.l0, if_neg (by omega)]
    rfl
  | succ m ih =>
    intro k i hi hk
    rw [Nat.add_mul] at hk
    obtain ⟨k, rfl⟩ : ∃ k', k = k' + 1 := ⟨k - 1, by omega⟩
    have hli : (l.take i).length = i := by rw [List.length_take]; omega
    rw [demurralref15_Twice.l0, if_pos (by omega), if_pos (by omega), if_pos (by omega), if_pos (by omega), List.range'_succ, List.any_cons, Int.toNat_natCast]
    show demurralref15_Twice.l1 k l l (l.length : Int) (i : Int) (l.take i) ((l.take i).length : Int) ((0 : Nat) : Int) _ _ = _
    rw [twice_l1 l (l.take i) (by omega) (i : Int) _ _ (l.take i).length k 0 (by omega) (by omega), any_range_take l i (by omega), nx i (by omega)]
    cases h : ((l.take i).map (·.f0)).contains (rd_T26 l (i : Int)).f0 with
    | true => rw [if_pos rfl, Bool.true_or]
    | false => rw [if_neg (by decide), Bool.false_or, ih _ (i + 1) (by omega) (by omega)]
def twiceB (l : List S26) : Bool := (List.range l.length).any fun j => ((l.take j).map (·.f0)).contains (rd_T26 l (j : Int)).f0
theorem twice_f (l : List S26) (hl : l.length ≤ 1000000) (k : Nat) (hk : l.length * (l.length + 2) < k) : demurralref15_Twice.f k l = some (twiceB l) := by
  unfold demurralref15_Twice.f twiceB
  rw [show (0 : Int) = ((0 : Nat) : Int) from rfl, twice_l0 l hl l.length k 0 (by omega) hk, List.range_eq_range']
theorem all_and {α : Type} (l : List α) (f g : α → Bool) : (l.all fun x => f x && g x) = (l.all f && l.all g) := by
  induction l with
  | nil => rfl
  | cons x l ih =>
    simp only [List.all_cons, ih]
    cases f x <;> cases g x <;> cases l.all f <;> cases l.all g <;> rfl
theorem all_not {α : Type} (l : List α) (g : α → Bool) : (l.all fun x => !g x) = !l.any g := by
  induction l with
  | nil => rfl
  | cons x l ih => simp only [List.all_cons, List.any_cons, ih, Bool.not_or]
theorem apartB_parts (l : List S26) : apartB l = (((List.range l.length).all fun j => pointB (rd_T26 l (j : Int))) && !twiceB l) := by
  unfold apartB okAt twiceB
  rw [all_and, all_not]
theorem shelf_f (x : S29) (h0 : ∀ p ∈ x.f3, 0 ≤ p.f0) (k : Nat) (hk : 500 ≤ k) : demurralref15_Shelf.f k x.f0 x.f1 x.f2.f0 x.f2.f1 x.f3 = some (shelfB x) := by
  unfold demurralref15_Shelf.f shelfB
  by_cases e1 : (x.f1.size : Int) = 32
  · rw [if_pos e1, show (x.f1.size == 32) = true from beq_iff_eq.2 (by omega), Bool.true_and]
    by_cases e2 : (x.f2.f1.size : Int) = 32
    · rw [if_pos e2, show (x.f2.f1.size == 32) = true from beq_iff_eq.2 (by omega), Bool.true_and]
      by_cases e3 : (x.f3.length : Int) ≤ 20
      · have hm : x.f3.length * (x.f3.length + 2) ≤ 20 * 22 := Nat.mul_le_mul (by omega) (by omega)
        rw [if_pos e3, decide_eq_true (show x.f3.length ≤ 20 by omega), Bool.true_and, points_f x.f3 (by omega) h0 k (by omega), apartB_parts]
        show (if _ = true then _ else _) = _
        cases h : (List.range x.f3.length).all fun j => pointB (rd_T26 x.f3 (j : Int)) with
        | false => rfl
        | true =>
          rw [if_pos rfl, twice_f x.f3 (by omega) k (by omega)]
          rfl
      · rw [if_neg e3, decide_eq_false (show ¬ x.f3.length ≤ 20 by omega), Bool.false_and]
    · rw [if_neg e2, show (x.f2.f1.size == 32) = false from beq_eq_false_iff_ne.2 (by omega), Bool.false_and]
  · rw [if_neg e1, show (x.f1.size == 32) = false from beq_eq_false_iff_ne.2 (by omega), Bool.false_and]
theorem right_l0 (l : List S29) (hl : l.length ≤ 1000000) (h0 : ∀ s ∈ l, ∀ p ∈ s.f3, 0 ≤ p.f0) : ∀ (m k i : Nat), i + m = l.length → m + 500 < k → demurralref15_Right.l0 k l l (l.length : Int) (i : Int) = some (((List.range' i m).all fun j => okS l j) && decide (l.length ≤ 8)) := by
  intro m
  induction m with
  | zero =>
    intro k i hi hk
    obtain ⟨k, rfl⟩ : ∃ k', k = k' + 1 := ⟨k - 1, by omega⟩
    rw [demurralref15_Right.l0, if_neg (by omega)]
    show some (decide _) = some (true && decide _)
    rw [Bool.true_and]
    congr 1
    exact decide_eq_decide.2 (by omega)
  | succ m ih =>
    intro k i hi hk
    obtain ⟨k, rfl⟩ : ∃ k', k = k' + 1 := ⟨k - 1, by omega⟩
    rw [demurralref15_Right.l0, if_pos (by omega), if_pos (by omega), if_pos (by omega), List.range'_succ, List.all_cons, shelf_f _ (h0 _ (rd29_mem l i (by omega))) k (by omega)]
    show (if _ = true then _ else _) = _
    unfold okS
    cases hs : shelfB (rd_T29 l (i : Int)) with
    | false => rfl
    | true =>
      rw [if_pos rfl, Bool.true_and]
      by_cases e0 : i = 0
      · rw [if_neg (by omega), nx i (by omega), ih k (i + 1) (by omega) (by omega), decide_eq_true e0, Bool.true_or, Bool.true_and]
        rfl
      · rw [if_pos (by omega), wrap_in' ((i : Int) - 1) (by omega) (by omega), if_pos (by omega), if_pos (by omega), decide_eq_false e0, Bool.false_or]
        by_cases e1 : (rd_T29 l ((i : Int) - 1)).f0 ≥ (rd_T29 l (i : Int)).f0
        · rw [if_pos e1, decide_eq_false (by omega), Bool.false_and, Bool.false_and]
        · rw [if_neg e1, nx i (by omega), ih k (i + 1) (by omega) (by omega), decide_eq_true (show (rd_T29 l ((i : Int) - 1)).f0 < (rd_T29 l (i : Int)).f0 by omega), Bool.true_and]
          rfl
theorem right_f (l : List S29) (hl : l.length ≤ 1000) (h0 : ∀ s ∈ l, ∀ p ∈ s.f3, 0 ≤ p.f0) : demurralref15_Right.f 2000 l = some (rightB l) := by
  unfold demurralref15_Right.f rightB
  rw [show (0 : Int) = ((0 : Nat) : Int) from rfl, right_l0 l (by omega) h0 l.length 2000 0 (by omega) (by omega), List.range_eq_range']
theorem at_none (l : List S29) (u : Int) (hl : l.length ≤ 1000000) : ∀ (m k i : Nat), i + m = l.length → m < k → (∀ j : Nat, i ≤ j → j < l.length → (rd_T29 l (j : Int)).f0 ≠ u) → demurralref15_At.l0 k u l (l.length : Int) (i : Int) = some (-1) := by
  intro m
  induction m with
  | zero =>
    intro k i hi hk h
    obtain ⟨k, rfl⟩ : ∃ k', k = k' + 1 := ⟨k - 1, by omega⟩
    rw [demurralref15_At.l0, if_neg (by omega)]
  | succ m ih =>
    intro k i hi hk h
    obtain ⟨k, rfl⟩ : ∃ k', k = k' + 1 := ⟨k - 1, by omega⟩
    rw [demurralref15_At.l0, if_pos (by omega), if_pos (by omega), if_pos (by omega), if_neg (h i (Nat.le_refl _) (by omega)), nx i (by omega)]
    exact ih k (i + 1) (by omega) (by omega) (fun j h1 h2 => h j (by omega) h2)
theorem at_some (l : List S29) (u : Int) (hl : l.length ≤ 1000000) (t : Nat) (ht : t < l.length) (hu : (rd_T29 l (t : Int)).f0 = u) : ∀ (m k i : Nat), i + m = t → m < k → (∀ j : Nat, i ≤ j → j < t → (rd_T29 l (j : Int)).f0 ≠ u) → demurralref15_At.l0 k u l (l.length : Int) (i : Int) = some (t : Int) := by
  intro m
  induction m with
  | zero =>
    intro k i hi hk h
    obtain ⟨k, rfl⟩ : ∃ k', k = k' + 1 := ⟨k - 1, by omega⟩
    obtain rfl : i = t := by omega
    rw [demurralref15_At.l0, if_pos (by omega), if_pos (by omega), if_pos (by omega), if_pos hu]
  | succ m ih =>
    intro k i hi hk h
    obtain ⟨k, rfl⟩ : ∃ k', k = k' + 1 := ⟨k - 1, by omega⟩
    rw [demurralref15_At.l0, if_pos (by omega), if_pos (by omega), if_pos (by omega), if_neg (h i (Nat.le_refl _) (by omega)), nx i (by omega)]
    exact ih k (i + 1) (by omega) (by omega) (fun j h1 h2 => h j (by omega) h2)
theorem at_f_none (l : List S29) (u : Int) (hl : l.length ≤ 1000) (h : ∀ j : Nat, j < l.length → (rd_T29 l (j : Int)).f0 ≠ u) : demurralref15_At.f 2000 l u = some (-1) := by
  unfold demurralref15_At.f
  exact at_none l u (by omega) l.length 2000 0 (by omega) (by omega) (fun j _ hj => h j hj)
theorem at_f_some (l : List S29) (u : Int) (hl : l.length ≤ 1000) (t : Nat) (ht : t < l.length) (hu : (rd_T29 l (t : Int)).f0 = u) (h : ∀ j : Nat, j < t → (rd_T29 l (j : Int)).f0 ≠ u) : demurralref15_At.f 2000 l u = some (t : Int) := by
  unfold demurralref15_At.f
  exact at_some l u (by omega) t ht hu t 2000 0 (by omega) (by omega) (fun j _ hj => h j hj)
/-- Whether the reference finds a user's, any shelves. -/
theorem at_f_any (l : List S29) (u : Int) (hl : l.length ≤ 1000) : ∃ r, demurralref15_At.f 2000 l u = some r ∧ ((r = -1 ∧ ∀ j : Nat, j < l.length → (rd_T29 l (j : Int)).f0 ≠ u) ∨ ∃ t : Nat, r = (t : Int) ∧ t < l.length ∧ (rd_T29 l (t : Int)).f0 = u) := by
  by_cases h : ∃ t : Nat, t < l.length ∧ (rd_T29 l (t : Int)).f0 = u
  · have hex : ∃ t : Nat, (t < l.length ∧ (rd_T29 l (t : Int)).f0 = u) ∧ ∀ j, j < t → ¬ (j < l.length ∧ (rd_T29 l (j : Int)).f0 = u) := by
      obtain ⟨t, ht⟩ := h
      induction t using Nat.strongRecOn with
      | _ t ih =>
        by_cases h2 : ∃ j, j < t ∧ (j < l.length ∧ (rd_T29 l (j : Int)).f0 = u)
        · obtain ⟨j, hj, h3⟩ := h2
          exact ih j hj h3
        · exact ⟨t, ht, fun j hj h3 => h2 ⟨j, hj, h3⟩⟩
    obtain ⟨t, ⟨h1, h2⟩, h3⟩ := hex
    exact ⟨_, at_f_some l u hl t h1 h2 (fun j hj h4 => h3 j hj ⟨by omega, h4⟩), .inr ⟨t, rfl, h1, h2⟩⟩
  · have h' : ∀ j : Nat, j < l.length → (rd_T29 l (j : Int)).f0 ≠ u := fun j hj he => h ⟨j, hj, he⟩
    exact ⟨_, at_f_none l u hl h', .inl ⟨rfl, h'⟩⟩
def eqP (p q : S26) : Bool := (p.f0 == q.f0) && (p.f1.toList == q.f1.toList)
def ptsB (a b : List S26) : Bool := decide (a.length = b.length) && (List.range a.length).all fun j => eqP (rd_T26 a (j : Int)) (rd_T26 b (j : Int))
theorem ptsB_refl (a : List S26) : ptsB a a = true := by simp [ptsB, eqP]
theorem pts_l0 (a b : List S26) (hab : a.length = b.length) (hl : a.length ≤ 1000000) : ∀ (m k i : Nat), i + m = a.length → m < k → demurralref15_PointsSame.l0 k a b (a.length : Int) (i : Int) = some ((List.range' i m).all fun j => eqP (rd_T26 a (j : Int)) (rd_T26 b (j : Int))) := by
  intro m
  induction m with
  | zero =>
    intro k i hi hk
    obtain ⟨k, rfl⟩ : ∃ k', k = k' + 1 := ⟨k - 1, by omega⟩
    rw [demurralref15_PointsSame.l0, if_neg (by omega)]
    rfl
  | succ m ih =>
    intro k i hi hk
    obtain ⟨k, rfl⟩ : ∃ k', k = k' + 1 := ⟨k - 1, by omega⟩
    rw [demurralref15_PointsSame.l0, if_pos (by omega), if_pos (by omega), if_pos (by omega), if_pos (by omega), List.range'_succ, List.all_cons, nx i (by omega), ih k (i + 1) (by omega) (by omega)]
    unfold eqP
    cases ((rd_T26 a (i : Int)).f0 == (rd_T26 b (i : Int)).f0) <;> cases ((rd_T26 a (i : Int)).f1.toList == (rd_T26 b (i : Int)).f1.toList) <;> rfl
theorem pts_f (a b : List S26) (hl : a.length ≤ 1000) (k : Nat) (hk : a.length < k) : demurralref15_PointsSame.f k a b = some (ptsB a b) := by
  unfold demurralref15_PointsSame.f ptsB
  by_cases h : a.length = b.length
  · rw [if_pos (by omega), show (0 : Int) = ((0 : Nat) : Int) from rfl, pts_l0 a b h (by omega) a.length k 0 (by omega) hk, List.range_eq_range', decide_eq_true h, Bool.true_and]
  · rw [if_neg (by omega), decide_eq_false h, Bool.false_and]
def oneB (x y : S29) : Bool := (x.f0 == y.f0) && ((x.f1.toList == y.f1.toList) && (((x.f2.f0 == y.f2.f0) && (x.f2.f1.toList == y.f2.f1.toList)) && ptsB x.f3 y.f3))
theorem oneB_refl (x : S29) : oneB x x = true := by simp [oneB, ptsB_refl]
theorem one_f (x y : S29) (hl : x.f3.length ≤ 1000) (k : Nat) (hk : 1000 < k) : demurralref15_One.f k x.f0 x.f1 x.f2.f0 x.f2.f1 x.f3 y.f0 y.f1 y.f2.f0 y.f2.f1 y.f3 = some (oneB x y) := by
  unfold demurralref15_One.f oneB
  rw [pts_f x.f3 y.f3 hl k (by omega)]
  by_cases e1 : x.f0 = y.f0
  · rw [if_pos e1, show (x.f0 == y.f0) = true from beq_iff_eq.2 e1, Bool.true_and]
    by_cases e2 : x.f1.toList = y.f1.toList
    · rw [if_pos e2, show (x.f1.toList == y.f1.toList) = true from beq_iff_eq.2 e2, Bool.true_and]
      cases (x.f2.f0 == y.f2.f0 && x.f2.f1.toList == y.f2.f1.toList) <;> rfl
    · rw [if_neg e2, show (x.f1.toList == y.f1.toList) = false from beq_eq_false_iff_ne.2 e2, Bool.false_and]
  · rw [if_neg e1, show (x.f0 == y.f0) = false from beq_eq_false_iff_ne.2 e1, Bool.false_and]
def sameB (a b : List S29) : Bool := decide (a.length = b.length) && (List.range a.length).all fun j => oneB (rd_T29 a (j : Int)) (rd_T29 b (j : Int))
theorem sameB_refl (a : List S29) : sameB a a = true := by simp [sameB, oneB_refl]
theorem same_l0 (a b : List S29) (hab : a.length = b.length) (hl : a.length ≤ 1000000) (h3 : ∀ x ∈ a, x.f3.length ≤ 1000) : ∀ (m k i : Nat), i + m = a.length → m + 1001 < k → demurralref15_Same.l0 k a b (a.length : Int) (i : Int) = some ((List.range' i m).all fun j => oneB (rd_T29 a (j : Int)) (rd_T29 b (j : Int))) := by
  intro m
  induction m with
  | zero =>
    intro k i hi hk
    obtain ⟨k, rfl⟩ : ∃ k', k = k' + 1 := ⟨k - 1, by omega⟩
    rw [demurralref15_Same.l0, if_neg (by omega)]
    rfl
  | succ m ih =>
    intro k i hi hk
    obtain ⟨k, rfl⟩ : ∃ k', k = k' + 1 := ⟨k - 1, by omega⟩
    rw [demurralref15_Same.l0, if_pos (by omega), if_pos (by omega), if_pos (by omega), if_pos (by omega), List.range'_succ, List.all_cons, nx i (by omega), ih k (i + 1) (by omega) (by omega), one_f _ _ (h3 _ (rd29_mem a i (by omega))) k (by omega)]
    show (if _ = true then _ else _) = _
    cases oneB (rd_T29 a (i : Int)) (rd_T29 b (i : Int)) <;> rfl
theorem same_f (a b : List S29) (hl : a.length ≤ 500) (h3 : ∀ x ∈ a, x.f3.length ≤ 1000) : demurralref15_Same.f 2000 a b = some (sameB a b) := by
  unfold demurralref15_Same.f sameB
  by_cases h : a.length = b.length
  · rw [if_pos (by omega), show (0 : Int) = ((0 : Nat) : Int) from rfl, same_l0 a b h (by omega) h3 a.length 2000 0 (by omega) (by omega), List.range_eq_range', decide_eq_true h, Bool.true_and]
  · rw [if_neg (by omega), decide_eq_false h, Bool.false_and]
end Go.Proofs.Ytkomcddnfjbifaa.Q
