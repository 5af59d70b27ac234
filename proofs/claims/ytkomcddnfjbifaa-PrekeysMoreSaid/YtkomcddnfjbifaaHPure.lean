/- The reference's answers for shelves, by values: Points, Twice, Shelf, Right, At, With, One, Same, and the law's few.
   Conditions: at most 1000 shelves, of at most 1000 points each. -/
import Derived.Test.YtkomcddnfjbifaaHLeft
import Derived.Test.YtkomcddnfjbifaaHFew
import Derived.Test.YtkomcddnfjbifaaQx111
import Derived.Test.YtkomcddnfjbifaaQx112
import Derived.Test.YtkomcddnfjbifaaQx117
import Derived.Test.YtkomcddnfjbifaaQx118
import Derived.Test.YtkomcddnfjbifaaQx115
import Derived.Test.YtkomcddnfjbifaaQx116
namespace Go.Proofs.Ytkomcddnfjbifaa.Q
open Go.RowKit Go.Proofs.YtkomcddnfjbifaaW.PrintWords Go.Proofs.YtkomcddnfjbifaaW.PrintLast Go.Proofs.YtkomcddnfjbifaaW.PrintMore
set_option linter.unusedVariables false
set_option linter.unusedSimpArgs false

theorem nx (i : Nat) (h : i ≤ 1000000) : wrap64 ((i : Int) + 1) = ((i + 1 : Nat) : Int) := (wrap_in' _ (by omega) (by omega)).trans (by omega)
theorem rd26_nat (l : List S26) (i : Nat) (h : i < l.length) : rd_T26 l (i : Int) = l[i] := by simp [rd_T26, h]
theorem rd26_mem (l : List S26) (i : Nat) (h : i < l.length) : rd_T26 l (i : Int) ∈ l := by rw [rd26_nat l i h]; exact List.getElem_mem h
theorem rd29_mem (l : List S29) (i : Nat) (h : i < l.length) : rd_T29 l (i : Int) ∈ l := by rw [rd_nat l i h]; exact List.getElem_mem h
theorem range_rd (l : List S29) : (List.range' 0 l.length).map (fun j : Nat => rd_T29 l (j : Int)) = l := by
  apply List.ext_getElem
  · simp
  · intro i h1 h2
    rw [List.getElem_map, List.getElem_range', Nat.one_mul, Nat.zero_add, rd_nat l i h2]
theorem points_l0 (l : List S26) (hl : l.length ≤ 1000000) (h0 : ∀ p ∈ l, 0 ≤ p.f0) : ∀ (m k i : Nat), i + m = l.length → m < k → demurralref15_Points.l0 k l (l.length : Int) (i : Int) = some ((List.range' i m).all fun j => pointB (rd_T26 l (j : Int))) := by
  intro m
  induction m with
  | zero =>
    intro k i hi hk
    obtain ⟨k, rfl⟩ : ∃ k', k = k' + 1 := ⟨k - 1, by omega⟩
    rw [demurralref15_Points.l0, if_neg (by omega)]
    rfl
  | succ m ih =>
    intro k i hi hk
    obtain ⟨k, rfl⟩ : ∃ k', k = k' + 1 := ⟨k - 1, by omega⟩
    have hp := h0 _ (rd26_mem l i (by omega))
    rw [demurralref15_Points.l0, if_pos (by omega), if_pos (by omega), if_pos (by omega), List.range'_succ, List.all_cons]
    unfold pointB
    by_cases e0 : (rd_T26 l (i : Int)).f0 = 0
    · rw [if_pos e0, decide_eq_false (by omega)]
      rfl
    · rw [if_neg e0, decide_eq_true (show 0 < (rd_T26 l (i : Int)).f0 by omega), Bool.true_and]
      by_cases e1 : (((rd_T26 l (i : Int)).f1).size : Int) = 32
      · rw [if_pos e1, nx i (by omega), ih k (i + 1) (by omega) (by omega), show ((rd_T26 l (i : Int)).f1.size == 32) = true from beq_iff_eq.2 (by omega), Bool.true_and]
        rfl
      · rw [if_neg e1, show ((rd_T26 l (i : Int)).f1.size == 32) = false from beq_eq_false_iff_ne.2 (by omega), Bool.false_and]
theorem points_f (l : List S26) (hl : l.length ≤ 1000000) (h0 : ∀ p ∈ l, 0 ≤ p.f0) (k : Nat) (hk : l.length < k) : demurralref15_Points.f k l = some ((List.range l.length).all fun j => pointB (rd_T26 l (j : Int))) := by
  unfold demurralref15_Points.f
  rw [show (0 : Int) = ((0 : Nat) : Int) from rfl, points_l0 l hl h0 l.length k 0 (by omega) hk, List.range_eq_range']
theorem twice_l1 (l y : List S26) (hl : y.length ≤ 1000000) (i : Int) (f0 : Int) (f1 : ByteArray) : ∀ (m k j : Nat), j + m = y.length → m < k →
    demurralref15_Twice.l1 k l l (l.length : Int) i y (y.length : Int) (j : Int) f0 f1 = if (List.range' j m).any (fun t => (rd_T26 y (t : Int)).f0 == f0) then some true else demurralref15_Twice.l0 (k - m - 1) l l (l.length : Int) (wrap64 (i + 1)) := by
  intro m
  induction m with
  | zero =>
    intro k j hj hk
    obtain ⟨k, rfl⟩ : ∃ k', k = k' + 1 := ⟨k - 1, by omega⟩
    rw [demurralref15_Twice.l1, if_neg (by omega)]
    rfl
  | succ m ih =>
    intro k j hj hk
    obtain ⟨k, rfl⟩ : ∃ k', k = k' + 1 := ⟨k - 1, by omega⟩
    rw [demurralref15_Twice.l1, if_pos (by omega), if_pos (by omega), if_pos (by omega), List.range'_succ, List.any_cons]
    by_cases e : f0 = (rd_T26 y (j : Int)).f0
    · rw [if_pos e, show ((rd_T26 y (j : Int)).f0 == f0) = true from beq_iff_eq.2 e.symm, Bool.true_or, if_pos rfl]
    · rw [if_neg e, nx j (by omega), ih k (j + 1) (by omega) (by omega), show ((rd_T26 y (j : Int)).f0 == f0) = false from beq_eq_false_iff_ne.2 (fun h => e h.symm), Bool.false_or, show k + 1 - (m + 1) - 1 = k - m - 1 by omega]
theorem any_range_take (l : List S26) (i : Nat) (hi : i ≤ l.length) (f0 : Int) : ((List.range' 0 (l.take i).length).any fun t => (rd_T26 (l.take i) (t : Int)).f0 == f0) = ((l.take i).map (·.f0)).contains f0 := by
  rw [Bool.eq_iff_iff]
  simp only [List.any_eq_true, List.mem_range'_1, List.contains_iff_mem, List.mem_map]
  constructor
  · rintro ⟨t, ⟨_, ht⟩, h⟩
    exact ⟨_, rd26_mem _ t (by omega), beq_iff_eq.1 h⟩
  · rintro ⟨p, hp, rfl⟩
    obtain ⟨t, ht, rfl⟩ := List.getElem_of_mem hp
    exact ⟨t, ⟨by omega, by omega⟩, by rw [rd26_nat _ t ht]; exact beq_self_eq_true _⟩
theorem twice_l0 (l : List S26) (hl : l.length ≤ 1000000) : ∀ (m k i : Nat), i + m = l.length → m * (l.length + 2) < k →
    demurralref15_Twice.l0 k l l (l.length : Int) (i : Int) = some ((List.range' i m).any fun j => ((l.take j).map (·.f0)).contains (rd_T26 l (j : Int)).f0) := by
  intro m
  induction m with
  | zero =>
    intro k i hi hk
    obtain ⟨k, rfl⟩ : ∃ k', k = k' + 1 := ⟨k - 1, by omega⟩
    rw [demurralref15_Twice.l0, if_neg (by omega)]
    rfl
  | succ m ih =>
    intro k i hi hk
    rw [Nat.add_mul] at hk
    obtain ⟨k, rfl⟩ : ∃ k', k = k' + 1 := ⟨k - 1, by omega⟩
    have hli : (l.take i).length = i := by rw [List.length_take]; omega
    rw [demurralref15_Twice.l0, if_pos (by omega), if_pos (by omega), if_pos (by omega), if_pos (by omega), List.range'_succ, List.any_cons, Int.toNat_natCast]
    show demurralref15_Twice.l1 k l l (l.length : Int) (i : Int) (l.take i) ((l.take i).length : Int) ((0 : Nat) : Int) _ _ = _
    rw [twice_l1 l (l.take i) (by omega) (i : Int) _ _ (l.take i).length k 0 (by omega) (by omega), any_range_take l i (by omega), nx i (by omega)]
    cases h : ((l.take i).map (·.f0)).contains (rd_T26 l (i : Int)).f0 with
    | true => rw [if_pos rfl, Bool.true_or]
    | false => rw [if_neg (by decide), Bool.false_or, ih _ (i + 1) (by omega) (by omega)]
def twiceB (l : List S26) : Bool := (List.range l.length).any fun j => ((l.take j).map (·.f0)).contains (rd_T26 l (j : Int)).f0
theorem twice_f (l : List S26) (hl : l.length ≤ 1000000) (k : Nat) (hk : l.length * (l.length + 2) < k) : demurralref15_Twice.f k l = some (twiceB l) := by
  unfold demurralref15_Twice.f twiceB
  rw [show (0 : Int) = ((0 : Nat) : Int) from rfl, twice_l0 l hl l.length k 0 (by omega) hk, List.range_eq_range']
theorem all_and {α : Type} (l : List α) (f g : α → Bool) : (l.all fun x => f x && g x) = (l.all f && l.all g) := by
  induction l with
  | nil => rfl
  | cons x l ih =>
    simp only [List.all_cons, ih]
    cases f x <;> cases g x <;> cases l.all f <;> cases l.all g <;> rfl
theorem all_not {α : Type} (l : List α) (g : α → Bool) : (l.all fun x => !g x) = !l.any g := by
  induction l with
  | nil => rfl
  | cons x l ih => simp only [List.all_cons, List.any_cons, ih, Bool.not_or]
theorem apartB_parts (l : List S26) : apartB l = (((List.range l.length).all fun j => pointB (rd_T26 l (j : Int))) && !twiceB l) := by
  unfold apartB okAt twiceB
  rw [all_and, all_not]
theorem shelf_f (x : S29) (h0 : ∀ p ∈ x.f3, 0 ≤ p.f0) (k : Nat) (hk : 500 ≤ k) : demurralref15_Shelf.f k x.f0 x.f1 x.f2.f0 x.f2.f1 x.f3 = some (shelfB x) := by
  unfold demurralref15_Shelf.f shelfB
  by_cases e1 : (x.f1.size : Int) = 32
  · rw [if_pos e1, show (x.f1.size == 32) = true from beq_iff_eq.2 (by omega), Bool.true_and]
    by_cases e2 : (x.f2.f1.size : Int) = 32
    · rw [if_pos e2, show (x.f2.f1.size == 32) = true from beq_iff_eq.2 (by omega), Bool.true_and]
      by_cases e3 : (x.f3.length : Int) ≤ 20
      · have hm : x.f3.length * (x.f3.length + 2) ≤ 20 * 22 := Nat.mul_le_mul (by omega) (by omega)
        rw [if_pos e3, decide_eq_true (show x.f3.length ≤ 20 by omega), Bool.true_and, points_f x.f3 (by omega) h0 k (by omega), apartB_parts]
        show (if _ = true then _ else _) = _
        cases h : (List.range x.f3.length).all fun j => pointB (rd_T26 x.f3 (j : Int)) with
        | false => rfl
        | true =>
          rw [if_pos rfl, twice_f x.f3 (by omega) k (by omega)]
          rfl
      · rw [if_neg e3, decide_eq_false (show ¬ x.f3.length ≤ 20 by omega), Bool.false_and]
    · rw [if_neg e2, show (x.f2.f1.size == 32) = false from beq_eq_false_iff_ne.2 (by omega), Bool.false_and]
  · rw [if_neg e1, show (x.f1.size == 32) = false from beq_eq_false_iff_ne.2 (by omega), Bool.false_and]
theorem right_l0 (l : List S29) (hl : l.length ≤ 1000000) (h0 : ∀ s ∈ l, ∀ p ∈ s.f3, 0 ≤ p.f0) : ∀ (m k i : Nat), i + m = l.length → m + 500 < k → demurralref15_Right.l0 k l l (l.length : Int) (i : Int) = some (((List.range' i m).all fun j => okS l j) && decide (l.length ≤ 8)) := by
  intro m
  induction m with
  | zero =>
    intro k i hi hk
    obtain ⟨k, rfl⟩ : ∃ k', k = k' + 1 := ⟨k - 1, by omega⟩
    rw [demurralref15_Right.l0, if_neg (by omega)]
    show some (decide _) = some (true && decide _)
    rw [Bool.true_and]
    congr 1
    exact decide_eq_decide.2 (by omega)
  | succ m ih =>
    intro k i hi hk
    obtain ⟨k, rfl⟩ : ∃ k', k = k' + 1 := ⟨k - 1, by omega⟩
    rw [demurralref15_Right.l0, if_pos (by omega), if_pos (by omega), if_pos (by omega), List.range'_succ, List.all_cons, shelf_f _ (h0 _ (rd29_mem l i (by omega))) k (by omega)]
    show (if _ = true then _ else _) = _
    unfold okS
    cases hs : shelfB (rd_T29 l (i : Int)) with
    | false => rfl
    | true =>
      rw [if_pos rfl, Bool.true_and]
      by_cases e0 : i = 0
      · rw [if_neg (by omega), nx i (by omega), ih k (i + 1) (by omega) (by omega), decide_eq_true e0, Bool.true_or, Bool.true_and]
        rfl
      · rw [if_pos (by omega), wrap_in' ((i : Int) - 1) (by omega) (by omega), if_pos (by omega), if_pos (by omega), decide_eq_false e0, Bool.false_or]
        by_cases e1 : (rd_T29 l ((i : Int) - 1)).f0 ≥ (rd_T29 l (i : Int)).f0
        · rw [if_pos e1, decide_eq_false (by omega), Bool.false_and, Bool.false_and]
        · rw [if_neg e1, nx i (by omega), ih k (i + 1) (by omega) (by omega), decide_eq_true (show (rd_T29 l ((i : Int) - 1)).f0 < (rd_T29 l (i : Int)).f0 by omega), Bool.true_and]
          rfl
theorem right_f (l : List S29) (hl : l.length ≤ 1000) (h0 : ∀ s ∈ l, ∀ p ∈ s.f3, 0 ≤ p.f0) : demurralref15_Right.f 2000 l = some (rightB l) := by
  unfold demurralref15_Right.f rightB
  rw [show (0 : Int) = ((0 : Nat) : Int) from rfl, right_l0 l (by omega) h0 l.length 2000 0 (by omega) (by omega), List.range_eq_range']
theorem at_none (l : List S29) (u : Int) (hl : l.length ≤ 1000000) : ∀ (m k i : Nat), i + m = l.length → m < k → (∀ j : Nat, i ≤ j → j < l.length → (rd_T29 l (j : Int)).f0 ≠ u) → demurralref15_At.l0 k u l (l.length : Int) (i : Int) = some (-1) := by
  intro m
  induction m with
  | zero =>
    intro k i hi hk h
    obtain ⟨k, rfl⟩ : ∃ k', k = k' + 1 := ⟨k - 1, by omega⟩
    rw [demurralref15_At.l0, if_neg (by omega)]
  | succ m ih =>
    intro k i hi hk h
    obtain ⟨k, rfl⟩ : ∃ k', k = k' + 1 := ⟨k - 1, by omega⟩
    rw [demurralref15_At.l0, if_pos (by omega), if_pos (by omega), if_pos (by omega), if_neg (h i (Nat.le_refl _) (by omega)), nx i (by omega)]
    exact ih k (i + 1) (by omega) (by omega) (fun j h1 h2 => h j (by omega) h2)
theorem at_some (l : List S29) (u : Int) (hl : l.length ≤ 1000000) (t : Nat) (ht : t < l.length) (hu : (rd_T29 l (t : Int)).f0 = u) : ∀ (m k i : Nat), i + m = t → m < k → (∀ j : Nat, i ≤ j → j < t → (rd_T29 l (j : Int)).f0 ≠ u) → demurralref15_At.l0 k u l (l.length : Int) (i : Int) = some (t : Int) := by
  intro m
  induction m with
  | zero =>
    intro k i hi hk h
    obtain ⟨k, rfl⟩ : ∃ k', k = k' + 1 := ⟨k - 1, by omega⟩
    obtain rfl : i = t := by omega
    rw [demurralref15_At.l0, if_pos (by omega), if_pos (by omega), if_pos (by omega), if_pos hu]
  | succ m ih =>
    intro k i hi hk h
    obtain ⟨k, rfl⟩ : ∃ k', k = k' + 1 := ⟨k - 1, by omega⟩
    rw [demurralref15_At.l0, if_pos (by omega), if_pos (by omega), if_pos (by omega), if_neg (h i (Nat.le_refl _) (by omega)), nx i (by omega)]
    exact ih k (i + 1) (by omega) (by omega) (fun j h1 h2 => h j (by omega) h2)
theorem at_f_none (l : List S29) (u : Int) (hl : l.length ≤ 1000) (h : ∀ j : Nat, j < l.length → (rd_T29 l (j : Int)).f0 ≠ u) : demurralref15_At.f 2000 l u = some (-1) := by
  unfold demurralref15_At.f
  exact at_none l u (by omega) l.length 2000 0 (by omega) (by omega) (fun j _ hj => h j hj)
theorem at_f_some (l : List S29) (u : Int) (hl : l.length ≤ 1000) (t : Nat) (ht : t < l.length) (hu : (rd_T29 l (t : Int)).f0 = u) (h : ∀ j : Nat, j < t → (rd_T29 l (j : Int)).f0 ≠ u) : demurralref15_At.f 2000 l u = some (t : Int) := by
  unfold demurralref15_At.f
  exact at_some l u (by omega) t ht hu t 2000 0 (by omega) (by omega) (fun j _ hj => h j hj)
/-- Whether the reference finds a user's, any shelves. -/
theorem at_f_any (l : List S29) (u : Int) (hl : l.length ≤ 1000) : ∃ r, demurralref15_At.f 2000 l u = some r ∧ ((r = -1 ∧ ∀ j : Nat, j < l.length → (rd_T29 l (j : Int)).f0 ≠ u) ∨ ∃ t : Nat, r = (t : Int) ∧ t < l.length ∧ (rd_T29 l (t : Int)).f0 = u) := by
  by_cases h : ∃ t : Nat, t < l.length ∧ (rd_T29 l (t : Int)).f0 = u
  · have hex : ∃ t : Nat, (t < l.length ∧ (rd_T29 l (t : Int)).f0 = u) ∧ ∀ j, j < t → ¬ (j < l.length ∧ (rd_T29 l (j : Int)).f0 = u) := by
      obtain ⟨t, ht⟩ := h
      induction t using Nat.strongRecOn with
      | _ t ih =>
        by_cases h2 : ∃ j, j < t ∧ (j < l.length ∧ (rd_T29 l (j : Int)).f0 = u)
        · obtain ⟨j, hj, h3⟩ := h2
          exact ih j hj h3
        · exact ⟨t, ht, fun j hj h3 => h2 ⟨j, hj, h3⟩⟩
    obtain ⟨t, ⟨h1, h2⟩, h3⟩ := hex
    exact ⟨_, at_f_some l u hl t h1 h2 (fun j hj h4 => h3 j hj ⟨by omega, h4⟩), .inr ⟨t, rfl, h1, h2⟩⟩
  · have h' : ∀ j : Nat, j < l.length → (rd_T29 l (j : Int)).f0 ≠ u := fun j hj he => h ⟨j, hj, he⟩
    exact ⟨_, at_f_none l u hl h', .inl ⟨rfl, h'⟩⟩
def eqP (p q : S26) : Bool := (p.f0 == q.f0) && (p.f1.toList == q.f1.toList)
def ptsB (a b : List S26) : Bool := decide (a.length = b.length) && (List.range a.length).all fun j => eqP (rd_T26 a (j : Int)) (rd_T26 b (j : Int))
theorem ptsB_refl (a : List S26) : ptsB a a = true := by simp [ptsB, eqP]
theorem pts_l0 (a b : List S26) (hab : a.length = b.length) (hl : a.length ≤ 1000000) : ∀ (m k i : Nat), i + m = a.length → m < k → demurralref15_PointsSame.l0 k a b (a.length : Int) (i : Int) = some ((List.range' i m).all fun j => eqP (rd_T26 a (j : Int)) (rd_T26 b (j : Int))) := by
  intro m
  induction m with
  | zero =>
    intro k i hi hk
    obtain ⟨k, rfl⟩ : ∃ k', k = k' + 1 := ⟨k - 1, by omega⟩
    rw [demurralref15_PointsSame.l0, if_neg (by omega)]
    rfl
  | succ m ih =>
    intro k i hi hk
    obtain ⟨k, rfl⟩ : ∃ k', k = k' + 1 := ⟨k - 1, by omega⟩
    rw [demurralref15_PointsSame.l0, if_pos (by omega), if_pos (by omega), if_pos (by omega), if_pos (by omega), List.range'_succ, List.all_cons, nx i (by omega), ih k (i + 1) (by omega) (by omega)]
    unfold eqP
    cases ((rd_T26 a (i : Int)).f0 == (rd_T26 b (i : Int)).f0) <;> cases ((rd_T26 a (i : Int)).f1.toList == (rd_T26 b (i : Int)).f1.toList) <;> rfl
theorem pts_f (a b : List S26) (hl : a.length ≤ 1000) (k : Nat) (hk : a.length < k) : demurralref15_PointsSame.f k a b = some (ptsB a b) := by
  unfold demurralref15_PointsSame.f ptsB
  by_cases h : a.length = b.length
  · rw [if_pos (by omega), show (0 : Int) = ((0 : Nat) : Int) from rfl, pts_l0 a b h (by omega) a.length k 0 (by omega) hk, List.range_eq_range', decide_eq_true h, Bool.true_and]
  · rw [if_neg (by omega), decide_eq_false h, Bool.false_and]
def oneB (x y : S29) : Bool := (x.f0 == y.f0) && ((x.f1.toList == y.f1.toList) && (((x.f2.f0 == y.f2.f0) && (x.f2.f1.toList == y.f2.f1.toList)) && ptsB x.f3 y.f3))
theorem oneB_refl (x : S29) : oneB x x = true := by simp [oneB, ptsB_refl]
theorem one_f (x y : S29) (hl : x.f3.length ≤ 1000) (k : Nat) (hk : 1000 < k) : demurralref15_One.f k x.f0 x.f1 x.f2.f0 x.f2.f1 x.f3 y.f0 y.f1 y.f2.f0 y.f2.f1 y.f3 = some (oneB x y) := by
  unfold demurralref15_One.f oneB
  rw [pts_f x.f3 y.f3 hl k (by omega)]
  by_cases e1 : x.f0 = y.f0
  · rw [if_pos e1, show (x.f0 == y.f0) = true from beq_iff_eq.2 e1, Bool.true_and]
    by_cases e2 : x.f1.toList = y.f1.toList
    · rw [if_pos e2, show (x.f1.toList == y.f1.toList) = true from beq_iff_eq.2 e2, Bool.true_and]
      cases (x.f2.f0 == y.f2.f0 && x.f2.f1.toList == y.f2.f1.toList) <;> rfl
    · rw [if_neg e2, show (x.f1.toList == y.f1.toList) = false from beq_eq_false_iff_ne.2 e2, Bool.false_and]
  · rw [if_neg e1, show (x.f0 == y.f0) = false from beq_eq_false_iff_ne.2 e1, Bool.false_and]
def sameB (a b : List S29) : Bool := decide (a.length = b.length) && (List.range a.length).all fun j => oneB (rd_T29 a (j : Int)) (rd_T29 b (j : Int))
theorem sameB_refl (a : List S29) : sameB a a = true := by simp [sameB, oneB_refl]
theorem same_l0 (a b : List S29) (hab : a.length = b.length) (hl : a.length ≤ 1000000) (h3 : ∀ x ∈ a, x.f3.length ≤ 1000) : ∀ (m k i : Nat), i + m = a.length → m + 1001 < k → demurralref15_Same.l0 k a b (a.length : Int) (i : Int) = some ((List.range' i m).all fun j => oneB (rd_T29 a (j : Int)) (rd_T29 b (j : Int))) := by
  intro m
  induction m with
  | zero =>
    intro k i hi hk
    obtain ⟨k, rfl⟩ : ∃ k', k = k' + 1 := ⟨k - 1, by omega⟩
    rw [demurralref15_Same.l0, if_neg (by omega)]
    rfl
  | succ m ih =>
    intro k i hi hk
    obtain ⟨k, rfl⟩ : ∃ k', k = k' + 1 := ⟨k - 1, by omega⟩
    rw [demurralref15_Same.l0, if_pos (by omega), if_pos (by omega), if_pos (by omega), if_pos (by omega), List.range'_succ, List.all_cons, nx i (by omega), ih k (i + 1) (by omega) (by omega), one_f _ _ (h3 _ (rd29_mem a i (by omega))) k (by omega)]
    show (if _ = true then _ else _) = _
    cases oneB (rd_T29 a (i : Int)) (rd_T29 b (i : Int)) <;> rfl
theorem same_f (a b : List S29) (hl : a.length ≤ 500) (h3 : ∀ x ∈ a, x.f3.length ≤ 1000) : demurralref15_Same.f 2000 a b = some (sameB a b) := by
  unfold demurralref15_Same.f sameB
  by_cases h : a.length = b.length
  · rw [if_pos (by omega), show (0 : Int) = ((0 : Nat) : Int) from rfl, same_l0 a b h (by omega) h3 a.length 2000 0 (by omega) (by omega), List.range_eq_range', decide_eq_true h, Bool.true_and]
  · rw [if_neg (by omega), decide_eq_false h, Bool.false_and]
end Go.Proofs.Ytkomcddnfjbifaa.Q
namespace Go.Proofs.Ytkomcddnfjbifaa.Q
open Go.RowKit Go.Proofs.YtkomcddnfjbifaaW.PrintWords Go.Proofs.YtkomcddnfjbifaaW.PrintLast Go.Proofs.YtkomcddnfjbifaaW.PrintMore
set_option linter.unusedVariables false
set_option linter.unusedSimpArgs false

def rdm (l : List S29) (p : S29 → Bool) (i m : Nat) : List S29 := ((List.range' i m).map fun j : Nat => rd_T29 l (j : Int)).filter p
theorem rdm_succ (l : List S29) (p : S29 → Bool) (i m : Nat) : rdm l p i (m + 1) = (if p (rd_T29 l (i : Int)) then [rd_T29 l (i : Int)] else []) ++ rdm l p (i + 1) m := by
  unfold rdm
  rw [List.range'_succ, List.map_cons, List.filter_cons]
  split <;> rfl
theorem rdm_all (l : List S29) (p : S29 → Bool) : rdm l p 0 l.length = l.filter p := by
  unfold rdm
  rw [range_rd]
theorem with_l1 (l : List S29) (s : S29) (hl : l.length ≤ 1000000) : ∀ (m k i : Nat) (acc : List S29), i + m = l.length → m < k → acc.length + m ≤ 2000001 → demurralref15_With.l1 k acc l (l.length : Int) (i : Int) s.f0 s.f1 s.f2.f0 s.f2.f1 s.f3 = some (acc ++ rdm l (fun x => decide (x.f0 > s.f0)) i m) := by
  intro m
  induction m with
  | zero =>
    intro k i acc hi hk ha
    obtain ⟨k, rfl⟩ : ∃ k', k = k' + 1 := ⟨k - 1, by omega⟩
    rw [demurralref15_With.l1, if_neg (by omega)]
    simp [rdm]
  | succ m ih =>
    intro k i acc hi hk ha
    obtain ⟨k, rfl⟩ : ∃ k', k = k' + 1 := ⟨k - 1, by omega⟩
    rw [demurralref15_With.l1, if_pos (by omega), if_pos (by omega), if_pos (by omega), rdm_succ, nx i (by omega)]
    by_cases e : (rd_T29 l (i : Int)).f0 > s.f0
    · rw [if_pos e, if_pos (by omega), ih k (i + 1) _ (by omega) (by omega) (by rw [List.length_append, List.length_singleton]; omega), if_pos (by exact decide_eq_true e), List.append_assoc]
    · rw [if_neg e, ih k (i + 1) _ (by omega) (by omega) (by omega), if_neg (by exact fun h => e (of_decide_eq_true h)), List.nil_append]
theorem with_l0 (l : List S29) (s : S29) (hl : l.length ≤ 1000000) : ∀ (m k i : Nat) (acc : List S29), i + m = l.length → m + l.length + 1 < k → acc.length + m ≤ 1000000 →
    demurralref15_With.l0 k l acc l (l.length : Int) (i : Int) s.f0 s.f1 s.f2.f0 s.f2.f1 s.f3 = some ((acc ++ rdm l (fun x => decide (x.f0 < s.f0)) i m) ++ s :: l.filter (fun x => decide (x.f0 > s.f0))) := by
  intro m
  induction m with
  | zero =>
    intro k i acc hi hk ha
    obtain ⟨k, rfl⟩ : ∃ k', k = k' + 1 := ⟨k - 1, by omega⟩
    rw [demurralref15_With.l0, if_neg (by omega), if_pos (by omega), show (0 : Int) = ((0 : Nat) : Int) from rfl, with_l1 l s hl l.length k 0 _ (by omega) (by omega) (by rw [List.length_append, List.length_singleton]; omega), rdm_all]
    simp [rdm]
  | succ m ih =>
    intro k i acc hi hk ha
    obtain ⟨k, rfl⟩ : ∃ k', k = k' + 1 := ⟨k - 1, by omega⟩
    rw [demurralref15_With.l0, if_pos (by omega), if_pos (by omega), if_pos (by omega), rdm_succ, nx i (by omega)]
    by_cases e : (rd_T29 l (i : Int)).f0 < s.f0
    · rw [if_pos e, if_pos (by omega), ih k (i + 1) _ (by omega) (by omega) (by rw [List.length_append, List.length_singleton]; omega), if_pos (by exact decide_eq_true e), ← List.append_assoc acc]
    · rw [if_neg e, ih k (i + 1) _ (by omega) (by omega) (by omega), if_neg (by exact fun h => e (of_decide_eq_true h)), List.nil_append]
theorem with_f (l : List S29) (s : S29) (hl : l.length ≤ 900) : demurralref15_With.f 2000 l s.f0 s.f1 s.f2.f0 s.f2.f1 s.f3 = some (l.filter (fun x => decide (x.f0 < s.f0)) ++ s :: l.filter (fun x => decide (x.f0 > s.f0))) := by
  unfold demurralref15_With.f
  rw [show (0 : Int) = ((0 : Nat) : Int) from rfl, with_l0 l s (by omega) l.length 2000 0 [] (by omega) (by omega) (by simp; omega), rdm_all, List.nil_append]
theorem filter_take (l : List S29) (p : S29 → Bool) (i : Nat) (h1 : ∀ j : Nat, j < i → j < l.length → p (rd_T29 l (j : Int)) = true) (h2 : ∀ j : Nat, i ≤ j → j < l.length → p (rd_T29 l (j : Int)) = false) : l.filter p = l.take i := by
  conv => lhs; rw [← List.take_append_drop i l]
  rw [List.filter_append, List.filter_eq_self.2, List.filter_eq_nil_iff.2, List.append_nil]
  · intro x hx
    obtain ⟨j, hj, rfl⟩ := List.getElem_of_mem hx
    rw [List.length_drop] at hj
    rw [List.getElem_drop, ← rd_nat l (i + j) (by omega), h2 (i + j) (by omega) (by omega)]
    decide
  · intro x hx
    obtain ⟨j, hj, rfl⟩ := List.getElem_of_mem hx
    rw [List.length_take] at hj
    rw [List.getElem_take, ← rd_nat l j (by omega)]
    exact h1 j (by omega) (by omega)
theorem filter_drop (l : List S29) (p : S29 → Bool) (i : Nat) (h1 : ∀ j : Nat, j < i → j < l.length → p (rd_T29 l (j : Int)) = false) (h2 : ∀ j : Nat, i ≤ j → j < l.length → p (rd_T29 l (j : Int)) = true) : l.filter p = l.drop i := by
  conv => lhs; rw [← List.take_append_drop i l]
  rw [List.filter_append, List.filter_eq_nil_iff.2, List.filter_eq_self.2, List.nil_append]
  · intro x hx
    obtain ⟨j, hj, rfl⟩ := List.getElem_of_mem hx
    rw [List.length_drop] at hj
    rw [List.getElem_drop, ← rd_nat l (i + j) (by omega)]
    exact h2 (i + j) (by omega) (by omega)
  · intro x hx
    obtain ⟨j, hj, rfl⟩ := List.getElem_of_mem hx
    rw [List.length_take] at hj
    rw [List.getElem_take, ← rd_nat l j (by omega), h1 j (by omega) (by omega)]
    decide
theorem with_set (l : List S29) (s : S29) (hl : l.length ≤ 900) (h : rightB l = true) (i : Nat) (hi : i < l.length) (hu : (rd_T29 l (i : Int)).f0 = s.f0) : demurralref15_With.f 2000 l s.f0 s.f1 s.f2.f0 s.f2.f1 s.f3 = some (l.set i s) := by
  rw [with_f l s hl, List.set_eq_take_append_cons_drop, if_pos hi]
  have hlt : ∀ j : Nat, j < i → (rd_T29 l (j : Int)).f0 < s.f0 := fun j hj => hu ▸ right_rises h i j hj hi
  have hgt : ∀ j : Nat, i < j → j < l.length → s.f0 < (rd_T29 l (j : Int)).f0 := fun j hj hjl => hu ▸ right_rises h j i hj hjl
  rw [filter_take l _ i (fun j hj _ => decide_eq_true (hlt j hj)) (fun j hj hjl => decide_eq_false (by
      by_cases e : j = i
      · subst e; omega
      · have := hgt j (by omega) hjl; omega)),
    filter_drop l _ (i + 1) (fun j hj _ => decide_eq_false (by
      by_cases e : j = i
      · subst e; omega
      · have := hlt j (by omega); omega)) (fun j hj hjl => decide_eq_true (hgt j (by omega) hjl))]
/-- Where the user's place is, in shelves that may be. -/
theorem found_lt {l : List S29} {u : Int} {i : Nat} (h : rightB l = true) (hf : foundR l u i false) : (∀ j : Nat, j < i → (rd_T29 l (j : Int)).f0 < u) ∧ ∀ j : Nat, i ≤ j → j < l.length → u < (rd_T29 l (j : Int)).f0 := by
  have hno := found_no h hf
  obtain ⟨h1, h2, h3, h4⟩ := hf
  constructor
  · intro j hj
    have := h2 (by omega)
    by_cases e : j = i - 1
    · subst e; omega
    · have := right_rises h (i - 1) j (by omega) (by omega)
      omega
  · intro j hj hjl
    have a := h3 (by omega)
    have c := hno j hjl
    by_cases e : j = i
    · subst e; omega
    · have b := right_rises h j i (by omega) hjl
      omega
theorem with_put (l : List S29) (s : S29) (hl : l.length ≤ 900) (h : rightB l = true) (i : Nat) (hf : foundR l s.f0 i false) : demurralref15_With.f 2000 l s.f0 s.f1 s.f2.f0 s.f2.f1 s.f3 = some (l.take i ++ s :: l.drop i) := by
  obtain ⟨a, b⟩ := found_lt h hf
  rw [with_f l s hl, filter_take l _ i (fun j hj _ => decide_eq_true (a j hj)) (fun j hj hjl => decide_eq_false (by have := b j hj hjl; omega)),
    filter_drop l _ i (fun j hj _ => decide_eq_false (by have := a j hj; omega)) (fun j hj hjl => decide_eq_true (b j hj hjl))]
theorem first_f (l : List S26) : demurralref15_First.f l 1 = some (l.take 1) := by
  unfold demurralref15_First.f
  by_cases h : (l.length : Int) < 1
  · rw [if_pos h, List.take_of_length_le (by omega)]
  · rw [if_neg h, if_pos (by omega), if_pos (by omega)]
    rfl
theorem rest_f (l : List S26) : demurralref15_Rest.f l = some (l.drop 1) := by
  unfold demurralref15_Rest.f
  by_cases h : (l.length : Int) = 0
  · obtain rfl : l = [] := List.eq_nil_of_length_eq_zero (by omega)
    rfl
  · rw [if_neg h, if_pos (by omega)]
/-- The place that the reference tells is where the user is, in shelves that may be. -/
theorem at_here (l : List S29) (u : Int) (hl : l.length ≤ 1000) (h : rightB l = true) (i : Nat) (hi : i < l.length) (hu : (rd_T29 l (i : Int)).f0 = u) : demurralref15_At.f 2000 l u = some (i : Int) :=
  at_f_some l u hl i hi hu (fun j hj => by have := right_rises h i j hj hi; omega)
end Go.Proofs.Ytkomcddnfjbifaa.Q
namespace Go.Proofs.Ytkomcddnfjbifaa.Q
open Go.RowKit Go.Proofs.YtkomcddnfjbifaaW.PrintWords Go.Proofs.YtkomcddnfjbifaaW.PrintLast Go.Proofs.YtkomcddnfjbifaaW.PrintMore
set_option linter.unusedVariables false
set_option linter.unusedSimpArgs false

theorem apartB_iff (l : List S26) : apartB l = true ↔ (∀ p ∈ l, pointB p = true) ∧ (l.map (·.f0)).Nodup := by
  rw [apartB_parts, Bool.and_eq_true]
  constructor
  · rintro ⟨h1, h2⟩
    refine ⟨fun p hp => ?_, ?_⟩
    · obtain ⟨j, hj, rfl⟩ := List.getElem_of_mem hp
      have := List.all_eq_true.1 h1 j (List.mem_range.2 hj)
      rwa [rd26_nat l j hj] at this
    · rw [List.Nodup, List.pairwise_iff_getElem]
      intro a b ha hb hab he
      rw [List.length_map] at ha hb
      rw [List.getElem_map, List.getElem_map] at he
      have h3 : twiceB l = true := by
        unfold twiceB
        rw [List.any_eq_true]
        refine ⟨b, List.mem_range.2 hb, ?_⟩
        rw [List.contains_iff_mem, List.mem_map]
        refine ⟨l[a], ?_, by rw [he, rd26_nat l b hb]⟩
        rw [List.mem_take_iff_getElem]
        exact ⟨a, by omega, rfl⟩
      rw [h3] at h2
      cases h2
  · rintro ⟨h1, h2⟩
    refine ⟨List.all_eq_true.2 fun j hj => ?_, ?_⟩
    · exact h1 _ (rd26_mem l j (List.mem_range.1 hj))
    · cases h3 : twiceB l with
      | false => rfl
      | true =>
        unfold twiceB at h3
        rw [List.any_eq_true] at h3
        obtain ⟨b, hb, h4⟩ := h3
        rw [List.mem_range] at hb
        rw [List.contains_iff_mem, List.mem_map] at h4
        obtain ⟨p, hp, he⟩ := h4
        rw [List.mem_take_iff_getElem] at hp
        obtain ⟨a, ha, rfl⟩ := hp
        rw [rd26_nat l b hb] at he
        rw [List.Nodup, List.pairwise_iff_getElem] at h2
        exact absurd (by rw [List.getElem_map, List.getElem_map]; exact he) (h2 a b (by rw [List.length_map]; omega) (by rw [List.length_map]; exact hb) (by omega))
theorem apartB_drop {l : List S26} (h : apartB l = true) (t : Nat) : apartB (l.drop t) = true := by
  rw [apartB_iff] at h ⊢
  exact ⟨fun p hp => h.1 p (List.mem_of_mem_drop hp), List.Sublist.nodup ((List.drop_sublist t l).map _) h.2⟩
theorem shelfB_drop {x : S29} (h : shelfB x = true) (t : Nat) : shelfB { x with f3 := x.f3.drop t } = true := by
  unfold shelfB at h ⊢
  rw [Bool.and_eq_true, Bool.and_eq_true, Bool.and_eq_true] at h ⊢
  refine ⟨h.1, h.2.1, ?_, apartB_drop h.2.2.2 t⟩
  have := of_decide_eq_true h.2.2.1
  exact decide_eq_true (by show (x.f3.drop t).length ≤ 20; rw [List.length_drop]; omega)
theorem right_len {l : List S29} (h : rightB l = true) : l.length ≤ 8 := by
  unfold rightB at h
  rw [Bool.and_eq_true] at h
  exact of_decide_eq_true h.2
theorem right_okS {l : List S29} (h : rightB l = true) (j : Nat) (hj : j < l.length) : okS l j = true := by
  unfold rightB at h
  rw [Bool.and_eq_true] at h
  exact List.all_eq_true.1 h.1 j (List.mem_range.2 hj)
theorem right_shelf {l : List S29} (h : rightB l = true) (j : Nat) (hj : j < l.length) : shelfB (rd_T29 l (j : Int)) = true := by
  have := right_okS h j hj
  unfold okS at this
  rw [Bool.and_eq_true] at this
  exact this.1
/-- Shelves may be that may be one by one and rise. -/
theorem right_of {l : List S29} (h8 : l.length ≤ 8) (h1 : ∀ j : Nat, j < l.length → shelfB (rd_T29 l (j : Int)) = true) (h2 : ∀ j : Nat, j + 1 < l.length → (rd_T29 l (j : Int)).f0 < (rd_T29 l ((j + 1 : Nat) : Int)).f0) : rightB l = true := by
  rw [rightB_yes l, decide_eq_true h8]
  intro j hj
  unfold okS
  rw [h1 j hj, Bool.true_and]
  rcases j with _ | j
  · rw [decide_eq_true rfl, Bool.true_or]
  · have := h2 j hj
    rw [show (((j + 1 : Nat) : Int) - 1) = (j : Int) by omega, decide_eq_true this, Bool.or_true]
theorem rd_set (l : List S29) (i : Nat) (y : S29) (j : Nat) (hj : j < l.length) : rd_T29 (l.set i y) (j : Int) = if i = j then y else rd_T29 l (j : Int) := by
  rw [rd_nat _ j (by rw [List.length_set]; exact hj), List.getElem_set, rd_nat l j hj]
theorem right_set {l : List S29} (h : rightB l = true) (i : Nat) (y : S29) (hi : i < l.length) (hf : y.f0 = (rd_T29 l (i : Int)).f0) (hy : shelfB y = true) : rightB (l.set i y) = true := by
  have hf0 : ∀ j : Nat, j < l.length → (rd_T29 (l.set i y) (j : Int)).f0 = (rd_T29 l (j : Int)).f0 := by
    intro j hj
    rw [rd_set l i y j hj]
    split
    · subst_vars; exact hf
    · rfl
  refine right_of (by rw [List.length_set]; exact right_len h) (fun j hj => ?_) (fun j hj => ?_)
  · rw [List.length_set] at hj
    rw [rd_set l i y j hj]
    split
    · exact hy
    · exact right_shelf h j hj
  · rw [List.length_set] at hj
    rw [hf0 j (by omega), hf0 (j + 1) hj]
    exact right_rises h (j + 1) j (by omega) hj
theorem right_drop {l : List S29} (h : rightB l = true) (i : Nat) (x : S29) (hi : i < l.length) (hx : rd_T29 l (i : Int) = x) (t : Nat) : rightB (l.set i { x with f3 := x.f3.drop t }) = true :=
  right_set h i _ hi (by rw [hx]) (shelfB_drop (hx ▸ right_shelf h i hi) t)
end Go.Proofs.Ytkomcddnfjbifaa.Q
