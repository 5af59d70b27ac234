/- DeduceSecret: layer 21's kept, hidden; a name that nothing holds is not told, nor what is shared of two.
   Conditions: the list may be, the places lie in it. -/
import Derived.Test.YtenmmeehgnkcpaaHVal
import Derived.Test.YtenmmeehgnkcpaaQx106
import Derived.Test.YtenmmeehgnkcpaaQx124
namespace Go.Proofs.Ytenmmeehgnkcpaa.Q
open Go.RowKit Go.Proofs.YtenmmeehgnkcpaaW.PrintWords Go.Proofs.YtenmmeehgnkcpaaW.PrintLast Go.Proofs.YtenmmeehgnkcpaaW.PrintMore
set_option linter.unusedVariables false
set_option linter.unusedSimpArgs false

def holdB (i : Int) (t : S28) : Bool := (t.f0 == 4 && (t.f3 == i || t.f2 == i)) || (t.f0 == 5 && t.f3 == i)
def keptB (l : List S28) (ks : List Int) (i : Int) : Bool := l.any (holdB i) || hasN ks i
theorem kept_l0 (l : List S28) (ks : List Int) (i : Int) (hl : l.length ≤ 1000000) (hkl : ks.length ≤ 1000000) : ∀ (m k j : Nat), j + m = l.length → ks.length + m + 1 < k →
    demurrallaw21_kept.l0 k ks i l (l.length : Int) (j : Int) = some ((l.drop j).any (holdB i) || hasN ks i) := by
  intro m
  induction m with
  | zero =>
    intro k j hj hk
    obtain ⟨k, rfl⟩ : ∃ k', k = k' + 1 := ⟨k - 1, by omega⟩
    rw [demurrallaw21_kept.l0, if_neg (by omega), List.drop_eq_nil_of_le (by omega), contains_f ks i hkl k (by omega)]
    rfl
  | succ m ih =>
    intro k j hj hk
    obtain ⟨k, rfl⟩ : ∃ k', k = k' + 1 := ⟨k - 1, by omega⟩
    rw [demurrallaw21_kept.l0, if_pos (by omega), if_pos (by omega), if_pos (by omega), drop_rd28 l j (by omega), List.any_cons, nx j (by omega), ih k (j + 1) (by omega) (by omega)]
    generalize rd_T28 l (j : Int) = t
    unfold holdB
    by_cases h4 : t.f0 = 4
    · rw [if_pos h4, beq_iff_eq.2 h4, Bool.true_and]
      by_cases h3 : t.f3 = i
      · rw [if_pos h3, beq_iff_eq.2 h3]; rfl
      · rw [if_neg h3, beq_eq_false_iff_ne.2 h3]
        by_cases h2 : t.f2 = i
        · rw [if_pos h2, beq_iff_eq.2 h2]; rfl
        · rw [if_neg h2, beq_eq_false_iff_ne.2 h2, h4]; rfl
    · rw [if_neg h4, beq_eq_false_iff_ne.2 h4]
      by_cases h5 : t.f0 = 5
      · rw [if_pos h5, beq_iff_eq.2 h5]
        by_cases h3 : t.f3 = i
        · rw [if_pos h3, beq_iff_eq.2 h3]; rfl
        · rw [if_neg h3, beq_eq_false_iff_ne.2 h3]; rfl
      · rw [if_neg h5, beq_eq_false_iff_ne.2 h5]; rfl
theorem kept_f (l : List S28) (ks : List Int) (i : Int) (hl : l.length ≤ 1000000) (hkl : ks.length ≤ 1000000) (k : Nat) (hk : ks.length + l.length + 1 < k) : demurrallaw21_kept.f k l ks i = some (keptB l ks i) := by
  unfold demurrallaw21_kept.f
  rw [show (0 : Int) = ((0 : Nat) : Int) from rfl, kept_l0 l ks i hl hkl l.length k 0 (by omega) hk]
  rfl
def hiddenB (l : List S28) (ks : List Int) (i : Int) : Bool := ((rd_T28 l i).f0 == 0) && !keptB l ks i
theorem hidden_f (l : List S28) (ks : List Int) (i : Int) (h0 : 0 ≤ i) (h1 : i < l.length) (hl : l.length ≤ 1000000) (hkl : ks.length ≤ 1000000) (k : Nat) (hk : ks.length + l.length + 1 < k) : demurrallaw21_hidden.f k l ks i = some (hiddenB l ks i) := by
  unfold demurrallaw21_hidden.f hiddenB
  rw [if_pos h0, if_pos h1, kept_f l ks i hl hkl k hk]
  by_cases h : (rd_T28 l i).f0 = 0
  · rw [if_pos h, beq_iff_eq.2 h]; rfl
  · rw [if_neg h, beq_eq_false_iff_ne.2 h]; rfl
/-- Nothing holds a place: no question of the last two is so. -/
theorem not_held {l : List S28} {ks : List Int} {i : Int} (h : keptB l ks i = false) (is : List Bool) : anyF l is (so5 i) = false ∧ anyF l is (so6 is i) = false := by
  have hh : ∀ j : Nat, j < l.length → holdB i (rd_T28 l (j : Int)) = false := fun j hj => by
    unfold keptB at h
    have h1 := (Bool.or_eq_false_iff.1 h).1
    rw [List.any_eq_false] at h1
    have := h1 _ (rd28_mem l j hj)
    simpa using this
  constructor
  · refine anyF_no fun j hj => ?_
    have := hh j hj
    unfold holdB at this
    have h1 := (Bool.or_eq_false_iff.1 this).1
    unfold so5
    rw [Bool.or_comm ((rd_T28 l (j : Int)).f2 == i), h1, Bool.and_false]
  · refine anyF_no fun j hj => ?_
    have := hh j hj
    unfold holdB at this
    have h1 := (Bool.or_eq_false_iff.1 this).2
    unfold so6
    rw [h1, Bool.false_and, Bool.and_false]
theorem told_name {l : List S28} {ks : List Int} {i : Int} (h : hiddenB l ks i = true) (is : List Bool) (hi : isAt is i = false) : toldB l is i = false := by
  unfold hiddenB at h
  obtain ⟨h1, h2⟩ := Bool.and_eq_true_iff.1 h
  rw [beq_iff_eq] at h1
  obtain ⟨n5, n6⟩ := not_held (by simpa using h2) is
  unfold toldB q2B q3B q4B unaryB
  rw [hi, h1, n5, n6]
  rfl
theorem told_share {l : List S28} {ks : List Int} {i j a : Int} (hi : 0 ≤ i) (hj : 0 ≤ j) (ht : rd_T28 l a = ⟨2, 0, mn i j, mx i j⟩) (hk : keptB l ks a = false) (is : List Bool) (h0 : isAt is i = false) (h1 : isAt is j = false) (h2 : isAt is a = false) : toldB l is a = false := by
  obtain ⟨n5, n6⟩ := not_held hk is
  have hA : isAt is (mn i j) = false := by unfold mn; split <;> assumption
  have hB : isAt is (mx i j) = false := by unfold mx; split <;> assumption
  unfold toldB q2B q3B q4B unaryB
  rw [h2, ht, n5, n6]
  simp only [hA, hB]
  rfl
theorem hidden_not {l : List S28} {ks : List Int} {i : Int} (h0 : 0 ≤ i) (h1 : i < l.length) (h : hiddenB l ks i = true) : ∀ t, isAt (itB l (ofL l.length ks) t) i = false
  | 0 => by
    show isAt (ofL l.length ks) i = false
    rw [isAt_of _ _ _ h0 h1]
    have h2 := (Bool.and_eq_true_iff.1 (show ((rd_T28 l i).f0 == 0 && !keptB l ks i) = true from h)).2
    have h3 : keptB l ks i = false := by simpa using h2
    exact (Bool.or_eq_false_iff.1 h3).2
  | t + 1 => by
    show isAt (nextB l _) i = false
    rw [isAt_next l _ i h0 h1]
    exact told_name h _ (hidden_not h0 h1 h t)
theorem share_not {l : List S28} {ks : List Int} {i j a : Int} (i0 : 0 ≤ i) (i1 : i < l.length) (j0 : 0 ≤ j) (j1 : j < l.length) (a0 : 0 ≤ a) (a1 : a < l.length) (hi : hiddenB l ks i = true) (hj : hiddenB l ks j = true) (ht : rd_T28 l a = ⟨2, 0, mn i j, mx i j⟩) (hk : keptB l ks a = false) : ∀ t, isAt (itB l (ofL l.length ks) t) a = false
  | 0 => by
    show isAt (ofL l.length ks) a = false
    rw [isAt_of _ _ _ a0 a1]
    exact (Bool.or_eq_false_iff.1 hk).2
  | t + 1 => by
    show isAt (nextB l _) a = false
    rw [isAt_next l _ a a0 a1]
    exact told_share i0 j0 ht hk _ (hidden_not i0 i1 hi t) (hidden_not j0 j1 hj t) (share_not i0 i1 j0 j1 a0 a1 hi hj ht hk t)
theorem can_no {l : List S28} {ks : List Int} {i : Int} (h0 : 0 ≤ i) (h : ∀ t, isAt (itB l (ofL l.length ks) t) i = false) : hasN (allR l ks).1 i = false := by
  unfold allR
  split
  · rw [hasN_places _ _ h0]
    exact h _
  · rfl
end Go.Proofs.Ytenmmeehgnkcpaa.Q
namespace Go.Proofs.Ytenmmeehgnkcpaa.Pure
open Go.RowKit Go.Proofs.Ytenmmeehgnkcpaa.Q Go.Proofs.YtenmmeehgnkcpaaW.PrintWords Go.Proofs.YtenmmeehgnkcpaaW.PrintLast

theorem DeduceSecret : ∀ (l0 : List (S28)) (l1 : List (Int)) (a2 a3 : Int), good23 l0 → good33 l1 → (Lit.int .i64 a2).wf = true → (Lit.int .i64 a3).wf = true → ∃ k, demurrallaw21_DeduceSecret.f k l0 l1 a2 a3 = some true := by
  intro l0 l1 i0 j0 g0 _ _ _
  refine ⟨1000, ?_⟩
  unfold demurrallaw21_DeduceSecret.f
  rw [few_f, Option.bind_some]
  have hok := ok_few (l1 := l1) g0
  obtain ⟨l, hl⟩ : ∃ l, l0.take 30 = l := ⟨_, rfl⟩
  obtain ⟨ks, hks⟩ : ∃ ks, l1.take 12 = ks := ⟨_, rfl⟩
  have hn : l.length ≤ 30 := by rw [← hl, List.length_take]; omega
  have hm : ks.length ≤ 12 := by rw [← hks, List.length_take]; omega
  rw [hl, hks] at hok
  simp only [hl, hks]
  unfold deduce_Can.f
  simp only [hok, if_true, Option.bind_some, alive_f 1000 (by decide)]
  by_cases hz : (l.length : Int) = 0
  · rw [if_pos hz]
    obtain rfl : l = [] := List.eq_nil_of_length_eq_zero (by omega)
    have hc : canR [] ks i0 = (false, 5) := by
      unfold canR
      rw [why_out (by decide) (by rw [all_snoc, Bool.and_eq_false_iff]; right; unfold inL; simp), if_neg (by decide)]
    rw [hc]
    rfl
  · rw [if_neg hz]
    obtain ⟨p0, p1⟩ := mod_in i0 l.length (by omega) (by omega)
    obtain ⟨q0, q1⟩ := mod_in j0 l.length (by omega) (by omega)
    generalize Int.tmod (wrap64 (Int.tmod i0 (l.length : Int) + (l.length : Int))) (l.length : Int) = i at p0 p1 ⊢
    generalize Int.tmod (wrap64 (Int.tmod j0 (l.length : Int) + (l.length : Int))) (l.length : Int) = j at q0 q1 ⊢
    by_cases hw : whyD l (ks ++ [i]) = 0
    · have hc : canR l ks i = (hasN (allR l ks).1 i, 0) := if_pos hw
      have hr := why_right hw
      rw [hc]
      simp only
      rw [if_pos trivial, hidden_f l ks i p0 p1 (by omega) (by omega) 1000 (by omega), Option.bind_some]
      cases hh : hiddenB l ks i with
      | false => rfl
      | true =>
        rw [if_pos rfl, can_no p0 (hidden_not p0 p1 hh), if_neg (by decide), show api_Term_25.f 1000 l 2 0 (mn i j) (mx i j) = _ from index_f l (by omega) ⟨2, 0, mn i j, mx i j⟩ 1000 (by omega), Option.bind_some]
        have hj0 : ∀ a, demurrallaw21_DeduceSecret.j0 1000 l ks a true = some true := fun a => by
          rw [show (1000 : Nat) = 999 + 1 from rfl, demurrallaw21_DeduceSecret.j0, if_pos rfl, alive_f 999 (by decide)]
          rfl
        by_cases ha : idxT l ⟨2, 0, mn i j, mx i j⟩ < 0
        · rw [if_pos ha]
          exact hj0 (idxT l ⟨2, 0, mn i j, mx i j⟩)
        · rw [if_neg ha, hidden_f l ks j q0 q1 (by omega) (by omega) 1000 (by omega), Option.bind_some]
          cases hh2 : hiddenB l ks j with
          | false => rw [if_neg (by decide)]; exact hj0 (idxT l ⟨2, 0, mn i j, mx i j⟩)
          | true =>
            rw [if_pos rfl, kept_f l ks _ (by omega) (by omega) 1000 (by omega), Option.bind_some]
            cases hkp : keptB l ks (idxT l ⟨2, 0, mn i j, mx i j⟩) with
            | true => exact hj0 (idxT l ⟨2, 0, mn i j, mx i j⟩)
            | false =>
              have hix : idxN l ⟨2, 0, mn i j, mx i j⟩ < l.length ∧ idxT l ⟨2, 0, mn i j, mx i j⟩ = (idxN l ⟨2, 0, mn i j, mx i j⟩ : Int) := by
                unfold idxT at ha ⊢
                split at ha
                · rename_i hlt
                  exact ⟨hlt, if_pos hlt⟩
                · omega
              obtain ⟨x1, x2⟩ := hix
              have ht : rd_T28 l (idxT l ⟨2, 0, mn i j, mx i j⟩) = ⟨2, 0, mn i j, mx i j⟩ := by
                rw [x2, rd28_nat l _ x1]
                exact (eqT_iff.1 (List.findIdx_getElem (p := fun x => eqT ⟨2, 0, mn i j, mx i j⟩ x) (w := x1))).symm
              generalize hae : idxT l ⟨2, 0, mn i j, mx i j⟩ = a at ha hkp ht x2 ⊢
              have hall : ks.all (inL l.length) = true := by
                cases hp : ks.all (inL l.length) with
                | true => rfl
                | false => rw [why_out hr (by rw [all_snoc, hp]; rfl)] at hw; cases hw
              have hw2 : whyD l (ks ++ [a]) = 0 := why_in hr (by rw [all_snoc, hall]; unfold inL; rw [decide_eq_true (by omega), decide_eq_true (by omega)]; rfl)
              have hc2 : canR l ks a = (hasN (allR l ks).1 a, 0) := if_pos hw2
              rw [show (1000 : Nat) = 999 + 1 from rfl, demurrallaw21_DeduceSecret.j0]
              unfold deduce_Can.f
              rw [if_neg (by decide), if_pos hok, Option.bind_some, alive_f 999 (by decide), Option.bind_some, if_pos rfl, hc2]
              simp only
              rw [if_pos trivial, can_no (by omega) (share_not p0 p1 q0 q1 (by omega) (by omega) hh hh2 ht hkp)]
              rfl
    · have hc : canR l ks i = (false, whyD l (ks ++ [i])) := if_neg hw
      rw [hc]
      simp only
      rw [if_neg hw]
      rfl
end Go.Proofs.Ytenmmeehgnkcpaa.Pure
