/- term's made, and a term as a key of a map.
   Conditions: the numbers are of 64 bits. -/
import Derived.Test.YtenmmeehgnkcpaaQx162
import Derived.Test.YtenmmeehgnkcpaaQx163
import Derived.Test.YtenmmeehgnkcpaaQx125
import Derived.Handy
import Derived.Lib.Hide
import Derived.Maps.OwnOps
import Derived.Maps.Views
import Derived.DeepKeys4
import Derived.RangeFuncBox
import Derived.WalkSpells
import Derived.BigQuiet
import Derived.WideKeyEntry
namespace Go.Proofs.Ytenmmeehgnkcpaa.Q
open Go.RowKit Go.Proofs.YtenmmeehgnkcpaaW.PrintWords Go.Proofs.YtenmmeehgnkcpaaW.PrintLast Go.Proofs.YtenmmeehgnkcpaaW.PrintMore
set_option linter.unusedVariables false
set_option linter.unusedSimpArgs false

/-! ### HMade -/
abbrev tv (t : S28) : Value := .agg #[.int .i64 t.f0, .int .u64 t.f1, .int .i64 t.f2, .int .i64 t.f3]
theorem below_grown {w w' : World} (h : Below w.heap.size w w') : w.grownBy w' none := ⟨h.os, h.tape, h.output, h.size, fun k hk _ => h.block k hk⟩
theorem wrap_in' (n : Int) (h0 : 0 ≤ n) (h1 : n ≤ 9223372036854775807) : wrap64 n = n := by unfold wrap64; omega
theorem box1 {W : World} {g : Nat} {a : Value} {t : Nat} (h : W.heap[g]? = some (.cells #[a] t (0, 0))) : W.cell? ⟨g, 0, none⟩ = some a := (blk_cell h 0).trans rfl
theorem box2 {W : World} {g : Nat} {a b : Value} {t : Nat} (h : W.heap[g]? = some (.cells #[a, b] t (0, 0))) : W.cell? ⟨g, 0, none⟩ = some a ∧ W.cell? ⟨g, 1, none⟩ = some b := ⟨(blk_cell h 0).trans rfl, (blk_cell h 1).trans rfl⟩
theorem box3 {W : World} {g : Nat} {a b c : Value} {t : Nat} (h : W.heap[g]? = some (.cells #[a, b, c] t (0, 0))) : W.cell? ⟨g, 0, none⟩ = some a ∧ W.cell? ⟨g, 1, none⟩ = some b ∧ W.cell? ⟨g, 2, none⟩ = some c :=
  ⟨(blk_cell h 0).trans rfl, (blk_cell h 1).trans rfl, (blk_cell h 2).trans rfl⟩
theorem box4 {W : World} {g : Nat} {a b c d : Value} {t : Nat} (h : W.heap[g]? = some (.cells #[a, b, c, d] t (0, 0))) : W.cell? ⟨g, 0, none⟩ = some a ∧ W.cell? ⟨g, 1, none⟩ = some b ∧ W.cell? ⟨g, 2, none⟩ = some c ∧ W.cell? ⟨g, 3, none⟩ = some d :=
  ⟨(blk_cell h 0).trans rfl, (blk_cell h 1).trans rfl, (blk_cell h 2).trans rfl, (blk_cell h 3).trans rfl⟩
def inB (n i : Int) : Bool := decide (0 ≤ i) && decide (i < n)
theorem in_calls (gn : Nat) (n i : Int) (w : World) (hg : w.heap[gn]? = some (.cells #[.int .i64 n] 3 (0, 0))) :
    Calls Try.prog 61 #[.int .i64 i, .pointer (some ⟨gn, 0, none⟩)] w fun e w' => e = .returned (.bool (inB n i)) ∧ w' = w := by
  have z := box1 hg
  unfold inB
  by_cases h0 : 0 ≤ i
  · have e0 : decide (0 ≤ i) = true := decide_eq_true h0
    by_cases h1 : i < n
    · have e1 : decide (i < n) = true := decide_eq_true h1
      rw [e0, e1]
      go_enter Try.func61, Try.ntmps61
      go_wp2
      go_ret
      exact ⟨rfl, rfl⟩
    · have e1 : decide (i < n) = false := decide_eq_false h1
      rw [e0, e1]
      go_enter Try.func61, Try.ntmps61
      go_wp2
      go_ret
      exact ⟨rfl, rfl⟩
  · have e0 : decide (0 ≤ i) = false := decide_eq_false h0
    rw [e0]
    go_enter Try.func61, Try.ntmps61
    go_wp2
    go_ret
    exact ⟨rfl, rfl⟩
def unaryB (k : Int) : Bool := (k == 1) || (k == 3)
def binaryB (k : Int) : Bool := (k == 2) || (decide (4 ≤ k) && decide (k ≤ 6))
theorem unary_f (k : Int) : term_unary.f k = some (unaryB k) := by
  unfold term_unary.f unaryB
  by_cases h : k = 1
  · rw [if_pos h, beq_iff_eq.2 h]; rfl
  · rw [if_neg h, beq_eq_false_iff_ne.2 h]; rfl
theorem binary_f (k : Int) : term_binary.f k = some (binaryB k) := by
  unfold term_binary.f binaryB
  by_cases h : k = 2
  · rw [if_pos h, beq_iff_eq.2 h]; rfl
  · rw [if_neg h, beq_eq_false_iff_ne.2 h]
    by_cases h2 : 4 ≤ k
    · rw [if_pos h2, decide_eq_true h2]; rfl
    · rw [if_neg h2, decide_eq_false h2]; rfl
/-- Whether a term may be at place n. -/
def madeB (n : Int) (t : S28) : Bool :=
  if (t.f1 != 0) && ((t.f0 != 0) && (t.f0 != 3)) then false
  else if t.f0 == 0 then (t.f2 == 0) && (t.f3 == 0)
  else if unaryB t.f0 then inB n t.f2 && (t.f3 == 0)
  else binaryB t.f0 && (inB n t.f2 && (inB n t.f3 && ((t.f0 != 2) || decide (t.f2 ≤ t.f3))))
set_option maxHeartbeats 2000000 in
set_option maxRecDepth 100000 in
theorem made_calls (n : Int) (t : S28) (w : World) : Calls Try.prog 45 #[.int .i64 n, tv t] w fun e w' => e = .returned (.bool (madeB n t)) ∧ Below w.heap.size w w' := by
  obtain ⟨w1, hw1⟩ : ∃ w1, w.alloc (.cells #[.int .i64 n] 3 (0, 0)) = w1 := ⟨_, rfl⟩
  have hb1 : Below w.heap.size w w1 := by rw [← hw1]; exact below_alloc (Below.refl _ _) _
  have hs1 : w1.heap.size = w.heap.size + 1 := by rw [← hw1]; simp
  have hK1 : w1.heap[w.heap.size]? = some (.cells #[.int .i64 n] 3 (0, 0)) := by rw [← hw1]; exact heap_alloc_new _ _
  obtain ⟨w2, hw2⟩ : ∃ w2, w1.alloc (.cells #[.int .i64 t.f0, .int .u64 t.f1, .int .i64 t.f2, .int .i64 t.f3] 28 (0, 0)) = w2 := ⟨_, rfl⟩
  have hb2 : Below w1.heap.size w1 w2 := by rw [← hw2]; exact below_alloc (Below.refl _ _) _
  have hK2 : w2.heap[w.heap.size + 1]? = some (.cells #[.int .i64 t.f0, .int .u64 t.f1, .int .i64 t.f2, .int .i64 t.f3] 28 (0, 0)) := by rw [← hs1, ← hw2]; exact heap_alloc_new _ _
  have hK12 := (hb2.block _ (blk_lt hK1)).trans hK1
  have hB2 := Aside0.mk (below_step hb1 hb2)
  have hin : Hid (∀ W i, Below w2.heap.size w2 W → Calls Try.prog 61 #[.int .i64 i, .pointer (some ⟨w.heap.size, 0, none⟩)] W fun e w' => e = .returned (.bool (inB n i)) ∧ w' = W) := Lib.hid fun W i hW => in_calls _ n i W ((hW.block _ (blk_lt hK12)).trans hK12)
  have hq : Hid (∀ W, Below w2.heap.size w2 W → W.cell? ⟨w.heap.size + 1, 0, none⟩ = some (.int .i64 t.f0) ∧ W.cell? ⟨w.heap.size + 1, 1, none⟩ = some (.int .u64 t.f1) ∧ W.cell? ⟨w.heap.size + 1, 2, none⟩ = some (.int .i64 t.f2) ∧ W.cell? ⟨w.heap.size + 1, 3, none⟩ = some (.int .i64 t.f3)) := Lib.hid fun W hW => box4 ((hW.block _ (blk_lt hK2)).trans hK2)
  obtain ⟨z0, z1, z2, z3⟩ := hq.out _ (Below.refl _ _)
  clear hb1 hb2 hK1 hK2 hK12
  cases x1 : (t.f1 != 0) with
  | true =>
    cases x2 : (t.f0 != 0) with
    | true =>
      cases x3 : (t.f0 != 3) with
      | true =>
        have hr : madeB n t = false := by unfold madeB; simp only [x1, x2, x3, Bool.true_and, Bool.false_and, Bool.and_true, Bool.and_false, Bool.or_true, Bool.true_or, Bool.false_or, Bool.or_false, if_true, if_false, Bool.false_eq_true, if_pos, if_neg, not_false_eq_true, reduceIte]
        replace hr := Lib.hid hr
        go_enter Try.func45, Try.ntmps45
        go_wp2
        go_ret
        exact ⟨by rw [hr.out]; rfl, hB2.out⟩
      | false =>
        have x4 : (t.f0 == 0) = false := by simpa using x2
        have x5 : unaryB t.f0 = true := by have : t.f0 = 3 := by simpa using x3
                                           unfold unaryB; rw [this]; rfl
        cases y2 : inB n t.f2 with
        | false =>
          have hr : madeB n t = false := by unfold madeB; simp only [x1, x2, x3, x4, x5, y2, Bool.true_and, Bool.false_and, Bool.and_true, Bool.and_false, Bool.or_true, Bool.true_or, Bool.false_or, Bool.or_false, if_true, if_false, Bool.false_eq_true, if_pos, if_neg, not_false_eq_true, reduceIte]
          replace hr := Lib.hid hr
          go_enter Try.func45, Try.ntmps45
          go_wp2_with fail
          refine (term_unary.calls _ _ _ (unary_f _)).mono ?_; rintro e_ w3 ⟨rfl, hb3⟩
          have HB3 := Aside0.mk hb3.below
          clear hb3 z0 z1 z2 z3
          obtain ⟨z0, z1, z2, z3⟩ := hq.out _ HB3.out
          rw [x5]
          go_wp2_with fail
          refine (hin.out _ _ HB3.out).mono ?_; rintro e_ _ ⟨rfl, rfl⟩
          rw [y2]
          go_wp2
          go_ret
          exact ⟨by rw [hr.out]; rfl, below_step hB2.out HB3.out⟩
        | true =>
          have hr : madeB n t = (t.f3 == 0) := by unfold madeB; simp only [x1, x2, x3, x4, x5, y2, Bool.true_and, Bool.false_and, Bool.and_true, Bool.and_false, Bool.or_true, Bool.true_or, Bool.false_or, Bool.or_false, if_true, if_false, Bool.false_eq_true, if_pos, if_neg, not_false_eq_true, reduceIte]
          replace hr := Lib.hid hr
          go_enter Try.func45, Try.ntmps45
          go_wp2_with fail
          refine (term_unary.calls _ _ _ (unary_f _)).mono ?_; rintro e_ w3 ⟨rfl, hb3⟩
          have HB3 := Aside0.mk hb3.below
          clear hb3 z0 z1 z2 z3
          obtain ⟨z0, z1, z2, z3⟩ := hq.out _ HB3.out
          rw [x5]
          go_wp2_with fail
          refine (hin.out _ _ HB3.out).mono ?_; rintro e_ _ ⟨rfl, rfl⟩
          rw [y2]
          go_wp2
          go_ret
          exact ⟨by rw [hr.out]; rfl, below_step hB2.out HB3.out⟩
    | false =>
      have x4 : (t.f0 == 0) = true := by simpa using x2
      cases a2 : (t.f2 == 0) with
      | false =>
        have hr : madeB n t = false := by unfold madeB; simp only [x1, x2, x4, a2, Bool.true_and, Bool.false_and, Bool.and_true, Bool.and_false, Bool.or_true, Bool.true_or, Bool.false_or, Bool.or_false, if_true, if_false, Bool.false_eq_true, if_pos, if_neg, not_false_eq_true, reduceIte]
        replace hr := Lib.hid hr
        go_enter Try.func45, Try.ntmps45
        go_wp2
        go_ret
        exact ⟨by rw [hr.out]; rfl, hB2.out⟩
      | true =>
        have hr : madeB n t = (t.f3 == 0) := by unfold madeB; simp only [x1, x2, x4, a2, Bool.true_and, Bool.false_and, Bool.and_true, Bool.and_false, Bool.or_true, Bool.true_or, Bool.false_or, Bool.or_false, if_true, if_false, Bool.false_eq_true, if_pos, if_neg, not_false_eq_true, reduceIte]
        replace hr := Lib.hid hr
        go_enter Try.func45, Try.ntmps45
        go_wp2
        go_ret
        exact ⟨by rw [hr.out]; rfl, hB2.out⟩
  | false =>
    cases x4 : (t.f0 == 0) with
    | true =>
      cases a2 : (t.f2 == 0) with
      | false =>
        have hr : madeB n t = false := by unfold madeB; simp only [x1, x4, a2, Bool.true_and, Bool.false_and, Bool.and_true, Bool.and_false, Bool.or_true, Bool.true_or, Bool.false_or, Bool.or_false, if_true, if_false, Bool.false_eq_true, if_pos, if_neg, not_false_eq_true, reduceIte]
        replace hr := Lib.hid hr
        go_enter Try.func45, Try.ntmps45
        go_wp2
        go_ret
        exact ⟨by rw [hr.out]; rfl, hB2.out⟩
      | true =>
        have hr : madeB n t = (t.f3 == 0) := by unfold madeB; simp only [x1, x4, a2, Bool.true_and, Bool.false_and, Bool.and_true, Bool.and_false, Bool.or_true, Bool.true_or, Bool.false_or, Bool.or_false, if_true, if_false, Bool.false_eq_true, if_pos, if_neg, not_false_eq_true, reduceIte]
        replace hr := Lib.hid hr
        go_enter Try.func45, Try.ntmps45
        go_wp2
        go_ret
        exact ⟨by rw [hr.out]; rfl, hB2.out⟩
    | false =>
      cases x5 : unaryB t.f0 with
      | true =>
        cases y2 : inB n t.f2 with
        | false =>
          have hr : madeB n t = false := by unfold madeB; simp only [x1, x4, x5, y2, Bool.true_and, Bool.false_and, Bool.and_true, Bool.and_false, Bool.or_true, Bool.true_or, Bool.false_or, Bool.or_false, if_true, if_false, Bool.false_eq_true, if_pos, if_neg, not_false_eq_true, reduceIte]
          replace hr := Lib.hid hr
          go_enter Try.func45, Try.ntmps45
          go_wp2_with fail
          refine (term_unary.calls _ _ _ (unary_f _)).mono ?_; rintro e_ w3 ⟨rfl, hb3⟩
          have HB3 := Aside0.mk hb3.below
          clear hb3 z0 z1 z2 z3
          obtain ⟨z0, z1, z2, z3⟩ := hq.out _ HB3.out
          rw [x5]
          go_wp2_with fail
          refine (hin.out _ _ HB3.out).mono ?_; rintro e_ _ ⟨rfl, rfl⟩
          rw [y2]
          go_wp2
          go_ret
          exact ⟨by rw [hr.out]; rfl, below_step hB2.out HB3.out⟩
        | true =>
          have hr : madeB n t = (t.f3 == 0) := by unfold madeB; simp only [x1, x4, x5, y2, Bool.true_and, Bool.false_and, Bool.and_true, Bool.and_false, Bool.or_true, Bool.true_or, Bool.false_or, Bool.or_false, if_true, if_false, Bool.false_eq_true, if_pos, if_neg, not_false_eq_true, reduceIte]
          replace hr := Lib.hid hr
          go_enter Try.func45, Try.ntmps45
          go_wp2_with fail
          refine (term_unary.calls _ _ _ (unary_f _)).mono ?_; rintro e_ w3 ⟨rfl, hb3⟩
          have HB3 := Aside0.mk hb3.below
          clear hb3 z0 z1 z2 z3
          obtain ⟨z0, z1, z2, z3⟩ := hq.out _ HB3.out
          rw [x5]
          go_wp2_with fail
          refine (hin.out _ _ HB3.out).mono ?_; rintro e_ _ ⟨rfl, rfl⟩
          rw [y2]
          go_wp2
          go_ret
          exact ⟨by rw [hr.out]; rfl, below_step hB2.out HB3.out⟩
      | false =>
        cases x6 : binaryB t.f0 with
        | false =>
          have hr : madeB n t = false := by unfold madeB; simp only [x1, x4, x5, x6, Bool.true_and, Bool.false_and, Bool.and_true, Bool.and_false, Bool.or_true, Bool.true_or, Bool.false_or, Bool.or_false, if_true, if_false, Bool.false_eq_true, if_pos, if_neg, not_false_eq_true, reduceIte]
          replace hr := Lib.hid hr
          go_enter Try.func45, Try.ntmps45
          go_wp2_with fail
          refine (term_unary.calls _ _ _ (unary_f _)).mono ?_; rintro e_ w3 ⟨rfl, hb3⟩
          have HB3 := Aside0.mk hb3.below
          clear hb3 z0 z1 z2 z3
          obtain ⟨z0, z1, z2, z3⟩ := hq.out _ HB3.out
          rw [x5]
          go_wp2_with fail
          refine (term_binary.calls _ _ _ (binary_f _)).mono ?_; rintro e_ w4 ⟨rfl, hb4⟩
          have HB4 := Aside0.mk (below_step HB3.out hb4.below)
          clear hb4 z0 z1 z2 z3
          obtain ⟨z0, z1, z2, z3⟩ := hq.out _ HB4.out
          rw [x6]
          go_wp2
          go_ret
          exact ⟨by rw [hr.out]; rfl, below_step hB2.out HB4.out⟩
        | true =>
          cases y2 : inB n t.f2 with
          | false =>
            have hr : madeB n t = false := by unfold madeB; simp only [x1, x4, x5, x6, y2, Bool.true_and, Bool.false_and, Bool.and_true, Bool.and_false, Bool.or_true, Bool.true_or, Bool.false_or, Bool.or_false, if_true, if_false, Bool.false_eq_true, if_pos, if_neg, not_false_eq_true, reduceIte]
            replace hr := Lib.hid hr
            go_enter Try.func45, Try.ntmps45
            go_wp2_with fail
            refine (term_unary.calls _ _ _ (unary_f _)).mono ?_; rintro e_ w3 ⟨rfl, hb3⟩
            have HB3 := Aside0.mk hb3.below
            clear hb3 z0 z1 z2 z3
            obtain ⟨z0, z1, z2, z3⟩ := hq.out _ HB3.out
            rw [x5]
            go_wp2_with fail
            refine (term_binary.calls _ _ _ (binary_f _)).mono ?_; rintro e_ w4 ⟨rfl, hb4⟩
            have HB4 := Aside0.mk (below_step HB3.out hb4.below)
            clear hb4 z0 z1 z2 z3
            obtain ⟨z0, z1, z2, z3⟩ := hq.out _ HB4.out
            rw [x6]
            go_wp2_with fail
            refine (hin.out _ _ HB4.out).mono ?_; rintro e_ _ ⟨rfl, rfl⟩
            rw [y2]
            go_wp2
            go_ret
            exact ⟨by rw [hr.out]; rfl, below_step hB2.out HB4.out⟩
          | true =>
            cases y3 : inB n t.f3 with
            | false =>
              have hr : madeB n t = false := by unfold madeB; simp only [x1, x4, x5, x6, y2, y3, Bool.true_and, Bool.false_and, Bool.and_true, Bool.and_false, Bool.or_true, Bool.true_or, Bool.false_or, Bool.or_false, if_true, if_false, Bool.false_eq_true, if_pos, if_neg, not_false_eq_true, reduceIte]
              replace hr := Lib.hid hr
              go_enter Try.func45, Try.ntmps45
              go_wp2_with fail
              refine (term_unary.calls _ _ _ (unary_f _)).mono ?_; rintro e_ w3 ⟨rfl, hb3⟩
              have HB3 := Aside0.mk hb3.below
              clear hb3 z0 z1 z2 z3
              obtain ⟨z0, z1, z2, z3⟩ := hq.out _ HB3.out
              rw [x5]
              go_wp2_with fail
              refine (term_binary.calls _ _ _ (binary_f _)).mono ?_; rintro e_ w4 ⟨rfl, hb4⟩
              have HB4 := Aside0.mk (below_step HB3.out hb4.below)
              clear hb4 z0 z1 z2 z3
              obtain ⟨z0, z1, z2, z3⟩ := hq.out _ HB4.out
              rw [x6]
              go_wp2_with fail
              refine (hin.out _ _ HB4.out).mono ?_; rintro e_ _ ⟨rfl, rfl⟩
              rw [y2]
              go_wp2_with fail
              refine (hin.out _ _ HB4.out).mono ?_; rintro e_ _ ⟨rfl, rfl⟩
              rw [y3]
              go_wp2
              go_ret
              exact ⟨by rw [hr.out]; rfl, below_step hB2.out HB4.out⟩
            | true =>
              cases x7 : (t.f0 != 2) with
              | false =>
                have hr : madeB n t = decide (t.f2 ≤ t.f3) := by unfold madeB; simp only [x1, x4, x5, x6, y2, y3, x7, Bool.true_and, Bool.false_and, Bool.and_true, Bool.and_false, Bool.or_true, Bool.true_or, Bool.false_or, Bool.or_false, if_true, if_false, Bool.false_eq_true, if_pos, if_neg, not_false_eq_true, reduceIte]
                replace hr := Lib.hid hr
                go_enter Try.func45, Try.ntmps45
                go_wp2_with fail
                refine (term_unary.calls _ _ _ (unary_f _)).mono ?_; rintro e_ w3 ⟨rfl, hb3⟩
                have HB3 := Aside0.mk hb3.below
                clear hb3 z0 z1 z2 z3
                obtain ⟨z0, z1, z2, z3⟩ := hq.out _ HB3.out
                rw [x5]
                go_wp2_with fail
                refine (term_binary.calls _ _ _ (binary_f _)).mono ?_; rintro e_ w4 ⟨rfl, hb4⟩
                have HB4 := Aside0.mk (below_step HB3.out hb4.below)
                clear hb4 z0 z1 z2 z3
                obtain ⟨z0, z1, z2, z3⟩ := hq.out _ HB4.out
                rw [x6]
                go_wp2_with fail
                refine (hin.out _ _ HB4.out).mono ?_; rintro e_ _ ⟨rfl, rfl⟩
                rw [y2]
                go_wp2_with fail
                refine (hin.out _ _ HB4.out).mono ?_; rintro e_ _ ⟨rfl, rfl⟩
                rw [y3]
                go_wp2
                go_ret
                exact ⟨by rw [hr.out]; rfl, below_step hB2.out HB4.out⟩
              | true =>
                have hr : madeB n t = true := by unfold madeB; simp only [x1, x4, x5, x6, y2, y3, x7, Bool.true_and, Bool.false_and, Bool.and_true, Bool.and_false, Bool.or_true, Bool.true_or, Bool.false_or, Bool.or_false, if_true, if_false, Bool.false_eq_true, if_pos, if_neg, not_false_eq_true, reduceIte]
                replace hr := Lib.hid hr
                go_enter Try.func45, Try.ntmps45
                go_wp2_with fail
                refine (term_unary.calls _ _ _ (unary_f _)).mono ?_; rintro e_ w3 ⟨rfl, hb3⟩
                have HB3 := Aside0.mk hb3.below
                clear hb3 z0 z1 z2 z3
                obtain ⟨z0, z1, z2, z3⟩ := hq.out _ HB3.out
                rw [x5]
                go_wp2_with fail
                refine (term_binary.calls _ _ _ (binary_f _)).mono ?_; rintro e_ w4 ⟨rfl, hb4⟩
                have HB4 := Aside0.mk (below_step HB3.out hb4.below)
                clear hb4 z0 z1 z2 z3
                obtain ⟨z0, z1, z2, z3⟩ := hq.out _ HB4.out
                rw [x6]
                go_wp2_with fail
                refine (hin.out _ _ HB4.out).mono ?_; rintro e_ _ ⟨rfl, rfl⟩
                rw [y2]
                go_wp2_with fail
                refine (hin.out _ _ HB4.out).mono ?_; rintro e_ _ ⟨rfl, rfl⟩
                rw [y3]
                go_wp2
                go_ret
                exact ⟨by rw [hr.out]; rfl, below_step hB2.out HB4.out⟩

/-! ### HTerm -/
abbrev txt (s : ByteArray) : List UInt8 := s.data.toList
/-- The numbers of a term are of 64 bits. -/
def wfT (t : S28) : Prop := (Lit.int .i64 t.f0).wf = true ∧ (Lit.int .u64 t.f1).wf = true ∧ (Lit.int .i64 t.f2).wf = true ∧ (Lit.int .i64 t.f3).wf = true
theorem laid_out : laidOutB Try.prog = true := by kernel_rfl
theorem keyed28 : Maps.Keyed Try.prog 28 := Maps.Keyed.of_law (deep_law_laid laid_out (m := 2) (by omega) (of_decide_eq_true (by kernel_rfl)) (by kernel_rfl) (by kernel_rfl))
def keyL (t : S28) : Lit := .string (keyBytes [.int .i64 t.f0, .int .u64 t.f1, .int .i64 t.f2, .int .i64 t.f3])
theorem key28 {t : S28} (h : wfT t) : keyOf Try.prog 28 (tv t) = some (keyL t) := by
  obtain ⟨h0, h1, h2, h3⟩ := h
  have hpos : 0 < Try.prog.types.size := of_decide_eq_true (by kernel_rfl)
  obtain ⟨m, hm⟩ : ∃ m, Try.prog.types.size = m + 1 := ⟨Try.prog.types.size - 1, by omega⟩
  have hk : Try.prog.keyType 28 = true := by kernel_rfl
  have hc28 : Try.prog.cellsOf 28 = 4 := by kernel_rfl
  have hc3 : Try.prog.cellsOf 3 = 1 := by kernel_rfl
  have hc22 : Try.prog.cellsOf 22 = 1 := by kernel_rfl
  have hu := Try.underlying28
  have hu3 := Try.underlying3
  have hu22 := Try.underlying22
  have hform : (tv t).formed Try.prog 28 = true := by simp [Value.formed, hu, hc28]
  unfold keyOf
  simp only [hu]
  rw [if_pos (by rw [hk, hform]; rfl)]
  unfold Program.keyLits
  rw [hm]
  simp [hu, hc28, hc3, hc22, Value.cells, Program.keyLits, hu3, hu22, h0, h1, h2, h3, keyL]
theorem tv_inj {a b : S28} (h : tv a = tv b) : a = b := by
  obtain ⟨a0, a1, a2, a3⟩ := a
  obtain ⟨b0, b1, b2, b3⟩ := b
  simp only [tv, Value.agg.injEq, Array.mk.injEq, List.cons.injEq, Value.int.injEq, and_true, true_and] at h
  obtain ⟨rfl, rfl, rfl, rfl⟩ := h
  rfl
theorem key_of {t : S28} (h : wfT t) : keyOf Try.prog 28 (tv t) = some (keyL t) ∧ ∃ s, keyL t = .string s := ⟨key28 h, _, rfl⟩
theorem keyL_inj {a b : S28} (ha : wfT a) (hb : wfT b) (h : keyL a = keyL b) : a = b := tv_inj (keyed28.inj (key_of ha).1 (h ▸ (key_of hb).1))
def eqT (x y : S28) : Bool := (x.f0 == y.f0) && ((x.f1 == y.f1) && ((x.f2 == y.f2) && (x.f3 == y.f3)))
theorem eqT_iff {x y : S28} : eqT x y = true ↔ x = y := by
  obtain ⟨a0, a1, a2, a3⟩ := x
  obtain ⟨b0, b1, b2, b3⟩ := y
  simp [eqT]
def hasT (ts : List S28) (t : S28) : Bool := ts.any fun x => eqT x t
theorem hasT_iff {ts : List S28} {t : S28} : hasT ts t = true ↔ t ∈ ts := by
  unfold hasT
  rw [List.any_eq_true]
  constructor
  · rintro ⟨x, hx, h⟩
    rw [eqT_iff] at h
    exact h ▸ hx
  · intro h
    exact ⟨t, h, eqT_iff.2 rfl⟩
def SeenT (D : DataW Unit) (ts : List S28) : Prop := Maps.IsMap D ∧ ∀ t, wfT t → D.atKey (keyL t) (.lit (.int .i64 0)) = .lit (.int .i64 (if hasT ts t = true then 1 else 0))
theorem seenT_none : SeenT (.map []) [] := ⟨Maps.isMap_empty, fun t _ => rfl⟩
theorem lit_inj {a b : Int} (h : (DataW.lit (.int .i64 a) : DataW Unit) = .lit (.int .i64 b)) : a = b := by
  injection h with h
  injection h
theorem isKey {t : S28} (h : wfT t) : WideAt.IsKeyLit (keyL t) := by
  obtain ⟨s, hs⟩ := (key_of h).2
  rw [hs]
  trivial
theorem seenT_put {D : DataW Unit} {ts : List S28} (h : SeenT D ts) {t : S28} (ht : wfT t) (hn : hasT ts t = false) : SeenT (D.put (keyL t) (.lit (.int .i64 1))) (ts ++ [t]) := by
  obtain ⟨hm, ha⟩ := h
  refine ⟨hm.put _ _, fun t' ht' => ?_⟩
  have hap : hasT (ts ++ [t]) t' = (hasT ts t' || eqT t t') := by unfold hasT; rw [List.any_append]; simp
  by_cases e : t' = t
  · subst e
    rw [Maps.atKey_put_same hm (isKey ht), if_pos (by rw [hap, eqT_iff.2 rfl, Bool.or_true])]
  · rw [Maps.atKey_put_other (fun h' => e (keyL_inj ht' ht h')), ha t' ht', hap]
    have : eqT t t' = false := by
      cases h : eqT t t' with
      | false => rfl
      | true => exact absurd (eqT_iff.1 h).symm e
    rw [this, Bool.or_false]
theorem keyLaw28 : WideMaps.KeyLaw Try.prog 28 := deep_law_laid laid_out (m := 2) (by omega) (of_decide_eq_true (by kernel_rfl)) (by kernel_rfl) (by kernel_rfl)
/-- m[k] += .. at an operation of two: what stands there; then what is stored, as an update. -/
theorem own_entry {w : World} {b n : Nat} {D : DataW Unit} (h : w.ownsMap Try.prog 28 (plainElem Try.prog 3) b n D) {t : S28} (ht : wfT t) (hn : n < maxLen) :
    ∃ (v0 : Value) (st : Nat) (w1 : World), (Instr.mapEntry 99 (.map (some b)) (tv t)).run Try.prog w = .ok (.tuple #[v0, goInt st]) w1 ∧ w.grownBy w1 (some b) ∧
      (∃ D', w1.ownsMap Try.prog 28 (plainElem Try.prog 3) b (n + 1) D' ∧ D'.atKey (keyL t) (.lit (.int .i64 0)) = D.atKey (keyL t) (.lit (.int .i64 0))) ∧
      ∀ c : Int, (Lit.int .i64 c).wf = true → ∃ w2, (Instr.entryStore 99 (.map (some b)) (goInt st) (.int .i64 c)).run Try.prog w1 = .ok () w2 ∧ w2.ownsMap Try.prog 28 (plainElem Try.prog 3) b (n + 1) (D.put (keyL t) (.lit (.int .i64 c))) ∧ w1.grownBy w2 (some b) := by
  have hkey := (key_of ht).1
  have hup := fun (c : Int) (hc : (Lit.int .i64 c).wf = true) => h.update keyed28 Try.underlying99 hn hkey (plainElem_int (H := Unit) Try.underlying3 hc)
  have h0 := h
  obtain ⟨es, clock, hb, F, hs, hD⟩ := h
  obtain ⟨v0, st, es1, clock1, h1, h2, h3⟩ := WideElems.entry_then_store keyLaw28 Try.underlying99 (fun u => Try.zeroValue3 u) hb F hkey
  refine ⟨v0, st, _, h1, ⟨rfl, rfl, rfl, by simp [ChangeMaps.setBlock], fun i _ hi => ChangeMaps.heap_setBlock_other hb _ (fun e => hi (by rw [e]))⟩, ?_, fun c hc => ?_⟩
  · rcases keyLaw28.find w hkey es.toList F.keys with ⟨g1, g2⟩ | ⟨j, e0, g1, g2, g3⟩
    · have r1 : (Instr.mapEntry 99 (.map (some b)) (tv t)).run Try.prog w = .ok (.tuple #[.int .i64 0, goInt clock]) (ChangeMaps.setBlock w b (.map (es.push ⟨tv t, .int .i64 0, clock⟩) (clock + 1))) := by
        simp [Instr.mapEntry, run_underlying Try.underlying99, MapKept.run_getObj_map hb, keyLaw28.check w false hkey, g1, Try.zeroValue3 w, MapKept.run_setObj_map _ hb, Result.andThen, ChangeMaps.setBlock]
      have r2 : (Instr.mapUpdate 99 (.map (some b)) (tv t) (.int .i64 0)).run Try.prog w = .ok () (ChangeMaps.setBlock w b (.map (es.push ⟨tv t, .int .i64 0, clock⟩) (clock + 1))) := by
        simp [Instr.mapUpdate, run_underlying Try.underlying99, MapKept.run_getObj_map hb, keyLaw28.check w false hkey, g1, MapKept.run_setObj_map _ hb, Result.andThen, ChangeMaps.setBlock]
      obtain ⟨w', r3, r4, _⟩ := hup 0 (by decide)
      rw [h1] at r1
      rw [r2] at r3
      injection r1 with _ r1
      injection r3 with _ r3
      rw [r1, r3]
      refine ⟨_, r4, ?_⟩
      rw [Maps.atKey_put_same (by rw [hD]; exact ⟨_, rfl⟩) (isKey ht)]
      have hlk := Maps.fit_look (w := w) false keyed28 Try.underlying99 (Try.zeroValue3 w) hb F hkey
      rcases hlk with ⟨_, _, hat⟩ | ⟨e1, _, m1, m2, _⟩
      · rw [hD, hat]
      · exact absurd m2 (g2 e1 m1)
    · have hj : es[j]? = some e0 := by simpa using g2
      have hsame : es.modify j (fun e => { e with key := tv t }) = es := by
        apply Array.ext'
        rw [Array.toList_modify, ChangeMaps.modify_eq_set _ _ _ _ g2]
        have : ({ e0 with key := tv t } : MapEntry) = e0 := by rw [← g3]
        rw [this]
        exact WideElems.set_self _ _ _ g2
      have r1 : (Instr.mapEntry 99 (.map (some b)) (tv t)).run Try.prog w = .ok (.tuple #[e0.val, goInt e0.born]) (ChangeMaps.setBlock w b (.map es clock)) := by
        simp [Instr.mapEntry, run_underlying Try.underlying99, MapKept.run_getObj_map hb, keyLaw28.check w false hkey, g1, hj, g3, keyLaw28.stays w hkey, hsame, MapKept.run_setObj_map _ hb, Result.andThen, ChangeMaps.setBlock]
      rw [h1] at r1
      injection r1 with _ r1
      rw [r1]
      exact ⟨D, World.ownsMap.mono ⟨es, clock, ChangeMaps.heap_setBlock_same hb _, F, hs, hD⟩ (Nat.le_succ n), rfl⟩
  · obtain ⟨es', clock', h4, h5⟩ := h3 _ (.int .i64 c) (ChangeMaps.heap_setBlock_same hb _)
    obtain ⟨w', r3, ⟨es2, clock2, hb2, r4, r5, r6⟩, _⟩ := hup c hc
    rw [h5] at r3
    injection r3 with _ r3
    rw [← r3, ChangeMaps.heap_setBlock_same hb] at hb2
    have hb1 := ChangeMaps.heap_setBlock_same hb (.map es1 clock1)
    refine ⟨_, h4, ⟨es2, clock2, (ChangeMaps.heap_setBlock_same hb1 _).trans hb2, r4, r5, r6⟩, ⟨rfl, rfl, rfl, by simp [ChangeMaps.setBlock], fun i _ hi => ChangeMaps.heap_setBlock_other hb1 _ (fun e => hi (by rw [e]))⟩⟩
end Go.Proofs.Ytenmmeehgnkcpaa.Q
