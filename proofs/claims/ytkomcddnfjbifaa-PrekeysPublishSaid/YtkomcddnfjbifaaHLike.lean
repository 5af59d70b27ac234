/- slices.Equal at points, prekeys.Like with its function, slices.EqualFunc at shelves: whether shelves are the same.
   Conditions: the lists are read as such. -/
import Derived.Test.YtkomcddnfjbifaaHPure
import Derived.Test.YtkomcddnfjbifaaHBox
import Derived.BigQuiet
namespace Go.Proofs.Ytkomcddnfjbifaa.Q
open Go.RowKit Go.Proofs.YtkomcddnfjbifaaW.PrintWords Go.Proofs.YtkomcddnfjbifaaW.PrintLast Go.Proofs.YtkomcddnfjbifaaW.PrintMore
set_option linter.unusedVariables false
set_option linter.unusedSimpArgs false

theorem ptsB_no {a b : List S26} (i : Nat) (hi : i < a.length) (h : eqP (rd_T26 a (i : Int)) (rd_T26 b (i : Int)) = false) : ptsB a b = false := by
  unfold ptsB
  rw [Bool.and_eq_false_iff]
  right
  rw [List.all_eq_false]
  exact ⟨i, List.mem_range.2 hi, by simp [h]⟩
theorem ptsB_yes {a b : List S26} (hl : a.length = b.length) (h : ∀ i : Nat, i < a.length → eqP (rd_T26 a (i : Int)) (rd_T26 b (i : Int)) = true) : ptsB a b = true := by
  unfold ptsB
  rw [decide_eq_true hl, Bool.true_and, List.all_eq_true]
  exact fun i hi => h i (List.mem_range.1 hi)
theorem sameB_no {a b : List S29} (i : Nat) (hi : i < a.length) (h : oneB (rd_T29 a (i : Int)) (rd_T29 b (i : Int)) = false) : sameB a b = false := by
  unfold sameB
  rw [Bool.and_eq_false_iff]
  right
  rw [List.all_eq_false]
  exact ⟨i, List.mem_range.2 hi, by simp [h]⟩
theorem sameB_yes {a b : List S29} (hl : a.length = b.length) (h : ∀ i : Nat, i < a.length → oneB (rd_T29 a (i : Int)) (rd_T29 b (i : Int)) = true) : sameB a b = true := by
  unfold sameB
  rw [decide_eq_true hl, Bool.true_and, List.all_eq_true]
  exact fun i hi => h i (List.mem_range.1 hi)
set_option maxHeartbeats 2000000 in
set_option maxRecDepth 100000 in
theorem equal_calls (A0 : Option Addr) (c0 : Nat) (a : List S26) (A1 : Option Addr) (c1 : Nat) (b : List S26) (w : World) (hr0 : Kd.C k26 w A0 a.length a) (hc0 : a.length ≤ c0) (hr1 : Kd.C k26 w A1 b.length b) (hc1 : b.length ≤ c1) (hlim : a.length ≤ 1000000) :
    Calls Try.prog 39 #[.slice A0 a.length c0, .slice A1 b.length c1] w fun e w' => e = .returned (.bool (ptsB a b)) ∧ Below w.heap.size w w' := by
  by_cases hl : a.length = b.length
  · go_enter Try.func39, Try.ntmps39
    have hl' : (a.length : Int) = (b.length : Int) := by omega
    rw [← hl]
    rw [← hl] at hr1 hc1
    go_wp2
    go_loopw [13] (fun vi wr => ∃ i : Nat, i ≤ a.length ∧ vi = .int .i64 (i : Int) ∧ (∀ j : Nat, j < i → eqP (rd_T26 a (j : Int)) (rd_T26 b (j : Int)) = true) ∧ Below w.heap.size w wr) (fun vi _ => a.length - (intOf vi).toNat)
    case atStart => exact ⟨0, by omega, rfl, fun j h => absurd h (Nat.not_lt_zero j), Below.refl _ _⟩
    case round =>
      obtain ⟨i, hi, rfl, hok, hB⟩ := hrel
      by_cases hlt : (i : Int) < a.length
      · obtain ⟨ad, eA, q0, q1⟩ := at_T26 (Kd.C_below hr0 hB) (i : Int) (by omega) hlt
        obtain ⟨bd, eB, p0, p1⟩ := at_T26 (Kd.C_below hr1 hB) (i : Int) (by omega) (by omega)
        subst eA eB
        rw [Int.toNat_natCast] at q0 q1 p0 p1
        have hno := ptsB_no (a := a) (b := b) i (by omega)
        have hyes : eqP (rd_T26 a (i : Int)) (rd_T26 b (i : Int)) = true → ∀ j : Nat, j < i + 1 → eqP (rd_T26 a (j : Int)) (rd_T26 b (j : Int)) = true := fun h j hj => by
          by_cases e : j = i
          · subst e; exact h
          · exact hok j (by omega)
        unfold eqP at hno hyes
        replace hok := Aside0.mk hok
        generalize rd_T26 a (i : Int) = x at q0 q1 hno hyes
        generalize rd_T26 b (i : Int) = y at p0 p1 hno hyes
        replace hno := Aside0.mk hno
        replace hyes := Aside0.mk hyes
        cases h0 : (x.f0 == y.f0) with
        | false =>
          have hf : ptsB a b = false := hno.out (by rw [h0]; rfl)
          go_wp2
          go_quiet (fail)
          go_wp2
          go_ret
          exact ⟨by rw [hf]; rfl, pw_below_drewN hB _⟩
        | true =>
          cases h1 : (x.f1.toList == y.f1.toList) with
          | false =>
            have hf : ptsB a b = false := hno.out (by rw [h0, h1]; rfl)
            go_wp2
            go_quiet (fail)
            go_wp2
            go_ret
            exact ⟨by rw [hf]; rfl, pw_below_drewN hB _⟩
          | true =>
            have ht := Aside0.mk (hyes.out (by rw [h0, h1]; rfl))
            go_wp2
            go_quiet (fail)
            go_wp2
            go_roundw
            case rel => exact ⟨i + 1, by omega, by go_num, by have := ht.out; unfold eqP; exact this, pw_below_drewN hB _⟩
            case measure => simp [intOf]; omega
      · obtain rfl : i = a.length := by omega
        have hf : ptsB a b = true := ptsB_yes hl hok
        replace hf := Lib.hid hf
        go_wp2
        go_ret
        exact ⟨by rw [hf.out]; rfl, hB⟩
  · have hf : ptsB a b = false := by unfold ptsB; rw [decide_eq_false hl]; rfl
    have hl' : ¬ ((a.length : Int) = (b.length : Int)) := by omega
    have hl2 : ((a.length : Int) == (b.length : Int)) = false := beq_eq_false_iff_ne.2 hl'
    go_enter Try.func39, Try.ntmps39
    go_wp2
    go_ret
    exact ⟨by rw [hf]; rfl, Below.refl _ _⟩
set_option maxHeartbeats 2000000 in
set_option maxRecDepth 100000 in
theorem like1_calls (x : S29) (A : Option Addr) (c : Nat) (y : S29) (B : Option Addr) (d : Nat) (w : World) (hC : k26.C w A x.f3.length x.f3) (hc : x.f3.length ≤ c) (hD : k26.C w B y.f3.length y.f3) (hd : y.f3.length ≤ d) (hlim : x.f3.length ≤ 1000000) :
    Calls Try.prog 38 #[sv x A c, sv y B d] w fun e w' => e = .returned (.bool (oneB x y)) ∧ Below w.heap.size w w' := by
  obtain ⟨w1, hw1⟩ : ∃ w1, w.alloc (.cells #[.int .u64 x.f0, .string x.f1, .int .u64 x.f2.f0, .string x.f2.f1, .slice A x.f3.length c] 29 (0, 0)) = w1 := ⟨_, rfl⟩
  have hb1 : Below w.heap.size w w1 := by rw [← hw1]; exact below_alloc (Below.refl _ _) _
  have hs1 : w1.heap.size = w.heap.size + 1 := by rw [← hw1]; simp
  have hK1 : w1.heap[w.heap.size]? = some (.cells #[.int .u64 x.f0, .string x.f1, .int .u64 x.f2.f0, .string x.f2.f1, .slice A x.f3.length c] 29 (0, 0)) := by rw [← hw1]; exact heap_alloc_new _ _
  obtain ⟨w2, hw2⟩ : ∃ w2, w1.alloc (.cells #[.int .u64 y.f0, .string y.f1, .int .u64 y.f2.f0, .string y.f2.f1, .slice B y.f3.length d] 29 (0, 0)) = w2 := ⟨_, rfl⟩
  have hb2 : Below w1.heap.size w1 w2 := by rw [← hw2]; exact below_alloc (Below.refl _ _) _
  have hK2 : w2.heap[w.heap.size + 1]? = some (.cells #[.int .u64 y.f0, .string y.f1, .int .u64 y.f2.f0, .string y.f2.f1, .slice B y.f3.length d] 29 (0, 0)) := by rw [← hs1, ← hw2]; exact heap_alloc_new _ _
  have hB2 := below_step hb1 hb2
  obtain ⟨y0, y1, y2, y3, y4⟩ := box5 ((hb2.block _ (blk_lt hK1)).trans hK1)
  obtain ⟨z0, z1, z2, z3, z4⟩ := box5 hK2
  have heq := Aside0.mk (equal_calls A c x.f3 B d y.f3 w2 (Kd.C_below hC hB2) hc (Kd.C_below hD hB2) hd hlim)
  have hone : oneB x y = ((x.f0 == y.f0) && ((x.f1.toList == y.f1.toList) && (((x.f2.f0 == y.f2.f0) && (x.f2.f1.toList == y.f2.f1.toList)) && ptsB x.f3 y.f3))) := rfl
  clear hK1 hK2 hb1 hb2 hC hD
  cases h0 : (x.f0 == y.f0) with
  | false =>
    rw [h0] at hone
    replace hone := Lib.hid hone
    go_enter Try.func38, Try.ntmps38
    go_wp2
    go_ret
    exact ⟨by rw [hone.out]; rfl, hB2⟩
  | true =>
    cases h1 : (x.f1.toList == y.f1.toList) with
    | false =>
      rw [h0, h1] at hone
      replace hone := Lib.hid hone
      go_enter Try.func38, Try.ntmps38
      go_wp2
      go_ret
      exact ⟨by rw [hone.out]; rfl, hB2⟩
    | true =>
      by_cases h2 : x.f2.f0 = y.f2.f0
      · have g2 : (x.f2.f0 == y.f2.f0) = true := beq_iff_eq.2 h2
        by_cases h3 : x.f2.f1.toList = y.f2.f1.toList
        · have g3 : (x.f2.f1.toList == y.f2.f1.toList) = true := beq_iff_eq.2 h3
          rw [h0, h1, g2, g3] at hone
          replace h2 := eq_true h2
          replace h3 := eq_true h3
          replace hone := Lib.hid hone
          go_enter Try.func38, Try.ntmps38
          go_wp2_with fail
          refine heq.out.mono ?_; rintro e_ w3 ⟨rfl, hb3⟩
          go_wp2
          go_ret
          exact ⟨by rw [hone.out]; rfl, below_step hB2 hb3⟩
        · have g3 : (x.f2.f1.toList == y.f2.f1.toList) = false := beq_eq_false_iff_ne.2 h3
          rw [h0, h1, g2, g3] at hone
          replace h2 := eq_true h2
          replace hone := Lib.hid hone
          go_enter Try.func38, Try.ntmps38
          go_wp2
          go_ret
          exact ⟨by rw [hone.out]; rfl, hB2⟩
      · have g2 : (x.f2.f0 == y.f2.f0) = false := beq_eq_false_iff_ne.2 h2
        rw [h0, h1, g2] at hone
        replace hone := Lib.hid hone
        go_enter Try.func38, Try.ntmps38
        go_wp2
        go_ret
        exact ⟨by rw [hone.out]; rfl, hB2⟩
end Go.Proofs.Ytkomcddnfjbifaa.Q
