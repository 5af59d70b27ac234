-- PRINTED by print.py (a twelfth state) out of the translation. Not trusted: Lean checks it.
import Derived.Test.YtenmmeehgnkcpaaQx0
namespace Go.Proofs.Ytenmmeehgnkcpaa.Q
open Go.RowKit Go.Proofs.YtenmmeehgnkcpaaW.PrintWords Go.Proofs.YtenmmeehgnkcpaaW.PrintLast Go.Proofs.YtenmmeehgnkcpaaW.PrintMore
attribute [local go_sem] max2_int min2_int max_two min_two max_three min_three max_four min_four   -- for this text's walks alone
set_option linter.unusedVariables false
set_option linter.unusedSimpArgs false

/-! ### demurrallaw22_few: function 32 -/
def demurrallaw22_few.f (l0 : List (S28)) : Option ((List (S28))) := if (l0.length : Int) > 300 then (if 0 ≤ (mn (l0.length : Int) 402) then (if (mn (l0.length : Int) 402) ≤ (l0.length : Int) then (some (l0.take ((mn (l0.length : Int) 402) : Int).toNat)) else (none)) else (none)) else (if 0 ≤ (mn (l0.length : Int) 30) then (if (mn (l0.length : Int) 30) ≤ (l0.length : Int) then (some (l0.take ((mn (l0.length : Int) 30) : Int).toNat)) else (none)) else (none))
set_option maxHeartbeats 8000000 in
set_option maxRecDepth 100000 in
theorem demurrallaw22_few.calls (P0_ : Nat → Prop) (A0 : Option Addr) (c0 : Nat) (l0 : List (S28)) (r : List (S28)) (w : World) (hs0 : Kd.V k28 28 w w.heap.size (fun k_ => P0_ k_) (.slice A0 l0.length c0) l0) (h : demurrallaw22_few.f l0 = some r) :
    Calls Try.prog 32 #[.slice A0 l0.length c0] w fun e w' => ∃ v0_ : Value, e = .returned (v0_) ∧ Kd.V k28 28 w' w.heap.size (fun k_ => (P0_ k_ ∨ w.heap.size ≤ k_)) v0_ r ∧ Below w.heap.size w w' := by
  have HO0 := Aside0.mk (show Kd.V k28 28 w w.heap.size (fun k_ => (P0_ k_ ∨ w.heap.size ≤ k_)) (.slice A0 l0.length c0) l0 from Kd.V_mono hs0 (fun k_ hk => .inl hk))
  have HB := Aside0.mk (Below.refl w.heap.size w)
  have H : (if (l0.length : Int) > 300 then (if 0 ≤ (mn (l0.length : Int) 402) then (if (mn (l0.length : Int) 402) ≤ (l0.length : Int) then (some (l0.take ((mn (l0.length : Int) 402) : Int).toNat)) else (none)) else (none)) else (if 0 ≤ (mn (l0.length : Int) 30) then (if (mn (l0.length : Int) 30) ≤ (l0.length : Int) then (some (l0.take ((mn (l0.length : Int) 30) : Int).toNat)) else (none)) else (none))) = some r := h
  clear h
  by_cases c2 : (l0.length : Int) > 300
  · rw [if_pos c2] at H
    have c2b0 : decide (300 < (l0.length : Int)) = true := decide_eq_true c2
    have c2b1 : decide (300 < l0.length) = true := decide_eq_true (by omega)
    clear c2
    obtain ⟨ji3, hji3⟩ : ∃ j_ : Int, (mn (l0.length : Int) 402) = j_ := ⟨_, rfl⟩
    replace H : (if 0 ≤ (ji3) then (if (ji3) ≤ (l0.length : Int) then (some (l0.take ((ji3) : Int).toNat)) else (none)) else (none)) = some r := by first | (rw [hji3] at H; exact H) | (simp only [hji3] at H ⊢; exact H)
    (try (have hji3h : ji3 ≤ 402 := by (rw [← hji3]; unfold mn; (repeat' split) <;> omega)))
    (try (have hji3g : ji3 ≤ 64 := by omega))
    (try (have hji3l : 0 ≤ ji3 := by (rw [← hji3]; unfold mn; (repeat' split) <;> omega)))
    (try (have hji3m : 0 ≤ ji3 := by omega))
    have hji3_ : (if 402 < (l0.length : Int) then 402 else (l0.length : Int)) = ji3 := hji3
    by_cases c4 : 0 ≤ (ji3)
    · rw [if_pos c4] at H
      have c4b0 := eq_true c4
      have c4b1 : decide (0 ≤ (ji3)) = true := decide_eq_true c4
      clear c4
      by_cases c5 : (ji3) ≤ (l0.length : Int)
      · rw [if_pos c5] at H
        have c5b0 := eq_true c5
        have c5b1 : decide ((ji3) ≤ (l0.length : Int)) = true := decide_eq_true c5
        clear c5
        obtain ⟨y272, hy272⟩ : ∃ y_ : List (S28), y_ = (l0.take ((ji3) : Int).toNat) := ⟨_, rfl⟩
        replace H : (some y272) = some r := by first | (rw [hy272]; with_reducible exact H) | (have H2_ := (Option.bind_some _ _).symm.trans H; rw [hy272]; with_reducible exact H2_) | (have H2_ := (Option.bind_some _ _).symm.trans H; with_reducible exact H2_) | with_reducible exact H | (rw [hy272]; exact H) | exact H
        have Ny272 := Aside0.mk hy272
        clear hy272
        obtain rfl := Option.some.inj H
        have q6 : ((ji3) : Int) ≤ ((l0.length : Int) : Int) := of_decide_eq_true (by first | (with_reducible assumption) | assumption)
        obtain ⟨i06, hi06, _, hsz6, _⟩ := info_parts info28
        have hroom6 : l0.length ≤ c0 := (Kd.V_reads' HO0.out).2.1
        have hC6 : Kd.F k28 _ _ A0 l0.length l0 := (Kd.V_at (base := w.heap.size) HO0.out).2.2
        have hcut6 := cut_to (P := Try.prog) 23 28 .i64 Try.underlying23 hi06 A0 l0.length c0 (ji3) (of_decide_eq_true (by first | (with_reducible assumption) | assumption)) q6 hroom6
        have hr6 := Kd.F_take (m := ((ji3) : Int).toNat) hC6 (by omega)
        have hy6 : y272.length = ((ji3) : Int).toNat := (by rw [Ny272.out, List.length_take]; omega)
        rw [← Ny272.out] at hr6
        rw [← hy6] at hcut6
        have HO276 := Aside0.mk (show Kd.V k28 28 _ w.heap.size _ (.slice A0 y272.length c0) y272 from Kd.V_mk (by omega) hr6)
        have HC276 := Aside0.mk (show y272.length ≤ c0 from by omega)
        clear hr6 hC6 hroom6 hi06 hsz6
        have KY6 := Aside0.mk hy6
        clear hy6
        replace q6 := eq_true q6
        go_enter Try.func32, Try.ntmps32
        go_wp2
        go_ret
        exact ⟨_, by first | rfl | (simp [errW_none, errW_some] <;> rfl) | (simp only [← hji3]; first | rfl | (simp [errW_none, errW_some] <;> rfl)) | (simp [*, errW_none, errW_some] <;> rfl), by (with_reducible repeat (first | apply Kd.V_alloc | apply Kd.V_drewN | apply Kd.V_drew)); exact HO276.out, by repeat (first | (with_reducible first | exact HB.out | apply below_alloc | apply pw_below_drewN | apply below_drew1) | exact HB.out)⟩
      · rw [if_neg c5] at H
        exact absurd H (by simp)
    · rw [if_neg c4] at H
      exact absurd H (by simp)
  · rw [if_neg c2] at H
    have c2b0 : decide (300 < (l0.length : Int)) = false := decide_eq_false c2
    have c2b1 : decide (300 < l0.length) = false := decide_eq_false (by omega)
    clear c2
    obtain ⟨ji7, hji7⟩ : ∃ j_ : Int, (mn (l0.length : Int) 30) = j_ := ⟨_, rfl⟩
    replace H : (if 0 ≤ (ji7) then (if (ji7) ≤ (l0.length : Int) then (some (l0.take ((ji7) : Int).toNat)) else (none)) else (none)) = some r := by first | (rw [hji7] at H; exact H) | (simp only [hji7] at H ⊢; exact H)
    (try (have hji7h : ji7 ≤ 30 := by (rw [← hji7]; unfold mn; (repeat' split) <;> omega)))
    (try (have hji7g : ji7 ≤ 64 := by omega))
    (try (have hji7l : 0 ≤ ji7 := by (rw [← hji7]; unfold mn; (repeat' split) <;> omega)))
    (try (have hji7m : 0 ≤ ji7 := by omega))
    have hji7_ : (if 30 < (l0.length : Int) then 30 else (l0.length : Int)) = ji7 := hji7
    by_cases c8 : 0 ≤ (ji7)
    · rw [if_pos c8] at H
      have c8b0 := eq_true c8
      have c8b1 : decide (0 ≤ (ji7)) = true := decide_eq_true c8
      clear c8
      by_cases c9 : (ji7) ≤ (l0.length : Int)
      · rw [if_pos c9] at H
        have c9b0 := eq_true c9
        have c9b1 : decide ((ji7) ≤ (l0.length : Int)) = true := decide_eq_true c9
        clear c9
        obtain ⟨y277, hy277⟩ : ∃ y_ : List (S28), y_ = (l0.take ((ji7) : Int).toNat) := ⟨_, rfl⟩
        replace H : (some y277) = some r := by first | (rw [hy277]; with_reducible exact H) | (have H2_ := (Option.bind_some _ _).symm.trans H; rw [hy277]; with_reducible exact H2_) | (have H2_ := (Option.bind_some _ _).symm.trans H; with_reducible exact H2_) | with_reducible exact H | (rw [hy277]; exact H) | exact H
        have Ny277 := Aside0.mk hy277
        clear hy277
        obtain rfl := Option.some.inj H
        have q10 : ((ji7) : Int) ≤ ((l0.length : Int) : Int) := of_decide_eq_true (by first | (with_reducible assumption) | assumption)
        obtain ⟨i010, hi010, _, hsz10, _⟩ := info_parts info28
        have hroom10 : l0.length ≤ c0 := (Kd.V_reads' HO0.out).2.1
        have hC10 : Kd.F k28 _ _ A0 l0.length l0 := (Kd.V_at (base := w.heap.size) HO0.out).2.2
        have hcut10 := cut_to (P := Try.prog) 23 28 .i64 Try.underlying23 hi010 A0 l0.length c0 (ji7) (of_decide_eq_true (by first | (with_reducible assumption) | assumption)) q10 hroom10
        have hr10 := Kd.F_take (m := ((ji7) : Int).toNat) hC10 (by omega)
        have hy10 : y277.length = ((ji7) : Int).toNat := (by rw [Ny277.out, List.length_take]; omega)
        rw [← Ny277.out] at hr10
        rw [← hy10] at hcut10
        have HO281 := Aside0.mk (show Kd.V k28 28 _ w.heap.size _ (.slice A0 y277.length c0) y277 from Kd.V_mk (by omega) hr10)
        have HC281 := Aside0.mk (show y277.length ≤ c0 from by omega)
        clear hr10 hC10 hroom10 hi010 hsz10
        have KY10 := Aside0.mk hy10
        clear hy10
        replace q10 := eq_true q10
        go_enter Try.func32, Try.ntmps32
        go_wp2
        go_ret
        exact ⟨_, by first | rfl | (simp [errW_none, errW_some] <;> rfl) | (simp only [← hji7]; first | rfl | (simp [errW_none, errW_some] <;> rfl)) | (simp [*, errW_none, errW_some] <;> rfl), by (with_reducible repeat (first | apply Kd.V_alloc | apply Kd.V_drewN | apply Kd.V_drew)); exact HO281.out, by repeat (first | (with_reducible first | exact HB.out | apply below_alloc | apply pw_below_drewN | apply below_drew1) | exact HB.out)⟩
      · rw [if_neg c9] at H
        exact absurd H (by simp)
    · rw [if_neg c8] at H
      exact absurd H (by simp)

end Go.Proofs.Ytenmmeehgnkcpaa.Q
