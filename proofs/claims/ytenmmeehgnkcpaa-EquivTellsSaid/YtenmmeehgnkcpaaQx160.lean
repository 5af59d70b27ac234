-- PRINTED by print.py (a twelfth state) out of the translation. Not trusted: Lean checks it.
import Derived.Test.YtenmmeehgnkcpaaQx0
namespace Go.Proofs.Ytenmmeehgnkcpaa.Q
open Go.RowKit Go.Proofs.YtenmmeehgnkcpaaW.PrintWords Go.Proofs.YtenmmeehgnkcpaaW.PrintLast Go.Proofs.YtenmmeehgnkcpaaW.PrintMore
attribute [local go_sem] max2_int min2_int max_two min_two max_three min_three max_four min_four   -- for this text's walks alone
set_option linter.unusedVariables false
set_option linter.unusedSimpArgs false

/-! ### demurralref22_tells: function 60 -/
def demurralref22_tells.f (l0 : List Int) (l1 : List Int) (a2 : Int) (a3 : Int) : Option (Bool) := if a2 = a3 then (if 0 ≤ a3 then (if a3 < (l0.length : Int) then (if a3 < (l1.length : Int) then (some ((decide ((rd l0 a3) < 0)) != (decide ((rd l1 a3) < 0)))) else (none)) else (none)) else (none)) else (if 0 ≤ a2 then (if a2 < (l0.length : Int) then (if 0 ≤ a3 then (if a3 < (l0.length : Int) then (if a2 < (l1.length : Int) then (if a3 < (l1.length : Int) then (some (((rd l0 a2) == (rd l0 a3)) != ((rd l1 a2) == (rd l1 a3)))) else (none)) else (none)) else (none)) else (none)) else (none)) else (none))
set_option maxHeartbeats 8000000 in
set_option maxRecDepth 100000 in
theorem demurralref22_tells.calls (A0 : Option Addr) (c0 : Nat) (l0 : List Int) (A1 : Option Addr) (c1 : Nat) (l1 : List Int) (a2 : Int) (a3 : Int) (r : Bool) (w : World) (hr0 : Kd.C (Kd.int .i64) w A0 l0.length l0) (hc0 : l0.length ≤ c0) (hr1 : Kd.C (Kd.int .i64) w A1 l1.length l1) (hc1 : l1.length ≤ c1) (h : demurralref22_tells.f l0 l1 a2 a3 = some r) :
    Calls Try.prog 60 #[.slice A0 l0.length c0, .slice A1 l1.length c1, .int .i64 a2, .int .i64 a3] w fun e w' => e = .returned (.bool r) ∧ Drawn0 w w' := by
  have HR0 := Aside0.mk hr0
  have HC0 := Aside0.mk hc0
  clear hr0 hc0
  have HR1 := Aside0.mk hr1
  have HC1 := Aside0.mk hc1
  clear hr1 hc1
  have H : (if a2 = a3 then (if 0 ≤ a3 then (if a3 < (l0.length : Int) then (if a3 < (l1.length : Int) then (some ((decide ((rd l0 a3) < 0)) != (decide ((rd l1 a3) < 0)))) else (none)) else (none)) else (none)) else (if 0 ≤ a2 then (if a2 < (l0.length : Int) then (if 0 ≤ a3 then (if a3 < (l0.length : Int) then (if a2 < (l1.length : Int) then (if a3 < (l1.length : Int) then (some (((rd l0 a2) == (rd l0 a3)) != ((rd l1 a2) == (rd l1 a3)))) else (none)) else (none)) else (none)) else (none)) else (none)) else (none))) = some r := h
  clear h
  by_cases c5 : a2 = a3
  · rw [if_pos c5] at H
    have c5b0 : (a2 == a3) = true := beq_iff_eq.mpr c5
    have c5b1 : (a2 != a3) = false := bne_eq_false_iff_eq.mpr c5
    clear c5
    by_cases c6 : 0 ≤ a3
    · rw [if_pos c6] at H
      have c6b0 : decide (0 ≤ a3) = true := decide_eq_true c6
      clear c6
      by_cases c7 : a3 < (l0.length : Int)
      · rw [if_pos c7] at H
        have c7b0 : decide (a3 < (l0.length : Int)) = true := decide_eq_true c7
        clear c7
        by_cases c8 : a3 < (l1.length : Int)
        · rw [if_pos c8] at H
          have c8b0 : decide (a3 < (l1.length : Int)) = true := decide_eq_true c8
          clear c8
          obtain rfl := Option.some.inj H
          have p468 : 0 ≤ (a3 : Int) := of_decide_eq_true (by first | (with_reducible assumption) | assumption)
          have q468 : a3 < (l0.length : Int) := of_decide_eq_true (by first | (with_reducible assumption) | assumption)
          obtain ⟨ad468, e468, hx468_0⟩ := Kd.at_int HR0.out a3 p468 q468
          cases e468
          replace p468 := eq_true p468
          replace q468 := eq_true q468
          have p469 : 0 ≤ (a3 : Int) := of_decide_eq_true (by first | (with_reducible assumption) | assumption)
          have q469 : a3 < (l1.length : Int) := of_decide_eq_true (by first | (with_reducible assumption) | assumption)
          obtain ⟨ad469, e469, hx469_0⟩ := Kd.at_int HR1.out a3 p469 q469
          cases e469
          replace p469 := eq_true p469
          replace q469 := eq_true q469
          go_enter Try.func60, Try.ntmps60
          go_wp2
          repeat (go_quiet (fail); try go_wp2)
          go_ret
          exact ⟨by first | rfl | (simp; done) | (simp [*]; done), by repeat (first | exact Drawn0.refl _ | apply Drawn0.step)⟩
        · rw [if_neg c8] at H
          exact absurd H (by simp)
      · rw [if_neg c7] at H
        exact absurd H (by simp)
    · rw [if_neg c6] at H
      exact absurd H (by simp)
  · rw [if_neg c5] at H
    have c5b0 : (a2 == a3) = false := beq_eq_false_iff_ne.mpr c5
    have c5b1 : (a2 != a3) = true := bne_iff_ne.mpr c5
    by_cases c9 : 0 ≤ a2
    · rw [if_pos c9] at H
      have c9b0 : decide (0 ≤ a2) = true := decide_eq_true c9
      clear c9
      by_cases c10 : a2 < (l0.length : Int)
      · rw [if_pos c10] at H
        have c10b0 : decide (a2 < (l0.length : Int)) = true := decide_eq_true c10
        clear c10
        by_cases c11 : 0 ≤ a3
        · rw [if_pos c11] at H
          have c11b0 : decide (0 ≤ a3) = true := decide_eq_true c11
          clear c11
          by_cases c12 : a3 < (l0.length : Int)
          · rw [if_pos c12] at H
            have c12b0 : decide (a3 < (l0.length : Int)) = true := decide_eq_true c12
            clear c12
            by_cases c13 : a2 < (l1.length : Int)
            · rw [if_pos c13] at H
              have c13b0 : decide (a2 < (l1.length : Int)) = true := decide_eq_true c13
              clear c13
              by_cases c14 : a3 < (l1.length : Int)
              · rw [if_pos c14] at H
                have c14b0 : decide (a3 < (l1.length : Int)) = true := decide_eq_true c14
                clear c14
                obtain rfl := Option.some.inj H
                have p470 : 0 ≤ (a2 : Int) := of_decide_eq_true (by first | (with_reducible assumption) | assumption)
                have q470 : a2 < (l0.length : Int) := of_decide_eq_true (by first | (with_reducible assumption) | assumption)
                obtain ⟨ad470, e470, hx470_0⟩ := Kd.at_int HR0.out a2 p470 q470
                cases e470
                replace p470 := eq_true p470
                replace q470 := eq_true q470
                have p471 : 0 ≤ (a3 : Int) := of_decide_eq_true (by first | (with_reducible assumption) | assumption)
                have q471 : a3 < (l0.length : Int) := of_decide_eq_true (by first | (with_reducible assumption) | assumption)
                obtain ⟨ad471, e471, hx471_0⟩ := Kd.at_int HR0.out a3 p471 q471
                obtain rfl : ad470 = ad471 := (by injection e471)
                replace p471 := eq_true p471
                replace q471 := eq_true q471
                have p472 : 0 ≤ (a2 : Int) := of_decide_eq_true (by first | (with_reducible assumption) | assumption)
                have q472 : a2 < (l1.length : Int) := of_decide_eq_true (by first | (with_reducible assumption) | assumption)
                obtain ⟨ad472, e472, hx472_0⟩ := Kd.at_int HR1.out a2 p472 q472
                cases e472
                replace p472 := eq_true p472
                replace q472 := eq_true q472
                have p473 : 0 ≤ (a3 : Int) := of_decide_eq_true (by first | (with_reducible assumption) | assumption)
                have q473 : a3 < (l1.length : Int) := of_decide_eq_true (by first | (with_reducible assumption) | assumption)
                obtain ⟨ad473, e473, hx473_0⟩ := Kd.at_int HR1.out a3 p473 q473
                obtain rfl : ad472 = ad473 := (by injection e473)
                replace p473 := eq_true p473
                replace q473 := eq_true q473
                go_enter Try.func60, Try.ntmps60
                go_wp2
                repeat (go_quiet (fail); try go_wp2)
                go_ret
                exact ⟨by first | rfl | (simp; done) | (simp [*]; done), by repeat (first | exact Drawn0.refl _ | apply Drawn0.step)⟩
              · rw [if_neg c14] at H
                exact absurd H (by simp)
            · rw [if_neg c13] at H
              exact absurd H (by simp)
          · rw [if_neg c12] at H
            exact absurd H (by simp)
        · rw [if_neg c11] at H
          exact absurd H (by simp)
      · rw [if_neg c10] at H
        exact absurd H (by simp)
    · rw [if_neg c9] at H
      exact absurd H (by simp)

end Go.Proofs.Ytenmmeehgnkcpaa.Q
