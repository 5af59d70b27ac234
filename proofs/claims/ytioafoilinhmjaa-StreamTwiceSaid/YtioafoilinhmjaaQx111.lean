-- PRINTED by print.py (a twelfth state) out of the translation. Not trusted: Lean checks it.
import Derived.Test.YtioafoilinhmjaaQx0
namespace Go.Proofs.Ytioafoilinhmjaa.Q
open Go.RowKit Go.Proofs.YtioafoilinhmjaaW.PrintWords Go.Proofs.YtioafoilinhmjaaW.PrintLast Go.Proofs.YtioafoilinhmjaaW.PrintMore
attribute [local go_sem] max2_int min2_int max_two min_two max_three min_three max_four min_four   -- for this text's walks alone
set_option linter.unusedVariables false
set_option linter.unusedSimpArgs false

/-! ### demurralref05_May: function 11 -/
def demurralref05_May.f (a0 : ByteArray) (a1 : ByteArray) : Option (Bool) := if (a0.size : Int) = 32 then (some ((a1.size : Int) == 12)) else (some false)
set_option maxHeartbeats 8000000 in
set_option maxRecDepth 100000 in
theorem demurralref05_May.calls (a0 : ByteArray) (a1 : ByteArray) (r : Bool) (w : World) (h : demurralref05_May.f a0 a1 = some r) :
    Calls Try.prog 11 #[.string a0, .string a1] w fun e w' => e = .returned (.bool r) ∧ Drawn0 w w' := by
  have H : (if (a0.size : Int) = 32 then (some ((a1.size : Int) == 12)) else (some false)) = some r := h
  clear h
  by_cases c3 : (a0.size : Int) = 32
  · rw [if_pos c3] at H
    have c3b0 : ((a0.size : Int) == 32) = true := beq_iff_eq.mpr c3
    have c3b1 : ((a0.size : Int) != 32) = false := bne_eq_false_iff_eq.mpr c3
    clear c3
    obtain rfl := Option.some.inj H
    go_enter Try.func11, Try.ntmps11
    go_wp2
    go_ret
    exact ⟨by first | rfl | (simp; done) | (simp [*]; done), by repeat (first | exact Drawn0.refl _ | apply Drawn0.step)⟩
  · rw [if_neg c3] at H
    have c3b0 : ((a0.size : Int) == 32) = false := beq_eq_false_iff_ne.mpr c3
    have c3b1 : ((a0.size : Int) != 32) = true := bne_iff_ne.mpr c3
    obtain rfl := Option.some.inj H
    go_enter Try.func11, Try.ntmps11
    go_wp2
    go_ret
    exact ⟨by first | rfl | (simp; done) | (simp [*]; done), by repeat (first | exact Drawn0.refl _ | apply Drawn0.step)⟩

end Go.Proofs.Ytioafoilinhmjaa.Q
