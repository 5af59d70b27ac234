/- The reference's turn to the left, by 16, 12, 8 or 7 bits, is that of math/bits.
   Conditions: the number of bits is one of these four. -/
import Derived.Test.YtioafoilinhmjaaHQuarter
import Derived.Lib.Hide
namespace Go.Proofs.Ytioafoilinhmjaa.Q
open Go.RowKit Go.Proofs.YtioafoilinhmjaaW.PrintWords Go.Proofs.YtioafoilinhmjaaW.PrintLast Go.Proofs.YtioafoilinhmjaaW.PrintMore
set_option linter.unusedVariables false
set_option linter.unusedSimpArgs false

def demurralref05_rol.f (a0 a1 : Int) : Option Int := if a1 = 16 ∨ a1 = 12 ∨ a1 = 8 ∨ a1 = 7 then some (rolB a0 a1) else none
theorem rolB_val (x n : Int) (h : n = 16 ∨ n = 12 ∨ n = 8 ∨ n = 7) : rolB x n = bits .or .u32 (IntKind.u32.wrap (x * 2 ^ n.toNat)) (x / 2 ^ (32 - n).toNat) := by
  rcases h with rfl | rfl | rfl | rfl <;> rfl
theorem demurralref05_rol.calls (a0 : Int) (a1 : Int) (r : Int) (w : World) (h : demurralref05_rol.f a0 a1 = some r) :
    Calls Try.prog 20 #[.int .u32 a0, .int .u32 a1] w fun e w' => e = .returned (.int .u32 r) ∧ Drawn0 w w' := by
  unfold demurralref05_rol.f at h
  split at h
  case isFalse => cases h
  case isTrue hc =>
    obtain rfl := Option.some.inj h
    clear h
    have hv := Lib.hid (rolB_val a0 a1 hc)
    rcases hc with rfl | rfl | rfl | rfl
    all_goals
      go_enter Try.func20, Try.ntmps20
      go_wp2
      go_ret
      refine ⟨?_, by repeat (first | exact Drawn0.refl _ | apply Drawn0.step)⟩
      rw [hv.out]
      simp [IntKind.wrap_u32]
theorem rol_eq (x n : Int) (h : n = 16 ∨ n = 12 ∨ n = 8 ∨ n = 7) : demurralref05_rol.f x n = some (rolB x n) := if_pos h
end Go.Proofs.Ytioafoilinhmjaa.Q
