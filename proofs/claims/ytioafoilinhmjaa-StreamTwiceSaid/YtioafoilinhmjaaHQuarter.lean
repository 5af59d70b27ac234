/- stream.Quarter answers the four words that the document's mixing gives.
   Conditions: none but that the four arguments are of type uint32. -/
import Derived.Test.YtioafoilinhmjaaQx117
import Derived.Handy
namespace Go.Proofs.Ytioafoilinhmjaa.Q
open Go.RowKit Go.Proofs.YtioafoilinhmjaaW.PrintWords Go.Proofs.YtioafoilinhmjaaW.PrintLast Go.Proofs.YtioafoilinhmjaaW.PrintMore
set_option linter.unusedVariables false
set_option linter.unusedSimpArgs false

/-- x turned left by n bits, as math/bits does it. -/
def rolB (x n : Int) : Int := (bits_RotateLeft32.f x n).getD 0
theorem wrap_small (n : Int) (h0 : 0 ≤ n) (h1 : n ≤ 64) : IntKind.u64.wrap n = n := by
  simp only [IntKind.wrap_u64]; omega
theorem rolB_some (x n : Int) (h : n = 16 ∨ n = 12 ∨ n = 8 ∨ n = 7) : bits_RotateLeft32.f x n = some (rolB x n) := by
  unfold rolB bits_RotateLeft32.f
  rcases h with rfl | rfl | rfl | rfl
  all_goals
    rw [if_pos (by decide), if_pos (by decide)]; rfl

/-- Half of the mixing: n and m are the turns. -/
def qA (a b : Int) : Int := (a + b) % 4294967296
def qD (a b d n : Int) : Int := rolB (Go.bits .xor .u32 d (qA a b)) n
def qC (a b c d n : Int) : Int := (c + qD a b d n) % 4294967296
def qB (a b c d n m : Int) : Int := rolB (Go.bits .xor .u32 b (qC a b c d n)) m
def quarterI (a b c d : Int) : Int × Int × Int × Int :=
  let a1 := qA a b
  let b1 := qB a b c d 16 12
  let c1 := qC a b c d 16
  let d1 := qD a b d 16
  (qA a1 b1, qB a1 b1 c1 d1 8 7, qC a1 b1 c1 d1 8, qD a1 b1 d1 8)
def stream_Quarter.f (a b c d : Int) : Option (Int × Int × Int × Int) := some (quarterI a b c d)

theorem stream_Quarter.calls (a b c d : Int) (r1 r2 r3 r4 : Int) (w : World) (h : stream_Quarter.f a b c d = some (r1, r2, r3, r4)) :
    Calls Try.prog 7 #[.int .u32 a, .int .u32 b, .int .u32 c, .int .u32 d] w fun e w' => e = .returned (.tuple #[.int .u32 r1, .int .u32 r2, .int .u32 r3, .int .u32 r4]) ∧ Below w.heap.size w w' := by
  have hq : quarterI a b c d = (r1, r2, r3, r4) := Option.some.inj h
  clear h
  simp only [quarterI, Prod.mk.injEq] at hq
  obtain ⟨rfl, rfl, rfl, rfl⟩ := hq
  have i0 : ∀ w, (Instr.index 43 (.agg #[.int .i64 16, .int .i64 12, .int .i64 8, .int .i64 7]) (.int .i64 0)).run Try.prog w = .ok (.agg #[.int .i64 16, .int .i64 12]) w := fun _ => by kernel_rfl
  have i1 : ∀ w, (Instr.index 43 (.agg #[.int .i64 16, .int .i64 12, .int .i64 8, .int .i64 7]) (.int .i64 1)).run Try.prog w = .ok (.agg #[.int .i64 8, .int .i64 7]) w := fun _ => by kernel_rfl
  go_enter Try.func7, Try.ntmps7
  go_wp2
  refine wp_loop_rounds 3 ?_
  rw [rounds_succ]
  go_wp2_with (go_at_call 17; refine (bits_RotateLeft32.calls _ _ _ _ (rolB_some _ _ (by omega))).mono ?_; rintro e w' ⟨rfl, ⟨⟨n, rfl⟩⟩⟩)
  rw [rounds_succ]
  go_wp2_with (go_at_call 17; refine (bits_RotateLeft32.calls _ _ _ _ (rolB_some _ _ (by omega))).mono ?_; rintro e w' ⟨rfl, ⟨⟨n, rfl⟩⟩⟩)
  rw [rounds_succ]
  go_wp2
  refine bodyPost_ret (by simp [results, Try.results7, go_sem, qA, qB, qC, qD]) rfl ⟨rfl, ?_⟩
  repeat (first | exact Below.refl _ _ | apply below_alloc | apply pw_below_drewN)
end Go.Proofs.Ytioafoilinhmjaa.Q
