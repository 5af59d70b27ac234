/- prekeys.shelf: whether a shelf may be.
   Conditions: the shelf is read as such, and its points' numbers are of 64 bits. -/
import Derived.Test.YtkomcddnfjbifaaHApart
namespace Go.Proofs.Ytkomcddnfjbifaa.Q
open Go.RowKit Go.Proofs.YtkomcddnfjbifaaW.PrintWords Go.Proofs.YtkomcddnfjbifaaW.PrintLast Go.Proofs.YtkomcddnfjbifaaW.PrintMore
set_option linter.unusedVariables false
set_option linter.unusedSimpArgs false

/-- A shelf as a value. -/
abbrev sv (x : S29) (A : Option Addr) (c : Nat) : Value := .agg #[.int .u64 x.f0, .string x.f1, .int .u64 x.f2.f0, .string x.f2.f1, .slice A x.f3.length c]
def shelfB (x : S29) : Bool := (x.f1.size == 32) && ((x.f2.f1.size == 32) && (decide (x.f3.length ≤ 20) && apartB x.f3))
set_option maxHeartbeats 2000000 in
set_option maxRecDepth 100000 in
theorem shelf_calls (x : S29) (A : Option Addr) (c : Nat) (w : World) (hC : Kd.C k26 w A x.f3.length x.f3) (hc : x.f3.length ≤ c) (hwf : ∀ p ∈ x.f3, (Lit.int .u64 p.f0).wf = true) :
    Calls Try.prog 33 #[sv x A c] w fun e w' => e = .returned (.bool (shelfB x)) ∧ Below w.heap.size w w' := by
  unfold shelfB
  obtain ⟨w1, hw1⟩ : ∃ w1, w.alloc (.cells #[.int .u64 x.f0, .string x.f1, .int .u64 x.f2.f0, .string x.f2.f1, .slice A x.f3.length c] 29 (0, 0)) = w1 := ⟨_, rfl⟩
  have hb1 : Below w.heap.size w w1 := by rw [← hw1]; exact below_alloc (Below.refl _ _) _
  have hK : w1.heap[w.heap.size]? = some (.cells #[.int .u64 x.f0, .string x.f1, .int .u64 x.f2.f0, .string x.f2.f1, .slice A x.f3.length c] 29 (0, 0)) := by rw [← hw1]; exact heap_alloc_new _ _
  have z1 : w1.cell? ⟨w.heap.size, 1, none⟩ = some (.string x.f1) := (blk_cell hK 1).trans rfl
  have z3 : w1.cell? ⟨w.heap.size, 3, none⟩ = some (.string x.f2.f1) := (blk_cell hK 3).trans rfl
  have z4 : w1.cell? ⟨w.heap.size, 4, none⟩ = some (.slice A x.f3.length c) := (blk_cell hK 4).trans rfl
  clear hK
  by_cases h1 : x.f1.size = 32
  · have e1 : (x.f1.size == 32) = true := by rw [h1]; rfl
    have e1b : ((x.f1.size : Int) == 32) = true := by rw [h1]; rfl
    by_cases h2 : x.f2.f1.size = 32
    · have e2 : (x.f2.f1.size == 32) = true := by rw [h2]; rfl
      have e2b : ((x.f2.f1.size : Int) == 32) = true := by rw [h2]; rfl
      by_cases h3 : x.f3.length ≤ 20
      · have e3 : decide (x.f3.length ≤ 20) = true := decide_eq_true h3
        have e3b : decide ((x.f3.length : Int) ≤ 20) = true := decide_eq_true (by omega)
        have hap := Aside0.mk (apart_calls A c x.f3 w1 (Kd.C_below hC hb1) hc (by omega) hwf)
        rw [e1, e2, e3]
        go_enter Try.func33, Try.ntmps33
        go_wp2_with fail
        refine hap.out.mono ?_; rintro e_ w2 ⟨rfl, hb⟩
        go_wp2
        go_ret
        exact ⟨rfl, below_step hb1 hb⟩
      · have e3 : decide (x.f3.length ≤ 20) = false := decide_eq_false h3
        have e3b : decide ((x.f3.length : Int) ≤ 20) = false := decide_eq_false (by omega)
        rw [e1, e2, e3]
        go_enter Try.func33, Try.ntmps33
        go_wp2
        go_ret
        exact ⟨rfl, hb1⟩
    · have e2 : (x.f2.f1.size == 32) = false := beq_eq_false_iff_ne.2 h2
      have e2b : ((x.f2.f1.size : Int) == 32) = false := beq_eq_false_iff_ne.2 (by omega)
      rw [e1, e2]
      go_enter Try.func33, Try.ntmps33
      go_wp2
      go_ret
      exact ⟨rfl, hb1⟩
  · have e1 : (x.f1.size == 32) = false := beq_eq_false_iff_ne.2 h1
    have e1b : ((x.f1.size : Int) == 32) = false := beq_eq_false_iff_ne.2 (by omega)
    rw [e1]
    go_enter Try.func33, Try.ntmps33
    go_wp2
    go_ret
    exact ⟨rfl, hb1⟩
end Go.Proofs.Ytkomcddnfjbifaa.Q
