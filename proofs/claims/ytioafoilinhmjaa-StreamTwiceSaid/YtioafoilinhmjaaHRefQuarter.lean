/- The reference's Quarter answers what stream.Quarter answers.
   Conditions: none but the types. -/
import Derived.Test.YtioafoilinhmjaaHRol
import Derived.Test.YtioafoilinhmjaaHArr
namespace Go.Proofs.Ytioafoilinhmjaa.Q
open Go.RowKit Go.Proofs.YtioafoilinhmjaaW.PrintWords Go.Proofs.YtioafoilinhmjaaW.PrintLast Go.Proofs.YtioafoilinhmjaaW.PrintMore
set_option linter.unusedVariables false
set_option linter.unusedSimpArgs false

def demurralref05_Quarter.f (a b c d : Int) : Option (Int × Int × Int × Int) := some (quarterI a b c d)
/-- The mixing's memory: the four words in the first block made since w, the answer's in the second. -/
def St (w w' : World) (a b c d : Int) : Prop := ArrI .u32 30 4 w' w.heap.size [a, b, c, d] ∧ ArrI .u32 30 4 w' (w.heap.size + 1) [0, 0, 0, 0] ∧ Below w.heap.size w w'
namespace St
variable {w w' w'' : World} {a b c d : Int}
theorem cells (h : St w w' a b c d) : w'.cell? ⟨w.heap.size, 0, none⟩ = some (.int .u32 a) ∧ w'.cell? ⟨w.heap.size, 1, none⟩ = some (.int .u32 b) ∧ w'.cell? ⟨w.heap.size, 2, none⟩ = some (.int .u32 c) ∧ w'.cell? ⟨w.heap.size, 3, none⟩ = some (.int .u32 d) ∧
    w'.frozen? ⟨w.heap.size, 0, none⟩ = false ∧ w'.frozen? ⟨w.heap.size, 1, none⟩ = false ∧ w'.frozen? ⟨w.heap.size, 2, none⟩ = false ∧ w'.frozen? ⟨w.heap.size, 3, none⟩ = false :=
  ⟨h.1.cell 0 (by omega) (by omega), h.1.cell 1 (by omega) (by omega), h.1.cell 2 (by omega) (by omega), h.1.cell 3 (by omega) (by omega), h.1.free 0, h.1.free 1, h.1.free 2, h.1.free 3⟩
theorem put (h : St w w' a b c d) (i : Nat) (v a' b' c' d' : Int) (e : [a, b, c, d].set i v = [a', b', c', d']) : St w (w'.setCell ⟨w.heap.size, i, none⟩ (.int .u32 v)) a' b' c' d' :=
  ⟨e ▸ h.1.set_ i v, h.2.1.grown (grown_set w' w.heap.size i (.int .u32 v)) (by simp), pw_below_grown h.2.2 _ h.2.2.size (grown_set w' w.heap.size i (.int .u32 v)) (by simp)⟩
theorem put0 (h : St w w' a b c d) (v : Int) : St w (w'.setCell ⟨w.heap.size, 0, none⟩ (.int .u32 v)) v b c d := h.put 0 v _ _ _ _ rfl
theorem put1 (h : St w w' a b c d) (v : Int) : St w (w'.setCell ⟨w.heap.size, 1, none⟩ (.int .u32 v)) a v c d := h.put 1 v _ _ _ _ rfl
theorem put2 (h : St w w' a b c d) (v : Int) : St w (w'.setCell ⟨w.heap.size, 2, none⟩ (.int .u32 v)) a b v d := h.put 2 v _ _ _ _ rfl
theorem put3 (h : St w w' a b c d) (v : Int) : St w (w'.setCell ⟨w.heap.size, 3, none⟩ (.int .u32 v)) a b c v := h.put 3 v _ _ _ _ rfl
theorem drawn (h : St w w' a b c d) (hd : Drawn0 w' w'') : St w w'' a b c d := ⟨h.1.below hd.below, h.2.1.below hd.below, below_step h.2.2 hd.below⟩
end St
set_option maxHeartbeats 400000 in
theorem demurralref05_Quarter.calls (a0_0 : Int) (a0_1 : Int) (a0_2 : Int) (a0_3 : Int) (r1 : Int) (r2 : Int) (r3 : Int) (r4 : Int) (w : World) (h : demurralref05_Quarter.f a0_0 a0_1 a0_2 a0_3 = some (r1, r2, r3, r4)) :
    Calls Try.prog 9 #[.agg #[.int .u32 a0_0, .int .u32 a0_1, .int .u32 a0_2, .int .u32 a0_3]] w fun e w' => e = .returned (.agg #[.int .u32 r1, .int .u32 r2, .int .u32 r3, .int .u32 r4]) ∧ Below w.heap.size w w' := by
  have hq : quarterI a0_0 a0_1 a0_2 a0_3 = (r1, r2, r3, r4) := Option.some.inj h
  clear h
  simp only [quarterI, Prod.mk.injEq] at hq
  obtain ⟨rfl, rfl, rfl, rfl⟩ := hq
  go_enter Try.func9, Try.ntmps9
  go_wp2_with fail
  have hA0 : ArrI .u32 30 4 ((w.alloc (.cells #[.int .u32 (qA a0_0 a0_1), .int .u32 a0_1, .int .u32 a0_2, .int .u32 a0_3] 30)).alloc (.cells #[.int .u32 0, .int .u32 0, .int .u32 0, .int .u32 0] 30)) w.heap.size [qA a0_0 a0_1, a0_1, a0_2, a0_3] := ⟨rfl, heap_alloc2_old w _ _⟩
  have hR0 : ArrI .u32 30 4 ((w.alloc (.cells #[.int .u32 (qA a0_0 a0_1), .int .u32 a0_1, .int .u32 a0_2, .int .u32 a0_3] 30)).alloc (.cells #[.int .u32 0, .int .u32 0, .int .u32 0, .int .u32 0] 30)) (w.heap.size + 1) [0, 0, 0, 0] := ⟨rfl, heap_alloc2_new w _ _⟩
  have hB0 : Below w.heap.size w ((w.alloc (.cells #[.int .u32 (qA a0_0 a0_1), .int .u32 a0_1, .int .u32 a0_2, .int .u32 a0_3] 30)).alloc (.cells #[.int .u32 0, .int .u32 0, .int .u32 0, .int .u32 0] 30)) := below_alloc (below_alloc (Below.refl _ _) _) _
  refine (demurralref05_rol.calls _ _ _ _ (rol_eq _ _ (by omega))).mono ?_
  rintro e w1 ⟨rfl, hd⟩
  have S1 : St w w1 (qA a0_0 a0_1) a0_1 a0_2 a0_3 := ⟨hA0.below hd.below, hR0.below hd.below, below_step hB0 hd.below⟩
  clear hA0 hR0 hB0 hd
  obtain ⟨c0, c1, c2, c3, f0, f1, f2, f3⟩ := S1.cells
  go_wp2_with fail
  refine (demurralref05_rol.calls _ _ _ _ (rol_eq _ _ (by omega))).mono ?_
  rintro e w2 ⟨rfl, hd⟩
  have S2 := ((S1.put3 _).put2 _).drawn hd
  clear S1 hd c0 c1 c2 c3 f0 f1 f2 f3
  obtain ⟨c0, c1, c2, c3, f0, f1, f2, f3⟩ := S2.cells
  go_wp2_with fail
  refine (demurralref05_rol.calls _ _ _ _ (rol_eq _ _ (by omega))).mono ?_
  rintro e w3 ⟨rfl, hd⟩
  have S3 := ((S2.put1 _).put0 _).drawn hd
  clear S2 hd c0 c1 c2 c3 f0 f1 f2 f3
  obtain ⟨c0, c1, c2, c3, f0, f1, f2, f3⟩ := S3.cells
  go_wp2_with fail
  refine (demurralref05_rol.calls _ _ _ _ (rol_eq _ _ (by omega))).mono ?_
  rintro e w4 ⟨rfl, hd⟩
  have S4 := ((S3.put3 _).put2 _).drawn hd
  clear S3 hd c0 c1 c2 c3 f0 f1 f2 f3
  obtain ⟨c0, c1, c2, c3, f0, f1, f2, f3⟩ := S4.cells
  have q0 := S4.2.1.cell 0 (by omega) (by omega)
  have q1 := S4.2.1.cell 1 (by omega) (by omega)
  have q2 := S4.2.1.cell 2 (by omega) (by omega)
  have q3 := S4.2.1.cell 3 (by omega) (by omega)
  have g0 := S4.2.1.free 0
  have g1 := S4.2.1.free 1
  have g2 := S4.2.1.free 2
  have g3 := S4.2.1.free 3
  simp only [Int.reduceToNat] at q0 q1 q2 q3
  go_wp2
  clear c0 c1 c2 c3 f0 f1 f2 f3 q0 q1 q2 q3 g0 g1 g2 g3
  refine bodyPost_ret (results_cell_row rfl _ _ (w.heap.size + 1) 30 _ (0, 0) _ rfl ((((((S4.put1 _).2.1.set_ 0 _).set_ 1 _).set_ 2 _).set_ 3 _).2) Try.underlying30 rfl (by kernel_rfl)) rfl ⟨?_, ?_⟩
  · simp [nums, qA, qB, qC, qD]
  · repeat (refine below_set ?_ (by omega))
    exact S4.2.2
end Go.Proofs.Ytioafoilinhmjaa.Q
